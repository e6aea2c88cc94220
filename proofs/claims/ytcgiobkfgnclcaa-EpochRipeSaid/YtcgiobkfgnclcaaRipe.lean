/- EpochRipe's walk: the law returns true, whatever its acts and pins. No condition. -/
import Derived.Test.YtcgiobkfgnclcaaOne
set_option linter.unusedVariables false
set_option linter.unusedSimpArgs false
namespace Go.Proofs.Ytcgiobkfgnclcaa
open Go
theorem zeros8 : Builtin.zeroCells (Value.int .i64 0).cells (Int.toNat 8) = heldC zeroK := by
  apply Array.ext'
  simp [Builtin.zeroCells, heldC, zeroK, List.range, List.range.loop]
/-- at which epoch each slot was retired, as the law keeps it -/
def atC (a : List Int) : Array Value := (a.map fun p => Value.int .i64 p).toArray
theorem atC_get {a : List Int} (hl : a.length = 8) {j : Nat} (hj : j < 8) : (atC a)[j]? = some (.int .i64 (intAt a j)) := by
  have : j < a.length := by omega
  simp [atC, intAt, List.getD_eq_getElem?_getD, this]
theorem atC_size {a : List Int} (hl : a.length = 8) : (atC a).size = 8 := by simp [atC, hl]
theorem atC_set {a : List Int} {j : Nat} {v : Int} : spl (atC a) j [.int .i64 v] = atC (a.set j v) := by
  simp [atC, List.map_set]
structure GoodA (s : List (Int × Int)) (a : List Int) : Prop where
  len : a.length = 8
  slen : s.length = 8
  at' : ∀ i, (slotK s i).1 = 2 → intAt a i = (slotK s i).2
theorem intAt_set (a : List Int) (i j : Nat) (y : Int) : intAt (a.set i y) j = if i = j ∧ i < a.length then y else intAt a j := by
  simp only [intAt, List.getD_eq_getElem?_getD, List.getElem?_set]
  by_cases h : i = j
  · subst h
    by_cases h2 : i < a.length
    · simp [h2]
    · simp [h2]
  · simp [h]
theorem GoodA.other {s : List (Int × Int)} {a : List Int} (h : GoodA s a) (j : Nat) (y : Int × Int) (hy : y.1 ≠ 2) : GoodA (s.set j y) a := by
  refine ⟨h.len, by simp [h.slen], fun i hi => ?_⟩
  rw [slotK_set] at hi ⊢
  split
  · rename_i hh; rw [if_pos hh] at hi; exact absurd hi hy
  · rename_i hh; rw [if_neg hh] at hi; exact h.at' i hi
theorem GoodA.retire {s : List (Int × Int)} {a : List Int} (h : GoodA s a) (j : Nat) (y : Int) : GoodA (s.set j (2, y)) (a.set j y) := by
  refine ⟨by simp [h.len], by simp [h.slen], fun i hi => ?_⟩
  rw [slotK_set, intAt_set]
  rw [slotK_set] at hi
  rw [h.len, h.slen] at *
  split
  · rfl
  · rename_i hh; rw [if_neg hh] at hi; exact h.at' i hi
/-- a pin more -/
theorem above_more {pins : List Int} {p a : Int} : aboveK (pins ++ [p]) a = (aboveK pins a && (p == 0 || decide (a < p))) := by simp [aboveK]
theorem above_zero {pins : List Int} {a : Int} : aboveK (0 :: pins) a = aboveK pins a := by simp [aboveK]
theorem ripe_zero {s : List (Int × Int)} {n : Nat} {pins : List Int} : ripeK s n (0 :: pins) = ripeK s n pins := by simp [ripeK, above_zero]
theorem ripe_more0 {s : List (Int × Int)} {n : Nat} {pins : List Int} : ripeK s n (pins ++ [0]) = ripeK s n pins := by simp [ripeK, above_more]
theorem ripe_more {s : List (Int × Int)} {n : Nat} {pins : List Int} {p : Int} (h : 0 ≤ ripeK s n (pins ++ [p])) : 0 ≤ ripeK s n pins ∧ ripeK s n pins ≤ ripeK s n (pins ++ [p]) := by
  simp only [ripeK] at h ⊢
  rcases firstOf_cases (fun i => (slotK s i).1 == 2 && aboveK (pins ++ [p]) (slotK s i).2) n with ⟨h1, h2⟩ | ⟨j, hj, h1, h2, h3⟩
  · rw [h1] at h; omega
  · rw [h1]
    simp only [above_more, Bool.and_eq_true] at h2
    rcases firstOf_cases (fun i => (slotK s i).1 == 2 && aboveK pins (slotK s i).2) n with ⟨g1, g2⟩ | ⟨k, hk, g1, g2, g3⟩
    · have := g2 j hj; simp [h2.1, h2.2.1] at this
    · rw [g1]
      refine ⟨by omega, ?_⟩
      by_cases hjk : j < k
      · have := g3 j hjk; simp [h2.1, h2.2.1] at this
      · omega
theorem ripe_cases (s : List (Int × Int)) (n : Nat) (pins : List Int) : (ripeK s n pins = -1) ∨ ∃ j : Nat, j < n ∧ ripeK s n pins = j ∧ (slotK s j).1 = 2 ∧ aboveK pins (slotK s j).2 = true := by
  rcases firstOf_cases (fun i => (slotK s i).1 == 2 && aboveK pins (slotK s i).2) n with ⟨h1, _⟩ | ⟨j, hj, h1, h2, _⟩
  · exact Or.inl h1
  · simp only [Bool.and_eq_true, beq_iff_eq] at h2
    exact Or.inr ⟨j, hj, h1, h2.1, h2.2⟩
theorem aboveK_at {pins : List Int} {a : Int} (h : aboveK pins a = true) {j : Nat} (hj : j < pins.length) : intAt pins j = 0 ∨ a < intAt pins j := by
  rw [aboveK, List.all_eq_true] at h
  have := h pins[j] (List.getElem_mem hj)
  simp only [intAt, List.getD_eq_getElem?_getD, List.getElem?_eq_getElem hj, Option.getD_some]
  simpa using this
theorem IntsAt.rd {w : World} {v : Value} {l : List Int} (h : IntsAt w v l) : Rd1 w v l.length (l.map (.int .i64 ·)) := by
  rcases h with ⟨rfl, a, cap, rfl⟩ | ⟨b, o, cap, rfl, hr⟩
  · exact Or.inl ⟨rfl, rfl, a, cap, rfl⟩
  · exact Or.inr ⟨b, o, cap, rfl, hr⟩
theorem Own.ints {w : World} {v : Value} {n : Nat} {l : List Int} (h : Own w 3 1 v n (l.map (.int .i64 ·))) : IntsAt w v l := by
  have hn : l.length = n := by have := h.1; simpa using this
  subst hn
  rcases h.rd with ⟨h0, _, a, c, rfl⟩ | ⟨b, o, c, rfl, hr⟩
  · exact Or.inl ⟨List.length_eq_zero_iff.1 h0, a, c, rfl⟩
  · exact Or.inr ⟨b, o, c, rfl, hr⟩

theorem Ripe15_ok {n more : Int} {w : World} {v p : Value} {l : List ActR} {pins : List Int} (hA : ActsAt w v l) (hP : IntsAt w p pins) :
    Fn PR NoX 5 #[.int .i64 n, v, p, .int .i64 more] w (fun v w' => v = .bool true ∧ But [] w w') := by
  refine mk_gangplanklaw15_EpochRipe ?_
  simp only [sh_gangplanklaw15_EpochRipe]
  refine c_gangplanklaw15_works ((works_ok w).use ?_)
  rintro u w1 ⟨rfl, hw0⟩ _
  replace hA := hA.ext hw0.extNil
  replace hP := hP.ext hw0.extNil
  simp
  refine c_gangplanklaw15_few ((few_ok hA).use ?_)
  rintro u w1 ⟨rfl, rfl⟩ _
  by_cases hf : fewK l = true
  case neg => simp [hf]; exact hw0
  by_cases hpl : (60 : Int) < (pins.length : Nat)
  · simp [hf, hP.len, hpl]; exact hw0
  simp [hf, hP.len, hpl]
  refine c_epoch_New ((New_ok w1 n).use ?_)
  rintro u w2 ⟨rfl, hk, hb⟩ _
  have hbk := hk.lt
  generalize hbb' : sz w1 = b at hk hbk ⊢
  have hbb : sz w1 ≤ b := by omega
  have hm8 := hk.le
  generalize clampK n = m at *
  simp
  rw [l_make ty30 ty3 rfl (by omega) (by omega) (by omega) (by omega) (by omega)]
  rw [zeros8]
  generalize hgg' : sz w2 = g
  have hgb : b < g := by omega
  have hz : heldC zeroK = atC (List.replicate 8 0) := rfl
  rw [hz]
  have hg : bl (w2.alloc (.cells (atC (List.replicate 8 0)) 3)) g = some (.cells (atC (List.replicate 8 0)) 3 (0, 0)) := by rw [← hgg']; exact bl_alloc_new _ _
  have hG : GoodA zeroK (List.replicate 8 0) := ⟨rfl, rfl, fun i hi => by rw [slotK_zero] at hi; cases hi⟩
  have hk2 := hk.but ((But.refl [] w2).alloc (.cells (atC (List.replicate 8 0)) 3)) (by simp)
  have hb2 := hb.alloc (.cells (atC (List.replicate 8 0)) 3)
  generalize w2.alloc (.cells (atC (List.replicate 8 0)) 3) = w3 at *
  have hl60 := fewK_len hf
  rw [show Int.toNat 8 = 8 from rfl]
  simp
  refine lpI l.length (fun i w' => ∃ s a, KeeperAt w' b s m ∧ bl w' g = some (.cells (atC a) 3 (0, 0)) ∧ GoodA s a ∧ But [] w1 w') ⟨_, _, hk2, hg, hG, hb2⟩ ?_
  clear hk2 hg hG hb2 hz
  rintro i w3 hi ⟨s, a, hk, hg, hG, hb⟩ L hL
  by_cases hlt : i < l.length
  · obtain ⟨vb, vo, cap, rfl, hr⟩ := hA.pos hlt
    have hA3 := hA.ext hb.extNil
    have hro := acts_row (hb.row hr (by simp)) hlt
    have hvb : vb < sz w1 := by
      obtain ⟨c, T, z, h1, _⟩ := cell_some ((acts_cell hr hlt (j := 0) (by omega)).trans rfl)
      exact bl_lt h1
    simp (disch := first | omega | (simp; first | done | fail)) [hlt, hro]
    refine c_gangplanklaw15_do ((do_ok hk l[i] (hA3.pins _ (List.getElem_mem hlt)) (fewK_pins hf hlt)).use ?_)
    rintro u w4 ⟨rfl, hk4, hb4⟩ _
    have hg4 := hb4.get hg (by simp; omega)
    have hb14 := hb.past hb4 hbb
    have hr4 := hb14.row hr (by simp)
    have c0 := acts_cell hr4 hlt (j := 0) (by omega)
    have c1 := acts_cell hr4 hlt (j := 1) (by omega)
    have c2 := acts_cell hr4 hlt (j := 2) (by omega)
    generalize l[i] = x at *
    simp [encA] at c0 c1 c2
    have hne : ¬ vb = g := by omega
    have hglt := bl_lt hg4
    have hkp := fun o => hk4.but ((But.refl [g] w4).drew.putb (r := g) o (by simp)) (by simp; omega)
    have hbp := fun o => hb14.drew.putb (r := g) o (Or.inr (by omega))
    have hhs := atC_size hG.len
    by_cases h1 : x.k = 1
    · have hR : doR s m x = if stateK s m x.slot = 1 then 1 else 0 := by simp [doR, h1]
      have hS : doS s m x = turnedK s m x.slot 1 (2, x.at') := by simp [doS, h1]
      rw [hR]
      rw [hS] at hk4 hkp
      by_cases hst : stateK s m x.slot = 1
      · obtain ⟨q0, q1, q2⟩ := stateK_pos hst (by omega)
        rw [turnedK, if_pos hst] at hk4 hkp
        rw [if_pos hst]
        have hj8 : x.slot < 8 := by omega
        have hl8 : x.slot.toNat + 1 ≤ 8 := by omega
        simp (disch := first | omega | (simp; first | done | fail)) [hlt, c0, c1, c2, h1, hj8, q0, hg4, hhs, hl8, -spl_cons]
        refine hL hlt _ ⟨_, _, hkp _, ?_, hG.retire x.slot.toNat x.at', hbp _⟩
        rw [← atC_set]
        exact bl_putb_same (by simpa using hglt)
      · rw [turnedK, if_neg hst] at hk4
        rw [if_neg hst]
        simp (disch := first | omega | (simp; first | done | fail)) [hlt, c0, c1, h1]
        exact hL hlt _ ⟨s, a, hk4, hg4, hG, hb14⟩
    have hG' : GoodA (doS s m x) a := by
      by_cases h0 : x.k = 0
      · have hS : doS s m x = tookK s m := by simp [doS, h0]
        rw [hS, tookK]; split
        · exact hG
        · exact hG.other _ _ (by simp)
      by_cases h2 : x.k = 2
      · have hS : doS s m x = turnedK s m x.slot 2 (0, 0) := by simp [doS, h2]
        rw [hS, turnedK]; split
        · exact hG.other _ _ (by simp)
        · exact hG
      have hS : doS s m x = s := by simp [doS, h0, h1, h2]
      rw [hS]; exact hG
    simp (disch := first | omega | (simp; first | done | fail)) [hlt, c0, c1, h1]
    exact hL hlt _ ⟨_, a, hk4, hg4, hG', hb14⟩
  have hie : i = l.length := by omega
  subst hie
  clear hL
  have hA3 := hA.ext hb.extNil
  have hP3 := hP.ext hb.extNil
  simp [hA3.len]
  refine c_epoch_Keeper_Ripe ((Ripe_ok hk hP3 (by omega)).use ?_)
  rintro u w4 ⟨rfl, hb4⟩ _
  have hk4 := hk.but hb4 (by simp)
  have hg4 := hb4.get hg (by simp)
  have hb := hb.trans hb4
  clear hk hg hb4 hP3 hA3
  have hrc := ripe_cases s m pins
  refine jn1_cut (fun _ w' => w' = w4) ?_ ?_
  · rintro x w4 rfl
    refine jn1_cut (fun _ w5 => KeeperAt w5 b s m ∧ But [] w1 w5) ?_ ?_
    · clear hk4 hg4 hb
      rintro x w5 ⟨hk, hb⟩
      have hP5 := hP.ext hb.extNil
      have hz5 : sz w1 ≤ sz w5 := hb.1
      rw [l_empty ty30 ty3]
      refine l_append ty30 ty3 rfl (by omega) Own.empty (IntsAt.rd (hP5.ext ((But.refl [] w5).alloc _).extNil)) (by simp) (by simp) (by simp [maxLen]; omega) (by omega) ?_
      intro v' w6 ho hb6 hfr
      have hb56 : But [] w5 w6 := ((But.refl [] w5).alloc _).step hb6 (by simp [ownB])
      have hfr' : ∀ q ∈ ownB v', sz w5 ≤ q := fun q hq => by
        rcases hfr q hq with h | h
        · simp [ownB] at h; omega
        · simp at h; omega
      simp (disch := first | omega | (simp; first | done | fail)) []
      refine l_append ty30 ty3 rfl (by omega) (ho.but ((But.refl [] w6).alloc _) (by simp)) (IntsAt.rd (IntsAt.made (l := [more]) rfl)) (by simp) (by simp) (by simp [maxLen]; omega) (by simp; omega) ?_
      intro v'' w7 ho2 hb7 _
      have hb57 : But [] w5 w7 := (hb56.alloc _).step hb7 hfr'
      have hI : IntsAt w7 v'' (pins ++ [more]) := by
        refine Own.ints (n := 0 + pins.length + [more].length) ?_
        simpa using ho2
      refine c_epoch_Keeper_Ripe ((Ripe_ok (hk.but hb57 (by simp)) hI (by simp; omega)).use ?_)
      rintro u w8 ⟨rfl, hb8⟩ _
      have hb58 := hb57.trans hb8
      have hmore := ripe_more (s := s) (n := m) (pins := pins) (p := more)
      have hm0 := ripe_more0 (s := s) (n := m) (pins := pins)
      generalize hr2 : ripeK s m (pins ++ [more]) = r2 at *
      generalize hr : ripeK s m pins = r at *
      have fin : ∀ w9, But [] w1 w9 → KeeperAt w9 b s m → True := fun _ _ _ => trivial
      have hchk : (if 0 ≤ r2 then (decide (r < 0) || decide (r2 < r)) else false) = false := by
        split
        · rename_i h; have := hmore h; simp; omega
        · rfl
      by_cases h0 : 0 ≤ r2
      · have h3 := hmore h0
        have h4 : ¬ r < 0 := by omega
        have h5 : ¬ r2 < r := by omega
        simp (disch := first | omega | (simp; first | done | fail)) [h0, h4, h5]
        have hP8 := hP.ext (hb.trans hb58).extNil
        refine l_append ty30 ty3 rfl (by omega) (Own.made (l := [.int .i64 0]) (n := 1) rfl rfl) (IntsAt.rd (hP8.ext ((But.refl [] w8).alloc _).extNil)) (by simp) (by simp) (by simp [maxLen]; omega) (by omega) ?_
        intro v3 w9 ho3 hb9 _
        have hb89 : But [] w8 w9 := ((But.refl [] w8).alloc _).step hb9 (by simp [ownB])
        refine c_epoch_Keeper_Ripe ((Ripe_ok (hk.but (hb58.trans hb89) (by simp)) (Own.ints (l := 0 :: pins) (n := 1 + pins.length) (by simpa using ho3)) (by simp; omega)).use ?_)
        rintro u w10 ⟨rfl, hb10⟩ _
        rw [ripe_zero, hr]
        have hfin : But [] w w10 := hw0.trans (((hb.trans hb58).trans hb89).trans hb10)
        by_cases heq : r2 = r
        · simp (disch := first | omega | (simp; first | done | fail)) [heq]
          exact hfin
        · have hmz : more ≠ 0 := by
            intro hz; rw [hz, hm0] at hr2; exact heq hr2.symm
          simp (disch := first | omega | (simp; first | done | fail)) [heq, hmz]
          exact hfin
      · simp (disch := first | omega | (simp; first | done | fail)) [h0]
        have hP8 := hP.ext (hb.trans hb58).extNil
        refine l_append ty30 ty3 rfl (by omega) (Own.made (l := [.int .i64 0]) (n := 1) rfl rfl) (IntsAt.rd (hP8.ext ((But.refl [] w8).alloc _).extNil)) (by simp) (by simp) (by simp [maxLen]; omega) (by omega) ?_
        intro v3 w9 ho3 hb9 _
        have hb89 : But [] w8 w9 := ((But.refl [] w8).alloc _).step hb9 (by simp [ownB])
        refine c_epoch_Keeper_Ripe ((Ripe_ok (hk.but (hb58.trans hb89) (by simp)) (Own.ints (l := 0 :: pins) (n := 1 + pins.length) (by simpa using ho3)) (by simp; omega)).use ?_)
        rintro u w10 ⟨rfl, hb10⟩ _
        rw [ripe_zero, hr]
        have hfin : But [] w w10 := hw0.trans (((hb.trans hb58).trans hb89).trans hb10)
        by_cases heq : r2 = r
        · simp (disch := first | omega | (simp; first | done | fail)) [heq]
          exact hfin
        · have hmz : more ≠ 0 := by
            intro hz; rw [hz, hm0] at hr2; exact heq hr2.symm
          simp (disch := first | omega | (simp; first | done | fail)) [heq, hmz]
          exact hfin
    · intro J2 hJ2
      have hP4 := hP.ext hb.extNil
      rcases hrc with hr | ⟨j, hjm, hr, hst, hab⟩
      · refine lpI2 pins.length (fun _ i w' => w' = w4) rfl ?_
        rintro x i w' hi rfl L hL
        by_cases hlt : i < pins.length
        · simp (disch := first | omega | (simp; first | done | fail)) [hP4.len, hr, hlt]
          exact hJ2 _ _ ⟨hk4, hb⟩
        · simp (disch := first | omega | (simp; first | done | fail)) [hP4.len, hr, hlt]
          exact hJ2 _ _ ⟨hk4, hb⟩
      · have hat := hG.at' j hst
        refine lpI2 pins.length (fun _ i w' => KeeperAt w' b s m ∧ bl w' g = some (.cells (atC a) 3 (0, 0)) ∧ But [] w1 w') ⟨hk4, hg4, hb⟩ ?_
        clear hP4 hk4 hg4 hb
        rintro x i w5 hi ⟨hk5, hg5, hb⟩ L hL
        have hP5 := hP.ext hb.extNil
        have hj0 : (0 : Int) ≤ (j : Int) := by omega
        by_cases hlt : i < pins.length
        · obtain ⟨pb, po, cap, rfl, hrow⟩ := hP5.pos hlt
          have hv := hrow.ints hlt
          have hc : w5.cell? ⟨g, j, none⟩ = some (.int .i64 (slotK s j).2) := by rw [cell_of hg5, atC_get hG.len (by omega), hat]
          by_cases hz : intAt pins i = 0
          · simp (disch := first | omega | (simp; first | done | fail)) [hr, hlt, hj0, hv, hz]
            exact hL hlt _ _ ⟨hk5.drew, hg5, hb.drew⟩
          · have hlt2 : ¬ intAt pins i ≤ (slotK s j).2 := by
              rcases aboveK_at hab hlt with h | h
              · exact absurd h hz
              · omega
            simp (disch := first | omega | (simp; first | done | fail)) [hr, hlt, hj0, hv, hz, hc, hlt2]
            exact hL hlt _ _ ⟨hk5.drew, hg5, hb.drew⟩
        · simp (disch := first | omega | (simp; first | done | fail)) [hP5.len, hr, hlt]
          exact hJ2 _ _ ⟨hk5, hb⟩
  · intro J6 hJ6
    rcases hrc with hr | ⟨j, hjm, hr, hst, hab⟩
    · simp (disch := first | omega | (simp; first | done | fail)) [hr]
      exact hJ6 _ _ rfl
    · have hj0 : (0 : Int) ≤ (j : Int) := by omega
      have hj1 : ¬ (8 : Int) ≤ (j : Int) := by omega
      have hj2 : ¬ (j : Int) < -1 := by omega
      simp (disch := first | omega | (simp; first | done | fail)) [hr, hj0, hj1, hj2]
      refine c_epoch_Keeper_State ((State_ok hk4 j).use ?_)
      rintro u w5 ⟨rfl, rfl⟩ _
      rw [stateK_in hjm, hst]
      simp (disch := first | omega | (simp; first | done | fail)) []
      exact hJ6 _ _ rfl
end Go.Proofs.Ytcgiobkfgnclcaa
