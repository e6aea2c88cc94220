/- EpochOne's walk: the law returns true, whatever its acts. No condition. -/
import Derived.Test.YtcgiobkfgnclcaaPins
import Derived.Test.YtcgiobkfgnclcaaAll
import Derived.Test.YtcgiobkfgnclcaaApp
set_option linter.unusedVariables false
set_option linter.unusedSimpArgs false
namespace Go.Proofs.Ytcgiobkfgnclcaa
open Go
def heldC (s : List (Int × Int)) : Array Value := (s.map fun p => Value.int .i64 p.1).toArray
structure Good (s : List (Int × Int)) (m : Nat) : Prop where
  len : s.length = 8
  st : ∀ i, (slotK s i).1 = 0 → slotK s i = (0, 0)
  out : ∀ i, m ≤ i → slotK s i = (0, 0)
theorem heldC_get {s : List (Int × Int)} (hl : s.length = 8) {j : Nat} (hj : j < 8) : (heldC s)[j]? = some (.int .i64 (slotK s j).1) := by
  have : j < s.length := by omega
  simp [heldC, slotK, List.getD_eq_getElem?_getD, this]
theorem heldC_size {s : List (Int × Int)} (hl : s.length = 8) : (heldC s).size = 8 := by simp [heldC, hl]
theorem heldC_set {s : List (Int × Int)} {j : Nat} {v a : Int} : spl (heldC s) j [.int .i64 v] = heldC (s.set j (v, a)) := by
  simp [heldC, List.map_set]
theorem Good.set {s : List (Int × Int)} {m : Nat} (h : Good s m) {j : Nat} (hj : j < m) (y : Int × Int) (hy : y.1 = 0 → y = (0, 0)) : Good (s.set j y) m := by
  refine ⟨by simp [h.len], fun i hi => ?_, fun i hi => ?_⟩
  · rw [slotK_set] at hi ⊢
    split
    · rename_i hh; rw [if_pos hh] at hi; exact hy hi
    · rename_i hh; rw [if_neg hh] at hi; exact h.st i hi
  · rw [slotK_set, if_neg (by omega)]; exact h.out i hi
theorem slotK_zero (i : Nat) : slotK zeroK i = (0, 0) := by
  have : zeroK = doneK 0 0 := by simp [zeroK, doneK]
  rw [this, slotK_done]; simp
theorem stateK_pos {s : List (Int × Int)} {n : Nat} {i st : Int} (h : stateK s n i = st) (hst : 0 ≤ st) : 0 ≤ i ∧ i.toNat < n ∧ (slotK s i.toNat).1 = st := by
  rw [stateK] at h
  split at h
  · rename_i hh; exact ⟨hh.1, by omega, h⟩
  · omega
theorem One_ok {n : Int} {w : World} {v : Value} {l : List ActR} (hA : ActsAt w v l) :
    Fn PR NoX 4 #[.int .i64 n, v] w (fun v w' => v = .bool true ∧ But [] w w') := by
  refine mk_gangplanklaw15_EpochOne ?_
  simp only [sh_gangplanklaw15_EpochOne]
  refine c_gangplanklaw15_works ((works_ok w).use ?_)
  rintro u w1 ⟨rfl, hw0⟩ _
  replace hA := hA.ext hw0.extNil
  simp
  refine c_gangplanklaw15_few ((few_ok hA).use ?_)
  rintro u w1 ⟨rfl, rfl⟩ _
  by_cases hf : fewK l = true
  case neg => simp [hf]; exact hw0
  simp [hf]
  refine c_epoch_New ((New_ok w1 n).use ?_)
  rintro u w2 ⟨rfl, hk, hb⟩ _
  have hbk := hk.lt
  generalize hbb' : sz w1 = b at hk hbk ⊢
  have hbb : sz w1 ≤ b := by omega
  have hm8 := hk.le
  generalize clampK n = m at *
  simp
  rw [l_make ty30 ty3 rfl (by omega) (by omega) (by omega) (by omega) (by omega)]
  have hz : Builtin.zeroCells (Value.int .i64 0).cells (Int.toNat 8) = heldC zeroK := by
    apply Array.ext'
    simp [Builtin.zeroCells, heldC, zeroK, List.range, List.range.loop]
  rw [hz]
  generalize hgg' : sz w2 = g
  have hgb : b < g := by omega
  have hg : bl (w2.alloc (.cells (heldC zeroK) 3)) g = some (.cells (heldC zeroK) 3 (0, 0)) := by rw [← hgg']; exact bl_alloc_new _ _
  have hG : Good zeroK m := ⟨rfl, fun i _ => slotK_zero i, fun i _ => slotK_zero i⟩
  have hk2 := hk.but ((But.refl [] w2).alloc (.cells (heldC zeroK) 3)) (by simp)
  have hb2 := hb.alloc (.cells (heldC zeroK) 3)
  generalize w2.alloc (.cells (heldC zeroK) 3) = w3 at *
  have hl60 := fewK_len hf
  rw [show Int.toNat 8 = 8 from rfl]
  simp
  refine lpI2 l.length (fun _ i w' => ∃ s, KeeperAt w' b s m ∧ bl w' g = some (.cells (heldC s) 3 (0, 0)) ∧ Good s m ∧ But [] w1 w') ⟨_, hk2, hg, hG, hb2⟩ ?_
  clear hk2 hg hG hb2 hz
  rintro x i w3 hi ⟨s, hk, hg, hG, hb⟩ L hL
  by_cases hlt : i < l.length
  · obtain ⟨vb, vo, cap, rfl, hr⟩ := hA.pos hlt
    have hA3 := hA.ext hb.extNil
    have hro := acts_row (hb.row hr (by simp)) hlt
    have hvb : vb < sz w1 := by
      obtain ⟨c, T, z, h1, _⟩ := cell_some ((acts_cell hr hlt (j := 0) (by omega)).trans rfl)
      exact bl_lt h1
    simp (disch := first | omega | (simp; first | done | fail)) [hlt, hro]
    refine c_gangplanklaw15_do ((do_ok hk l[i] (hA3.pins _ (List.getElem_mem hlt)) (fewK_pins hf hlt)).use ?_)
    rintro u w4 ⟨rfl, hk4, hb4⟩ _
    have hg4 := hb4.get hg (by simp; omega)
    have hb14 := hb.past hb4 hbb
    have hr4 := hb14.row hr (by simp)
    have c0 := acts_cell hr4 hlt (j := 0) (by omega)
    have c1 := acts_cell hr4 hlt (j := 1) (by omega)
    generalize l[i] = x at *
    simp [encA] at c0 c1
    have hne : ¬ vb = g := by omega
    have hglt := bl_lt hg4
    have hkp := fun o => hk4.but ((But.refl [g] w4).putb (r := g) o (by simp)) (by simp; omega)
    have hbp := fun o => hb14.putb (r := g) o (Or.inr (by omega))
    have hcl : ∀ j, j < 8 → w4.cell? ⟨g, j, none⟩ = some (.int .i64 (slotK s j).1) := fun j hj => by rw [cell_of hg4]; exact heldC_get hG.len hj
    have hhs := heldC_size hG.len
    have hlast : ∀ (s' : List (Int × Int)) (j : Nat) (v a : Int), s' = s.set j (v, a) → bl (World.putb w4 g (.cells (spl (heldC s) j [.int .i64 v]) 3)) g = some (.cells (heldC s') 3 (0, 0)) := fun s' j v a h => by
      rw [bl_putb_same hglt, heldC_set (a := a), h]
    by_cases h0 : x.k = 0
    · have hR : doR s m x = takeK s m := by simp [doR, h0]
      have hS : doS s m x = tookK s m := by simp [doS, h0]
      rw [hR]
      rw [hS] at hk4 hkp
      rcases firstOf_cases (freeK s) m with ⟨ht, hn⟩ | ⟨j, hjm, ht, hj, _⟩
      · have ht' : takeK s m = -1 := ht
        have hs' : tookK s m = s := by rw [tookK, if_pos ht']
        rw [hs'] at hk4
        simp (disch := first | omega | (simp; first | done | fail)) [hlt, c0, c1, h0, ht']
        exact hL hlt _ _ ⟨s, hk4, hg4, hG, hb14⟩
      · have ht' : takeK s m = j := ht
        have hs' : tookK s m = s.set j (1, 0) := by rw [tookK, if_neg (by omega), ht']; simp
        rw [hs'] at hk4 hkp
        have hj0 : slotK s j = (0, 0) := by simpa [freeK] using hj
        have hc := hcl j (by omega)
        rw [hj0] at hc
        have hj8 : ¬ (8 : Int) ≤ j := by omega
        have hl8 : j + 1 ≤ 8 := by omega
        simp (disch := first | omega | (simp; first | done | fail)) [hlt, c0, c1, h0, ht', hc, hj8, hg4, hhs, hl8, -spl_cons, cell_putb hglt, hne]
        exact hL hlt _ _ ⟨_, hkp _, hlast _ j 1 0 rfl, hG.set hjm _ (by simp), hbp _⟩
    by_cases h1 : x.k = 1
    · have hR : doR s m x = if stateK s m x.slot = 1 then 1 else 0 := by simp [doR, h1]
      have hS : doS s m x = turnedK s m x.slot 1 (2, x.at') := by simp [doS, h1]
      rw [hR]
      rw [hS] at hk4 hkp
      by_cases hst : stateK s m x.slot = 1
      · obtain ⟨q0, q1, q2⟩ := stateK_pos hst (by omega)
        rw [turnedK, if_pos hst] at hk4 hkp
        rw [if_pos hst]
        have hc := hcl x.slot.toNat (by omega)
        rw [q2] at hc
        have hj8 : ¬ (8 : Int) ≤ x.slot := by omega
        have hj9 : ¬ x.slot < 0 := by omega
        have hl8 : x.slot.toNat + 1 ≤ 8 := by omega
        simp (disch := first | omega | (simp; first | done | fail)) [hlt, c0, c1, h1, hc, hj8, hj9, hg4, hhs, hl8, -spl_cons, cell_putb hglt, hne]
        exact hL hlt _ _ ⟨_, hkp _, hlast _ x.slot.toNat 2 x.at' rfl, hG.set q1 _ (by simp), hbp _⟩
      · rw [turnedK, if_neg hst] at hk4
        rw [if_neg hst]
        simp (disch := first | omega | (simp; first | done | fail)) [hlt, c0, c1, h1]
        exact hL hlt _ _ ⟨s, hk4, hg4, hG, hb14⟩
    by_cases h2 : x.k = 2
    · have hR : doR s m x = if stateK s m x.slot = 2 then 1 else 0 := by simp [doR, h2]
      have hS : doS s m x = turnedK s m x.slot 2 (0, 0) := by simp [doS, h2]
      rw [hR]
      rw [hS] at hk4 hkp
      by_cases hst : stateK s m x.slot = 2
      · obtain ⟨q0, q1, q2⟩ := stateK_pos hst (by omega)
        rw [turnedK, if_pos hst] at hk4 hkp
        rw [if_pos hst]
        have hc := hcl x.slot.toNat (by omega)
        rw [q2] at hc
        have hj8 : ¬ (8 : Int) ≤ x.slot := by omega
        have hj9 : ¬ x.slot < 0 := by omega
        have hl8 : x.slot.toNat + 1 ≤ 8 := by omega
        simp (disch := first | omega | (simp; first | done | fail)) [hlt, c0, c1, h2, hc, hj8, hj9, hg4, hhs, hl8, -spl_cons, cell_putb hglt, hne]
        exact hL hlt _ _ ⟨_, hkp _, hlast _ x.slot.toNat 0 0 rfl, hG.set q1 _ (by simp), hbp _⟩
      · rw [turnedK, if_neg hst] at hk4
        rw [if_neg hst]
        simp (disch := first | omega | (simp; first | done | fail)) [hlt, c0, c1, h2]
        exact hL hlt _ _ ⟨s, hk4, hg4, hG, hb14⟩
    have hS : doS s m x = s := by simp [doS, h0, h1, h2]
    rw [hS] at hk4
    simp (disch := first | omega | (simp; first | done | fail)) [hlt, c0, c1, h0, h1, h2]
    exact hL hlt _ _ ⟨s, hk4, hg4, hG, hb14⟩
  have hie : i = l.length := by omega
  subst hie
  clear hL
  have hA3 := hA.ext hb.extNil
  simp [hA3.len]
  refine lpI2 8 (fun _ i w' => KeeperAt w' b s m ∧ bl w' g = some (.cells (heldC s) 3 (0, 0)) ∧ But [] w1 w') ⟨hk, hg, hb⟩ ?_
  clear hk hg hb hA3
  rintro x i w4 hi ⟨hk, hg, hb⟩ L hL
  by_cases hlt : i < 8
  · have hc : w4.cell? ⟨g, i, none⟩ = some (.int .i64 (slotK s i).1) := by rw [cell_of hg]; exact heldC_get hG.len hlt
    have hlt' : (i : Int) < 8 := by omega
    simp (disch := first | omega | (simp; first | done | fail)) [hlt', hc]
    refine c_epoch_Keeper_State ((State_ok hk.drew i).use ?_)
    rintro u w5 ⟨rfl, rfl⟩ _
    have hrd : (Instr.loadAt 3 (.pointer (some ⟨g, i, none⟩))).run PR w4.drew = .ok (.int .i64 (slotK s i).1) w4.drew := i_run_ld_3 hc
    by_cases him : i < m
    · have hs : stateK s m (i : Int) = (slotK s i).1 := stateK_in him
      simp (disch := first | omega | (simp; first | done | fail)) [hrd, hs]
      exact hL hlt _ _ ⟨hk.drew, hg, hb.drew⟩
    · have hs : stateK s m (i : Int) = -1 := if_neg (by omega)
      have ho : (slotK s i).1 = 0 := by rw [hG.out i (by omega)]
      rw [ho] at hc hrd
      simp (disch := first | omega | (simp; first | done | fail)) [hrd, hs, ho]
      refine c_epoch_Keeper_State ((State_ok hk.drew i).use ?_)
      rintro u w5 ⟨rfl, rfl⟩ _
      simp (disch := first | omega | (simp; first | done | fail)) [hs, hc]
      exact hL hlt _ _ ⟨hk.drew, hg, hb.drew⟩
  · have hlt' : ¬ (i : Int) < 8 := by omega
    simp [hlt']
    exact hw0.trans hb
end Go.Proofs.Ytcgiobkfgnclcaa
