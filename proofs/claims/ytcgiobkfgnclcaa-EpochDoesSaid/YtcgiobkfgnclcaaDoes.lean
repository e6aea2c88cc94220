/- EpochDoes' walk: the law returns true, whatever its acts. No condition. -/
import Derived.Test.YtcgiobkfgnclcaaRef
set_option linter.unusedVariables false
set_option linter.unusedSimpArgs false
namespace Go.Proofs.Ytcgiobkfgnclcaa
open Go
theorem slotK_take (s : List (Int × Int)) {m i : Nat} (h : i < m) : slotK (s.take m) i = slotK s i := by
  simp [slotK, List.getD_eq_getElem?_getD, List.getElem?_take_of_lt h]
theorem firstOf_congr {p q : Nat → Bool} {n : Nat} (h : ∀ i, i < n → p i = q i) : firstOf p n = firstOf q n := by
  rcases firstOf_cases q n with ⟨h1, h2⟩ | ⟨j, hj, h1, h2, h3⟩
  · rw [h1]; exact firstOf_none fun i hi => by rw [h i hi]; exact h2 i hi
  · rw [h1]; exact firstOf_some hj (by rw [h j hj]; exact h2) fun i hi => by rw [h i (by omega)]; exact h3 i hi
def toldR (r : List (Int × Int)) (x : ActR) : Int :=
  if x.k = 0 then refTake r else if x.k = 1 then (if stateK r r.length x.slot = 1 then 1 else 0) else if x.k = 2 then (if stateK r r.length x.slot = 2 then 1 else 0) else ripeK r r.length x.pins
def toldS (r : List (Int × Int)) (x : ActR) : List (Int × Int) :=
  if x.k = 0 then refTook r else if x.k = 1 then turnedK r r.length x.slot 1 (2, x.at') else if x.k = 2 then turnedK r r.length x.slot 2 (0, 0) else r
section
variable {s : List (Int × Int)} {m : Nat}
theorem take_len (hG : Good s m) (hm : m ≤ 8) : (s.take m).length = m := by rw [List.length_take, hG.len]; omega
theorem take_set (j : Nat) (y : Int × Int) : (s.set j y).take m = (s.take m).set j y := by rw [List.take_set]
theorem stateK_take (hG : Good s m) (hm : m ≤ 8) (i : Int) : stateK (s.take m) (s.take m).length i = stateK s m i := by
  rw [take_len hG hm]
  unfold stateK
  split
  · rename_i h; rw [slotK_take s (by omega)]
  · rfl
theorem refTake_take (hG : Good s m) (hm : m ≤ 8) : refTake (s.take m) = takeK s m := by
  rw [refTake, take_len hG hm]
  refine firstOf_congr fun i hi => ?_
  rw [slotK_take s hi, freeK]
  by_cases h : (slotK s i).1 = 0
  · rw [hG.st i h]; rfl
  · have h2 : ¬ slotK s i = (0, 0) := fun hh => h (by rw [hh])
    rw [beq_eq_false_iff_ne.2 h, beq_eq_false_iff_ne.2 h2]
theorem turned_take (hG : Good s m) (hm : m ≤ 8) (i st : Int) (y : Int × Int) : turnedK (s.take m) (s.take m).length i st y = (turnedK s m i st y).take m := by
  unfold turnedK
  rw [stateK_take hG hm]
  split
  · rw [take_set]
  · rfl
theorem told_R (hG : Good s m) (hm : m ≤ 8) (x : ActR) : toldR (s.take m) x = doR s m x := by
  unfold toldR doR
  rw [refTake_take hG hm, stateK_take hG hm]
  have : ripeK (s.take m) (s.take m).length x.pins = ripeK s m x.pins := by
    rw [take_len hG hm]
    exact firstOf_congr fun i hi => by rw [slotK_take s hi]
  rw [this]
theorem told_S (hG : Good s m) (hm : m ≤ 8) (x : ActR) : toldS (s.take m) x = (doS s m x).take m := by
  unfold toldS doS
  rw [turned_take hG hm, turned_take hG hm]
  have : refTook (s.take m) = (tookK s m).take m := by
    unfold refTook tookK
    rw [refTake_take hG hm]
    split
    · rfl
    · rw [take_set]
  rw [this]
  split
  · rfl
  · split
    · rfl
    · split <;> rfl
theorem Good.turned (hG : Good s m) {i st : Int} (hst : 0 ≤ st) {y : Int × Int} (hy : y.1 = 0 → y = (0, 0)) : Good (turnedK s m i st y) m := by
  unfold turnedK
  split
  · rename_i h
    obtain ⟨q0, q1, q2⟩ := stateK_pos h hst
    exact hG.set q1 y hy
  · exact hG
theorem Good.do (hG : Good s m) (x : ActR) : Good (doS s m x) m := by
  unfold doS
  split
  · unfold tookK
    split
    · exact hG
    · rename_i h
      rcases firstOf_cases (freeK s) m with ⟨h1, _⟩ | ⟨j, hj, h1, _⟩
      · exact absurd h1 h
      · rw [show takeK s m = j from h1]
        exact hG.set (by simpa using hj) _ (by simp)
  · split
    · exact hG.turned (by omega) (by simp)
    · split
      · exact hG.turned (by omega) (by simp)
      · exact hG
end
theorem told_ok {w : World} {v : Value} {r : List (Int × Int)} (h : RefAt w v r) (h8 : r.length ≤ 8) (x : ActR) (hp : IntsAt w x.pv x.pins) (hpl : x.pins.length ≤ 60) :
    Fn PR NoX 13 #[v, .agg (encA x).toArray] w
      (fun u w' => ∃ v', u = .tuple #[v', .int .i64 (toldR r x)] ∧ RefAt w' v' (toldS r x) ∧ But [] w w' ∧ ∀ g ∈ ownB v', g ∈ ownB v ∨ sz w ≤ g) := by
  refine mk_gangplanklaw15_told ?_
  have hbut : But [] w (w.alloc (.cells (encA x).toArray 32)) := (But.refl _ _).alloc _
  have h' := h.but hbut (by simp)
  have hp' := hp.ext hbut.extNil
  have hc : ∀ j, (w.alloc (.cells (encA x).toArray 32)).cell? ⟨sz w, j, none⟩ = (encA x)[j]? := fun j => by simp [cell_alloc]
  have c0 := hc 0
  have c1 := hc 1
  have c2 := hc 2
  have c3 := hc 3
  have hz : sz w ≤ sz (w.alloc (.cells (encA x).toArray 32)) := by simp
  simp only [sh_gangplanklaw15_told]
  rw [show lou PR NoX (Instr.box 32 (.agg (encA x).toArray)) = fun K w => K (.pointer (some ⟨sz w, 0, none⟩)) (w.alloc (.cells (encA x).toArray 32)) from by
    funext K w; simp (disch := first | omega | (simp [encA]; first | done | fail)) []]
  simp only []
  generalize w.alloc (.cells (encA x).toArray 32) = W at *
  simp [encA] at c0 c1 c2 c3
  simp [c0]
  by_cases h0 : x.k = 0
  · simp [h0]
    refine c_gangplankref15_Take ((RTake_ok h' h8).use ?_)
    rintro u w1 ⟨v', rfl, hR, hb, hfr⟩ _
    simp
    exact ⟨v', by simp [toldR, h0], by simp only [toldS, h0, if_true]; exact hR, hbut.trans hb, fun g hg => (hfr g hg).imp id fun h => by omega⟩
  by_cases h1 : x.k = 1
  · simp [h1, c1, c2]
    refine c_gangplankref15_Retire ((RRetire_ok h' h8 _ _).use ?_)
    rintro u w1 ⟨v', rfl, hR, hb, hfr⟩ _
    simp
    refine c_gangplanklaw15_number ((number_ok _ _).use ?_)
    rintro u w2 ⟨rfl, rfl⟩ _
    simp
    exact ⟨v', by simp [toldR, h1], by simp [toldS, h1]; exact hR, hbut.trans hb, fun g hg => (hfr g hg).imp id fun h => by omega⟩
  by_cases h2 : x.k = 2
  · simp [h2, c1, c2]
    refine c_gangplankref15_Free ((RFree_ok h' h8 _).use ?_)
    rintro u w1 ⟨v', rfl, hR, hb, hfr⟩ _
    simp
    refine c_gangplanklaw15_number ((number_ok _ _).use ?_)
    rintro u w2 ⟨rfl, rfl⟩ _
    simp
    exact ⟨v', by simp [toldR, h2], by simp [toldS, h2]; exact hR, hbut.trans hb, fun g hg => (hfr g hg).imp id fun h => by omega⟩
  simp [h0, h1, h2, c3]
  refine c_gangplankref15_Ripe ((RRipe_ok h' h8 hp' (by omega)).use ?_)
  rintro u w1 ⟨rfl, rfl⟩ _
  exact ⟨v, by simp [toldR, h0, h1, h2], by simp [toldS, h0, h1, h2]; exact h', hbut, fun g hg => Or.inl hg⟩
theorem RNew_ok (w : World) (n : Int) :
    Fn PR NoX 11 #[.int .i64 n] w (fun u w' => RefAt w' u (zeroK.take (clampK n)) ∧ But [] w w' ∧ ∀ g ∈ ownB u, sz w ≤ g) := by
  refine mk_gangplankref15_New ?_
  simp (disch := first | omega | (simp; first | done | fail)) [sh_gangplankref15_New]
  have h1 : (0 : Int) ≤ max 0 (min n 8) := by omega
  have h2 : max 0 (min n 8) ≤ 8 := by omega
  rw [l_make ty27 ty58 (k := 2) rfl (by omega) h1 (by omega) (by omega) (by omega)]
  have hcl : (max 0 (min n 8)).toNat = clampK n := rfl
  rw [hcl]
  have hm : clampK n ≤ 8 := by unfold clampK; omega
  generalize clampK n = m at *
  have hzc : Builtin.zeroCells (Value.agg #[.int .i64 0, .int .i64 0]).cells m = ((zeroK.take m).flatMap encS).toArray := by
    have : m = 0 ∨ m = 1 ∨ m = 2 ∨ m = 3 ∨ m = 4 ∨ m = 5 ∨ m = 6 ∨ m = 7 ∨ m = 8 := by omega
    rcases this with rfl | rfl | rfl | rfl | rfl | rfl | rfl | rfl | rfl <;>
      (apply Array.ext'; simp [Builtin.zeroCells, zeroK, encS, List.range, List.range.loop])
  rw [hzc]
  have hlen : (zeroK.take m).length = m := by simp [zeroK]; omega
  refine ⟨Or.inr ⟨sz w, 0, m, by rw [hlen], fun i hi => ?_⟩, (But.refl _ _).alloc _, by simp [ownB]⟩
  rw [cell_alloc]; simp

theorem Does_ok {n slot : Int} {w : World} {v : Value} {l : List ActR} (hA : ActsAt w v l) :
    Fn PR NoX 3 #[.int .i64 n, v, .int .i64 slot] w (fun v w' => v = .bool true ∧ But [] w w') := by
  refine mk_gangplanklaw15_EpochDoes ?_
  simp only [sh_gangplanklaw15_EpochDoes]
  refine c_gangplanklaw15_works ((works_ok w).use ?_)
  rintro u w1 ⟨rfl, hw0⟩ _
  replace hA := hA.ext hw0.extNil
  simp
  refine c_gangplanklaw15_few ((few_ok hA).use ?_)
  rintro u w1 ⟨rfl, rfl⟩ _
  by_cases hf : fewK l = true
  case neg => simp [hf]; exact hw0
  simp [hf]
  refine c_epoch_New ((New_ok w1 n).use ?_)
  rintro u w2 ⟨rfl, hk, hb⟩ _
  have hbk := hk.lt
  generalize hbb' : sz w1 = b at hk hbk ⊢
  have hbb : sz w1 ≤ b := by omega
  have hm8 := hk.le
  simp
  refine c_gangplankref15_New ((RNew_ok w2 n).use ?_)
  rintro u w3 ⟨hR, hb3, hfr⟩ _
  generalize clampK n = m at *
  have hG : Good zeroK m := ⟨rfl, fun i _ => slotK_zero i, fun i _ => slotK_zero i⟩
  have hk3 := hk.but hb3 (by simp)
  have hb13 := hb.trans hb3
  have hl60 := fewK_len hf
  simp
  refine lpI3 l.length (fun x _ i w' => ∃ s, KeeperAt w' b s m ∧ RefAt w' x (s.take m) ∧ (∀ g ∈ ownB x, g ≠ b) ∧ Good s m ∧ But [] w1 w') ⟨_, hk3, hR, fun g hg => by have := hfr g hg; omega, hG, hb13⟩ ?_
  clear hk hk3 hR hG hb hb13 hfr hb3
  rintro x y i w4 hi ⟨s, hk, hR, hxb, hG, hb⟩ L hL
  have hA4 := hA.ext hb.extNil
  by_cases hlt : i < l.length
  · obtain ⟨vb, vo, cap, rfl, hr⟩ := hA.pos hlt
    have hro := acts_row (hb.row hr (by simp)) hlt
    simp (disch := first | omega | (simp; first | done | fail)) [hlt, hro]
    refine c_gangplanklaw15_do ((do_ok hk l[i] (hA4.pins _ (List.getElem_mem hlt)) (fewK_pins hf hlt)).use ?_)
    rintro u w5 ⟨rfl, hk5, hb5⟩ _
    have hb15 := hb.past hb5 hbb
    have hR5 := hR.but hb5 (by simpa using hxb)
    have hro := acts_row (hb15.row hr (by simp)) hlt
    have hA5 := hA.ext hb15.extNil
    simp (disch := first | omega | (simp; first | done | fail)) [hlt, hro]
    have hl8 : (s.take m).length ≤ 8 := by rw [take_len hG hm8]; exact hm8
    refine c_gangplanklaw15_told ((told_ok hR5 hl8 l[i] (hA5.pins _ (List.getElem_mem hlt)) (fewK_pins hf hlt)).use ?_)
    rintro u w6 ⟨v', rfl, hR6, hb6, hfr⟩ _
    rw [told_R hG hm8, told_S hG hm8] at *
    have hk6 := hk5.but hb6 (by simp)
    have hb16 := hb15.trans hb6
    have hbk5 := hk5.lt
    have hv'b : ∀ g ∈ ownB v', g ≠ b := fun g hg => by
      rcases hfr g hg with h | h
      · exact hxb g h
      · omega
    simp
    refine c_epoch_Keeper_State ((State_ok hk6 slot).use ?_)
    rintro u w7 ⟨rfl, rfl⟩ _
    simp
    refine c_gangplankref15_State ((RState_ok hR6 slot).use ?_)
    rintro u w7 ⟨rfl, rfl⟩ _
    rw [stateK_take (hG.do _) hm8]
    simp (disch := first | omega | (simp; first | done | fail)) []
    exact hL hlt _ _ _ ⟨_, hk6, hR6, hv'b, hG.do _, hb16⟩
  have hie : i = l.length := by omega
  subst hie
  simp [hA4.len]
  exact hw0.trans hb
end Go.Proofs.Ytcgiobkfgnclcaa
