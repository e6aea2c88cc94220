/- The document's answer of layer 15: what its functions do, over a slice of slots. No condition but bounds on lengths. -/
import Derived.Test.YtcgiobkfgnclcaaOne
set_option linter.unusedVariables false
set_option linter.unusedSimpArgs false
namespace Go.Proofs.Ytcgiobkfgnclcaa
open Go
/-- the document's slots -/
def RefAt (w : World) (v : Value) (r : List (Int × Int)) : Prop :=
  (r = [] ∧ ∃ a cap, v = .slice a 0 cap) ∨ ∃ b o cap, v = .slice (some ⟨b, o, none⟩) r.length cap ∧ Row w b o (r.flatMap encS)
theorem RefAt.but {S : List Nat} {w w' : World} {v : Value} {r : List (Int × Int)} (h : RefAt w v r) (hb : But S w w') (hn : ∀ g ∈ ownB v, g ∉ S) : RefAt w' v r := by
  rcases h with h | ⟨b, o, cap, rfl, hr⟩
  · exact Or.inl h
  · exact Or.inr ⟨b, o, cap, rfl, hb.row hr (hn b (by simp [ownB]))⟩
theorem RefAt.len {w : World} {v : Value} {r : List (Int × Int)} (h : RefAt w v r) (K : Value → WP) : pur PR (builtinS .len #[27] 0 [v]) K = K (.int .i64 r.length) := by
  rcases h with ⟨rfl, a, cap, rfl⟩ | ⟨b, o, cap, rfl, hr⟩
  · simp
  · simp
theorem RefAt.pos {w : World} {v : Value} {r : List (Int × Int)} (h : RefAt w v r) {i : Nat} (hi : i < r.length) : ∃ b o cap, v = .slice (some ⟨b, o, none⟩) r.length cap ∧ Row w b o (r.flatMap encS) := by
  rcases h with ⟨rfl, _⟩ | h
  · simp at hi
  · exact h
theorem ref_cell {w : World} {b o : Nat} {r : List (Int × Int)} (h : Row w b o (r.flatMap encS)) {i : Nat} (hi : i < r.length) :
    w.cell? ⟨b, o + i * 2, none⟩ = some (.int .i64 (slotK r i).1) ∧ w.cell? ⟨b, o + i * 2 + 1, none⟩ = some (.int .i64 (slotK r i).2) := by
  have hl : (r.flatMap encS).length = r.length * 2 := flat_len encS_len r
  have h0 := h (i * 2 + 0) (by rw [hl]; omega)
  have h1 := h (i * 2 + 1) (by rw [hl]; omega)
  rw [flat_get encS_len _ _ _ (by omega), List.getElem?_eq_getElem hi] at h0 h1
  have hs : slotK r i = r[i] := by simp [slotK, List.getD_eq_getElem?_getD, hi]
  rw [hs]
  exact ⟨h0, by rw [Nat.add_assoc]; exact h1⟩
theorem RefAt.rd {w : World} {v : Value} {r : List (Int × Int)} (h : RefAt w v r) : Rd1 w v r.length (r.flatMap encS) := by
  rcases h with ⟨rfl, a, cap, rfl⟩ | ⟨b, o, cap, rfl, hr⟩
  · exact Or.inl ⟨rfl, rfl, a, cap, rfl⟩
  · exact Or.inr ⟨b, o, cap, rfl, hr⟩
theorem flat_plain (r : List (Int × Int)) : (r.flatMap encS).all plain = true := by
  rw [List.all_eq_true]
  intro x hx
  rw [List.mem_flatMap] at hx
  obtain ⟨y, _, hy⟩ := hx
  simp only [encS, List.mem_cons, List.not_mem_nil, or_false] at hy
  rcases hy with rfl | rfl <;> rfl

theorem RState_ok {w : World} {v : Value} {r : List (Int × Int)} (h : RefAt w v r) (i : Int) :
    Fn PR NoX 15 #[v, .int .i64 i] w (fun u w' => u = .int .i64 (stateK r r.length i) ∧ w' = w) := by
  refine mk_gangplankref15_State ?_
  by_cases h0 : i < 0
  · have : stateK r r.length i = -1 := if_neg (by omega)
    simp [sh_gangplankref15_State, h0, this]
  · by_cases h1 : (r.length : Int) ≤ i
    · have : stateK r r.length i = -1 := if_neg (by omega)
      simp [sh_gangplankref15_State, h0, h.len, h1, this]
    · obtain ⟨b, o, cap, rfl, hr⟩ := h.pos (i := i.toNat) (by omega)
      obtain ⟨hs, _⟩ := ref_cell hr (i := i.toNat) (by omega)
      have : stateK r r.length i = (slotK r i.toNat).1 := if_pos (by omega)
      simp (disch := first | omega | (simp; first | done | fail)) [sh_gangplankref15_State, h0, h1, hs, this]

theorem with_ok {w : World} {v : Value} {r : List (Int × Int)} (h : RefAt w v r) {i : Nat} (hi : i < r.length) (h8 : r.length ≤ 8) (y : Int × Int) :
    Fn PR NoX 27 #[v, .int .i64 (i : Int), .agg (encS y).toArray] w (fun u w' => RefAt w' u (r.set i y) ∧ But [] w w' ∧ ∀ g ∈ ownB u, sz w ≤ g) := by
  refine mk_gangplankref15_with ?_
  have hbox : ∀ K w, lou PR NoX (Instr.box 58 (.agg (encS y).toArray)) K w = K (.pointer (some ⟨sz w, 0, none⟩)) (w.alloc (.cells (encS y).toArray 58)) := by
    intro K w; simp (disch := first | omega | (simp [encS]; first | done | fail)) []
  simp only [sh_gangplankref15_with]
  rw [hbox]
  have hbx : rowN (w.alloc (.cells (encS y).toArray 58)) (sz w) 0 2 = some (encS y) := by simp [rowN_succ, cell_alloc, encS]
  have hb1 : But [] w (w.alloc (.cells (encS y).toArray 58)) := (But.refl _ _).alloc _
  have hs1 : sz (w.alloc (.cells (encS y).toArray 58)) = sz w + 1 := by simp
  generalize w.alloc (.cells (encS y).toArray 58) = w1 at *
  rw [l_empty ty27 ty58]
  have h2 := h.but (hb1.alloc (.cells #[] 58)) (by simp)
  refine l_append ty27 ty58 (k := 2) rfl (by omega) Own.empty h2.rd (flat_len encS_len r) (flat_plain r) (by simp [maxLen]; omega) (by omega) ?_
  intro u w2 ho hb2 hfr
  have hb12 : But [] w1 w2 := ((But.refl [] w1).alloc _).step hb2 (by simp [ownB])
  simp only [Nat.zero_add, List.nil_append] at ho
  rcases ho.2 with ⟨_, hz⟩ | ⟨g, cap, cur, rfl, hg, hc, hcs, htk⟩
  · omega
  have hgz : sz w1 ≤ g := by
    rcases hfr g (by simp [ownB]) with hh | hh
    · simp [ownB] at hh; omega
    · simp at hh; omega
  have hro : rowN w2 (sz w) 0 2 = some (encS y) := by
    obtain ⟨_, hr⟩ := rowN_len hbx
    exact rowN_of (hb12.row hr (by simp))
  have hsz : i * 2 + 2 ≤ cur.size := by
    rw [← hcs]
    have : (i + 1) * 2 ≤ cap * 2 := Nat.mul_le_mul_right 2 (by omega)
    omega
  have hcur : cur = (r.flatMap encS ++ cur.toList.drop (r.length * 2)).toArray := by rw [← htk, List.take_append_drop]
  have hspl := flat_set encS_len r i y hi (cur.toList.drop (r.length * 2))
  rw [← hcur] at hspl
  have hRow : Row (World.putb w2 g (.cells (spl cur (i * 2) (encS y)) 58 (0, 0))) g 0 ((r.set i y).flatMap encS) := by
    intro j hj
    rw [cell_of (bl_putb_same (bl_lt hg)), hspl, Nat.zero_add]
    simp only [List.getElem?_toArray, List.getElem?_append_left hj]
  have hbf : But [] w (World.putb w2 g (.cells (spl cur (i * 2) (encS y)) 58 (0, 0))) := ((hb1.trans hb12).putb _ (Or.inr (by omega)))
  simp (disch := first | omega | (simp; first | done | fail)) [hro, -i_st_58]
  have hcl : (Value.agg (encS y).toArray).cells.toList = encS y := by simp
  have hst : ∀ (K : WP), sto PR NoX (Instr.storeAt 58 (.pointer (some ⟨g, i * 2, none⟩)) (.agg (encS y).toArray)) K w2 = K (World.putb w2 g (.cells (spl cur (i * 2) (encS y)) 58 (0, 0))) := by
    intro K
    rw [i_st_58 (by simp [encS]), hg, stc_some, if_pos ⟨by simp [encS]; omega, by simp [encS]⟩]
    simp
  rw [hst]
  exact ⟨Or.inr ⟨g, 0, cap, by simp, hRow⟩, hbf, by simp [ownB]; omega⟩

def refTake (r : List (Int × Int)) : Int := firstOf (fun i => (slotK r i).1 == 0) r.length
def refTook (r : List (Int × Int)) : List (Int × Int) := if refTake r = -1 then r else r.set (refTake r).toNat (1, 0)
theorem RTake_ok {w : World} {v : Value} {r : List (Int × Int)} (h : RefAt w v r) (h8 : r.length ≤ 8) :
    Fn PR NoX 21 #[v] w (fun u w' => ∃ v', u = .tuple #[v', .int .i64 (refTake r)] ∧ RefAt w' v' (refTook r) ∧ But [] w w' ∧ ∀ g ∈ ownB v', g ∈ ownB v ∨ sz w ≤ g) := by
  refine mk_gangplankref15_Take ?_
  simp [sh_gangplankref15_Take]
  refine lpI3 r.length (fun _ _ i w' => w' = w ∧ ∀ j, j < i → ((slotK r j).1 == 0) = false) ⟨rfl, by intro j hj; omega⟩ ?_
  rintro x y i w' hi ⟨rfl, hf⟩ L hL
  by_cases hlt : i < r.length
  · obtain ⟨b, o, cap, rfl, hr⟩ := h.pos hlt
    obtain ⟨h0, h1⟩ := ref_cell hr hlt
    by_cases hz : (slotK r i).1 = 0
    · have ht : refTake r = (i : Nat) := firstOf_some hlt (by simp [hz]) hf
      simp (disch := first | omega | (simp; first | done | fail)) [hlt, h0, hz]
      refine c_gangplankref15_with ((with_ok h hlt h8 (1, 0)).use ?_)
      rintro u w2 ⟨hR, hb, hfr⟩ _
      refine ⟨u, by rw [ht], ?_, hb, fun g hg => Or.inr (hfr g hg)⟩
      rw [refTook, ht, if_neg (by omega)]; simpa using hR
    · simp (disch := first | omega | (simp; first | done | fail)) [hlt, h0, hz]
      refine hL hlt _ _ _ ⟨rfl, fun j hj => ?_⟩
      by_cases hji : j = i
      · subst hji; simpa using hz
      · exact hf j (by omega)
  · have ht : refTake r = -1 := firstOf_none (fun j hj => hf j (by omega))
    simp (disch := first | omega | (simp; first | done | fail)) [h.len, hlt]
    exact ⟨v, by rw [ht]; simp, by rw [refTook, if_pos ht]; exact h, But.refl _ _, fun g hg => Or.inl hg⟩
theorem RRetire_ok {w : World} {v : Value} {r : List (Int × Int)} (h : RefAt w v r) (h8 : r.length ≤ 8) (i a : Int) :
    Fn PR NoX 22 #[v, .int .i64 i, .int .i64 a] w
      (fun u w' => ∃ v', u = .tuple #[v', .bool (decide (stateK r r.length i = 1))] ∧ RefAt w' v' (turnedK r r.length i 1 (2, a)) ∧ But [] w w' ∧ ∀ g ∈ ownB v', g ∈ ownB v ∨ sz w ≤ g) := by
  refine mk_gangplankref15_Retire ?_
  simp only [sh_gangplankref15_Retire, jn_eq]
  refine c_gangplankref15_State ((RState_ok h i).use ?_)
  rintro u w1 ⟨rfl, rfl⟩ _
  by_cases hst : stateK r r.length i = 1
  · obtain ⟨q0, q1, q2⟩ := stateK_pos hst (by omega)
    obtain ⟨k, rfl⟩ : ∃ k : Nat, i = k := ⟨i.toNat, by omega⟩
    simp only [Int.toNat_natCast] at q1 q2
    simp (disch := first | omega | (simp; first | done | fail)) [hst]
    refine c_gangplankref15_with ((with_ok h q1 h8 (2, a)).use ?_)
    rintro u w2 ⟨hR, hb, hfr⟩ _
    refine ⟨u, by simp [hst], ?_, hb, fun g hg => Or.inr (hfr g hg)⟩
    rw [turnedK, if_pos hst]; simpa using hR
  · simp (disch := first | omega | (simp; first | done | fail)) [hst]
    exact ⟨by rw [turnedK, if_neg hst]; exact h, But.refl _ _, fun g hg => Or.inl hg⟩
theorem RFree_ok {w : World} {v : Value} {r : List (Int × Int)} (h : RefAt w v r) (h8 : r.length ≤ 8) (i : Int) :
    Fn PR NoX 23 #[v, .int .i64 i] w
      (fun u w' => ∃ v', u = .tuple #[v', .bool (decide (stateK r r.length i = 2))] ∧ RefAt w' v' (turnedK r r.length i 2 (0, 0)) ∧ But [] w w' ∧ ∀ g ∈ ownB v', g ∈ ownB v ∨ sz w ≤ g) := by
  refine mk_gangplankref15_Free ?_
  simp only [sh_gangplankref15_Free, jn_eq]
  refine c_gangplankref15_State ((RState_ok h i).use ?_)
  rintro u w1 ⟨rfl, rfl⟩ _
  by_cases hst : stateK r r.length i = 2
  · obtain ⟨q0, q1, q2⟩ := stateK_pos hst (by omega)
    obtain ⟨k, rfl⟩ : ∃ k : Nat, i = k := ⟨i.toNat, by omega⟩
    simp only [Int.toNat_natCast] at q1 q2
    simp (disch := first | omega | (simp; first | done | fail)) [hst]
    refine c_gangplankref15_with ((with_ok h q1 h8 (0, 0)).use ?_)
    rintro u w2 ⟨hR, hb, hfr⟩ _
    refine ⟨u, by simp [hst], ?_, hb, fun g hg => Or.inr (hfr g hg)⟩
    rw [turnedK, if_pos hst]; simpa using hR
  · simp (disch := first | omega | (simp; first | done | fail)) [hst]
    exact ⟨by rw [turnedK, if_neg hst]; exact h, But.refl _ _, fun g hg => Or.inl hg⟩
theorem above_ok {w : World} {p : Value} {pins : List Int} (hP : IntsAt w p pins) (hpl : pins.length < 2 ^ 62) (a : Int) :
    Fn PR NoX 28 #[p, .int .i64 a] w (fun u w' => u = .bool (aboveK pins a) ∧ w' = w) := by
  refine mk_gangplankref15_above ?_
  simp [sh_gangplankref15_above]
  refine lpI2 pins.length (fun _ i w' => w' = w ∧ ∀ j, j < i → intAt pins j = 0 ∨ a < intAt pins j) ⟨rfl, by intro j hj; omega⟩ ?_
  rintro x i w' hi ⟨rfl, hall⟩ L hL
  by_cases hlt : i < pins.length
  · obtain ⟨pb, po, cap, rfl, hrow⟩ := hP.pos hlt
    have hv := hrow.ints hlt
    by_cases hz : intAt pins i = 0
    · simp (disch := first | omega | (simp; first | done | fail)) [hlt, hv, hz]
      refine hL hlt _ _ ⟨rfl, fun j hj => ?_⟩
      by_cases hji : j = i
      · subst hji; exact Or.inl hz
      · exact hall j (by omega)
    · by_cases hle : intAt pins i ≤ a
      · simp (disch := first | omega | (simp; first | done | fail)) [hlt, hv, hz, hle, aboveK_false hlt hz hle]
      · simp (disch := first | omega | (simp; first | done | fail)) [hlt, hv, hz, hle]
        refine hL hlt _ _ ⟨rfl, fun j hj => ?_⟩
        by_cases hji : j = i
        · subst hji; exact Or.inr (by omega)
        · exact hall j (by omega)
  · simp (disch := first | omega | (simp; first | done | fail)) [hP.len, hlt, aboveK_true (pins := pins) (a := a) fun j hj => hall j (by omega)]
theorem RRipe_ok {w : World} {v p : Value} {r : List (Int × Int)} {pins : List Int} (h : RefAt w v r) (h8 : r.length ≤ 8) (hP : IntsAt w p pins) (hpl : pins.length < 2 ^ 62) :
    Fn PR NoX 24 #[v, p] w (fun u w' => u = .int .i64 (ripeK r r.length pins) ∧ w' = w) := by
  refine mk_gangplankref15_Ripe ?_
  simp [sh_gangplankref15_Ripe]
  refine lpI2 r.length (fun _ i w' => w' = w ∧ ∀ j, j < i → ((slotK r j).1 == 2 && aboveK pins (slotK r j).2) = false) ⟨rfl, by intro j hj; omega⟩ ?_
  rintro x i w' hi ⟨rfl, hall⟩ L hL
  by_cases hlt : i < r.length
  · obtain ⟨b, o, cap, rfl, hr⟩ := h.pos hlt
    obtain ⟨h0, h1⟩ := ref_cell hr hlt
    have hnext : ((slotK r i).1 == 2 && aboveK pins (slotK r i).2) = false → ∀ j, j < i + 1 → ((slotK r j).1 == 2 && aboveK pins (slotK r j).2) = false := by
      intro hh j hj
      by_cases hji : j = i
      · subst hji; exact hh
      · exact hall j (by omega)
    by_cases hz : (slotK r i).1 = 2
    · simp (disch := first | omega | (simp; first | done | fail)) [hlt, h0, h1, hz]
      refine c_gangplankref15_above ((above_ok hP hpl _).use ?_)
      rintro u w1 ⟨rfl, rfl⟩ _
      by_cases ha : aboveK pins (slotK r i).2 = true
      · have ht : ripeK r r.length pins = (i : Nat) := firstOf_some hlt (by simp [hz, ha]) hall
        simp (disch := first | omega | (simp; first | done | fail)) [ha, ht]
      · simp only [Bool.not_eq_true] at ha
        simp (disch := first | omega | (simp; first | done | fail)) [ha]
        exact hL hlt _ _ ⟨rfl, hnext (by simp [ha])⟩
    · simp (disch := first | omega | (simp; first | done | fail)) [hlt, h0, hz]
      exact hL hlt _ _ ⟨rfl, hnext (by simp [hz])⟩
  · have ht : ripeK r r.length pins = -1 := firstOf_none fun j hj => hall j (by omega)
    simp (disch := first | omega | (simp; first | done | fail)) [h.len, hlt, ht]
end Go.Proofs.Ytcgiobkfgnclcaa
