/- Ranges over a function value: an iterator that yields a list of values, and what its range does. No hypothesis but the contract of the iterator. -/
import Derived.Test.YtcgiobkfgnclcaaNames
import Derived.Test.YtcgiobkfgnclcaaLib
set_option linter.unusedVariables false
namespace Go.Proofs.Ytcgiobkfgnclcaa
open Go
theorem Ext.sk {a b : World} (h : Ext a b) (hk : Sk NoX a b) : ExtA a b := h.all hk
theorem ExtA.drew (w : World) : ExtA w w.drew := ⟨Nat.le_refl _, fun _ _ h => h⟩
theorem LoopEq.sz {a b : World} (h : LoopEq a b) : sz b = sz a := h.1
theorem Ext.cell {a b : World} (h : Ext a b) {r o : Nat} {v : Value} (e : a.cell? ⟨r, o, none⟩ = some v) : b.cell? ⟨r, o, none⟩ = some v := by
  obtain ⟨c, T, z, h1, h2⟩ := cell_some e
  have h3 : bl b r = some (.cells c T z) := h.2 r _ h1 (by intro lo hh; cases hh)
  rw [cell_of h3]; exact h2
theorem Ext.blk {a b : World} (h : Ext a b) {r : Nat} {c : Array Value} {T : TypeId} {z : Nat × Nat} (e : bl a r = some (.cells c T z)) : bl b r = some (.cells c T z) :=
  h.2 r _ e (by intro lo hh; cases hh)
theorem Ext.row {a b : World} (h : Ext a b) {r o : Nat} {l : List Value} (e : Row a r o l) : Row b r o l := by
  intro i hi
  have h1 : a.cell? ⟨r, o + i, none⟩ = some l[i] := by rw [e i hi]; exact List.getElem?_eq_getElem hi
  rw [h.cell h1]; exact (List.getElem?_eq_getElem hi).symm

/-- all but records of loops and of deferred calls -/
def ExtD (a b : World) : Prop := a.heap.size ≤ b.heap.size ∧ ∀ (r : Nat) o, a.heap[r]? = some o → (∀ lo, o ≠ Obj.loop lo) → (∀ d, o ≠ Obj.deferred d) → b.heap[r]? = some o
theorem ExtD.all {a b : World} (h : ExtD a b) (hk : Sk NoX a b) : ExtA a b := by
  refine ⟨h.1, fun r o e => ?_⟩
  by_cases hl : ∃ lo, o = Obj.loop lo
  · obtain ⟨lo, rfl⟩ := hl; exact hk.2.2.1 r lo (fun h => h) e
  · by_cases hd : ∃ d, o = Obj.deferred d
    · obtain ⟨d, rfl⟩ := hd; exact hk.2.1 r d e
    · exact h.2 r o e (fun lo hlo => hl ⟨lo, hlo⟩) (fun d hdd => hd ⟨d, hdd⟩)
theorem Ext.extD {a b : World} (h : Ext a b) : ExtD a b := ⟨h.1, fun r o e n _ => h.2 r o e n⟩
theorem ExtD.trans {a b c : World} (h : ExtD a b) (h' : ExtD b c) : ExtD a c := ⟨Nat.le_trans h.1 h'.1, fun r o e n m => h'.2 r o (h.2 r o e n m) n m⟩
theorem DefEq.extD {a b : World} (h : DefEq a b) : ExtD a b := ⟨by rw [h.1]; exact Nat.le_refl _, fun r o e _ m => by rw [h.2 r (by rw [e]; intro d hh; exact m d (Option.some.inj hh))]; exact e⟩
theorem ExtD.cell {a b : World} (h : ExtD a b) {r o : Nat} {v : Value} (e : a.cell? ⟨r, o, none⟩ = some v) : b.cell? ⟨r, o, none⟩ = some v := by
  obtain ⟨c, T, z, h1, h2⟩ := cell_some e
  have h3 : bl b r = some (.cells c T z) := h.2 r _ h1 (by intro lo hh; cases hh) (by intro lo hh; cases hh)
  rw [cell_of h3]; exact h2
theorem But.extNil {a b : World} (h : But [] a b) : Ext a b := h.extA.ext
theorem Ext.putb {a b : World} (h : Ext a b) {r : Nat} (o : Obj) (hr : sz a ≤ r) : Ext a (World.putb b r o) :=
  ⟨by have := h.1; have := sz_putb b r o; simp only [sz] at *; omega, fun s x e n => by
    have h1 := h.2 s x e n
    have : s < sz a := bl_lt e
    have h2 := bl_putb_other (w := b) (o := o) (show r ≠ s by omega)
    simp only [bl] at h2; rw [h2]; exact h1⟩
theorem cell_alloc (w : World) (c : Array Value) (T : TypeId) (z : Nat × Nat) (b o : Nat) : (w.alloc (.cells c T z)).cell? ⟨b, o, none⟩ = if b = sz w then c[o]? else w.cell? ⟨b, o, none⟩ := by
  rw [cell_bl, cell_bl, bl_alloc]
  by_cases h : b = sz w <;> simp [h]
theorem cell_putb {w : World} {b : Nat} {c : Array Value} {T : TypeId} {z : Nat × Nat} (hb : b < sz w) (r o : Nat) : (World.putb w b (.cells c T z)).cell? ⟨r, o, none⟩ = if r = b then c[o]? else w.cell? ⟨r, o, none⟩ := by
  rw [cell_bl, cell_bl]
  by_cases h : r = b
  · subst h; rw [bl_putb_same hb]; simp
  · rw [bl_putb_other (fun h' => h h'.symm)]; simp [h]
theorem Fn.ext {f : FuncId} {args : Array Value} {w : World} {R : Value → WP} (h : Fn PR NoX f args w (fun v w' => R v w' ∧ ExtD w w')) : Fn PR NoX f args w (fun v w' => R v w' ∧ But [] w w') :=
  Calls.mono h fun _ w' ⟨v, he, hr, hs⟩ => ⟨v, he, ⟨hr.1, (hr.2.all hs).but _⟩, hs⟩

theorem cal_mono {P : Program} {X Y : Nat → Prop} {f : FuncId} {args : List Value} {K : Value → WP} {w : World} (h : cal P X f args K w) (hx : ∀ r, X r → Y r) : cal P Y f args K w :=
  ⟨h.1, Calls.mono h.2 fun _ w' ⟨v, he, hr, hs⟩ => ⟨v, he, hr, hs.mono hx⟩⟩
theorem cal_post {P : Program} {X : Nat → Prop} {f : FuncId} {args : List Value} {K K' : Value → WP} {w : World} (h : cal P X f args K w) (hk : ∀ v w', K v w' → Sk X w w' → K' v w') : cal P X f args K' w :=
  ⟨h.1, Calls.mono h.2 fun _ w' ⟨v, he, hr, hs⟩ => ⟨v, he, hk v w' hr hs, hs⟩⟩

/-- g, called in any world in which all of w but records of loops stands, yields the lists of L, one behind the other, as long as it is told to go on; what it does besides is to make more. -/
def It (g : Value) (w : World) (L : List (List Value)) : Prop :=
  ∃ f first cap, g = .func (.func f) first cap ∧
    ∀ (l : Nat) (w0 : World) (J : Nat → WP) (E : WP), Ext w w0 → sz w ≤ l → J 0 w0 →
      (∀ i a b, J i a → ExtA a b → J i b) → (∀ a b, E a → ExtA a b → E b) → (∀ i a, J i a → Ext w a) →
      (∀ i, ∀ hi : i < L.length, ∀ w1, J i w1 → yie PR (fun r => r = l) l L[i] (fun v w3 => (v = .bool true ∧ J (i + 1) w3) ∨ (v = .bool false ∧ E w3)) w1) →
      cal PR (fun r => r = l) f (first.toList ++ [.func (.yield l) #[] #[]] ++ cap.toList) (fun _ w' => J L.length w' ∨ E w') w0

theorem yie_post {P : Program} {X : Nat → Prop} {l : Nat} {args : List Value} {K K' : Value → WP} {w : World} (h : yie P X l args K w) (hk : ∀ v w', K v w' → K' v w') : yie P X l args K' w := by
  obtain ⟨f, tmps, asg, body, h1, h2⟩ := h
  exact ⟨f, tmps, asg, body, h1, fun c cs => let ⟨v, w', ⟨a, b⟩, st⟩ := h2 c cs; ⟨v, w', ⟨hk v w' a, b⟩, st⟩⟩

theorem rng_It {N : Nat} {X : Nat → Prop} {body : VF ((Option Code → WP) → WP) N} {g : Value} {KJ : Option Code → WP} {w : World} {L : List (List Value)} (hit : It g w L) (hL : ∀ x ∈ L, x.length = N)
    (J : Nat → WP) (E : Code → WP) (h0 : ∀ w0, ExtA w w0 → J 0 w0) (stJ : ∀ i a b, J i a → ExtA a b → J i b) (stE : ∀ c a b, E c a → ExtA a b → E c b) (hJ : ∀ i a, J i a → Ext w a)
    (hbody : ∀ i, ∀ hi : i < L.length, ∀ w1, J i w1 → ∀ K' : Option Code → WP, (∀ w2, (∀ w3, LoopEq w2 w3 → J (i + 1) w3) → K' none w2) → (∀ c w2, (∀ w3, LoopEq w2 w3 → E c w3) → K' (some c) w2) → VF.app (fun _ => nowp) N body L[i] K' w1)
    (hend : ∀ w', J L.length w' → ∀ w'', LoopEq w' w'' → KJ none w'') (hexit : ∀ c w', E c w' → ∀ w'', LoopEq w' w'' → KJ (some c) w'') : rng PR X body g KJ w := by
  obtain ⟨f, first, cap, hg, hit⟩ := hit
  refine ⟨f, first, cap, hg, fun l Pd w0 hl hmono hext hpd hyie => ?_⟩
  refine cal_mono (X := fun r => r = l) ?_ fun r hr => Or.inr hr
  refine cal_post (hit l w0 (fun i a => J i a ∧ Pd none a) (fun a => ∃ c, E c a ∧ Pd (some c) a) hext.ext hl ⟨h0 _ hext, hpd⟩ ?_ ?_ ?_ ?_) ?_
  · intro i a b ⟨h1, h2⟩ he; exact ⟨stJ i a b h1 he, hmono _ _ _ h2 he⟩
  · rintro a b ⟨c, h1, h2⟩ he; exact ⟨c, stE c a b h1 he, hmono _ _ _ h2 he⟩
  · intro i a h; exact hJ i a h.1
  · intro i hi w1 ⟨h1, h2⟩
    refine yie_post (hyie L[i] (fun j w3 => Pd j w3 ∧ match j with | none => J (i + 1) w3 | some c => E c w3) w1 (hL _ (List.getElem_mem hi)) h2 ?_) ?_
    · exact hbody i hi w1 h1 _ (fun w2 h w3 h3 hp => ⟨hp, h w3 h3⟩) (fun c w2 h w3 h3 hp => ⟨hp, h w3 h3⟩)
    · rintro v w3 ⟨j, hv, hp, hr⟩
      cases j with
      | none => exact Or.inl ⟨hv, hr, hp⟩
      | some c => exact Or.inr ⟨hv, c, hr, hp⟩
  · rintro v w' (⟨h1, h2⟩ | ⟨c, h1, h2⟩) _
    · exact ⟨none, h2, fun w'' h => hend w' h1 w'' h⟩
    · exact ⟨some c, h2, fun w'' h => hexit c w' h1 w'' h⟩

@[simp] theorem cav_yield (P : Program) (X : Nat → Prop) (l : Nat) (cap : Array Value) (args : List Value) (K : Value → WP) : cav P X (.func (.yield l) #[] cap) args K = yie P X l args K := by simp [cav]
@[simp] theorem cav_func (P : Program) (X : Nat → Prop) (f : FuncId) (first cap : Array Value) (args : List Value) (K : Value → WP) : cav P X (.func (.func f) first cap) args K = cal P X f (first.toList ++ args ++ cap.toList) K := rfl
/-! ## loops -/
theorem lp1_of {F : (Value → WP) → Value → WP} {v : Value} {w : World} (I : Value → WP) (μ : Value → World → Nat) (h0 : I v w)
    (hs : ∀ v w, I v w → ∀ L : Value → WP, (∀ v' w', I v' w' → μ v' w' < μ v w → L v' w') → F L v w) : lp (n := 1) F v w := by
  refine ⟨fun vs => match vs with | [a] => I a | _ => nowp, fun vs w => match vs with | [a] => μ a w | _ => 0, h0, fun vs w hl hI => ?_⟩
  match vs, hl with
  | [a], _ => exact hs a w hI _ fun v' w' h1 h2 => ⟨h1, h2⟩
theorem lp2_of {F : (Value → Value → WP) → Value → Value → WP} {x v : Value} {w : World} (I : Value → Value → WP) (μ : Value → Value → World → Nat) (h0 : I x v w)
    (hs : ∀ x v w, I x v w → ∀ L : Value → Value → WP, (∀ x' v' w', I x' v' w' → μ x' v' w' < μ x v w → L x' v' w') → F L x v w) : lp (n := 2) F x v w := by
  refine ⟨fun vs => match vs with | [a, b] => I a b | _ => nowp, fun vs w => match vs with | [a, b] => μ a b w | _ => 0, h0, fun vs w hl hI => ?_⟩
  match vs, hl with
  | [a, b], _ => exact hs a b w hI _ fun x' v' w' h1 h2 => ⟨h1, h2⟩
theorem lp3_of {F : (Value → Value → Value → WP) → Value → Value → Value → WP} {x y v : Value} {w : World} (I : Value → Value → Value → WP) (μ : Value → Value → Value → World → Nat) (h0 : I x y v w)
    (hs : ∀ x y v w, I x y v w → ∀ L : Value → Value → Value → WP, (∀ x' y' v' w', I x' y' v' w' → μ x' y' v' w' < μ x y v w → L x' y' v' w') → F L x y v w) : lp (n := 3) F x y v w := by
  refine ⟨fun vs => match vs with | [a, b, c] => I a b c | _ => nowp, fun vs w => match vs with | [a, b, c] => μ a b c w | _ => 0, h0, fun vs w hl hI => ?_⟩
  match vs, hl with
  | [a, b, c], _ => exact hs a b c w hI _ fun x' y' v' w' h1 h2 => ⟨h1, h2⟩
theorem lp4_of {F : (Value → Value → Value → Value → WP) → Value → Value → Value → Value → WP} {x y u v : Value} {w : World} (I : Value → Value → Value → Value → WP) (μ : Value → Value → Value → Value → World → Nat) (h0 : I x y u v w)
    (hs : ∀ x y u v w, I x y u v w → ∀ L : Value → Value → Value → Value → WP, (∀ x' y' u' v' w', I x' y' u' v' w' → μ x' y' u' v' w' < μ x y u v w → L x' y' u' v' w') → F L x y u v w) : lp (n := 4) F x y u v w := by
  refine ⟨fun vs => match vs with | [a, b, c, d] => I a b c d | _ => nowp, fun vs w => match vs with | [a, b, c, d] => μ a b c d w | _ => 0, h0, fun vs w hl hI => ?_⟩
  match vs, hl with
  | [a, b, c, d], _ => exact hs a b c d w hI _ fun x' y' u' v' w' h1 h2 => ⟨h1, h2⟩
def num (v : Value) : Int := match v with | .int _ k => k | _ => 0
/-- a loop that counts up to n -/
theorem lpI {F : (Value → WP) → Value → WP} {w : World} (n : Nat) (I : Nat → WP) (h0 : I 0 w)
    (hs : ∀ (i : Nat) w, i ≤ n → I i w → ∀ L : Value → WP, (i < n → ∀ w', I (i + 1) w' → L (.int .i64 ((i : Int) + 1)) w') → F L (.int .i64 (i : Int)) w) : lp (n := 1) F (.int .i64 0) w := by
  refine lp1_of (fun v w => ∃ i : Nat, v = .int .i64 i ∧ i ≤ n ∧ I i w) (fun v _ => n - (num v).toNat) ⟨0, rfl, Nat.zero_le _, h0⟩ ?_
  rintro v w ⟨i, rfl, hi, hI⟩ L hL
  refine hs i w hi hI L fun hlt w' hI' => ?_
  refine hL _ w' ⟨i + 1, by simp, hlt, hI'⟩ ?_
  simp only [num]; omega
theorem lpI2 {F : (Value → Value → WP) → Value → Value → WP} {w : World} {x : Value} (n : Nat) (I : Value → Nat → WP) (h0 : I x 0 w)
    (hs : ∀ x (i : Nat) w, i ≤ n → I x i w → ∀ L : Value → Value → WP, (i < n → ∀ x' w', I x' (i + 1) w' → L x' (.int .i64 ((i : Int) + 1)) w') → F L x (.int .i64 (i : Int)) w) : lp (n := 2) F x (.int .i64 0) w := by
  refine lp2_of (fun x v w => ∃ i : Nat, v = .int .i64 i ∧ i ≤ n ∧ I x i w) (fun _ v _ => n - (num v).toNat) ⟨0, rfl, Nat.zero_le _, h0⟩ ?_
  rintro x v w ⟨i, rfl, hi, hI⟩ L hL
  refine hs x i w hi hI L fun hlt x' w' hI' => ?_
  refine hL _ _ w' ⟨i + 1, by simp, hlt, hI'⟩ ?_
  simp only [num]; omega
theorem lpI3 {F : (Value → Value → Value → WP) → Value → Value → Value → WP} {w : World} {x y : Value} (n : Nat) (I : Value → Value → Nat → WP) (h0 : I x y 0 w)
    (hs : ∀ x y (i : Nat) w, i ≤ n → I x y i w → ∀ L : Value → Value → Value → WP, (i < n → ∀ x' y' w', I x' y' (i + 1) w' → L x' y' (.int .i64 ((i : Int) + 1)) w') → F L x y (.int .i64 (i : Int)) w) : lp (n := 3) F x y (.int .i64 0) w := by
  refine lp3_of (fun x y v w => ∃ i : Nat, v = .int .i64 i ∧ i ≤ n ∧ I x y i w) (fun _ _ v _ => n - (num v).toNat) ⟨0, rfl, Nat.zero_le _, h0⟩ ?_
  rintro x y v w ⟨i, rfl, hi, hI⟩ L hL
  refine hs x y i w hi hI L fun hlt x' y' w' hI' => ?_
  refine hL _ _ _ w' ⟨i + 1, by simp, hlt, hI'⟩ ?_
  simp only [num]; omega

/-! ## the first of which it is so -/
def firstOf (p : Nat → Bool) (n : Nat) : Int := match (List.range n).find? p with | some j => j | none => -1
theorem firstOf_none {p : Nat → Bool} {n : Nat} (h : ∀ i, i < n → p i = false) : firstOf p n = -1 := by
  have : (List.range n).find? p = none := by
    rw [List.find?_eq_none]; intro x hx; have := h x (List.mem_range.1 hx); simp [this]
  simp [firstOf, this]
theorem firstOf_some {p : Nat → Bool} {n j : Nat} (hj : j < n) (hp : p j = true) (h : ∀ i, i < j → p i = false) : firstOf p n = j := by
  have : (List.range n).find? p = some j := by
    rw [List.find?_range_eq_some]
    exact ⟨hp, List.mem_range.2 hj, fun i hi => by simp [h i hi]⟩
  simp [firstOf, this]
theorem firstOf_cases (p : Nat → Bool) (n : Nat) : (firstOf p n = -1 ∧ ∀ i, i < n → p i = false) ∨ (∃ j, j < n ∧ firstOf p n = (j : Nat) ∧ p j = true ∧ ∀ i, i < j → p i = false) := by
  cases h : (List.range n).find? p with
  | none =>
    left
    rw [List.find?_eq_none] at h
    have h' : ∀ i, i < n → p i = false := fun i hi => by have := h i (List.mem_range.2 hi); simpa using this
    exact ⟨firstOf_none h', h'⟩
  | some j =>
    right
    rw [List.find?_range_eq_some] at h
    obtain ⟨h1, h2, h3⟩ := h
    have h3' : ∀ i, i < j → p i = false := fun i hi => by simpa using h3 i hi
    exact ⟨j, List.mem_range.1 h2, firstOf_some (List.mem_range.1 h2) h1 h3', h1, h3'⟩
end Go.Proofs.Ytcgiobkfgnclcaa
