/- Acts: how they lie in memory; few and do: what they come to. No condition but that what is handed in is a list of acts, a keeper. -/
import Derived.Test.YtcgiobkfgnclcaaWorks
set_option linter.unusedVariables false
set_option linter.unusedSimpArgs false
namespace Go.Proofs.Ytcgiobkfgnclcaa
open Go
structure ActR where
  k : Int
  slot : Int
  at' : Int
  pv : Value
  pins : List Int
def encA (x : ActR) : List Value := [.int .i64 x.k, .int .i64 x.slot, .int .i64 x.at', x.pv]
theorem encA_len (x : ActR) : (encA x).length = 4 := rfl
structure ActsAt (w : World) (v : Value) (l : List ActR) : Prop where
  row : (l = [] ∧ ∃ a cap, v = .slice a 0 cap) ∨ ∃ b o cap, v = .slice (some ⟨b, o, none⟩) l.length cap ∧ Row w b o (l.flatMap encA)
  pins : ∀ x ∈ l, IntsAt w x.pv x.pins
theorem ActsAt.ext {w w' : World} {v : Value} {l : List ActR} (h : ActsAt w v l) (e : Ext w w') : ActsAt w' v l := by
  refine ⟨?_, fun x hx => (h.pins x hx).ext e⟩
  rcases h.row with h | ⟨b, o, cap, hv, hr⟩
  · exact Or.inl h
  · exact Or.inr ⟨b, o, cap, hv, e.row hr⟩
theorem ActsAt.len {w : World} {v : Value} {l : List ActR} (h : ActsAt w v l) (K : Value → WP) : pur PR (builtinS .len #[22] 0 [v]) K = K (.int .i64 l.length) := by
  rcases h.row with ⟨rfl, a, cap, rfl⟩ | ⟨b, o, cap, rfl, hr⟩
  · simp
  · simp
theorem ActsAt.pos {w : World} {v : Value} {l : List ActR} (h : ActsAt w v l) {i : Nat} (hi : i < l.length) :
    ∃ b o cap, v = .slice (some ⟨b, o, none⟩) l.length cap ∧ Row w b o (l.flatMap encA) := by
  rcases h.row with ⟨rfl, _⟩ | h
  · simp at hi
  · exact h
theorem acts_cell {w : World} {b o : Nat} {l : List ActR} (h : Row w b o (l.flatMap encA)) {i : Nat} (hi : i < l.length) {j : Nat} (hj : j < 4) :
    w.cell? ⟨b, o + i * 4 + j, none⟩ = (encA l[i])[j]? := by
  have hl : (l.flatMap encA).length = l.length * 4 := flat_len encA_len l
  have := h (i * 4 + j) (by rw [hl]; omega)
  rw [show o + i * 4 + j = o + (i * 4 + j) by omega, this, flat_get encA_len l i j hj, List.getElem?_eq_getElem hi]; rfl
theorem acts_row {w : World} {b o : Nat} {l : List ActR} (h : Row w b o (l.flatMap encA)) {i : Nat} (hi : i < l.length) : rowN w b (o + i * 4) 4 = some (encA l[i]) := by
  have h0 := acts_cell h hi (j := 0) (by omega)
  have h1 := acts_cell h hi (j := 1) (by omega)
  have h2 := acts_cell h hi (j := 2) (by omega)
  have h3 := acts_cell h hi (j := 3) (by omega)
  simp only [Nat.add_zero] at h0
  simp [rowN_succ, Nat.add_assoc] at h0 h1 h2 h3 ⊢
  simp [h0, h1, h2, h3, encA]

def fewK (l : List ActR) : Bool := decide (l.length ≤ 60) && l.all fun x => decide (x.pins.length ≤ 60)
theorem few_ok {w : World} {v : Value} {l : List ActR} (h : ActsAt w v l) : Fn PR NoX 9 #[v] w (fun u w' => u = .bool (fewK l) ∧ w' = w) := by
  refine mk_gangplanklaw15_few ?_
  by_cases h1 : 60 < l.length
  · have h1' : (60 : Int) < l.length := by omega
    simp [sh_gangplanklaw15_few, h.len, h1', fewK, show ¬ l.length ≤ 60 by omega]
  have h1' : ¬ (60 : Int) < l.length := by omega
  simp [sh_gangplanklaw15_few, h.len, h1']
  refine lpI2 l.length (fun _ i w' => w' = w ∧ ∀ j (hj : j < l.length), j < i → (l[j]).pins.length ≤ 60) ⟨rfl, by intro j _ hj; omega⟩ ?_
  rintro x i w' hi ⟨rfl, hall⟩ L hL
  by_cases hlt : i < l.length
  · obtain ⟨b, o, cap, rfl, hr⟩ := h.pos hlt
    have hc := acts_cell hr hlt (j := 3) (by omega)
    have hp := h.pins l[i] (List.getElem_mem hlt)
    simp [encA] at hc
    by_cases h2 : (60 : Int) < ((l[i]).pins.length : Nat)
    · have hf : fewK l = false := by
        have : ¬ (l.all fun x => decide (x.pins.length ≤ 60)) = true := by
          intro hh; rw [List.all_eq_true] at hh; have := hh _ (List.getElem_mem hlt); simp at this; omega
        simp [fewK] at this ⊢; intro _; exact this
      simp (disch := first | omega | (simp; first | done | fail)) [hlt, hc, hp.len, h2, hf]
    · simp (disch := first | omega | (simp; first | done | fail)) [hlt, hc, hp.len, h2]
      refine hL hlt _ _ ⟨rfl, fun j hj hji => ?_⟩
      by_cases hjj : j = i
      · subst hjj; omega
      · exact hall j hj (by omega)
  · have hf : fewK l = true := by
      simp only [fewK, Bool.and_eq_true, decide_eq_true_eq, List.all_eq_true]
      refine ⟨by omega, fun x hx => ?_⟩
      obtain ⟨j, hj, rfl⟩ := List.getElem_of_mem hx
      exact hall j hj (by omega)
    simp [hlt, hf, h.len]
theorem fewK_len {l : List ActR} (h : fewK l = true) : l.length ≤ 60 := by simp [fewK] at h; exact h.1
theorem fewK_pins {l : List ActR} (h : fewK l = true) {i : Nat} (hi : i < l.length) : (l[i]).pins.length ≤ 60 := by
  simp [fewK] at h; exact h.2 _ (List.getElem_mem hi)

theorem number_ok (c : Bool) (w : World) : Fn PR NoX 20 #[.bool c] w (fun u w' => u = .int .i64 (if c then 1 else 0) ∧ w' = w) := by
  refine mk_gangplanklaw15_number ?_
  cases c <;> simp [sh_gangplanklaw15_number]

/-- what an act tells, and what becomes of the slots -/
def doR (s : List (Int × Int)) (n : Nat) (x : ActR) : Int :=
  if x.k = 0 then takeK s n else if x.k = 1 then (if stateK s n x.slot = 1 then 1 else 0) else if x.k = 2 then (if stateK s n x.slot = 2 then 1 else 0) else ripeK s n x.pins
def doS (s : List (Int × Int)) (n : Nat) (x : ActR) : List (Int × Int) :=
  if x.k = 0 then tookK s n else if x.k = 1 then turnedK s n x.slot 1 (2, x.at') else if x.k = 2 then turnedK s n x.slot 2 (0, 0) else s
theorem do_ok {w : World} {b : Nat} {s : List (Int × Int)} {n : Nat} (h : KeeperAt w b s n) (x : ActR) (hp : IntsAt w x.pv x.pins) (hpl : x.pins.length ≤ 60) :
    Fn PR NoX 12 #[.pointer (some ⟨b, 0, none⟩), .agg (encA x).toArray] w
      (fun v w' => v = .int .i64 (doR s n x) ∧ KeeperAt w' b (doS s n x) n ∧ But [b] w w') := by
  refine mk_gangplanklaw15_do ?_
  have hbut : But [b] w (w.alloc (.cells (encA x).toArray 32)) := (But.refl _ _).alloc _
  have h' := h.but (w' := w.alloc (.cells (encA x).toArray 32)) ((But.refl [] _).alloc _) (by simp)
  have hp' := hp.ext (w' := w.alloc (.cells (encA x).toArray 32)) ((But.refl [] _).alloc _).extNil
  have hc : ∀ j, (w.alloc (.cells (encA x).toArray 32)).cell? ⟨sz w, j, none⟩ = (encA x)[j]? := fun j => by simp [cell_alloc]
  have c0 := hc 0
  have c1 := hc 1
  have c2 := hc 2
  have c3 := hc 3
  simp only [sh_gangplanklaw15_do]
  rw [show lou PR NoX (Instr.box 32 (.agg (encA x).toArray)) = fun K w => K (.pointer (some ⟨sz w, 0, none⟩)) (w.alloc (.cells (encA x).toArray 32)) from by
    funext K w; simp (disch := first | omega | (simp [encA]; first | done | fail)) []]
  simp only []
  generalize w.alloc (.cells (encA x).toArray 32) = W at *
  simp [encA] at c0 c1 c2 c3
  simp [c0]
  by_cases h0 : x.k = 0
  · simp [h0, doR, doS]
    refine c_epoch_Keeper_Take ((Take_ok h').use ?_)
    rintro v w1 ⟨rfl, hk, hb⟩ _
    exact ⟨by simp [doR, h0], by simp only [doS, h0, if_true]; exact hk, hbut.trans hb⟩
  by_cases h1 : x.k = 1
  · simp [h1, doR, doS, c1, c2]
    refine c_epoch_Keeper_Retire ((Retire_ok h' _ _).use ?_)
    rintro v w1 ⟨rfl, hk, hb⟩ _
    refine c_gangplanklaw15_number ((number_ok _ _).use ?_)
    rintro v w2 ⟨rfl, rfl⟩ _
    exact ⟨by simp [doR, h1], by simp [doS, h1]; exact hk, hbut.trans hb⟩
  by_cases h2 : x.k = 2
  · simp [h2, doR, doS, c1, c2]
    refine c_epoch_Keeper_Free ((Free_ok h' _).use ?_)
    rintro v w1 ⟨rfl, hk, hb⟩ _
    refine c_gangplanklaw15_number ((number_ok _ _).use ?_)
    rintro v w2 ⟨rfl, rfl⟩ _
    exact ⟨by simp [doR, h2], by simp [doS, h2]; exact hk, hbut.trans hb⟩
  simp [h0, h1, h2, doR, doS, c3]
  refine c_epoch_Keeper_Ripe ((Ripe_ok h' hp' (by omega)).use ?_)
  rintro v w1 ⟨rfl, hb⟩ _
  exact ⟨by simp [doR, h0, h1, h2], by simp [doS, h0, h1, h2]; exact h'.but hb (by simp), hbut.trans (hb.mono (by simp))⟩
end Go.Proofs.Ytcgiobkfgnclcaa
