/- Package epoch: what its functions do, over a keeper's block. No condition but that the block is a keeper's. -/
import Derived.Test.YtcgiobkfgnclcaaSh
import Derived.Test.YtcgiobkfgnclcaaIns
import Derived.Test.YtcgiobkfgnclcaaEq
import Derived.Test.YtcgiobkfgnclcaaIter
set_option linter.unusedVariables false
set_option linter.unusedSimpArgs false
namespace Go.Proofs.Ytcgiobkfgnclcaa
open Go

def encS (s : Int × Int) : List Value := [.int .i64 s.1, .int .i64 s.2]
theorem encS_len (s : Int × Int) : (encS s).length = 2 := rfl
def slotK (s : List (Int × Int)) (i : Nat) : Int × Int := s.getD i (0, 0)
def encK (s : List (Int × Int)) (n : Nat) : List Value := s.flatMap encS ++ [.int .i64 n]
structure KeeperAt (w : World) (b : Nat) (s : List (Int × Int)) (n : Nat) : Prop where
  len : s.length = 8
  le : n ≤ 8
  blk : bl w b = some (.cells (encK s n).toArray 50 (0, 0))
theorem KeeperAt.n {w : World} {b : Nat} {s : List (Int × Int)} {n : Nat} (h : KeeperAt w b s n) : w.cell? ⟨b, 16, none⟩ = some (.int .i64 n) := by
  rw [cell_of h.blk]
  have : (s.flatMap encS).length = 16 := by rw [flat_len encS_len, h.len]
  simp [encK, List.getElem?_append_right, this]
theorem KeeperAt.slot {w : World} {b : Nat} {s : List (Int × Int)} {n : Nat} (h : KeeperAt w b s n) {i : Nat} (hi : i < 8) :
    w.cell? ⟨b, i * 2, none⟩ = some (.int .i64 (slotK s i).1) ∧ w.cell? ⟨b, i * 2 + 1, none⟩ = some (.int .i64 (slotK s i).2) := by
  have hl : (s.flatMap encS).length = 16 := by rw [flat_len encS_len, h.len]
  have h0 := flat_get encS_len s i 0 (by omega)
  have h1 := flat_get encS_len s i 1 (by omega)
  have hs : s[i]? = some (slotK s i) := by
    rw [slotK]; rw [List.getD_eq_getElem?_getD]
    have : i < s.length := by rw [h.len]; exact hi
    simp [this]
  rw [hs] at h0 h1
  rw [cell_of h.blk, cell_of h.blk]
  constructor
  · simp only [encK, List.getElem?_toArray, List.getElem?_append_left (show i * 2 < _ by rw [hl]; omega)]; simpa [encS] using h0
  · simp only [encK, List.getElem?_toArray, List.getElem?_append_left (show i * 2 + 1 < _ by rw [hl]; omega)]; simpa [encS] using h1

theorem KeeperAt.row {w : World} {b : Nat} {s : List (Int × Int)} {n : Nat} (h : KeeperAt w b s n) {i : Nat} (hi : i < 8) :
    rowN w b (i * 2) 2 = some [.int .i64 (slotK s i).1, .int .i64 (slotK s i).2] := by
  obtain ⟨h1, h2⟩ := h.slot hi
  simp [rowN_succ, h1, h2]
theorem KeeperAt.ext {w w' : World} {b : Nat} {s : List (Int × Int)} {n : Nat} (h : KeeperAt w b s n) (e : Ext w w') : KeeperAt w' b s n := ⟨h.len, h.le, e.blk h.blk⟩
theorem KeeperAt.but {S : List Nat} {w w' : World} {b : Nat} {s : List (Int × Int)} {n : Nat} (h : KeeperAt w b s n) (e : But S w w') (hb : b ∉ S) : KeeperAt w' b s n := ⟨h.len, h.le, e.get h.blk hb⟩
theorem KeeperAt.drew {w : World} {b : Nat} {s : List (Int × Int)} {n : Nat} (h : KeeperAt w b s n) : KeeperAt w.drew b s n := ⟨h.len, h.le, h.blk⟩
theorem KeeperAt.put {w : World} {b : Nat} {s : List (Int × Int)} {n : Nat} (h : KeeperAt w b s n) {i : Nat} (hi : i < 8) (y : Int × Int) :
    KeeperAt (World.putb w b (.cells (spl (encK s n).toArray (i * 2) (encS y)) 50 (0, 0))) b (s.set i y) n := by
  refine ⟨by simp [h.len], h.le, ?_⟩
  rw [bl_putb_same (bl_lt h.blk)]
  congr 2
  exact flat_set encS_len s i y (by rw [h.len]; exact hi) [.int .i64 n]
theorem encK_size {s : List (Int × Int)} {n : Nat} (h : s.length = 8) : (encK s n).toArray.size = 17 := by
  have hl : (s.flatMap encS).length = 16 := by rw [flat_len encS_len, h]
  simp only [encK, List.size_toArray, List.length_append, hl]; rfl

theorem set_same {c : Array Value} {o : Nat} {v : Value} (h : c[o]? = some v) : c.setIfInBounds o v = c := by
  apply Array.ext_getElem?
  intro r
  by_cases hr : o = r
  · subst hr; rw [h]; have := (Array.getElem?_eq_some_iff.1 h).1; simp [this]
  · rw [Array.getElem?_setIfInBounds_ne hr]
theorem KeeperAt.put1 {w : World} {b : Nat} {s : List (Int × Int)} {n : Nat} (h : KeeperAt w b s n) {i : Nat} (hi : i < 8) (v : Int) :
    KeeperAt (World.putb w b (.cells (spl (encK s n).toArray (i * 2) [.int .i64 v]) 50 (0, 0))) b (s.set i (v, (slotK s i).2)) n := by
  have h1 := h.put hi (v, (slotK s i).2)
  have e : spl (encK s n).toArray (i * 2) (encS (v, (slotK s i).2)) = spl (encK s n).toArray (i * 2) [.int .i64 v] := by
    simp only [encS, spl_cons, spl_nil]
    apply set_same
    rw [Array.getElem?_setIfInBounds_ne (by omega), ← cell_of h.blk]
    exact (h.slot hi).2
  rw [e] at h1; exact h1
def stateK (s : List (Int × Int)) (n : Nat) (i : Int) : Int := if 0 ≤ i ∧ i < n then (slotK s i.toNat).1 else -1

theorem State_ok {w : World} {b : Nat} {s : List (Int × Int)} {n : Nat} (h : KeeperAt w b s n) (i : Int) :
    Fn PR NoX 14 #[.pointer (some ⟨b, 0, none⟩), .int .i64 i] w (fun v w' => v = .int .i64 (stateK s n i) ∧ w' = w) := by
  refine mk_epoch_Keeper_State ?_
  have hn := h.n
  have hle := h.le
  by_cases h0 : i < 0
  · have : stateK s n i = -1 := if_neg (by omega)
    simp [sh_epoch_Keeper_State, h0, this]
  · by_cases h1 : (n : Int) ≤ i
    · have : stateK s n i = -1 := if_neg (by omega)
      simp [sh_epoch_Keeper_State, h0, hn, h1, this]
    · obtain ⟨hs, _⟩ := h.slot (i := i.toNat) (by omega)
      have : stateK s n i = (slotK s i.toNat).1 := if_pos (by omega)
      simp (disch := first | omega | (simp; first | done | fail)) [sh_epoch_Keeper_State, h0, hn, h1, hs, this]

theorem eq_slot (a b c d : Int) (x y : Operand) (K : Value → WP) (w : World) :
    rds PR (eqS .eql 47 x y (.agg #[.int .i64 a, .int .i64 b]) (.agg #[.int .i64 c, .int .i64 d])) K w = K (.bool (decide (a = c) && (decide (b = d) && true))) w :=
  p_eqS (by kernel_rfl) (eqV_struct (e := 9999) ty47 (by kernel_rfl) (eqF_cons rfl ty3 rfl rfl rfl (eqV_int (e := 9998) ty3) (eqF_cons rfl ty3 rfl rfl rfl (eqV_int (e := 9998) ty3) eqF_nil)))

def freeK (s : List (Int × Int)) (i : Nat) : Bool := slotK s i == (0, 0)
def takeK (s : List (Int × Int)) (n : Nat) : Int := firstOf (freeK s) n
def tookK (s : List (Int × Int)) (n : Nat) : List (Int × Int) := if takeK s n = -1 then s else s.set (takeK s n).toNat (1, 0)

theorem Take_ok {w : World} {b : Nat} {s : List (Int × Int)} {n : Nat} (h : KeeperAt w b s n) :
    Fn PR NoX 17 #[.pointer (some ⟨b, 0, none⟩)] w (fun v w' => v = .int .i64 (takeK s n) ∧ KeeperAt w' b (tookK s n) n ∧ But [b] w w') := by
  refine mk_epoch_Keeper_Take ?_
  have hn := h.n
  have hle := h.le
  simp (disch := first | omega | (simp; first | done | fail)) [sh_epoch_Keeper_Take, hn]
  refine lpI2 n (fun _ i w' => w' = w.drew ∧ ∀ j, j < i → freeK s j = false) ⟨rfl, by intro j hj; omega⟩ ?_
  rintro x i w' hi ⟨rfl, hf⟩ L hL
  by_cases hlt : i < n
  · have hrow := h.row (i := i) (by omega)
    have hput := h.drew.put1 (i := i) (by omega) 1
    have hsz := encK_size (n := n) h.len
    have hb : bl w b = some (.cells (encK s n).toArray 50 (0, 0)) := h.blk
    by_cases hfr : freeK s i = true
    · have hfr' : slotK s i = (0, 0) := by simpa [freeK] using hfr
      have ht : takeK s n = (i : Nat) := firstOf_some hlt hfr hf
      have hc : i * 2 + 1 ≤ 17 := by omega
      have hk : tookK s n = s.set i (1, (slotK s i).2) := by
        rw [tookK, ht, hfr', if_neg (by omega)]; rfl
      simp (disch := first | omega | (simp; first | done | fail)) [hlt, hrow, eq_slot, hfr', hb, hsz, hc, ht, hk]
      exact ⟨by simpa [hfr'] using hput, But.putb (But.refl _ _).drew _ (by simp)⟩
    · have hfr' : ¬ ((slotK s i).1 = 0 ∧ (slotK s i).2 = 0) := by
        intro hh; apply hfr; simp [freeK, Prod.ext_iff, hh]
      simp (disch := first | omega | (simp; first | done | fail)) [hlt, hrow, eq_slot, hfr']
      refine hL hlt _ _ ⟨rfl, fun j hj => ?_⟩
      by_cases hji : j = i
      · subst hji; simpa using hfr
      · exact hf j (by omega)
  · have : takeK s n = -1 := firstOf_none (fun j hj => hf j (by omega))
    simp [hlt, this, tookK]
    exact ⟨h.drew, (But.refl _ _).drew⟩

def clampK (m : Int) : Nat := (max 0 (min m 8)).toNat
def zeroK : List (Int × Int) := List.replicate 8 (0, 0)
theorem New_ok (w : World) (m : Int) :
    Fn PR NoX 10 #[.int .i64 m] w (fun v w' => v = .pointer (some ⟨sz w, 0, none⟩) ∧ KeeperAt w' (sz w) zeroK (clampK m) ∧ But [] w w') := by
  refine mk_epoch_New ?_
  simp (disch := first | omega | (simp; first | done | fail)) [sh_epoch_New]
  refine ⟨⟨rfl, by unfold clampK; omega, ?_⟩, (But.refl _ _).alloc _⟩
  rw [bl_alloc_new]
  have : ((clampK m : Nat) : Int) = max 0 (min m 8) := by unfold clampK; omega
  simp [encK, zeroK, this, List.replicate, encS]

theorem turn_ok {w : World} {b : Nat} {s : List (Int × Int)} {n : Nat} (h : KeeperAt w b s n) (i st a c : Int) (hst : 0 ≤ st) :
    Fn PR NoX 26 #[.pointer (some ⟨b, 0, none⟩), .int .i64 i, .int .i64 st, .agg #[.int .i64 a, .int .i64 c]] w
      (fun v w' => v = .bool (decide (stateK s n i = st)) ∧ KeeperAt w' b (if stateK s n i = st then s.set i.toNat (a, c) else s) n ∧ But [b] w w') := by
  refine mk_epoch_Keeper_turn ?_
  simp (disch := first | omega | (simp; first | done | fail)) [sh_epoch_Keeper_turn]
  refine c_epoch_Keeper_State ?_
  have hbut : But [b] w (w.alloc (.cells #[.int .i64 a, .int .i64 c] 47)) := (But.refl _ _).alloc _
  have h' : KeeperAt (w.alloc (.cells #[.int .i64 a, .int .i64 c] 47)) b s n := h.but ((But.refl [] _).alloc _) (by simp)
  refine (State_ok h' i).use ?_
  rintro v w' ⟨rfl, rfl⟩ _
  by_cases hc : stateK s n i = st
  · have hi : 0 ≤ i ∧ i < n := by
      by_cases hh : 0 ≤ i ∧ i < n
      · exact hh
      · rw [stateK, if_neg hh] at hc; omega
    have hle := h.le
    have hput := h'.drew.put (i := i.toNat) (by omega) (a, c)
    have hsz := encK_size (n := n) h.len
    have hb := h'.blk
    have hro : rowN (w.alloc (.cells #[.int .i64 a, .int .i64 c] 47)) (sz w) 0 2 = some [.int .i64 a, .int .i64 c] := by
      simp [rowN_succ, cell_bl]
    have hc2 : i.toNat * 2 + 2 ≤ 17 := by omega
    have hblt := bl_lt h.blk
    have hb0 := h.blk
    simp (disch := first | omega | (simp; first | done | fail)) [hc, hro, hb, hb0, hblt, hsz, hc2]
    exact ⟨by simpa [encS] using hput, But.putb hbut.drew _ (by simp)⟩
  · simp [hc]
    exact ⟨h', hbut⟩

def turnedK (s : List (Int × Int)) (n : Nat) (i st : Int) (y : Int × Int) : List (Int × Int) := if stateK s n i = st then s.set i.toNat y else s
theorem Retire_ok {w : World} {b : Nat} {s : List (Int × Int)} {n : Nat} (h : KeeperAt w b s n) (i a : Int) :
    Fn PR NoX 18 #[.pointer (some ⟨b, 0, none⟩), .int .i64 i, .int .i64 a] w
      (fun v w' => v = .bool (decide (stateK s n i = 1)) ∧ KeeperAt w' b (turnedK s n i 1 (2, a)) n ∧ But [b] w w') := by
  refine mk_epoch_Keeper_Retire ?_
  simp (disch := first | omega | (simp; first | done | fail)) [sh_epoch_Keeper_Retire]
  exact c_epoch_Keeper_turn (turn_ok h i 1 2 a (by omega))
theorem Free_ok {w : World} {b : Nat} {s : List (Int × Int)} {n : Nat} (h : KeeperAt w b s n) (i : Int) :
    Fn PR NoX 19 #[.pointer (some ⟨b, 0, none⟩), .int .i64 i] w
      (fun v w' => v = .bool (decide (stateK s n i = 2)) ∧ KeeperAt w' b (turnedK s n i 2 (0, 0)) n ∧ But [b] w w') := by
  refine mk_epoch_Keeper_Free ?_
  simp (disch := first | omega | (simp; first | done | fail)) [sh_epoch_Keeper_Free]
  exact c_epoch_Keeper_turn (turn_ok h i 2 0 0 (by omega))

def natArg (i : Nat) : List Value := [.int .i64 (i : Int)]
/-! the slots of a state, one behind the other -/
def ofState (s : List (Int × Int)) (n : Nat) (st : Int) : List Nat := (List.range n).filter fun i => (slotK s i).1 == st
theorem ofState_succ (s : List (Int × Int)) (i : Nat) (st : Int) : ofState s (i + 1) st = ofState s i st ++ if (slotK s i).1 = st then [i] else [] := by
  simp only [ofState, List.range_succ, List.filter_append]
  by_cases h : (slotK s i).1 = st <;> simp [h]
theorem ofState_get {s : List (Int × Int)} {st : Int} {i : Nat} (h : (slotK s i).1 = st) : ∀ n, i < n → (ofState s n st)[(ofState s i st).length]? = some i := by
  intro n
  induction n with
  | zero => intro h; omega
  | succ n ih =>
    intro hi
    rw [ofState_succ]
    by_cases hin : i < n
    · rw [List.getElem?_append_left (List.getElem?_eq_some_iff.1 (ih hin)).1]; exact ih hin
    · have : i = n := by omega
      subst this
      simp [h]
theorem each_ok {w : World} {b : Nat} {s : List (Int × Int)} {n : Nat} (h : KeeperAt w b s n) (st : Int) :
    Fn PR NoX 25 #[.pointer (some ⟨b, 0, none⟩), .int .i64 st] w
      (fun v w' => It v w' ((ofState s n st).map natArg) ∧ But [] w w') := by
  refine mk_epoch_Keeper_each ?_
  simp (disch := first | omega | (simp; first | done | fail)) [sh_epoch_Keeper_each]
  refine ⟨⟨_, _, _, rfl, ?_⟩, ((But.refl _ _).alloc _).alloc _⟩
  intro l w0 J E hext hl hJ0 stJ stE hJ hy
  refine c_epoch_Keeper_each_c1 (mk_epoch_Keeper_each_c1 ?_)
  have hk := (h.but (w' := (w.alloc (.cells #[.pointer (some ⟨b, 0, none⟩)] 25)).alloc (.cells #[.int .i64 st] 3)) (((But.refl [] _).alloc _).alloc _) (by simp))
  have h1 : ((w.alloc (.cells #[.pointer (some ⟨b, 0, none⟩)] 25)).alloc (.cells #[.int .i64 st] 3)).cell? ⟨sz w, 0, none⟩ = some (.pointer (some ⟨b, 0, none⟩)) := by
    rw [cell_bl, bl_alloc_old (by simp), bl_alloc_new]; rfl
  have h2 : ((w.alloc (.cells #[.pointer (some ⟨b, 0, none⟩)] 25)).alloc (.cells #[.int .i64 st] 3)).cell? ⟨sz w + 1, 0, none⟩ = some (.int .i64 st) := by
    have : sz w + 1 = sz (w.alloc (.cells #[.pointer (some ⟨b, 0, none⟩)] 25)) := by simp
    rw [this, cell_bl, bl_alloc_new]; rfl
  have hle := h.le
  have e1 := hext.cell h1
  have hn := (hk.ext hext).n
  simp (disch := first | omega | (simp; first | done | fail)) [sh_epoch_Keeper_each_c1, e1, hn]
  refine lpI n (fun i a => J (ofState s i st).length a) (by simpa [ofState] using hJ0) ?_
  intro i a hi hI L hL
  have he := hJ _ _ hI
  have e1 := he.cell h1
  have e2 := he.cell h2
  by_cases hlt : i < n
  · obtain ⟨hs, _⟩ := (hk.ext he).slot (i := i) (by omega)
    by_cases hst : (slotK s i).1 = st
    · simp (disch := first | omega | (simp; first | done | fail)) [hlt, e1, e2, hs, hst]
      have hg := ofState_get hst n hlt
      have hlen : (ofState s i st).length < ((ofState s n st).map natArg).length := by
        rw [List.length_map]; exact (List.getElem?_eq_some_iff.1 hg).1
      have hy' := hy _ hlen a.drew (stJ _ _ _ hI (ExtA.drew a))
      have hgi : ((ofState s n st).map natArg)[(ofState s i st).length] = [.int .i64 (i : Int)] := by
        have := (List.getElem?_eq_some_iff.1 hg).2
        simp [this, natArg]
      rw [hgi] at hy'
      refine yie_post hy' ?_
      rintro v w3 (⟨rfl, h3⟩ | ⟨rfl, h3⟩)
      · simp (disch := first | omega | (simp; first | done | fail)) []
        refine hL hlt _ ?_
        rw [ofState_succ, if_pos hst]; simpa using h3
      · simp (disch := first | omega | (simp; first | done | fail)) []
        exact Or.inr h3
    · simp (disch := first | omega | (simp; first | done | fail)) [hlt, e1, e2, hs, hst]
      refine hL hlt _ ?_
      rw [ofState_succ, if_neg hst]; simpa using stJ _ _ _ hI (ExtA.drew a)
  · have : i = n := by omega
    subst this
    simp
    exact Or.inl hI

/-- a slice of numbers -/
def IntsAt (w : World) (v : Value) (l : List Int) : Prop :=
  (l = [] ∧ ∃ a cap, v = .slice a 0 cap) ∨ ∃ b o cap, v = .slice (some ⟨b, o, none⟩) l.length cap ∧ Row w b o (l.map (.int .i64 ·))
theorem IntsAt.ext {w w' : World} {v : Value} {l : List Int} (h : IntsAt w v l) (e : Ext w w') : IntsAt w' v l := by
  rcases h with h | ⟨b, o, cap, hv, hr⟩
  · exact Or.inl h
  · exact Or.inr ⟨b, o, cap, hv, e.row hr⟩
theorem IntsAt.nil (w : World) : IntsAt w (.slice none 0 0) [] := Or.inl ⟨rfl, none, 0, rfl⟩
theorem IntsAt.cells {w : World} {v : Value} {l : List Int} (h : IntsAt w v l) : v.cells = #[v] ∧ plain v = true := by
  rcases h with ⟨_, a, cap, rfl⟩ | ⟨b, o, cap, rfl, _⟩ <;> exact ⟨rfl, rfl⟩
theorem IntsAt.len {w : World} {v : Value} {l : List Int} (h : IntsAt w v l) (K : Value → WP) : pur PR (builtinS .len #[30] 0 [v]) K = K (.int .i64 l.length) := by
  rcases h with ⟨rfl, a, cap, rfl⟩ | ⟨b, o, cap, rfl, hr⟩
  · simp
  · simp
def intAt (l : List Int) (i : Nat) : Int := l.getD i 0
def aboveK (pins : List Int) (at' : Int) : Bool := pins.all fun p => p == 0 || decide (at' < p)
def ripeK (s : List (Int × Int)) (n : Nat) (pins : List Int) : Int := firstOf (fun i => (slotK s i).1 == 2 && aboveK pins (slotK s i).2) n

theorem aboveK_true {pins : List Int} {a : Int} (h : ∀ j, j < pins.length → intAt pins j = 0 ∨ a < intAt pins j) : aboveK pins a = true := by
  rw [aboveK, List.all_eq_true]
  intro x hx
  obtain ⟨j, hj, rfl⟩ := List.getElem_of_mem hx
  have := h j hj
  simp only [intAt, List.getD_eq_getElem?_getD, List.getElem?_eq_getElem hj, Option.getD_some] at this
  simpa using this
theorem aboveK_false {pins : List Int} {a : Int} {j : Nat} (hj : j < pins.length) (h0 : intAt pins j ≠ 0) (h1 : intAt pins j ≤ a) : aboveK pins a = false := by
  rw [aboveK, List.all_eq_false]
  refine ⟨pins[j], List.getElem_mem hj, ?_⟩
  simp only [intAt, List.getD_eq_getElem?_getD, List.getElem?_eq_getElem hj, Option.getD_some] at h0 h1
  simp [h0]; omega
def offAt (s : List (Int × Int)) (n k : Nat) : Nat := (ofState s n 2).getD k 0
theorem offAt_mem {s : List (Int × Int)} {n k : Nat} (hk : k < (ofState s n 2).length) : offAt s n k < n ∧ (slotK s (offAt s n k)).1 = 2 := by
  have : offAt s n k ∈ ofState s n 2 := by
    rw [offAt, List.getD_eq_getElem?_getD, List.getElem?_eq_getElem hk]; exact List.getElem_mem hk
  simp only [ofState, List.mem_filter, List.mem_range] at this
  exact ⟨this.1, by simpa using this.2⟩
theorem offAt_of {s : List (Int × Int)} {n i : Nat} (hi : i < n) (h : (slotK s i).1 = 2) : ∃ k, k < (ofState s n 2).length ∧ offAt s n k = i := by
  have := ofState_get h n hi
  exact ⟨_, (List.getElem?_eq_some_iff.1 this).1, by rw [offAt, List.getD_eq_getElem?_getD, this]; rfl⟩
theorem offAt_lt {s : List (Int × Int)} {n j k : Nat} (hj : j < (ofState s n 2).length) (hk : k < (ofState s n 2).length) (h : offAt s n j < offAt s n k) : j < k := by
  have hp : List.Pairwise (· < ·) (ofState s n 2) := List.Pairwise.filter _ List.pairwise_lt_range
  rw [List.pairwise_iff_getElem] at hp
  simp only [offAt, List.getD_eq_getElem?_getD, List.getElem?_eq_getElem hj, List.getElem?_eq_getElem hk, Option.getD_some] at h
  by_cases h1 : j < k
  · exact h1
  · by_cases h2 : j = k
    · subst h2; omega
    · have := hp k j hk hj (by omega); omega
theorem ripe_none {s : List (Int × Int)} {n : Nat} {pins : List Int} (h : ∀ j, j < (ofState s n 2).length → aboveK pins (slotK s (offAt s n j)).2 = false) : ripeK s n pins = -1 := by
  refine firstOf_none fun i hi => ?_
  by_cases h2 : (slotK s i).1 = 2
  · obtain ⟨k, hk, rfl⟩ := offAt_of hi h2
    simp [h k hk]
  · simp [h2]
theorem ripe_some {s : List (Int × Int)} {n : Nat} {pins : List Int} {k : Nat} (hk : k < (ofState s n 2).length) (ha : aboveK pins (slotK s (offAt s n k)).2 = true)
    (h : ∀ j, j < k → aboveK pins (slotK s (offAt s n j)).2 = false) : ripeK s n pins = (offAt s n k : Nat) := by
  obtain ⟨h1, h2⟩ := offAt_mem hk
  refine firstOf_some h1 (by simp [h2, ha]) fun i hi => ?_
  by_cases h3 : (slotK s i).1 = 2
  · obtain ⟨j, hj, rfl⟩ := offAt_of (n := n) (by omega) h3
    simp [h j (offAt_lt hj hk hi)]
  · simp [h3]
theorem IntsAt.pos {w : World} {v : Value} {l : List Int} (h : IntsAt w v l) {i : Nat} (hi : i < l.length) : ∃ b o cap, v = .slice (some ⟨b, o, none⟩) l.length cap ∧ Row w b o (l.map (.int .i64 ·)) := by
  rcases h with ⟨rfl, _⟩ | h
  · simp at hi
  · exact h
theorem Row.ints {w : World} {b o : Nat} {l : List Int} (h : Row w b o (l.map (.int .i64 ·))) {i : Nat} (hi : i < l.length) : w.cell? ⟨b, o + i, none⟩ = some (.int .i64 (intAt l i)) := by
  have := h i (by simpa using hi)
  rw [this]
  simp [intAt, List.getD_eq_getElem?_getD, hi]
theorem Ripe_ok {w : World} {b : Nat} {s : List (Int × Int)} {n : Nat} (h : KeeperAt w b s n) {p : Value} {pins : List Int} (hp : IntsAt w p pins) (hpl : pins.length < 2 ^ 62) :
    Fn PR NoX 16 #[.pointer (some ⟨b, 0, none⟩), p] w (fun v w' => v = .int .i64 (ripeK s n pins) ∧ But [] w w') := by
  refine Fn.ext (mk_epoch_Keeper_Ripe ?_)
  have hpc : p.cells = #[p] := by rcases hp with ⟨_, a, cap, rfl⟩ | ⟨b, o, cap, rfl, _⟩ <;> rfl
  simp (disch := first | omega | (simp; first | done | fail)) [sh_epoch_Keeper_Ripe, hpc, cell_alloc, Nat.add_assoc]
  rw [show sz ((w.alloc (.cells #[.pointer (some ⟨b, 0, none⟩)] 25)).alloc (.cells #[p] 30)) = sz w + 2 from by simp, show sz (w.alloc (.cells #[.pointer (some ⟨b, 0, none⟩)] 25)) = sz w + 1 from by simp]
  refine c_epoch_Keeper_each ?_
  generalize hW : ((w.alloc (.cells #[.pointer (some ⟨b, 0, none⟩)] 25)).alloc (.cells #[p] 30)).alloc (.cells #[.int .i64 0] 3) = W
  have hwW : But [] w W := by subst hW; exact (((But.refl [] _).alloc _).alloc _).alloc _
  have hsz : sz W = sz w + 3 := by subst hW; simp
  have c1 : W.cell? ⟨sz w, 0, none⟩ = some (.pointer (some ⟨b, 0, none⟩)) := by subst hW; simp [cell_alloc, Nat.add_assoc]
  have c2 : W.cell? ⟨sz w + 1, 0, none⟩ = some p := by subst hW; simp [cell_alloc]
  have c3 : bl W (sz w + 2) = some (.cells #[.int .i64 0] 3 (0, 0)) := by subst hW; simp [bl_alloc]
  have hK : KeeperAt W b s n := h.but hwW (by simp)
  have hP : IntsAt W p pins := hp.ext hwW.extNil
  clear hW
  refine (each_ok hK 2).use ?_
  rintro g W1 ⟨hit, hbut⟩ _
  have hW1 : Ext w W1 := (hwW.trans hbut).extNil
  have d1 := hbut.cell c1 (by simp)
  have d2 := hbut.cell c2 (by simp)
  have d3 := hbut.get c3 (by simp)
  have hK := hK.but hbut (by simp)
  have hP := hP.ext hbut.extNil
  have hle := h.le
  have hsz1 : sz w + 3 ≤ sz W1 := by have := hbut.1; omega
  refine rng_It hit (by intro x hx; simp only [List.mem_map] at hx; obtain ⟨i, _, rfl⟩ := hx; rfl)
    (fun k a => Ext W1 a ∧ ∀ j, j < k → aboveK pins (slotK s (offAt s n j)).2 = false)
    (fun c a => c = .ret ∧ Ext w a ∧ ∃ k, k < (ofState s n 2).length ∧ aboveK pins (slotK s (offAt s n k)).2 = true ∧ (∀ j, j < k → aboveK pins (slotK s (offAt s n j)).2 = false)
      ∧ bl a (sz w + 2) = some (.cells #[.int .i64 (offAt s n k : Nat)] 3 (0, 0)))
    ?_ ?_ ?_ ?_ ?_ ?_ ?_
  · intro a ha; exact ⟨ha.ext, by intro j hj; omega⟩
  · intro i a a' ⟨h1, h2⟩ he; exact ⟨h1.trans he.ext, h2⟩
  · rintro c a a' ⟨rfl, h1, k, h2, h3, h4, h5⟩ he; exact ⟨rfl, h1.trans he.ext, k, h2, h3, h4, he.2 _ _ h5⟩
  · intro i a h; exact h.1
  · intro i hi w2 ⟨h1, h2⟩ K' hK1 hK2
    simp only [List.getElem_map, natArg, VF.app]
    intro w3 hleq
    have hE : Ext W1 w3 := h1.trans hleq.ext
    have d1 := hE.cell d1
    have d2 := hE.cell d2
    have d3 := hE.blk d3
    have hK := hK.ext hE
    have hP := hP.ext hE
    have hi' : i < (ofState s n 2).length := by simpa using hi
    obtain ⟨hin, his⟩ := offAt_mem hi'
    have hix : (ofState s n 2)[i]'hi' = offAt s n i := by rw [offAt, List.getD_eq_getElem?_getD, List.getElem?_eq_getElem hi']; rfl
    rw [hix]
    generalize hixe : offAt s n i = ix at *
    simp (disch := first | omega | (simp; first | done | fail)) [d2, hP.len]
    refine lpI pins.length (fun k a => a = w3 ∧ ∀ j, j < k → intAt pins j = 0 ∨ (slotK s ix).2 < intAt pins j) ⟨rfl, by intro j hj; omega⟩ ?_
    rintro k a hk ⟨rfl, hall⟩ L hL
    by_cases hlt : k < pins.length
    · obtain ⟨pb, po, cap, rfl, hr⟩ := hP.pos hlt
      have hv := hr.ints hlt
      obtain ⟨_, hs2⟩ := hK.slot (i := ix) (by omega)
      have hkc : (k : Int) < 2 ^ 62 := by omega
      have hall' : (intAt pins k = 0 ∨ (slotK s ix).2 < intAt pins k) → ∀ j, j < k + 1 → intAt pins j = 0 ∨ (slotK s ix).2 < intAt pins j := by
        intro h j hj
        by_cases hjk : j = k
        · subst hjk; exact h
        · exact hall j (by omega)
      by_cases hz : intAt pins k = 0
      · simp (disch := first | omega | (simp; first | done | fail)) [hlt, hv, hz]
        exact hL hlt _ ⟨rfl, hall' (Or.inl hz)⟩
      · by_cases hle2 : intAt pins k ≤ (slotK s ix).2
        · simp (disch := first | omega | (simp; first | done | fail)) [hlt, hv, hz, d1, hs2, hle2]
          refine hK1 _ fun w4 hw4 => ⟨hE.trans hw4.ext, fun j hj => ?_⟩
          by_cases hji : j = i
          · subst hji; rw [hixe]; exact aboveK_false hlt hz hle2
          · exact h2 j (by omega)
        · simp (disch := first | omega | (simp; first | done | fail)) [hlt, hv, hz, d1, hs2, hle2]
          exact hL hlt _ ⟨rfl, hall' (Or.inr (by omega))⟩
    · have : k = pins.length := by omega
      subst this
      simp (disch := first | omega | (simp; first | done | fail)) [d3]
      refine hK2 _ _ fun w4 hw4 => ⟨rfl, ((hW1.trans hE).putb _ (by omega)).trans hw4.ext, i, hi', ?_, h2, ?_⟩
      · rw [hixe]; exact aboveK_true hall
      · rw [hixe]
        exact hw4.ext.blk (bl_putb_same (bl_lt d3))
  · intro w' ⟨h1, h2⟩ w'' hleq
    simp only [List.length_map] at h2
    have hr := ripe_none h2
    have hE : Ext W1 w'' := h1.trans hleq.ext
    have d3 := hE.blk d3
    simp (disch := first | omega | (simp; first | done | fail)) [d3]
    intro w4 hw4
    have hc := hw4.extD.cell (r := sz w + 2) (o := 0) (v := .int .i64 (-1)) (by rw [cell_of (bl_putb_same (bl_lt d3))]; rfl)
    rw [i_fin_3, hc]
    simp
    exact ⟨hr.symm, ((hW1.trans hE).putb _ (by omega)).extD.trans hw4.extD⟩
  · rintro c w' ⟨rfl, h1, k, h2, h3, h4, h5⟩ w'' hleq
    have hr := ripe_some h2 h3 h4
    intro w4 hw4
    have hE : ExtD w' w4 := hleq.ext.extD.trans hw4.extD
    have hc : w4.cell? ⟨sz w + 2, 0, none⟩ = some (.int .i64 (offAt s n k : Nat)) := hE.cell (by rw [cell_of h5]; rfl)
    rw [i_fin_3, hc]
    simp
    exact ⟨hr.symm, h1.extD.trans hE⟩
end Go.Proofs.Ytcgiobkfgnclcaa
