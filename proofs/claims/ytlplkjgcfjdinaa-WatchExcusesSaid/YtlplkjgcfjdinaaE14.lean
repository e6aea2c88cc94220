/- The proof of a given statement, a part of it (Ord Flows Flows2 Stab Stab2 WitL Stab3 Wit WatA Sweep Wat WatB WatC WatD WatE WatF WatG ShR21 ShR22 Few22 L23 EqA Works23 ExcW). No condition but what each lemma says. -/
import Derived.Sort.Grow
import Derived.Deep.Draws
import Derived.Test.YtlplkjgcfjdinaaE13
set_option linter.unusedVariables false
set_option linter.unusedSimpArgs false
namespace Go.Proofs.Ytlplkjgcfjdinaa
open Go
theorem A5v (w : World) (a : Int) : Fn PR C5 40 #[.int .i64 a] w (fun v w' => v = .bool false ∧ w' = w) := by
 refine A4L ?_
 unfold y7
 simp
def Q8 (a b : Int) : Int := if a < b then -1 else if b < a then 1 else 0
theorem B13 (w : World) (a b : Int) : Fn PR C5 23 #[.int .i64 a, .int .i64 b] w (fun v w' => v = .int .i64 (Q8 a b) ∧ w' = w) := by
 refine A2d ?_
 unfold r6
 refine A0u ((A5v w a).use ?_)
 rintro _ _ ⟨rfl, rfl⟩ _
 refine A0u ((A5v _ b).use ?_)
 rintro _ _ ⟨rfl, rfl⟩ _
 by_cases c1 : a < b
 ·simp [c1, Q8]
 by_cases c2 : b < a
 ·simp [c1, c2, Q8]
 ·simp [c1, c2, Q8]
def Gr (w w' : World) : Prop := ∃ q os, w' = Sort.grow (w.drewN q) os
theorem Gr.refl (w : World) : Gr w w := ⟨0, #[], by simp [Sort.grow]; rfl⟩
theorem Gr.alloc {w w' : World} (h : Gr w w') (o : Obj) : Gr w (w'.alloc o) := by
 obtain ⟨q, os, rfl⟩ := h
 exact ⟨q, os ++ #[o], by rw [Sort.alloc_eq_grow, Sort.grow_grow]⟩
theorem Gr.drew {w w' : World} (h : Gr w w') : Gr w w'.drew := by
 obtain ⟨q, os, rfl⟩ := h
 exact ⟨q + 1, os, rfl⟩
end Go.Proofs.Ytlplkjgcfjdinaa
namespace Go.Proofs.Ytlplkjgcfjdinaa
open Go
end Go.Proofs.Ytlplkjgcfjdinaa
namespace Go.Proofs.Ytlplkjgcfjdinaa
open Go
theorem A0k {κ : Bool} {S : List Nat} {w0 : World} {H : List Res} {K0 : WP} {e : TypeId} {k : Nat} {v : Value} {q : Nat} {xs : List Value} (hm : Res.own e k v q xs ∈ H) (h : ∀ a c, v = .slice a q c → TW κ S w0 H K0) : TW κ S w0 H K0 := fun w hw => by
 obtain ⟨a, c, rfl⟩ := L0.form (hw.hold _ hm); exact h a c rfl w hw
end Go.Proofs.Ytlplkjgcfjdinaa
namespace Go.Proofs.Ytlplkjgcfjdinaa
open Go
def G5 (l : List Nat) : List Value := l.map fun n : Nat => .int .i64 (n : Int)
theorem A6u (l : List Nat) : (G5 l).length = l.length := by simp [G5]
theorem B2C {l : List Nat} {x : Nat} (h : x < l.length) : (G5 l)[x]? = some (.int .i64 (l.getD x 0 : Nat)) := by
 unfold G5
 rw [List.getElem?_map, List.getElem?_eq_getElem h, List.getD_eq_getElem?_getD, List.getElem?_eq_getElem h]; rfl
theorem B2d {l : List Nat} {x y : Nat} (h : x < l.length) : A19 (G5 l) x [.int .i64 (y : Int)] = G5 (l.set x y) := by
 rw [A7a (by rw [A6u]; exact h), G5, G5, List.map_set]
def ix (l : List Nat) (i : Nat) : Nat := l.getD i 0
theorem K6 {l : List Nat} {x : Nat} (h : x < l.length) : (G5 l)[x]? = some (.int .i64 (ix l x : Nat)) := B2C h
theorem A2B (l : List Nat) (i j : Nat) : A0d l i j = (l.set i (ix l j)).set j (ix l i) := rfl
abbrev OI (g q c : Nat) (l : List Nat) : Res := .own 3 1 (.slice (some ⟨g, 0, none⟩) q c) q (G5 l)
theorem g4 {κ : Bool} {S : List Nat} {w0 : World} {Hr : List Res} {K0 : WP} {g q c x y : Nat} {l : List Nat} (hx : x < l.length) (hK : TW κ S w0 (OI g q c (l.set x y) :: Hr) K0) :
  TW κ S w0 (OI g q c l :: Hr) (C7 PR C5 (Instr.storeAt 3 (.pointer (some ⟨g, x, none⟩)) (.int .i64 (y : Int))) K0) := by
 have ev : (Value.int IntKind.i64 (y : Int)).cells.toList = [.int .i64 (y : Int)] := rfl
 have e := B2d (l := l) (x := x) (y := y) hx
 rw [← ev] at e
 exact A7q (n := 1) (e := 3) (k := 1) (q := q) (c := c) (xs := G5 l) Up.here rfl (by rw [A6u]; exact hx) rfl (by rw [e]; exact hK)
theorem y4 (w : World) (g c : Nat) (l : List Nat) (x y n : Nat) (F : Value) (h1 : x + n ≤ y) (h2 : y + n ≤ l.length) (hl : l.length ≤ 1000) (hw : LW false (B7 [OI g l.length c l]) w [OI g l.length c l] w) :
  Fn PR C5 73 #[.slice (some ⟨g, 0, none⟩) l.length c, .int .i64 (x : Int), .int .i64 (y : Int), .int .i64 (n : Int), F] w (Rn (B7 [OI g l.length c l]) w (fun (_ : Unit) u => u = .tuple #[]) fun _ => [OI g l.length c (S5 l x y n)]) := by
 refine l0 (TW.goH (κ := false) (S := B7 [OI g l.length c l]) ?_ hw)
 unfold P8
 generalize hS : B7 [OI g l.length c l] = S
 refine A8j n (fun i (_ : Unit) => [OI g l.length c (S5 l x y i)]) (fun _ _ => True) () trivial ?_
 rintro i _ hi _ L hL
 by_cases hlt : i < n
 ·have e := W1 l x y i
  have g1 := K6 (l := S5 l x y i) (x := x + i) (by omega)
  have g2 := K6 (l := S5 l x y i) (x := y + i) (by omega)
  have h := hL hlt () trivial
  rw [S5, A2B] at h
  generalize S5 l x y i = m at *
  have hx1 : ((x : Int) + i).toNat = x + i := by omega
  have hy1 : ((y : Int) + i).toNat = y + i := by omega
  (have zz:=trivial;repeat((first|clear zz|with_reducible first|refine A3 ?_|refine A5 fun _=>?_|refine A4 fun _=>?_);try simp(disch:=first|omega|assumption|((repeat(first|exact A1|exact uH|apply A2|apply uT));first|done|fail)|(simp;first|done|omega|fail))[hlt, hx1, hy1, g1, g2]))
  refine g4 (y := ix m (y + i)) (by omega) ?_
  (have zz:=trivial;repeat((first|clear zz|with_reducible first|refine A3 ?_|refine A5 fun _=>?_|refine A4 fun _=>?_);try simp(disch:=first|omega|assumption|((repeat(first|exact A1|exact uH|apply A2|apply uT));first|done|fail)|(simp;first|done|omega|fail))[hlt, hx1, hy1]))
  refine g4 (y := ix m (x + i)) (by simp; omega) ?_
  (have zz:=trivial;repeat((first|clear zz|with_reducible first|refine A3 ?_|refine A5 fun _=>?_|refine A4 fun _=>?_);try simp(disch:=first|omega|assumption|((repeat(first|exact A1|exact uH|apply A2|apply uT));first|done|fail)|(simp;first|done|omega|fail))[]))
  exact h
 ·obtain rfl : i = n := by omega
  (have zz:=trivial;repeat((first|clear zz|with_reducible first|refine A3 ?_|refine A5 fun _=>?_|refine A4 fun _=>?_);try simp(disch:=first|omega|assumption|((repeat(first|exact A1|exact uH|apply A2|apply uT));first|done|fail)|(simp;first|done|omega|fail))[]))
  exact G9 () rfl (by (repeat' constructor))
theorem A95 (w : World) (g c : Nat) (l : List Nat) (a m b : Nat) (F : Value) (h1 : a < m) (h2 : m < b) (h3 : b ≤ l.length) (hl : l.length ≤ 1000) (hw : LW false (B7 [OI g l.length c l]) w [OI g l.length c l] w) :
  Fn PR C5 62 #[.slice (some ⟨g, 0, none⟩) l.length c, .int .i64 (a : Int), .int .i64 (m : Int), .int .i64 (b : Int), F] w (Rn (B7 [OI g l.length c l]) w (fun (_ : Unit) u => u = .tuple #[]) fun _ => [OI g l.length c (F9 l a m b)]) := by
 refine r8 (TW.goH (κ := false) (S := B7 [OI g l.length c l]) ?_ hw)
 unfold U0
 generalize hS : B7 [OI g l.length c l] = S
 have e1 : ((m : Int) - a) = ((m - a : Nat) : Int) := by omega
 have e2 : ((b : Int) - m) = ((b - m : Nat) : Int) := by omega
 (have zz:=trivial;repeat((first|clear zz|with_reducible first|refine A3 ?_|refine A5 fun _=>?_|refine A4 fun _=>?_);try simp(disch:=first|omega|assumption|((repeat(first|exact A1|exact uH|apply A2|apply uT));first|done|fail)|(simp;first|done|omega|fail))[]))
 rw [e1, e2]
 refine w8 (fun z : Nat × Nat × List Nat => [OI g l.length c z.2.2]) (fun z => 0 < z.1 ∧ 0 < z.2.1 ∧ z.1 ≤ m ∧ m + z.2.1 ≤ l.length ∧ z.2.2.length = l.length ∧ F9 z.2.2 (m - z.1) m (m + z.2.1) = F9 l a m b) (fun z => z.1 + z.2.1) (m - a, b - m, l) (fun z => .int .i64 (z.1 : Nat)) (fun z => .int .i64 (z.2.1 : Nat)) ⟨by simp only; omega, by simp only; omega, by simp only; omega, by simp only; omega, rfl, by simp only; congr 1 <;> omega⟩ ?_
 rintro ⟨i, j, p⟩ ⟨i0, j0, i1, i2, hp, hr⟩ L hL
 simp only at i0 j0 i1 i2 hp hr hL ⊢
 rw [← hp] at i2 hl
 have eA : ((m : Int) - i) = ((m - i : Nat) : Int) := by omega
 by_cases c1 : i = j
 ·subst c1
  (have zz:=trivial;repeat((first|clear zz|with_reducible first|refine A3 ?_|refine A5 fun _=>?_|refine A4 fun _=>?_);try simp(disch:=first|omega|assumption|((repeat(first|exact A1|exact uH|apply A2|apply uT));first|done|fail)|(simp;first|done|omega|fail))[]))
  rw [eA, ← hp]
  refine F5 (Hc := [OI g p.length c p]) H3 (fun w' hw hs => y4 w' g c p (m - i) m i F (by omega) (by omega) hl hs) (by (repeat' constructor)) ?_
  rintro _ _ rfl
  rw [B4A i1 i2, hr]
  (have zz:=trivial;repeat((first|clear zz|with_reducible first|refine A3 ?_|refine A5 fun _=>?_|refine A4 fun _=>?_);try simp(disch:=first|omega|assumption|((repeat(first|exact A1|exact uH|apply A2|apply uT));first|done|fail)|(simp;first|done|omega|fail))[]))
  exact G9 () rfl (by (repeat' constructor))
 have c1' : ¬ (i : Int) = (j : Int) := by omega
 by_cases c2 : j < i
 ·have c2' : (j : Int) < i := by omega
  have eB : ((i : Int) - j) = ((i - j : Nat) : Int) := by omega
  have h := hL (i - j, j, S5 p (m - i) m j) ⟨by simp only; omega, j0, by simp only; omega, by simp only; omega, by simp only; rw [W1, hp], by simp only; rw [← hr, ← B4P i1 c2 i2]; congr 1; omega⟩ (by simp only; omega)
  (have zz:=trivial;repeat((first|clear zz|with_reducible first|refine A3 ?_|refine A5 fun _=>?_|refine A4 fun _=>?_);try simp(disch:=first|omega|assumption|((repeat(first|exact A1|exact uH|apply A2|apply uT));first|done|fail)|(simp;first|done|omega|fail))[c1, c1', c2, c2']))
  rw [eA, ← hp]
  refine F5 (Hc := [OI g p.length c p]) H3 (fun w' hw hs => y4 w' g c p (m - i) m j F (by omega) (by omega) hl hs) (by (repeat' constructor)) ?_
  rintro _ _ rfl
  (have zz:=trivial;repeat((first|clear zz|with_reducible first|refine A3 ?_|refine A5 fun _=>?_|refine A4 fun _=>?_);try simp(disch:=first|omega|assumption|((repeat(first|exact A1|exact uH|apply A2|apply uT));first|done|fail)|(simp;first|done|omega|fail))[]))
  rw [eB, hp]
  exact h
 ·have c2' : ¬ (j : Int) < i := by omega
  have eB : ((j : Int) - i) = ((j - i : Nat) : Int) := by omega
  have eC : ((m : Int) + j - i) = ((m + j - i : Nat) : Int) := by omega
  have h := hL (i, j - i, S5 p (m - i) (m + j - i) i) ⟨i0, by simp only; omega, i1, by simp only; omega, by simp only; rw [W1, hp], by simp only; rw [← hr, ← B4W i1 (by omega) i2]; congr 1; omega⟩ (by simp only; omega)
  (have zz:=trivial;repeat((first|clear zz|with_reducible first|refine A3 ?_|refine A5 fun _=>?_|refine A4 fun _=>?_);try simp(disch:=first|omega|assumption|((repeat(first|exact A1|exact uH|apply A2|apply uT));first|done|fail)|(simp;first|done|omega|fail))[c1, c1', c2, c2']))
  rw [eA, eC, ← hp]
  refine F5 (Hc := [OI g p.length c p]) H3 (fun w' hw hs => y4 w' g c p (m - i) (m + j - i) i F (by omega) (by omega) hl hs) (by (repeat' constructor)) ?_
  rintro _ _ rfl
  (have zz:=trivial;repeat((first|clear zz|with_reducible first|refine A3 ?_|refine A5 fun _=>?_|refine A4 fun _=>?_);try simp(disch:=first|omega|assumption|((repeat(first|exact A1|exact uH|apply A2|apply uT));first|done|fail)|(simp;first|done|omega|fail))[]))
  rw [eB, hp]
  exact h
theorem A1j (a b : Int) : Q8 a b < 0 ↔ a < b := by
 unfold Q8; repeat' split
 all_goals omega
abbrev A5Q (b : Nat) : Value := .func (.func 22) #[] #[.pointer (some ⟨b, 0, none⟩)]
abbrev A3w (w : World) (S : List Nat) (bw : Nat) (key : Nat → Int) (l : List Nat) : Prop := ∀ w', KS false S w w' → ∀ x y, x ∈ l → y ∈ l →
 Fn PR C5 22 #[.int .i64 (x : Int), .int .i64 (y : Int), .pointer (some ⟨bw, 0, none⟩)] w' (fun v w'' => v = .int .i64 (Q8 (key x) (key y)) ∧ B6 [] w' w'')
theorem A4m {l : List Nat} {i : Nat} (h : i < l.length) : ix l i ∈ l := by
 unfold ix; rw [List.getD_eq_getElem?_getD, List.getElem?_eq_getElem h]; exact List.getElem_mem h
theorem A4j (w : World) (g c : Nat) (l : List Nat) (a b bw : Nat) (key : Nat → Int) (hc : A3w w (B7 [OI g l.length c l]) bw key l) (hI : Inc l a b) (hab : a ≤ b) (hb : b ≤ l.length) (hl : l.length ≤ 1000) (hw : LW false (B7 [OI g l.length c l]) w [OI g l.length c l] w) :
  Fn PR C5 54 #[.slice (some ⟨g, 0, none⟩) l.length c, .int .i64 (a : Int), .int .i64 (b : Int), A5Q bw] w (Rn (B7 [OI g l.length c l]) w (fun (l' : List Nat) u => u = .tuple #[] ∧ E7 key l' a b ∧ Mix l a b l') fun l' => [OI g l.length c l']) := by
 refine N0 (TW.goH (κ := false) (S := B7 [OI g l.length c l]) ?_ hw)
 unfold G2
 generalize hS : B7 [OI g l.length c l] = S at *
 (have zz:=trivial;repeat((first|clear zz|with_reducible first|refine A3 ?_|refine A5 fun _=>?_|refine A4 fun _=>?_);try simp(disch:=first|omega|assumption|((repeat(first|exact A1|exact uH|apply A2|apply uT));first|done|fail)|(simp;first|done|omega|fail))[]))
 refine A13 (fun z : Nat × List Nat => [OI g l.length c z.2]) (fun z => a + 1 ≤ z.1 ∧ (z.1 ≤ b ∨ z.1 = a + 1 ∧ z.2 = l) ∧ E7 key z.2 a z.1 ∧ Mix l a z.1 z.2) (fun z => b - z.1) (a + 1, l) (fun z => .int .i64 (z.1 : Nat)) ⟨Nat.le_refl _, Or.inr ⟨rfl, rfl⟩, fun i j _ _ _ => by simp only at *; omega, Mix.refl ..⟩ ?_
 rintro ⟨i, p⟩ ⟨i0, i1, hs, hm⟩ L hL
 simp only at i0 i1 hs hm hL ⊢
 by_cases c0 : i < b
 case neg =>
  have c0' : ¬ (i : Int) < b := by omega
  (have zz:=trivial;repeat((first|clear zz|with_reducible first|refine A3 ?_|refine A5 fun _=>?_|refine A4 fun _=>?_);try simp(disch:=first|omega|assumption|((repeat(first|exact A1|exact uH|apply A2|apply uT));first|done|fail)|(simp;first|done|omega|fail))[c0, c0']))
  refine G9 p ⟨rfl, ?_⟩ (by (repeat' constructor))
  rcases i1 with h | ⟨h, rfl⟩
  ·obtain rfl : i = b := by omega
   exact ⟨hs, hm⟩
  ·by_cases hib : i = b
   ·subst hib; exact ⟨hs, hm⟩
   ·exact ⟨fun x y _ _ _ => by omega, Mix.refl ..⟩
 have hpl := hm.len
 have hmem : ∀ x, x < p.length → ix p x ∈ l := fun x hx => hm.perm.mem_iff.1 (A4m hx)
 (have zz:=trivial;repeat((first|clear zz|with_reducible first|refine A3 ?_|refine A5 fun _=>?_|refine A4 fun _=>?_);try simp(disch:=first|omega|assumption|((repeat(first|exact A1|exact uH|apply A2|apply uT));first|done|fail)|(simp;first|done|omega|fail))[c0]))
 have hex : ∀ n, n ≤ i - a → (0 < n → key (ix p i) < key (ix p (i - n))) → (a < i - n → ¬ key (ix p i) < key (ix p (i - n - 1))) → TW false S w [OI g l.length c (H0 p i n)] (L (.int .i64 ((i : Int) + 1))) := fun n n1 n2 n3 => by
  have h := A51 (key := key) (l := p) (a := a) (s := i - n) (m := i) (by omega) (by omega) (by omega) hs (hI.st hm c0) n3 (fun hh => n2 (by omega))
  rw [← A5z (by omega) (by omega)] at h
  exact hL (i + 1, H0 p i n) ⟨by simp only; omega, Or.inl (by simp only; omega), h.1, (hm.wide (Nat.le_refl _) (by omega)).trans h.2⟩ (by simp only; omega)
 refine A13 (fun n : Nat => [OI g l.length c (H0 p i n)]) (fun n => n ≤ i - a ∧ (0 < n → key (ix p i) < key (ix p (i - n)))) (fun n => i - n) 0 (fun n => .int .i64 ((i - n : Nat) : Int)) ⟨Nat.zero_le _, fun h => by omega⟩ ?_
 rintro n ⟨n1, n2⟩ L3 hL3
 have hq := A0W p i n
 have hlen : l.length = (H0 p i n).length := by omega
 obtain ⟨j, hj⟩ : ∃ j, j = i - n := ⟨_, rfl⟩
 rw [← hj] at n2 ⊢
 by_cases c1 : a < j
 case neg =>
  have c1' : ¬ (a : Int) < j := by omega
  (have zz:=trivial;repeat((first|clear zz|with_reducible first|refine A3 ?_|refine A5 fun _=>?_|refine A4 fun _=>?_);try simp(disch:=first|omega|assumption|((repeat(first|exact A1|exact uH|apply A2|apply uT));first|done|fail)|(simp;first|done|omega|fail))[c1, c1']))
  exact hex n n1 (by rw [← hj]; exact n2) (fun h => by omega)
 have c1' : (a : Int) < j := by omega
 have ej : ((j : Int) - 1) = ((j - 1 : Nat) : Int) := by omega
 have v1 : ix (H0 p i n) j = ix p i := by unfold ix; rw [A27 (by omega) (by omega), if_pos hj]
 have v2 : ix (H0 p i n) (j - 1) = ix p (j - 1) := by unfold ix; rw [A27 (by omega) (by omega), if_neg (by omega), if_neg (by omega)]
 have g1 := K6 (l := H0 p i n) (x := j) (by omega)
 have g2 := K6 (l := H0 p i n) (x := j - 1) (by omega)
 rw [v1] at g1
 rw [v2] at g2
 have hnext : H0 p i (n + 1) = (((H0 p i n).set j (ix p (j - 1))).set (j - 1) (ix p i)) := by
  rw [H0, ← hj, A2B, v1, v2]
 have hdl : (H0 p i n).length = l.length := by omega
 have hL3' := hL3 (n + 1)
 rw [hnext] at hL3'
 have hexn := hex n n1 (by rw [← hj]; exact n2)
 rw [← hj] at hexn
 have hij : i - (n + 1) = j - 1 := by omega
 have hlt0 : i - (n + 1) < i - n := by omega
 rw [hij] at hL3'
 generalize H0 p i n = q at *
 (have zz:=trivial;repeat((first|clear zz|with_reducible first|refine A3 ?_|refine A5 fun _=>?_|refine A4 fun _=>?_);try simp(disch:=first|omega|assumption|((repeat(first|exact A1|exact uH|apply A2|apply uT));first|done|fail)|(simp;first|done|omega|fail))[c1, c1', ej, g1, g2]))
 refine C8 N2 (fun w' hw' => hc w' hw'.ks _ _ (hmem i (by omega)) (hmem (j - 1) (by omega))) ?_
 have hcm := A1j (key (ix p i)) (key (ix p (j - 1)))
 by_cases c2 : key (ix p i) < key (ix p (j - 1))
 ·have c2' := hcm.2 c2
  generalize Q8 (key (ix p i)) (key (ix p (j - 1))) = z at *
  (have zz:=trivial;repeat((first|clear zz|with_reducible first|refine A3 ?_|refine A5 fun _=>?_|refine A4 fun _=>?_);try simp(disch:=first|omega|assumption|((repeat(first|exact A1|exact uH|apply A2|apply uT));first|done|fail)|(simp;first|done|omega|fail))[c1, c1', c2', ej, g1, g2]))
  refine g4 (y := ix p (j - 1)) (by omega) ?_
  (have zz:=trivial;repeat((first|clear zz|with_reducible first|refine A3 ?_|refine A5 fun _=>?_|refine A4 fun _=>?_);try simp(disch:=first|omega|assumption|((repeat(first|exact A1|exact uH|apply A2|apply uT));first|done|fail)|(simp;first|done|omega|fail))[c1, c1', ej]))
  refine g4 (y := ix p i) (by simp; omega) ?_
  (have zz:=trivial;repeat((first|clear zz|with_reducible first|refine A3 ?_|refine A5 fun _=>?_|refine A4 fun _=>?_);try simp(disch:=first|omega|assumption|((repeat(first|exact A1|exact uH|apply A2|apply uT));first|done|fail)|(simp;first|done|omega|fail))[ej]))
  exact hL3' ⟨by omega, fun _ => c2⟩ (by omega)
 ·have c2' : ¬ Q8 (key (ix p i)) (key (ix p (j - 1))) < 0 := fun h => c2 (hcm.1 h)
  generalize Q8 (key (ix p i)) (key (ix p (j - 1))) = z at *
  (have zz:=trivial;repeat((first|clear zz|with_reducible first|refine A3 ?_|refine A5 fun _=>?_|refine A4 fun _=>?_);try simp(disch:=first|omega|assumption|((repeat(first|exact A1|exact uH|apply A2|apply uT));first|done|fail)|(simp;first|done|omega|fail))[c1, c1', c2']))
  exact hexn fun _ => c2
end Go.Proofs.Ytlplkjgcfjdinaa
namespace Go.Proofs.Ytlplkjgcfjdinaa
open Go
theorem A0r (i j : Nat) : ((i : Int) + j).fdiv (2 ^ min 1 IntKind.u64.bits) = (((i + j) / 2 : Nat) : Int) := by
 rw [show (2 : Int) ^ min 1 IntKind.u64.bits = 2 from rfl, Int.fdiv_eq_ediv_of_nonneg _ (by omega)]; omega
abbrev B4L (g bw : Nat) (key : Nat → Int) (w : World) (c : Nat) (l : List Nat) (a m b : Nat) : Prop :=
 A3w w (B7 [OI g l.length c l]) bw key l → E7 key l a m → E7 key l m b → St key l a m b → LW false (B7 [OI g l.length c l]) w [OI g l.length c l] w →
  Fn PR C5 55 #[.slice (some ⟨g, 0, none⟩) l.length c, .int .i64 (a : Int), .int .i64 (m : Int), .int .i64 (b : Int), A5Q bw] w
   (Rn (B7 [OI g l.length c l]) w (fun (l' : List Nat) u => u = .tuple #[] ∧ E7 key l' a b ∧ Mix l a b l') fun l' => [OI g l.length c l'])
abbrev B7k (g bw : Nat) (key : Nat → Int) (k : Nat) : Prop := ∀ (w : World) (c : Nat) (l : List Nat) (a m b : Nat), b - a ≤ k → a < m → m < b → b ≤ l.length → l.length ≤ 1000 → B4L g bw key w c l a m b
theorem B00 {κ : Bool} {S : List Nat} {w0 : World} {H : List Res} {F : WP} {A : WP → WP} {α : Type} (φ : α → Prop) (Hj : α → List Res) (hF : ∀ x, φ x → TW κ S w0 (Hj x) F) (hA : ∀ J : WP, (∀ x, φ x → TW κ S w0 (Hj x) J) → TW κ S w0 H (A J)) : TW κ S w0 H (jn (n := 0) F A) := hA F hF
theorem B5f {κ : Bool} {S : List Nat} {w0 : World} {H : List Res} {P : Prop} [Decidable P] {A : Value → Value → WP} {a1 a2 b1 b2 s r : Value} (h1 : P → a1 = s ∧ a2 = r) (h2 : ¬ P → b1 = s ∧ b2 = r) (h : TW κ S w0 H (A s r)) : if P then TW κ S w0 H (A a1 a2) else TW κ S w0 H (A b1 b2) := by
 split
 ·rename_i hp; rw [(h1 hp).1, (h1 hp).2]; exact h
 ·rename_i hp; rw [(h2 hp).1, (h2 hp).2]; exact h
theorem B3E {l : List Nat} {s m e : Nat} (h1 : s ≤ m) (h2 : m ≤ e) (h3 : e ≤ l.length) (h : ¬ (s < m ∧ m < e)) : F9 l s m e = l := by
 apply A3z
 ·rw [U4 h1 h2 h3]
 intro t ht
 rw [K8 h1 h2 h3]
 congr 1; unfold T7; repeat' split
 all_goals omega
set_option maxHeartbeats 2000000 in
theorem B0z (g bw : Nat) (key : Nat → Int) (k : Nat) (ih : B7k g bw key k) (w : World) (c : Nat) (l : List Nat) (a m b : Nat) (hk : b - a ≤ k + 1) (ham : a + 1 < m) (hmb : m + 1 < b) (hbl : b ≤ l.length) (hl : l.length ≤ 1000) : B4L g bw key w c l a m b := by
 intro hc hS1 hS2 hSt hw
 refine S2 (TW.goH (κ := false) (S := B7 [OI g l.length c l]) ?_ hw)
 unfold K3
 generalize hS : B7 [OI g l.length c l] = S at *
 have hmem : ∀ x, x < l.length → ix l x ∈ l := fun x hx => A4m hx
 have c1' : ¬ (m : Int) - a = 1 := by omega
 have c5' : ¬ (b : Int) - m = 1 := by omega
 obtain ⟨md, hmd⟩ : ∃ md, md = (a + b) / 2 := ⟨_, rfl⟩
 have eh := A0r a b
 rw [← hmd] at eh
 obtain ⟨s0, hs0⟩ : ∃ s0 : Nat, s0 = if md < m then md + m - b else a := ⟨_, rfl⟩
 obtain ⟨r0, hr0⟩ : ∃ r0 : Nat, r0 = if md < m then md else m := ⟨_, rfl⟩
 obtain ⟨q, hq⟩ : ∃ q : Nat, q = md + m - 1 := ⟨_, rfl⟩
 have w1 : IntKind.i64.wrap ((md : Int) + m - 1) = (q : Nat) := by rw [V1 (by omega) (by omega)]; omega
 have w2 : IntKind.i64.wrap ((md : Int) + m) = ((md + m : Nat) : Int) := by rw [V1 (by omega) (by omega)]; omega
 have w3 : IntKind.i64.wrap (md : Int) = (md : Nat) := V1 (by omega) (by omega)
 have hs1 : md < m → s0 = md + m - b ∧ r0 = md := fun h => by rw [hs0, hr0, if_pos h, if_pos h]; exact ⟨rfl, rfl⟩
 have hs2 : ¬ md < m → s0 = a ∧ r0 = m := fun h => by rw [hs0, hr0, if_neg h, if_neg h]; exact ⟨rfl, rfl⟩
 clear hs0 hr0
 (have zz:=trivial;repeat((first|clear zz|with_reducible first|refine A3 ?_|refine A5 fun _=>?_|refine A4 fun _=>?_);try simp(disch:=first|omega|assumption|((repeat(first|exact A1|exact uH|apply A2|apply uT));first|done|fail)|(simp;first|done|omega|fail))[c1', c5', eh]))
 refine B5f (s := .int .i64 (s0 : Nat)) (r := .int .i64 (r0 : Nat)) (fun h => ?_) (fun h => ?_) ?_
 ·have := hs1 h
  refine ⟨?_, ?_⟩
  ·congr 1; omega
  ·congr 1; omega
 ·have := hs2 h
  refine ⟨?_, ?_⟩
  ·congr 1; omega
  ·congr 1; omega
 rw [w1, w2, w3]
 have hsr : s0 ≤ r0 ∧ a ≤ s0 ∧ r0 ≤ m ∧ r0 ≤ md ∧ md + m - s0 ≤ b := by
  by_cases h : md < m
  ·have := hs1 h; omega
  ·have := hs2 h; omega
 obtain ⟨z1, z2, z3, z4, z5⟩ := hsr
 refine w8 (fun _ : Nat × Nat => [OI g l.length c l]) (fun z => s0 ≤ z.1 ∧ z.1 ≤ z.2 ∧ z.2 ≤ r0 ∧ (s0 < z.1 → ¬ key (ix l (q - (z.1 - 1))) < key (ix l (z.1 - 1))) ∧ (z.2 < r0 → key (ix l (q - z.2)) < key (ix l z.2))) (fun z => z.2 - z.1) (s0, r0) (fun z => .int .i64 (z.1 : Nat)) (fun z => .int .i64 (z.2 : Nat)) ⟨Nat.le_refl _, by simp only; omega, Nat.le_refl _, fun h => by simp only at h; omega, fun h => by simp only at h; omega⟩ ?_
 rintro ⟨i, j⟩ ⟨i1, i2, i3, p1, p2⟩ L hL
 simp only at i1 i2 i3 p1 p2 hL ⊢
 by_cases c2 : i < j
 ·have eh2 := A0r i j
  obtain ⟨h, hh⟩ : ∃ h, h = (i + j) / 2 := ⟨_, rfl⟩
  rw [← hh] at eh2
  have h1 : i ≤ h := by omega
  have h2 : h < j := by omega
  have eq1 : ((q : Int) - h) = ((q - h : Nat) : Int) := by omega
  have g1 := K6 (l := l) (x := q - h) (by omega)
  have g2 := K6 (l := l) (x := h) (by omega)
  have hcm := A1j (key (ix l (q - h))) (key (ix l h))
  have hL1 := hL (h + 1, j)
  have hL2 := hL (i, h)
  simp only at hL1 hL2
  clear hL hh hs1 hs2
  have hqh : q - h < l.length := by omega
  (have zz:=trivial;repeat((first|clear zz|with_reducible first|refine A3 ?_|refine A5 fun _=>?_|refine A4 fun _=>?_);try simp(disch:=first|omega|assumption|((repeat(first|exact A1|exact uH|apply A2|apply uT));first|done|fail)|(simp;first|done|omega|fail))[c2, eh2, eq1, g1, g2]))
  refine C8 N2 (fun w' hw' => hc w' hw'.ks _ _ (hmem (q - h) (by omega)) (hmem h (by omega))) ?_
  by_cases c3 : key (ix l (q - h)) < key (ix l h)
  ·have c3' := hcm.2 c3
   generalize Q8 (key (ix l (q - h))) (key (ix l h)) = z at *
   (have zz:=trivial;repeat((first|clear zz|with_reducible first|refine A3 ?_|refine A5 fun _=>?_|refine A4 fun _=>?_);try simp(disch:=first|omega|assumption|((repeat(first|exact A1|exact uH|apply A2|apply uT));first|done|fail)|(simp;first|done|omega|fail))[c3']))
   exact hL2 ⟨i1, h1, by omega, p1, fun _ => c3⟩ (by omega)
  ·have c3' : ¬ Q8 (key (ix l (q - h))) (key (ix l h)) < 0 := fun h => c3 (hcm.1 h)
   generalize Q8 (key (ix l (q - h))) (key (ix l h)) = z at *
   (have zz:=trivial;repeat((first|clear zz|with_reducible first|refine A3 ?_|refine A5 fun _=>?_|refine A4 fun _=>?_);try simp(disch:=first|omega|assumption|((repeat(first|exact A1|exact uH|apply A2|apply uT));first|done|fail)|(simp;first|done|omega|fail))[c3']))
   exact hL1 ⟨by omega, by omega, i3, fun _ => c3, p2⟩ (by omega)
 obtain rfl : i = j := by omega
 clear hL
 obtain ⟨e, he⟩ : ∃ e : Nat, e = md + m - i := ⟨_, rfl⟩
 have eE : ((md + m : Nat) : Int) - (i : Int) = (e : Nat) := by omega
 have eE' : ((md : Int) + (m : Int) - (i : Int)) = (e : Nat) := by omega
 have him : i ≤ m := by omega
 have hme : m ≤ e := by omega
 have heb : e ≤ b := by omega
 have hH := A2x (key := key) (l := l) (a := a) (s := i) (m := m) (e := e) (b := b) (by omega) him hme heb hbl hS1 hS2 hSt
  (fun h1 h2 => by
   have h3 : s0 < i := by
    by_cases h : md < m
    ·have := hs1 h; omega
    ·have := hs2 h; omega
   have := p1 h3
   rwa [show q - (i - 1) = e by omega] at this)
  (fun h1 h2 => by
   have h3 : i < r0 := by
    by_cases h : md < m
    ·have := hs1 h; omega
    ·have := hs2 h; omega
   have := p2 h3
   rwa [show q - i = e - 1 by omega] at this)
 have hmid : i + (e - m) = md := by omega
 rw [hmid] at hH
 have hrm := (A5r (l := l) him hme (by omega)).wide (show a ≤ i by omega) heb
 have hc0 : ¬ (i : Int) < (i : Int) := by omega
 clear p1 p2 hs1 hs2
 rw [V7]
 (have zz:=trivial;repeat((first|clear zz|with_reducible first|refine A3 ?_|refine A5 fun _=>?_|refine A4 fun _=>?_);try simp(disch:=first|omega|assumption|((repeat(first|exact A1|exact uH|apply A2|apply uT));first|done|fail)|(simp;first|done|omega|fail))[-V7, hc0, eE, eE']))
 refine B00 (φ := fun l1 => l1 = F9 l i m e) (fun l1 => [OI g l.length c l1]) ?_ ?_
 case refine_2 =>
  intro J hJ
  by_cases cR : i < m ∧ m < e
  ·obtain ⟨cR1, cR2⟩ := cR
   (have zz:=trivial;repeat((first|clear zz|with_reducible first|refine A3 ?_|refine A5 fun _=>?_|refine A4 fun _=>?_);try simp(disch:=first|omega|assumption|((repeat(first|exact A1|exact uH|apply A2|apply uT));first|done|fail)|(simp;first|done|omega|fail))[cR1, cR2, eE, eE']))
   refine F5 (Hc := [OI g l.length c l]) p5 (fun w' hw hs => A95 w' g c l i m e (A5Q bw) cR1 cR2 (by omega) hl hs) (by (repeat' constructor)) ?_
   rintro _ _ rfl
   exact hJ _ rfl
  ·have e1 := B3E him hme (show e ≤ l.length by omega) cR
   have h := hJ l e1.symm
   by_cases cA : i < m
   ·have cB : ¬ m < e := fun h => cR ⟨cA, h⟩
    (have zz:=trivial;repeat((first|clear zz|with_reducible first|refine A3 ?_|refine A5 fun _=>?_|refine A4 fun _=>?_);try simp(disch:=first|omega|assumption|((repeat(first|exact A1|exact uH|apply A2|apply uT));first|done|fail)|(simp;first|done|omega|fail))[cA, cB, eE, eE']))
    exact h
   ·(have zz:=trivial;repeat((first|clear zz|with_reducible first|refine A3 ?_|refine A5 fun _=>?_|refine A4 fun _=>?_);try simp(disch:=first|omega|assumption|((repeat(first|exact A1|exact uH|apply A2|apply uT));first|done|fail)|(simp;first|done|omega|fail))[cA, eE, eE']))
    exact h
 rintro l1 rfl
 generalize F9 l i m e = l1 at *
 have hl1 := hrm.len
 have hmem1 : ∀ x, x ∈ l1 → x ∈ l := fun x hx => hrm.perm.mem_iff.1 hx
 refine B00 (φ := fun l2 => Mix l1 a md l2 ∧ E7 key l2 a md) (fun l2 => [OI g l.length c l2]) ?_ ?_
 case refine_2 =>
  intro J hJ
  by_cases cL : a < i ∧ i < md
  ·obtain ⟨cL1, cL2⟩ := cL
   (have zz:=trivial;repeat((first|clear zz|with_reducible first|refine A3 ?_|refine A5 fun _=>?_|refine A4 fun _=>?_);try simp(disch:=first|omega|assumption|((repeat(first|exact A1|exact uH|apply A2|apply uT));first|done|fail)|(simp;first|done|omega|fail))[cL1, cL2, eE, eE']))
   rw [← hl1]
   refine F5 (Hc := [OI g l1.length c l1]) H7 (fun w' hw hs => ih w' c l1 a i md (by omega) cL1 cL2 (by omega) (by omega) (fun w'' hw'' x y hx hy => hc w'' ((hw.ks.low.trans (by rw [← hS]; exact hw''))) x y (hmem1 x hx) (hmem1 y hy)) hH.s1 hH.s2 hH.st1 hs) (by (repeat' constructor)) ?_
   rintro l2 _ ⟨rfl, h1, h2⟩
   rw [hl1]
   exact hJ l2 ⟨h2, h1⟩
  ·have h := hJ l1 ⟨Mix.refl .., fun x y x1 x2 x3 => by
    by_cases h : a < i
    ·exact hH.s1 x y x1 x2 (by omega)
    ·exact hH.s2 x y (by omega) x2 x3⟩
   by_cases cA : a < i
   ·have cB : ¬ i < md := fun h => cL ⟨cA, h⟩
    (have zz:=trivial;repeat((first|clear zz|with_reducible first|refine A3 ?_|refine A5 fun _=>?_|refine A4 fun _=>?_);try simp(disch:=first|omega|assumption|((repeat(first|exact A1|exact uH|apply A2|apply uT));first|done|fail)|(simp;first|done|omega|fail))[cA, cB, eE, eE']))
    exact h
   ·(have zz:=trivial;repeat((first|clear zz|with_reducible first|refine A3 ?_|refine A5 fun _=>?_|refine A4 fun _=>?_);try simp(disch:=first|omega|assumption|((repeat(first|exact A1|exact uH|apply A2|apply uT));first|done|fail)|(simp;first|done|omega|fail))[cA, eE, eE']))
    exact h
 rintro l2 ⟨hm2, hs2⟩
 have hl2 := hm2.len
 have hmem2 : ∀ x, x ∈ l2 → x ∈ l := fun x hx => hmem1 x (hm2.perm.mem_iff.1 hx)
 have t3 : E7 key l2 md e := hH.s3.same fun x x1 x2 => hm2.out x (by omega)
 have t4 : E7 key l2 e b := hH.s4.same fun x x1 x2 => hm2.out x (by omega)
 have tt : St key l2 md e b := hH.st2.same (fun x x1 x2 => hm2.out x (by omega)) (by omega) heb
 by_cases cL : md < e ∧ e < b
 ·obtain ⟨cL1, cL2⟩ := cL
  (have zz:=trivial;repeat((first|clear zz|with_reducible first|refine A3 ?_|refine A5 fun _=>?_|refine A4 fun _=>?_);try simp(disch:=first|omega|assumption|((repeat(first|exact A1|exact uH|apply A2|apply uT));first|done|fail)|(simp;first|done|omega|fail))[cL1, cL2, eE, eE']))
  rw [← hl1, ← hl2]
  refine F5 (Hc := [OI g l2.length c l2]) H7 (fun w' hw hs => ih w' c l2 md e b (by omega) cL1 cL2 (by omega) (by omega) (fun w'' hw'' x y hx hy => hc w'' ((hw.ks.low.trans (by rw [← hS]; exact hw''))) x y (hmem2 x hx) (hmem2 y hy)) t3 t4 tt hs) (by (repeat' constructor)) ?_
  rintro l3 _ ⟨rfl, h1, h2⟩
  have hfin := B0e hH (by omega) (by omega) hm2 hs2 h2 h1
  exact G9 _ ⟨rfl, hfin.1, hrm.trans hfin.2⟩ (by (repeat' constructor))
 ·have hfin := B0e hH (by omega) (by omega) hm2 hs2 (Mix.refl _ md b) (fun x y x1 x2 x3 => by
    by_cases h : md < e
    ·exact t3 x y x1 x2 (by omega)
    ·exact t4 x y (by omega) x2 x3)
  by_cases cA : md < e
  ·have cB : ¬ e < b := fun h => cL ⟨cA, h⟩
   (have zz:=trivial;repeat((first|clear zz|with_reducible first|refine A3 ?_|refine A5 fun _=>?_|refine A4 fun _=>?_);try simp(disch:=first|omega|assumption|((repeat(first|exact A1|exact uH|apply A2|apply uT));first|done|fail)|(simp;first|done|omega|fail))[cA, cB, eE, eE']))
   exact G9 _ ⟨rfl, hfin.1, hrm.trans hfin.2⟩ (by (repeat' constructor))
  ·(have zz:=trivial;repeat((first|clear zz|with_reducible first|refine A3 ?_|refine A5 fun _=>?_|refine A4 fun _=>?_);try simp(disch:=first|omega|assumption|((repeat(first|exact A1|exact uH|apply A2|apply uT));first|done|fail)|(simp;first|done|omega|fail))[cA, eE, eE']))
   exact G9 _ ⟨rfl, hfin.1, hrm.trans hfin.2⟩ (by (repeat' constructor))
set_option maxHeartbeats 2000000 in
theorem A8Q (g bw : Nat) (key : Nat → Int) : ∀ (k : Nat) (w : World) (c : Nat) (l : List Nat) (a m b : Nat), b - a ≤ k → a < m → m < b → b ≤ l.length → l.length ≤ 1000 → A3w w (B7 [OI g l.length c l]) bw key l → E7 key l a m → E7 key l m b → St key l a m b →
  LW false (B7 [OI g l.length c l]) w [OI g l.length c l] w → Fn PR C5 55 #[.slice (some ⟨g, 0, none⟩) l.length c, .int .i64 (a : Int), .int .i64 (m : Int), .int .i64 (b : Int), A5Q bw] w
   (Rn (B7 [OI g l.length c l]) w (fun (l' : List Nat) u => u = .tuple #[] ∧ E7 key l' a b ∧ Mix l a b l') fun l' => [OI g l.length c l']) := by
 intro k
 induction k with
 | zero => intro w c l a m b h1 h2 h3; omega
 | succ k ih =>
 intro w c l a m b hk ham hmb hbl hl hc hS1 hS2 hSt hw
 by_cases hgen : a + 1 < m ∧ m + 1 < b
 ·exact B0z g bw key k ih w c l a m b hk hgen.1 hgen.2 hbl hl hc hS1 hS2 hSt hw
 refine S2 (TW.goH (κ := false) (S := B7 [OI g l.length c l]) ?_ hw)
 unfold K3
 generalize hS : B7 [OI g l.length c l] = S at *
 have hmem : ∀ x, x < l.length → ix l x ∈ l := fun x hx => A4m hx
 by_cases c1 : m = a + 1
 ·have e1 : (m : Int) - a = 1 := by omega
  (have zz:=trivial;repeat((first|clear zz|with_reducible first|refine A3 ?_|refine A5 fun _=>?_|refine A4 fun _=>?_);try simp(disch:=first|omega|assumption|((repeat(first|exact A1|exact uH|apply A2|apply uT));first|done|fail)|(simp;first|done|omega|fail))[e1]))
  refine w8 (fun _ : Nat × Nat => [OI g l.length c l]) (fun z => m ≤ z.1 ∧ z.1 ≤ z.2 ∧ z.2 ≤ b ∧ (m < z.1 → key (ix l (z.1 - 1)) < key (ix l a)) ∧ (z.2 < b → ¬ key (ix l z.2) < key (ix l a))) (fun z => z.2 - z.1) (m, b) (fun z => .int .i64 (z.1 : Nat)) (fun z => .int .i64 (z.2 : Nat)) ⟨Nat.le_refl _, by simp only; omega, Nat.le_refl _, fun h => by simp only at h; omega, fun h => by simp only at h; omega⟩ ?_
  rintro ⟨i, j⟩ ⟨i1, i2, i3, p1, p2⟩ L hL
  simp only at i1 i2 i3 p1 p2 hL ⊢
  by_cases c2 : i < j
  ·have eh := A0r i j
   have g1 := K6 (l := l) (x := (i + j) / 2) (by omega)
   have g2 := K6 (l := l) (x := a) (by omega)
   obtain ⟨h, hh⟩ : ∃ h, h = (i + j) / 2 := ⟨_, rfl⟩
   have h1 : i ≤ h := by omega
   have h2 : h < j := by omega
   rw [← hh] at eh g1
   have hcm := A1j (key (ix l h)) (key (ix l a))
   have hL1 := hL (h + 1, j)
   have hL2 := hL (i, h)
   simp only at hL1 hL2
   clear hL hh
   (have zz:=trivial;repeat((first|clear zz|with_reducible first|refine A3 ?_|refine A5 fun _=>?_|refine A4 fun _=>?_);try simp(disch:=first|omega|assumption|((repeat(first|exact A1|exact uH|apply A2|apply uT));first|done|fail)|(simp;first|done|omega|fail))[c2, eh, g1, g2]))
   refine C8 N2 (fun w' hw' => hc w' hw'.ks _ _ (hmem h (by omega)) (hmem a (by omega))) ?_
   by_cases c3 : key (ix l h) < key (ix l a)
   ·have c3' := hcm.2 c3
    generalize Q8 (key (ix l h)) (key (ix l a)) = z at *
    (have zz:=trivial;repeat((first|clear zz|with_reducible first|refine A3 ?_|refine A5 fun _=>?_|refine A4 fun _=>?_);try simp(disch:=first|omega|assumption|((repeat(first|exact A1|exact uH|apply A2|apply uT));first|done|fail)|(simp;first|done|omega|fail))[c3']))
    exact hL1 ⟨by omega, by omega, i3, fun _ => c3, p2⟩ (by omega)
   ·have c3' : ¬ Q8 (key (ix l h)) (key (ix l a)) < 0 := fun h => c3 (hcm.1 h)
    generalize Q8 (key (ix l h)) (key (ix l a)) = z at *
    (have zz:=trivial;repeat((first|clear zz|with_reducible first|refine A3 ?_|refine A5 fun _=>?_|refine A4 fun _=>?_);try simp(disch:=first|omega|assumption|((repeat(first|exact A1|exact uH|apply A2|apply uT));first|done|fail)|(simp;first|done|omega|fail))[c3']))
    exact hL2 ⟨i1, h1, by omega, p1, fun _ => c3⟩ (by omega)
  ·obtain rfl : i = j := by omega
   have hfin := B1Y (key := key) (l := l) (a := a) (e := i) (b := b) (by omega) i3 hbl (by rw [← c1]; exact hS2) (by rw [← c1]; exact hSt) p2 (fun h => p1 (by omega))
   rw [← show upL l a (i - a - 1) = F9 l a (a + 1) i by rw [B3U (by omega)]; congr 1; omega] at hfin
   (have zz:=trivial;repeat((first|clear zz|with_reducible first|refine A3 ?_|refine A5 fun _=>?_|refine A4 fun _=>?_);try simp(disch:=first|omega|assumption|((repeat(first|exact A1|exact uH|apply A2|apply uT));first|done|fail)|(simp;first|done|omega|fail))[c2]))
   clear hL
   refine A13 (fun n : Nat => [OI g l.length c (upL l a n)]) (fun n => n ≤ i - a - 1) (fun n => i - n) 0 (fun n => .int .i64 ((a + n : Nat) : Int)) (Nat.zero_le _) ?_
   intro n hn L hL
   have hq := A5L l a n
   obtain ⟨j, hj⟩ : ∃ j, j = a + n := ⟨_, rfl⟩
   have hL' := hL (n + 1)
   rw [upL, A2B, ← hj] at hL'
   rw [show a + (n + 1) = j + 1 by omega] at hL'
   rw [← hj]
   clear hL
   by_cases c4 : j < i - 1
   ·have c4' : (j : Int) < (i : Int) - 1 := by omega
    have ej : ((j : Int) + 1).toNat = j + 1 := by omega
    have g1 := K6 (l := upL l a n) (x := j) (by omega)
    have g2 := K6 (l := upL l a n) (x := j + 1) (by omega)
    generalize upL l a n = q at *
    (have zz:=trivial;repeat((first|clear zz|with_reducible first|refine A3 ?_|refine A5 fun _=>?_|refine A4 fun _=>?_);try simp(disch:=first|omega|assumption|((repeat(first|exact A1|exact uH|apply A2|apply uT));first|done|fail)|(simp;first|done|omega|fail))[c4', ej, g1, g2]))
    refine g4 (y := ix q (j + 1)) (by omega) ?_
    (have zz:=trivial;repeat((first|clear zz|with_reducible first|refine A3 ?_|refine A5 fun _=>?_|refine A4 fun _=>?_);try simp(disch:=first|omega|assumption|((repeat(first|exact A1|exact uH|apply A2|apply uT));first|done|fail)|(simp;first|done|omega|fail))[ej]))
    refine g4 (y := ix q j) (by simp; omega) ?_
    (have zz:=trivial;repeat((first|clear zz|with_reducible first|refine A3 ?_|refine A5 fun _=>?_|refine A4 fun _=>?_);try simp(disch:=first|omega|assumption|((repeat(first|exact A1|exact uH|apply A2|apply uT));first|done|fail)|(simp;first|done|omega|fail))[]))
    exact hL' (by omega) (by omega)
   ·have c4' : ¬ (j : Int) < (i : Int) - 1 := by omega
    obtain rfl : n = i - a - 1 := by omega
    (have zz:=trivial;repeat((first|clear zz|with_reducible first|refine A3 ?_|refine A5 fun _=>?_|refine A4 fun _=>?_);try simp(disch:=first|omega|assumption|((repeat(first|exact A1|exact uH|apply A2|apply uT));first|done|fail)|(simp;first|done|omega|fail))[c4']))
    exact G9 _ ⟨rfl, hfin⟩ (by (repeat' constructor))
 have c1' : ¬ (m : Int) - a = 1 := by omega
 by_cases c5 : b = m + 1
 ·have e1 : (b : Int) - m = 1 := by omega
  (have zz:=trivial;repeat((first|clear zz|with_reducible first|refine A3 ?_|refine A5 fun _=>?_|refine A4 fun _=>?_);try simp(disch:=first|omega|assumption|((repeat(first|exact A1|exact uH|apply A2|apply uT));first|done|fail)|(simp;first|done|omega|fail))[c1', e1]))
  refine w8 (fun _ : Nat × Nat => [OI g l.length c l]) (fun z => a ≤ z.1 ∧ z.1 ≤ z.2 ∧ z.2 ≤ m ∧ (a < z.1 → ¬ key (ix l m) < key (ix l (z.1 - 1))) ∧ (z.2 < m → key (ix l m) < key (ix l z.2))) (fun z => z.2 - z.1) (a, m) (fun z => .int .i64 (z.1 : Nat)) (fun z => .int .i64 (z.2 : Nat)) ⟨Nat.le_refl _, by simp only; omega, Nat.le_refl _, fun h => by simp only at h; omega, fun h => by simp only at h; omega⟩ ?_
  rintro ⟨i, j⟩ ⟨i1, i2, i3, p1, p2⟩ L hL
  simp only at i1 i2 i3 p1 p2 hL ⊢
  by_cases c2 : i < j
  ·have eh := A0r i j
   have g1 := K6 (l := l) (x := (i + j) / 2) (by omega)
   have g2 := K6 (l := l) (x := m) (by omega)
   obtain ⟨h, hh⟩ : ∃ h, h = (i + j) / 2 := ⟨_, rfl⟩
   have h1 : i ≤ h := by omega
   have h2 : h < j := by omega
   rw [← hh] at eh g1
   have hcm := A1j (key (ix l m)) (key (ix l h))
   have hL1 := hL (h + 1, j)
   have hL2 := hL (i, h)
   simp only at hL1 hL2
   clear hL hh
   (have zz:=trivial;repeat((first|clear zz|with_reducible first|refine A3 ?_|refine A5 fun _=>?_|refine A4 fun _=>?_);try simp(disch:=first|omega|assumption|((repeat(first|exact A1|exact uH|apply A2|apply uT));first|done|fail)|(simp;first|done|omega|fail))[c2, eh, g1, g2]))
   refine C8 N2 (fun w' hw' => hc w' hw'.ks _ _ (hmem m (by omega)) (hmem h (by omega))) ?_
   by_cases c3 : key (ix l m) < key (ix l h)
   ·have c3' := hcm.2 c3
    generalize Q8 (key (ix l m)) (key (ix l h)) = z at *
    (have zz:=trivial;repeat((first|clear zz|with_reducible first|refine A3 ?_|refine A5 fun _=>?_|refine A4 fun _=>?_);try simp(disch:=first|omega|assumption|((repeat(first|exact A1|exact uH|apply A2|apply uT));first|done|fail)|(simp;first|done|omega|fail))[c3']))
    exact hL2 ⟨i1, h1, by omega, p1, fun _ => c3⟩ (by omega)
   ·have c3' : ¬ Q8 (key (ix l m)) (key (ix l h)) < 0 := fun h => c3 (hcm.1 h)
    generalize Q8 (key (ix l m)) (key (ix l h)) = z at *
    (have zz:=trivial;repeat((first|clear zz|with_reducible first|refine A3 ?_|refine A5 fun _=>?_|refine A4 fun _=>?_);try simp(disch:=first|omega|assumption|((repeat(first|exact A1|exact uH|apply A2|apply uT));first|done|fail)|(simp;first|done|omega|fail))[c3']))
    exact hL1 ⟨by omega, by omega, i3, fun _ => c3, p2⟩ (by omega)
  ·obtain rfl : i = j := by omega
   subst c5
   have hfin := A51 (key := key) (l := l) (a := a) (s := i) (m := m) i1 i3 (by omega) hS1 hSt p1 p2
   have hrot := A5z (l := l) (m := m) (n := m - i) (by omega) (by omega)
   rw [show m - (m - i) = i by omega] at hrot
   rw [← hrot] at hfin
   (have zz:=trivial;repeat((first|clear zz|with_reducible first|refine A3 ?_|refine A5 fun _=>?_|refine A4 fun _=>?_);try simp(disch:=first|omega|assumption|((repeat(first|exact A1|exact uH|apply A2|apply uT));first|done|fail)|(simp;first|done|omega|fail))[c2]))
   clear hL
   refine A13 (fun n : Nat => [OI g l.length c (H0 l m n)]) (fun n => n ≤ m - i) (fun n => m - n) 0 (fun n => .int .i64 ((m - n : Nat) : Int)) (Nat.zero_le _) ?_
   intro n hn L hL
   have hq := A0W l m n
   obtain ⟨j, hj⟩ : ∃ j, j = m - n := ⟨_, rfl⟩
   have hL' := hL (n + 1)
   rw [H0, A2B, ← hj] at hL'
   rw [show m - (n + 1) = j - 1 by omega] at hL'
   rw [← hj]
   clear hL
   by_cases c4 : i < j
   ·have c4' : (i : Int) < (j : Int) := by omega
    have ej : ((j : Int) - 1) = ((j - 1 : Nat) : Int) := by omega
    have g1 := K6 (l := H0 l m n) (x := j) (by omega)
    have g2 := K6 (l := H0 l m n) (x := j - 1) (by omega)
    have hm2 : j - 1 < j := by omega
    generalize H0 l m n = q at *
    (have zz:=trivial;repeat((first|clear zz|with_reducible first|refine A3 ?_|refine A5 fun _=>?_|refine A4 fun _=>?_);try simp(disch:=first|omega|assumption|((repeat(first|exact A1|exact uH|apply A2|apply uT));first|done|fail)|(simp;first|done|omega|fail))[c4, c4', ej, g1, g2]))
    refine g4 (y := ix q (j - 1)) (by omega) ?_
    (have zz:=trivial;repeat((first|clear zz|with_reducible first|refine A3 ?_|refine A5 fun _=>?_|refine A4 fun _=>?_);try simp(disch:=first|omega|assumption|((repeat(first|exact A1|exact uH|apply A2|apply uT));first|done|fail)|(simp;first|done|omega|fail))[ej]))
    refine g4 (y := ix q j) (by simp; omega) ?_
    (have zz:=trivial;repeat((first|clear zz|with_reducible first|refine A3 ?_|refine A5 fun _=>?_|refine A4 fun _=>?_);try simp(disch:=first|omega|assumption|((repeat(first|exact A1|exact uH|apply A2|apply uT));first|done|fail)|(simp;first|done|omega|fail))[ej]))
    exact hL' (by omega) (by omega)
   ·have c4' : ¬ (i : Int) < (j : Int) := by omega
    obtain rfl : n = m - i := by omega
    (have zz:=trivial;repeat((first|clear zz|with_reducible first|refine A3 ?_|refine A5 fun _=>?_|refine A4 fun _=>?_);try simp(disch:=first|omega|assumption|((repeat(first|exact A1|exact uH|apply A2|apply uT));first|done|fail)|(simp;first|done|omega|fail))[c4, c4']))
    exact G9 _ ⟨rfl, hfin⟩ (by (repeat' constructor))
 exact absurd (show a + 1 < m ∧ m + 1 < b by omega) hgen
end Go.Proofs.Ytlplkjgcfjdinaa
namespace Go.Proofs.Ytlplkjgcfjdinaa
open Go
def A5V (key : Nat → Int) : List Nat → Nat → List Nat
 | [], i => [i]
 | p :: ps, i => if key p > key i then i :: p :: ps else p :: A5V key ps i
def A6e (key : Nat → Int) (out : List Nat) (i : Nat) : List Nat := if 0 ≤ key i then A5V key out i else out
def V9 (key : Nat → Int) (n : Nat) : List Nat := (List.range n).foldl (A6e key) []
def V8 (key : Nat → Int) (n : Nat) : List Nat := (List.range n).filter fun i => decide (0 ≤ key i)
theorem A54 (key : Nat → Int) (n : Nat) : V9 key (n + 1) = A6e key (V9 key n) n := by unfold V9; rw [List.range_succ, List.foldl_append]; rfl
theorem A7J (key : Nat → Int) (n : Nat) : V8 key (n + 1) = if 0 ≤ key n then V8 key n ++ [n] else V8 key n := by
 unfold V8; rw [List.range_succ, List.filter_append]
 by_cases h : 0 ≤ key n <;> simp [h]
theorem A6A (key : Nat → Int) (l : List Nat) (i : Nat) : (A5V key l i).Perm (l ++ [i]) := by
 induction l with
 | nil => exact List.Perm.refl _
 | cons p ps ih =>
  unfold A5V
  split
  ·exact (List.perm_append_comm (l₁ := [i]) (l₂ := p :: ps))
  ·exact ih.cons p
theorem B3e (key : Nat → Int) (l : List Nat) (i : Nat) (h : l.Pairwise (U7 key)) (hi : ∀ p ∈ l, p < i) : (A5V key l i).Pairwise (U7 key) := by
 induction l with
 | nil => exact List.pairwise_singleton _ _
 | cons p ps ih =>
  have hh := List.pairwise_cons.1 h
  unfold A5V
  split
  ·rename_i hg
   refine List.pairwise_cons.2 ⟨fun x hx => ?_, h⟩
   rcases List.mem_cons.1 hx with rfl | hx
   ·exact Or.inl hg
   ·exact (show U7 key i p from Or.inl hg).trans (hh.1 x hx)
  ·rename_i hg
   refine List.pairwise_cons.2 ⟨fun x hx => ?_, ih hh.2 fun q hq => hi q (List.mem_cons_of_mem _ hq)⟩
   have := (A6A key ps i).mem_iff.1 hx
   rcases List.mem_append.1 this with hx | hx
   ·exact hh.1 x hx
   ·obtain rfl : x = i := by simpa using hx
    have := hi p List.mem_cons_self
    unfold U7; omega
theorem A2Z (key : Nat → Int) (n : Nat) : (V9 key n).Perm (V8 key n) := by
 induction n with
 | zero => exact List.Perm.refl _
 | succ n ih =>
  rw [A54, A7J]
  unfold A6e
  split
  ·exact (A6A _ _ _).trans (ih.append_right _)
  ·exact ih
theorem B0H {key : Nat → Int} {n i : Nat} (h : i ∈ V8 key n) : i < n ∧ 0 ≤ key i := by simpa [V8] using h
theorem A5S {key : Nat → Int} {n i : Nat} (h : i ∈ V9 key n) : i < n ∧ 0 ≤ key i := B0H ((A2Z key n).mem_iff.1 h)
theorem B2v (key : Nat → Int) (n : Nat) : (V9 key n).Pairwise (U7 key) := by
 induction n with
 | zero => exact List.Pairwise.nil
 | succ n ih =>
  rw [A54]
  unfold A6e
  split
  ·exact B3e key _ _ ih fun p hp => (A5S hp).1
  ·exact ih
theorem A4W (key : Nat → Int) (n : Nat) : (V8 key n).length ≤ n := by
 have := List.length_filter_le (fun i => decide (0 ≤ key i)) (List.range n)
 rw [List.length_range] at this
 exact this
theorem A4D (key : Nat → Int) (n : Nat) : (V9 key n).length = (V8 key n).length := (A2Z key n).length_eq
theorem A1S {l : List Nat} {i : Nat} (h : i < l.length) : l.getD i 0 = l[i] := by simp [List.getD_eq_getElem?_getD, List.getElem?_eq_getElem h]
theorem B0C {key : Nat → Int} {l : List Nat} (h : l.Pairwise (U7 key)) : E7 key l 0 l.length := fun i j _ h2 h3 => by
 rw [A1S (by omega), A1S h3]
 exact List.pairwise_iff_getElem.1 h i j (by omega) h3 h2
theorem B2w (key : Nat → Int) (n : Nat) : Inc (V8 key n) 0 (V8 key n).length := fun i j _ h2 h3 => by
 rw [A1S (by omega), A1S h3]
 have h : (V8 key n).Pairwise (· < ·) := List.pairwise_lt_range.filter _
 exact List.pairwise_iff_getElem.1 h i j (by omega) h3 h2
theorem A9P {key : Nat → Int} {n : Nat} {l : List Nat} (hp : l.Perm (V8 key n)) (h : E7 key l 0 (V8 key n).length) : l = V9 key n :=
 B4d (hp.trans (A2Z key n).symm) (B0C (B2v key n)) (by rw [hp.length_eq]; exact h)
theorem Inc.mono {l : List Nat} {a b a' b' : Nat} (h : Inc l a b) (h1 : a ≤ a') (h2 : b' ≤ b) : Inc l a' b' := fun i j i1 i2 i3 => h i j (by omega) i2 (by omega)
theorem Inc.st2 {key : Nat → Int} {l l1 l2 : List Nat} {a m b : Nat} (h : Inc l a b) (m1 : Mix l a m l1) (m2 : Mix l1 m b l2) : St key l2 a m b := fun p q p1 p2 q1 q2 _ => by
 rw [m2.out p (by omega)]
 obtain ⟨p', r1, r2, e⟩ := m1.ins p p1 p2
 obtain ⟨q', s1, s2, e'⟩ := m2.ins q q1 q2
 rw [e, e', m1.out q' (by omega)]
 exact h p' q' r1 (by omega) s2
end Go.Proofs.Ytlplkjgcfjdinaa
namespace Go.Proofs.Ytlplkjgcfjdinaa
open Go
theorem E7.nil {key : Nat → Int} {l : List Nat} {a : Nat} : E7 key l a a := fun i j _ _ _ => by omega
theorem B1H (w : World) (g c : Nat) (l : List Nat) (bw : Nat) (key : Nat → Int) (hc : A3w w (B7 [OI g l.length c l]) bw key l) (hI : Inc l 0 l.length) (hl : l.length ≤ 30) (hw : LW false (B7 [OI g l.length c l]) w [OI g l.length c l] w) :
  Fn PR C5 39 #[.slice (some ⟨g, 0, none⟩) l.length c, .int .i64 (l.length : Int), A5Q bw] w (Rn (B7 [OI g l.length c l]) w (fun (l' : List Nat) u => u = .tuple #[] ∧ E7 key l' 0 l.length ∧ l'.Perm l) fun l' => [OI g l.length c l']) := by
 refine T9 (TW.goH (κ := false) (S := B7 [OI g l.length c l]) ?_ hw)
 unfold L6
 generalize hS : B7 [OI g l.length c l] = S at *
 have hmm : ∀ {p : List Nat}, p.Perm l → A3w w S bw key p := fun {p} hp w' hw' x y hx hy => hc w' hw' x y (hp.mem_iff.1 hx) (hp.mem_iff.1 hy)
 have hcall : ∀ {w' : World} {p : List Nat} {Hk : List Res}, LW false S w Hk w' → p.length = l.length → p.Perm l → A3w w' (B7 [OI g p.length c p]) bw key p := fun {w'} {p} {Hk} hw' hpl hp w'' hw'' => hmm hp w'' (hw'.ks.trans (by rw [← hS]; exact hw''))
 (have zz:=trivial;repeat((first|clear zz|with_reducible first|refine A3 ?_|refine A5 fun _=>?_|refine A4 fun _=>?_);try simp(disch:=first|omega|assumption|((repeat(first|exact A1|exact uH|apply A2|apply uT));first|done|fail)|(simp;first|done|omega|fail))[]))
 refine w8 (fun z : Nat × List Nat => [OI g l.length c z.2]) (fun z => (z.1 = 0 ∧ z.2 = l) ∨ (z.1 = 20 ∧ 20 ≤ l.length ∧ E7 key z.2 0 20 ∧ Mix l 0 20 z.2)) (fun z => 40 - z.1) (0, l) (fun z => .int .i64 (z.1 : Nat)) (fun z => .int .i64 ((z.1 + 20 : Nat) : Int)) (Or.inl ⟨rfl, rfl⟩) ?_
 rintro ⟨a, p⟩ hz L hL
 simp only at hz hL ⊢
 by_cases hgo : a = 0 ∧ 20 ≤ l.length
 ·obtain ⟨rfl, h20⟩ := hgo
  have hpl : p = l := by
   rcases hz with h | h
   ·exact h.2
   ·omega
  subst hpl
  have c1 : (20 : Int) ≤ (p.length : Nat) := by omega
  have h := fun q : List Nat => hL (20, q)
  simp only at h
  clear hL hz
  (have zz:=trivial;repeat((first|clear zz|with_reducible first|refine A3 ?_|refine A5 fun _=>?_|refine A4 fun _=>?_);try simp(disch:=first|omega|assumption|((repeat(first|exact A1|exact uH|apply A2|apply uT));first|done|fail)|(simp;first|done|omega|fail))[c1]))
  refine F5 (Hc := [OI g p.length c p]) F7 (fun w' hw hs => A4j w' g c p 0 20 bw key (hcall hw rfl (List.Perm.refl _)) (hI.mono (Nat.le_refl _) h20) (by omega) h20 (by omega) hs) (by (repeat' constructor)) ?_
  rintro q _ ⟨rfl, h1, h2⟩
  (have zz:=trivial;repeat((first|clear zz|with_reducible first|refine A3 ?_|refine A5 fun _=>?_|refine A4 fun _=>?_);try simp(disch:=first|omega|assumption|((repeat(first|exact A1|exact uH|apply A2|apply uT));first|done|fail)|(simp;first|done|omega|fail))[]))
  exact h q (Or.inr ⟨trivial, h20, h1, h2⟩) (by omega)
 have hend : a ≤ l.length ∧ ¬ (a + 20 ≤ l.length) ∧ p.length = l.length ∧ p.Perm l ∧ Mix l 0 a p ∧ E7 key p 0 a := by
  rcases hz with ⟨rfl, rfl⟩ | ⟨rfl, h1, h2, h3⟩
  ·exact ⟨by omega, by omega, rfl, List.Perm.refl _, Mix.refl .., E7.nil⟩
  ·exact ⟨h1, by omega, h3.len, h3.perm, h3, h2⟩
 obtain ⟨ha, hb, hpl, hpp, hpm, hps⟩ := hend
 have ha0 : a = 0 ∨ a = 20 := by rcases hz with h | h <;> omega
 have hpI : Inc p a l.length := fun x y x1 x2 x3 => by rw [hpm.out x (by omega), hpm.out y (by omega)]; exact hI x y (by omega) x2 x3
 clear hL hz
 have c1 : ¬ ((a : Int) + 20 ≤ (l.length : Nat)) := by omega
 (have zz:=trivial;repeat((first|clear zz|with_reducible first|refine A3 ?_|refine A5 fun _=>?_|refine A4 fun _=>?_);try simp(disch:=first|omega|assumption|((repeat(first|exact A1|exact uH|apply A2|apply uT));first|done|fail)|(simp;first|done|omega|fail))[c1]))
 rw [← hpl]
 refine F5 (Hc := [OI g p.length c p]) F7 (fun w' hw hs => A4j w' g c p a p.length bw key (hcall hw hpl hpp) (by rw [hpl]; exact hpI) (by omega) (by omega) (by omega) hs) (by (repeat' constructor)) ?_
 rintro q _ ⟨rfl, h1, h2⟩
 have hql : q.length = p.length := h2.len
 have hqp : q.Perm l := h2.perm.trans hpp
 (have zz:=trivial;repeat((first|clear zz|with_reducible first|refine A3 ?_|refine A5 fun _=>?_|refine A4 fun _=>?_);try simp(disch:=first|omega|assumption|((repeat(first|exact A1|exact uH|apply A2|apply uT));first|done|fail)|(simp;first|done|omega|fail))[]))
 refine A9p (fun z : Nat × Nat × Nat × List Nat => [OI g p.length c z.2.2.2]) (fun z => z = (a, a + 20, 20, q) ∨ (z.2.2.1 = 40 ∧ E7 key z.2.2.2 0 p.length ∧ z.2.2.2.Perm l)) (fun z => 60 - z.2.2.1) (a, a + 20, 20, q) (fun z => .int .i64 (z.1 : Nat)) (fun z => .int .i64 (z.2.1 : Nat)) (fun z => .int .i64 (z.2.2.1 : Nat)) (Or.inl rfl) ?_
 rintro ⟨a1, b1, bs, q1⟩ hz L hL
 simp only at hz hL ⊢
 by_cases hbs : bs < p.length
 ·have hz1 : (a1, b1, bs, q1) = (a, a + 20, 20, q) := by
   rcases hz with h | ⟨h, _⟩
   ·exact h
   ·omega
  injection hz1 with e1 hz1
  injection hz1 with e2 hz1
  injection hz1 with e3 e4
  subst e1 e2 e3 e4
  obtain rfl : a1 = 20 := by omega
  have c2 : (20 : Int) < (p.length : Nat) := by omega
  have c3 : ¬ (40 : Int) ≤ (p.length : Nat) := by omega
  have h := fun q : List Nat => hL (0, 40, 40, q)
  simp only at h
  clear hL hz
  have hS1 : E7 key q1 0 20 := hps.same fun x _ x2 => h2.out x (by omega)
  have hSt : St key q1 0 20 p.length := (hI.mono (b' := p.length) (Nat.le_refl _) (by omega)).st2 hpm h2
  (have zz:=trivial;repeat((first|clear zz|with_reducible first|refine A3 ?_|refine A5 fun _=>?_|refine A4 fun _=>?_);try simp(disch:=first|omega|assumption|((repeat(first|exact A1|exact uH|apply A2|apply uT));first|done|fail)|(simp;first|done|omega|fail))[c2, c3]))
  refine w8 (fun _ : Unit => [OI g p.length c q1]) (fun _ => True) (fun _ => 0) () (fun _ => .int .i64 0) (fun _ => .int .i64 40) trivial ?_
  rintro _ _ L2 _
  (have zz:=trivial;repeat((first|clear zz|with_reducible first|refine A3 ?_|refine A5 fun _=>?_|refine A4 fun _=>?_);try simp(disch:=first|omega|assumption|((repeat(first|exact A1|exact uH|apply A2|apply uT));first|done|fail)|(simp;first|done|omega|fail))[c2, c3]))
  rw [← hql]
  refine F5 (Hc := [OI g q1.length c q1]) H7 (fun w' hw hs => A8Q g bw key q1.length w' c q1 0 20 q1.length (by omega) (by omega) (by omega) (Nat.le_refl _) (by omega) (hcall hw (by omega) hqp) hS1 (by rw [hql]; exact h1) (by rw [hql]; exact hSt) hs) (by (repeat' constructor)) ?_
  rintro q2 _ ⟨rfl, g1, g2⟩
  rw [hql] at g1 ⊢
  (have zz:=trivial;repeat((first|clear zz|with_reducible first|refine A3 ?_|refine A5 fun _=>?_|refine A4 fun _=>?_);try simp(disch:=first|omega|assumption|((repeat(first|exact A1|exact uH|apply A2|apply uT));first|done|fail)|(simp;first|done|omega|fail))[]))
  exact h q2 (Or.inr ⟨trivial, g1, g2.perm.trans hqp⟩) (by omega)
 ·have c2 : ¬ (bs : Int) < (p.length : Nat) := by omega
  have hfin : E7 key q1 0 p.length ∧ q1.Perm l := by
   rcases hz with h | ⟨_, h⟩
   ·injection h with e1 h
    injection h with e2 h
    injection h with e3 e4
    subst e1 e2 e3 e4
    refine ⟨?_, hqp⟩
    rcases ha0 with rfl | rfl
    ·exact h1
    ·have : p.length = 20 := by omega
     rw [this]
     exact hps.same fun x _ x2 => h2.out x (by omega)
   ·exact h
  (have zz:=trivial;repeat((first|clear zz|with_reducible first|refine A3 ?_|refine A5 fun _=>?_|refine A4 fun _=>?_);try simp(disch:=first|omega|assumption|((repeat(first|exact A1|exact uH|apply A2|apply uT));first|done|fail)|(simp;first|done|omega|fail))[c2]))
  exact G9 q1 ⟨rfl, hfin.1, hfin.2⟩ (by (repeat' constructor))
end Go.Proofs.Ytlplkjgcfjdinaa
namespace Go.Proofs.Ytlplkjgcfjdinaa
open Go
theorem B3v (w : World) (bw : Nat) (v : Value) (l : List RecV) (x y : Nat) (hx : x < l.length) (hy : y < l.length) (hl : l.length ≤ 1000000) (hv : F1 w v l.length (l.flatMap F6)) (hb : w.cell? ⟨bw, 0, none⟩ = some v) :
  Fn PR C5 22 #[.int .i64 (x : Int), .int .i64 (y : Int), .pointer (some ⟨bw, 0, none⟩)] w (fun u w' => u = .int .i64 (Q8 (G0 l x) (G0 l y)) ∧ B6 [] w w') := by
 refine Fn.pure (A2T (TW.go (κ := false) (S := []) ?_))
 unfold l9
 obtain ⟨a, c, rfl, hr⟩ := hv.form
 obtain ⟨b, o, rfl, hrow⟩ := hr (by omega)
 have h1 := hrow.cellAt (f := F6) (k := 10) (j := 3) (fun _ => rfl) (List.getElem?_eq_getElem hx) rfl
 have h2 := hrow.cellAt (f := F6) (k := 10) (j := 3) (fun _ => rfl) (List.getElem?_eq_getElem hy) rfl
 rw [← A5l hx] at h1
 rw [← A5l hy] at h2
 generalize G0 l x = p at *
 generalize G0 l y = q at *
 (have zz:=trivial;repeat((first|clear zz|with_reducible first|refine A3 ?_|refine A5 fun _=>?_|refine A4 fun _=>?_);try simp(disch:=first|omega|assumption|((repeat(first|exact A1|exact uH|apply A2|apply uT));first|done|fail)|(simp;first|done|omega|fail))[hb, hx, hy, h1, h2]))
 refine C8 (u := .int .i64 (Q8 p q)) A2P (fun w' _ => (B13 w' p q).mono fun v w'' ⟨h, e⟩ => ⟨h, by rw [e]; exact B6.refl _ _⟩) ?_
 (have zz:=trivial;repeat((first|clear zz|with_reducible first|refine A3 ?_|refine A5 fun _=>?_|refine A4 fun _=>?_);try simp(disch:=first|omega|assumption|((repeat(first|exact A1|exact uH|apply A2|apply uT));first|done|fail)|(simp;first|done|omega|fail))[]))
 exact A8 rfl
theorem A9x (w : World) (F : Value) : Fn PR C5 21 #[.slice none 0 0, F] w (fun v w' => v = .tuple #[] ∧ B6 [] w w') := by
 have h40 : ∀ w', Fn PR C5 54 #[.slice none 0 0, .int .i64 0, .int .i64 0, F] w' (fun v w'' => v = .tuple #[] ∧ B6 [] w' w'') := fun w' => by
  refine Fn.pure (N0 (TW.go (κ := false) (S := []) ?_))
  unfold G2
  (have zz:=trivial;repeat((first|clear zz|with_reducible first|refine A3 ?_|refine A5 fun _=>?_|refine A4 fun _=>?_);try simp(disch:=first|omega|assumption|((repeat(first|exact A1|exact uH|apply A2|apply uT));first|done|fail)|(simp;first|done|omega|fail))[]))
  refine A13 (fun _ : Unit => []) (fun _ => True) (fun _ => 0) () (fun _ => .int .i64 1) trivial ?_
  rintro _ _ L _
  (have zz:=trivial;repeat((first|clear zz|with_reducible first|refine A3 ?_|refine A5 fun _=>?_|refine A4 fun _=>?_);try simp(disch:=first|omega|assumption|((repeat(first|exact A1|exact uH|apply A2|apply uT));first|done|fail)|(simp;first|done|omega|fail))[]))
  exact A8 rfl
 have h31 : ∀ w', Fn PR C5 39 #[.slice none 0 0, .int .i64 0, F] w' (fun v w'' => v = .tuple #[] ∧ B6 [] w' w'') := fun w' => by
  refine Fn.pure (T9 (TW.go (κ := false) (S := []) ?_))
  unfold L6
  (have zz:=trivial;repeat((first|clear zz|with_reducible first|refine A3 ?_|refine A5 fun _=>?_|refine A4 fun _=>?_);try simp(disch:=first|omega|assumption|((repeat(first|exact A1|exact uH|apply A2|apply uT));first|done|fail)|(simp;first|done|omega|fail))[]))
  refine w8 (fun _ : Unit => []) (fun _ => True) (fun _ => 0) () (fun _ => .int .i64 0) (fun _ => .int .i64 20) trivial ?_
  rintro _ _ L _
  (have zz:=trivial;repeat((first|clear zz|with_reducible first|refine A3 ?_|refine A5 fun _=>?_|refine A4 fun _=>?_);try simp(disch:=first|omega|assumption|((repeat(first|exact A1|exact uH|apply A2|apply uT));first|done|fail)|(simp;first|done|omega|fail))[]))
  refine C8 F7 (fun w' _ => h40 w') ?_
  (have zz:=trivial;repeat((first|clear zz|with_reducible first|refine A3 ?_|refine A5 fun _=>?_|refine A4 fun _=>?_);try simp(disch:=first|omega|assumption|((repeat(first|exact A1|exact uH|apply A2|apply uT));first|done|fail)|(simp;first|done|omega|fail))[]))
  refine A9p (fun _ : Unit => []) (fun _ => True) (fun _ => 0) () (fun _ => .int .i64 0) (fun _ => .int .i64 20) (fun _ => .int .i64 20) trivial ?_
  rintro _ _ L2 _
  (have zz:=trivial;repeat((first|clear zz|with_reducible first|refine A3 ?_|refine A5 fun _=>?_|refine A4 fun _=>?_);try simp(disch:=first|omega|assumption|((repeat(first|exact A1|exact uH|apply A2|apply uT));first|done|fail)|(simp;first|done|omega|fail))[]))
  exact A8 rfl
 refine Fn.pure (P0 (TW.go (κ := false) (S := []) ?_))
 unfold G8
 (have zz:=trivial;repeat((first|clear zz|with_reducible first|refine A3 ?_|refine A5 fun _=>?_|refine A4 fun _=>?_);try simp(disch:=first|omega|assumption|((repeat(first|exact A1|exact uH|apply A2|apply uT));first|done|fail)|(simp;first|done|omega|fail))[]))
 refine C8 T3 (fun w' _ => h31 w') ?_
 (have zz:=trivial;repeat((first|clear zz|with_reducible first|refine A3 ?_|refine A5 fun _=>?_|refine A4 fun _=>?_);try simp(disch:=first|omega|assumption|((repeat(first|exact A1|exact uH|apply A2|apply uT));first|done|fail)|(simp;first|done|omega|fail))[]))
 exact A8 rfl
theorem B1N (w : World) (g c : Nat) (l : List Nat) (bw : Nat) (key : Nat → Int) (hc : A3w w (B7 [OI g l.length c l]) bw key l) (hI : Inc l 0 l.length) (hl : l.length ≤ 30) (hw : LW false (B7 [OI g l.length c l]) w [OI g l.length c l] w) :
  Fn PR C5 21 #[.slice (some ⟨g, 0, none⟩) l.length c, A5Q bw] w (Rn (B7 [OI g l.length c l]) w (fun (l' : List Nat) u => u = .tuple #[] ∧ E7 key l' 0 l.length ∧ l'.Perm l) fun l' => [OI g l.length c l']) := by
 refine P0 (TW.goH (κ := false) (S := B7 [OI g l.length c l]) ?_ hw)
 unfold G8
 (have zz:=trivial;repeat((first|clear zz|with_reducible first|refine A3 ?_|refine A5 fun _=>?_|refine A4 fun _=>?_);try simp(disch:=first|omega|assumption|((repeat(first|exact A1|exact uH|apply A2|apply uT));first|done|fail)|(simp;first|done|omega|fail))[]))
 refine F5 (Hc := [OI g l.length c l]) T3 (fun w' hw hs => B1H w' g c l bw key (fun w'' hw'' x y hx hy => hc w'' (hw.ks.low.trans hw'') x y hx hy) hI hl hs) (by (repeat' constructor)) ?_
 rintro l' _ ⟨rfl, h1, h2⟩
 (have zz:=trivial;repeat((first|clear zz|with_reducible first|refine A3 ?_|refine A5 fun _=>?_|refine A4 fun _=>?_);try simp(disch:=first|omega|assumption|((repeat(first|exact A1|exact uH|apply A2|apply uT));first|done|fail)|(simp;first|done|omega|fail))[]))
 exact G9 l' ⟨rfl, h1, h2⟩ (by (repeat' constructor))
theorem A4r (w : World) (v : Value) (l : List RecV) (hl : l.length ≤ 24) (hv : F1 w v l.length (l.flatMap F6)) :
  Fn PR C5 11 #[v] w (Rn [] w (fun r u => u = r) fun r => [.own 3 1 r (V9 (G0 l) l.length).length (G5 (V9 (G0 l) l.length))]) := by
 refine A3y (TW.go (κ := false) (S := []) ?_)
 unfold A0M
 obtain ⟨a, c, rfl, hr⟩ := hv.form
 (have zz:=trivial;repeat((first|clear zz|with_reducible first|refine A3 ?_|refine A5 fun _=>?_|refine A4 fun _=>?_);try simp(disch:=first|omega|assumption|((repeat(first|exact A1|exact uH|apply A2|apply uT));first|done|fail)|(simp;first|done|omega|fail))[]))
 rename_i bw
 refine A3N 3 1 ?_
 refine g8 l.length (fun i (x : Option Addr × Nat) => .slice x.1 (V8 (G0 l) i).length x.2) (fun i x => [.own 3 1 (.slice x.1 (V8 (G0 l) i).length x.2) (V8 (G0 l) i).length (G5 (V8 (G0 l) i)), .pt bw (.cells #[.slice a l.length c] 33)]) (fun i x => (V8 (G0 l) i).length = 0 → x = (none, 0)) (none, 0) (fun _ => rfl) ?_
 rintro i ⟨xa, xc⟩ hi hx L hL
 by_cases hlt : i < l.length
 ·obtain ⟨b, o, rfl, hrow⟩ := hr (by omega)
  have h1 := hrow.at (f := F6) (k := 10) (fun _ => rfl) (List.getElem?_eq_getElem hlt)
  have hk := A5l hlt
  rw [F6] at h1
  generalize l[i] = y at *
  have hst := A7J (G0 l) i
  have hle := A4W (G0 l) i
  rw [hk] at hst
  have h := hL hlt
  rw [hst] at h
  clear hL
  generalize V8 (G0 l) i = p at *
  by_cases c1 : 0 ≤ y.tk
  ·rw [if_pos c1] at h
   (have zz:=trivial;repeat((first|clear zz|with_reducible first|refine A3 ?_|refine A5 fun _=>?_|refine A4 fun _=>?_|refine B8 fun _=>?_|refine B9 (hK:=fun _=>?_)|refine B4 (hK:=fun _=>?_)|refine C0 (hK:=fun _=>?_)|refine C3 (hK:=fun _=>?_)|refine C4 (hK:=fun _=>?_));try simp(disch:=first|omega|assumption|((repeat(first|exact A1|exact uH|apply A2|apply uT));first|done|fail)|(simp;first|done|omega|fail))[hlt, h1, c1]))
   refine A3P (e := 3) (k := 1) (q := p.length) (r := 1) (xs := G5 p) (news := [.int .i64 (i : Int)]) (by (repeat constructor)) (M5.own (by (repeat constructor))) (by decide) (by simp) (by simp) (by simp only [maxLen]; omega) (by omega) fun a' c' => ?_
   (have zz:=trivial;repeat((first|clear zz|with_reducible first|refine A3 ?_|refine A5 fun _=>?_|refine A4 fun _=>?_);try simp(disch:=first|omega|assumption|((repeat(first|exact A1|exact uH|apply A2|apply uT));first|done|fail)|(simp;first|done|omega|fail))[]))
   have h := h (a', c') (fun e => by simp at e)
   rw [show G5 (p ++ [i]) = G5 p ++ [.int .i64 (i : Int)] by simp [G5], show (p ++ [i]).length = p.length + 1 by simp] at h
   exact Sels.tw (by (repeat' constructor)) h
  ·rw [if_neg c1] at h
   (have zz:=trivial;repeat((first|clear zz|with_reducible first|refine A3 ?_|refine A5 fun _=>?_|refine A4 fun _=>?_);try simp(disch:=first|omega|assumption|((repeat(first|exact A1|exact uH|apply A2|apply uT));first|done|fail)|(simp;first|done|omega|fail))[hlt, h1, c1]))
   exact Sels.tw (by (repeat' constructor)) (h (xa, xc) hx)
 ·obtain rfl : i = l.length := by omega
  clear hL
  have hinc := B2w (G0 l) l.length
  have hle := A4W (G0 l) l.length
  have hlt' : ∀ x ∈ V8 (G0 l) l.length, x < l.length := fun x h => (B0H h).1
  have hfin : ∀ q : List Nat, q.Perm (V8 (G0 l) l.length) → E7 (G0 l) q 0 (V8 (G0 l) l.length).length → q = V9 (G0 l) l.length := fun q => A9P
  have hwl := A4D (G0 l) l.length
  generalize V8 (G0 l) l.length = p at *
  (have zz:=trivial;repeat((first|clear zz|with_reducible first|refine A3 ?_|refine A5 fun _=>?_|refine A4 fun _=>?_);try simp(disch:=first|omega|assumption|((repeat(first|exact A1|exact uH|apply A2|apply uT));first|done|fail)|(simp;first|done|omega|fail))[]))
  by_cases h0 : p.length = 0
  ·obtain rfl : p = [] := List.length_eq_zero_iff.1 h0
   have := hx rfl
   injection this with e1 e2
   subst e1 e2
   have hw0 := hfin [] (List.Perm.refl _) (fun i j _ _ h => by simp at h)
   refine C8 N6 (fun w' _ => A9x w' _) ?_
   (have zz:=trivial;repeat((first|clear zz|with_reducible first|refine A3 ?_|refine A5 fun _=>?_|refine A4 fun _=>?_);try simp(disch:=first|omega|assumption|((repeat(first|exact A1|exact uH|apply A2|apply uT));first|done|fail)|(simp;first|done|omega|fail))[]))
   refine G9 (.slice none 0 0) rfl ?_
   rw [← hw0]
   (repeat' constructor)
  ·refine A2C (e := 3) (k := 1) (v := .slice xa p.length xc) (q := p.length) (xs := G5 p) (by (repeat constructor)) (by omega) fun g gc hg => ?_
   cases hg
   refine F5 (Hc := [OI g p.length xc p]) N6 (fun w' hw hs => B1N w' g xc p bw (G0 l) (fun w'' hw'' x y hx hy => ?_) hinc (by omega) hs) (by (repeat' constructor)) ?_
   ·have h2 := hw.part (Hn := []) (w' := w'') ⟨hw'', by simp, by simp, .nil⟩
    exact B3v w'' bw (.slice a l.length c) l x y (hlt' x hx) (hlt' y hy) (by omega) (hv.ks h2.ks (by simp)) (h2.cell1 (by (repeat constructor)))
   rintro q _ ⟨rfl, h1, h2⟩
   have hq := hfin q h2 h1
   subst hq
   (have zz:=trivial;repeat((first|clear zz|with_reducible first|refine A3 ?_|refine A5 fun _=>?_|refine A4 fun _=>?_);try simp(disch:=first|omega|assumption|((repeat(first|exact A1|exact uH|apply A2|apply uT));first|done|fail)|(simp;first|done|omega|fail))[]))
   refine G9 (.slice (some ⟨g, 0, none⟩) p.length xc) rfl ?_
   rw [hwl]
   (repeat' constructor)
end Go.Proofs.Ytlplkjgcfjdinaa
namespace Go.Proofs.Ytlplkjgcfjdinaa
open Go
structure SeenV where
 r : RecV
 op : OpV
 pv : Value
 key : ByteArray
 is : Bool
def E6 (s : SeenV) : List Value := [.int .i64 s.r.th, .int .i64 s.r.op, .int .i64 s.r.st, .int .i64 s.r.tk, .int .i64 s.r.en, .int .i64 s.r.nw, .int .i64 s.r.an.err, .int .i64 s.r.an.bk, .bool s.r.an.made, .int .i64 s.r.an.count, .int .i64 s.op.kind, .string s.op.packet, s.pv, .int .i64 s.op.shard, .string s.key, .bool s.is]
def SeenV.cs (s : SeenV) : Array Value := #[.int .i64 s.r.th, .int .i64 s.r.op, .int .i64 s.r.st, .int .i64 s.r.tk, .int .i64 s.r.en, .int .i64 s.r.nw, .int .i64 s.r.an.err, .int .i64 s.r.an.bk, .bool s.r.an.made, .int .i64 s.r.an.count, .int .i64 s.op.kind, .string s.op.packet, s.pv, .int .i64 s.op.shard, .string s.key, .bool s.is]
def M3 (o : OpV) : KeyV × Nat × Bool := if o.kind = 0 then ((T2 o.packet).1, (T2 o.packet).2.1, decide ((T2 o.packet).2.2 = 0)) else (noK, 0, false)
def A31 (o : OpV) : ByteArray × Bool := if (M3 o).2.2 then (if S9 (M3 o).1 then q5 (M3 o).1 else G4, S9 (M3 o).1) else (G4, false)
def k6 (o : OpV) : Bool := (M3 o).2.2 && A14 (M3 o).1 (M3 o).2.1
def N7 (s : SeenV) : Bool := s.is && !decide (s.key = G4) && !decide (s.r.th = 0) && decide (0 ≤ s.r.en) && decide (s.r.an.err = 0)
theorem A56 (w : World) (o : OpV) (a : Option Addr) (n k : Nat) (hs : o.packet.size < 2 ^ 40) : Fn PR C5 27 #[o.val (.slice a n k)] w (fun u w' => u = .tuple #[F8 (M3 o).1 (M3 o).2.1, .bool (M3 o).2.2] ∧ B6 [] w w') := by
 refine Fn.pure (A4e (TW.go (κ := false) (S := []) ?_))
 unfold A0a
 simp only [OpV.val]
 by_cases k0 : o.kind = 0
 ·have hv : M3 o = ((T2 o.packet).1, (T2 o.packet).2.1, decide ((T2 o.packet).2.2 = 0)) := if_pos k0
  rw [hv]
  (have zz:=trivial;repeat((first|clear zz|with_reducible first|refine A3 ?_|refine A5 fun _=>?_|refine A4 fun _=>?_);try simp(disch:=first|omega|assumption|((repeat(first|exact A1|exact uH|apply A2|apply uT));first|done|fail)|(simp;first|done|omega|fail))[k0]))
  refine C8 A32 (fun w' _ => A5M w' o.packet hs) ?_
  generalize T2 o.packet = p
  obtain ⟨q, f, e⟩ := p
  (have zz:=trivial;repeat((first|clear zz|with_reducible first|refine A3 ?_|refine A5 fun _=>?_|refine A4 fun _=>?_);try simp(disch:=first|omega|assumption|((repeat(first|exact A1|exact uH|apply A2|apply uT));first|done|fail)|(simp;first|done|omega|fail))[packet.val, F8]))
  exact A8 (by simp)
 ·have hv : M3 o = (noK, 0, false) := if_neg k0
  rw [hv]
  (have zz:=trivial;repeat((first|clear zz|with_reducible first|refine A3 ?_|refine A5 fun _=>?_|refine A4 fun _=>?_);try simp(disch:=first|omega|assumption|((repeat(first|exact A1|exact uH|apply A2|apply uT));first|done|fail)|(simp;first|done|omega|fail))[k0, F8, noK, G4]))
  exact A8 rfl
theorem A5E (w : World) (o : OpV) (a : Option Addr) (n k : Nat) (hs : o.packet.size < 2 ^ 40) : Fn PR C5 15 #[o.val (.slice a n k)] w (fun u w' => u = .tuple #[.string (A31 o).1, .bool (A31 o).2] ∧ B6 [] w w') := by
 refine Fn.pure (A7F (TW.go (κ := false) (S := []) ?_))
 unfold A2z
 simp only [OpV.val]
 (have zz:=trivial;repeat((first|clear zz|with_reducible first|refine A3 ?_|refine A5 fun _=>?_|refine A4 fun _=>?_);try simp(disch:=first|omega|assumption|((repeat(first|exact A1|exact uH|apply A2|apply uT));first|done|fail)|(simp;first|done|omega|fail))[]))
 refine C8 y5 (fun w' _ => A56 w' o a n k hs) ?_
 unfold A31
 generalize M3 o = p
 obtain ⟨q, f, b⟩ := p
 cases b with
 | false =>
  (have zz:=trivial;repeat((first|clear zz|with_reducible first|refine A3 ?_|refine A5 fun _=>?_|refine A4 fun _=>?_);try simp(disch:=first|omega|assumption|((repeat(first|exact A1|exact uH|apply A2|apply uT));first|done|fail)|(simp;first|done|omega|fail))[F8]))
  exact A8 rfl
 | true =>
  (have zz:=trivial;repeat((first|clear zz|with_reducible first|refine A3 ?_|refine A5 fun _=>?_|refine A4 fun _=>?_);try simp(disch:=first|omega|assumption|((repeat(first|exact A1|exact uH|apply A2|apply uT));first|done|fail)|(simp;first|done|omega|fail))[F8]))
  refine C8 A4F (fun w' _ => B2B w' q) ?_
  (have zz:=trivial;repeat((first|clear zz|with_reducible first|refine A3 ?_|refine A5 fun _=>?_|refine A4 fun _=>?_);try simp(disch:=first|omega|assumption|((repeat(first|exact A1|exact uH|apply A2|apply uT));first|done|fail)|(simp;first|done|omega|fail))[A3E]))
  exact A8 rfl
end Go.Proofs.Ytlplkjgcfjdinaa
namespace Go.Proofs.Ytlplkjgcfjdinaa
open Go
theorem B5k {κ : Bool} {S : List Nat} {w0 : World} {H Hj : List Res} {F : WP} {A : WP → WP} (hF : TW κ S w0 Hj F) (hA : ∀ J : WP, TW κ S w0 Hj J → TW κ S w0 H (A J)) : TW κ S w0 H (jn (n := 0) F A) := hA F hF
end Go.Proofs.Ytlplkjgcfjdinaa
namespace Go.Proofs.Ytlplkjgcfjdinaa
open Go
theorem H5 {κ : Bool} {S : List Nat} {w0 : World} {H : List Res} {K0 : WP} {t : TypeId} {n : Nat} {z : Value} [h : TG t n z] {b o : Nat} {c : Array Value} {T : TypeId} {f : Nat × Nat} {xs : Array Value} {l : List Rd} (hm : Res.pt b (.cells c T f) ∈ H) (hl : N4 c.toList o n = some xs.toList) :
  TW κ S w0 H (watch PR ((none, Instr.loadAt t (.pointer (some ⟨b, o, none⟩)), .agg xs) :: l) K0) = TW κ S w0 H (watch PR l K0) := by
 obtain ⟨_, _, h, hd⟩ := h.ti
 refine A5G fun w hw => ?_
 have hr := x7 hl (F2.bl (hw.pt hm))
 have h2 := p4 hr
 have := A0q h hd h2.1 h2.2
 simpa using this
theorem B4M {κ : Bool} {S : List Nat} {w0 w : World} {H : List Res} {b : Nat} {c : Array Value} {T : TypeId} {f : Nat × Nat} (hw : LW κ S w0 H w) (hm : Res.pt b (.cells c T f) ∈ H) : F2 w b 0 c.toList := F2.bl (hw.pt hm)
theorem F2.sub {w : World} {b o : Nat} {l : List Value} (h : F2 w b o l) (j n : Nat) (hn : j + n ≤ l.length) : Y9 w b (o + j) n = some ((l.drop j).take n) := by
 have hl : ((l.drop j).take n).length = n := by simp; omega
 have h1 : F2 w b (o + j) ((l.drop j).take n) := fun q hq => by
  rw [hl] at hq
  rw [Nat.add_assoc, h (j + q) (by omega), List.getElem?_take_of_lt hq, List.getElem?_drop]
 have := A3L h1
 rwa [hl] at this
end Go.Proofs.Ytlplkjgcfjdinaa
namespace Go.Proofs.Ytlplkjgcfjdinaa
open Go
structure SeenOk (s : SeenV) : Prop where
 pv : ∃ a k, s.pv = .slice a s.op.pool.length k
 pk : s.op.packet.size < 2 ^ 40
 pl : s.op.pool.length ≤ 1000000
theorem A3j (w : World) (s : SeenV) (hs : SeenOk s) : Fn PR C5 35 #[.agg s.cs] w (fun u w' => u = .bool (k6 s.op) ∧ B6 [] w w') := by
 refine Fn.pure (A1N (TW.go (κ := false) (S := []) ?_))
 unfold e7
 obtain ⟨a, k, hp⟩ := hs.pv
 simp only [SeenV.cs, hp]
 (have zz:=trivial;repeat((first|clear zz|with_reducible first|refine A3 ?_|refine A5 fun _=>?_|refine A4 fun _=>?_);try simp(disch:=first|omega|assumption|((repeat(first|exact A1|exact uH|apply A2|apply uT));first|done|fail)|(simp;first|done|omega|fail))[]))
 refine C8 y5 (fun w' _ => by have := A56 w' s.op a s.op.pool.length k hs.pk; rw [OpV.val] at this; exact this) ?_
 unfold k6
 generalize M3 s.op = p
 obtain ⟨q, f, b⟩ := p
 cases b with
 | false =>
  (have zz:=trivial;repeat((first|clear zz|with_reducible first|refine A3 ?_|refine A5 fun _=>?_|refine A4 fun _=>?_);try simp(disch:=first|omega|assumption|((repeat(first|exact A1|exact uH|apply A2|apply uT));first|done|fail)|(simp;first|done|omega|fail))[F8]))
  exact A8 rfl
 | true =>
  (have zz:=trivial;repeat((first|clear zz|with_reducible first|refine A3 ?_|refine A5 fun _=>?_|refine A4 fun _=>?_);try simp(disch:=first|omega|assumption|((repeat(first|exact A1|exact uH|apply A2|apply uT));first|done|fail)|(simp;first|done|omega|fail))[F8]))
  refine C8 A2q (fun w' _ => by have := A9L w' q f; rw [F8] at this; exact this) ?_
  (have zz:=trivial;repeat((first|clear zz|with_reducible first|refine A3 ?_|refine A5 fun _=>?_|refine A4 fun _=>?_);try simp(disch:=first|omega|assumption|((repeat(first|exact A1|exact uH|apply A2|apply uT));first|done|fail)|(simp;first|done|omega|fail))[]))
  exact A8 rfl
theorem B0d (w : World) (s : SeenV) (hs : SeenOk s) : Fn PR C5 29 #[.agg s.cs] w (fun u w' => u = .bool (N7 s) ∧ B6 [] w w') := by
 refine Fn.pure (A1r (TW.go (κ := false) (S := []) ?_))
 unfold l7 N7
 obtain ⟨a, k, hp⟩ := hs.pv
 simp only [SeenV.cs, hp]
 cases hi : s.is with
 | false =>
  (have zz:=trivial;repeat((first|clear zz|with_reducible first|refine A3 ?_|refine A5 fun _=>?_|refine A4 fun _=>?_);try simp(disch:=first|omega|assumption|((repeat(first|exact A1|exact uH|apply A2|apply uT));first|done|fail)|(simp;first|done|omega|fail))[]))
  exact A8 rfl
 | true =>
 by_cases k1 : s.key = G4
 ·(have zz:=trivial;repeat((first|clear zz|with_reducible first|refine A3 ?_|refine A5 fun _=>?_|refine A4 fun _=>?_);try simp(disch:=first|omega|assumption|((repeat(first|exact A1|exact uH|apply A2|apply uT));first|done|fail)|(simp;first|done|omega|fail))[k1]))
  exact A8 (by simp)
 by_cases k2 : s.r.th = 0
 ·(have zz:=trivial;repeat((first|clear zz|with_reducible first|refine A3 ?_|refine A5 fun _=>?_|refine A4 fun _=>?_);try simp(disch:=first|omega|assumption|((repeat(first|exact A1|exact uH|apply A2|apply uT));first|done|fail)|(simp;first|done|omega|fail))[k1, k2]))
  exact A8 (by simp)
 by_cases k3 : 0 ≤ s.r.en
 ·(have zz:=trivial;repeat((first|clear zz|with_reducible first|refine A3 ?_|refine A5 fun _=>?_|refine A4 fun _=>?_);try simp(disch:=first|omega|assumption|((repeat(first|exact A1|exact uH|apply A2|apply uT));first|done|fail)|(simp;first|done|omega|fail))[k1, k2, k3]))
  exact A8 (by simp [k1])
 ·(have zz:=trivial;repeat((first|clear zz|with_reducible first|refine A3 ?_|refine A5 fun _=>?_|refine A4 fun _=>?_);try simp(disch:=first|omega|assumption|((repeat(first|exact A1|exact uH|apply A2|apply uT));first|done|fail)|(simp;first|done|omega|fail))[k1, k2, k3]))
  exact A8 (by simp)
def A1m (a x : SeenV) : Bool := !decide (x.key = G4) && decide (x.key = a.key) && (decide (x.r.en < 0) || k6 x.op)
def A16 (a x : SeenV) : Bool := decide (x.op.kind = 1) && decide (x.r.th = 0) && decide (x.r.an.err = 0) && decide (B2s x.op.pool a.r.an.bk < 0)
theorem B3L (w : World) (b : Nat) (a x : SeenV) (hx : SeenOk x) (hb : F2 w b 0 (E6 a)) : Fn PR C5 36 #[.agg x.cs, .pointer (some ⟨b, 0, none⟩)] w (fun u w' => u = .bool (A1m a x) ∧ B6 [] w w') := by
 refine Fn.pure (A2Q (TW.go (κ := false) (S := []) ?_))
 unfold m4 A1m
 have hk : w.cell? ⟨b, 14, none⟩ = some (.string a.key) := hb.get (i := 14) rfl
 obtain ⟨pa, pk, hp⟩ := hx.pv
 have hcl := fun w' => A3j w' x hx
 simp only [SeenV.cs, hp] at hcl ⊢
 by_cases k1 : x.key = G4
 ·(have zz:=trivial;repeat((first|clear zz|with_reducible first|refine A3 ?_|refine A5 fun _=>?_|refine A4 fun _=>?_);try simp(disch:=first|omega|assumption|((repeat(first|exact A1|exact uH|apply A2|apply uT));first|done|fail)|(simp;first|done|omega|fail))[k1]))
  exact A8 (by simp)
 by_cases k2 : x.key = a.key
 case neg =>
  (have zz:=trivial;repeat((first|clear zz|with_reducible first|refine A3 ?_|refine A5 fun _=>?_|refine A4 fun _=>?_);try simp(disch:=first|omega|assumption|((repeat(first|exact A1|exact uH|apply A2|apply uT));first|done|fail)|(simp;first|done|omega|fail))[k1, hk, k2]))
  exact A8 (by simp [k2])
 have k1' : ¬ a.key = G4 := by rw [← k2]; exact k1
 by_cases k3 : x.r.en < 0
 ·(have zz:=trivial;repeat((first|clear zz|with_reducible first|refine A3 ?_|refine A5 fun _=>?_|refine A4 fun _=>?_);try simp(disch:=first|omega|assumption|((repeat(first|exact A1|exact uH|apply A2|apply uT));first|done|fail)|(simp;first|done|omega|fail))[k1, k1', hk, k2, k3]))
  exact A8 (by simp)
 ·rw [k2] at hcl
  (have zz:=trivial;repeat((first|clear zz|with_reducible first|refine A3 ?_|refine A5 fun _=>?_|refine A4 fun _=>?_);try simp(disch:=first|omega|assumption|((repeat(first|exact A1|exact uH|apply A2|apply uT));first|done|fail)|(simp;first|done|omega|fail))[k1, k1', hk, k2, k3]))
  refine C8 Z0 (fun w' _ => hcl w') ?_
  (have zz:=trivial;repeat((first|clear zz|with_reducible first|refine A3 ?_|refine A5 fun _=>?_|refine A4 fun _=>?_);try simp(disch:=first|omega|assumption|((repeat(first|exact A1|exact uH|apply A2|apply uT));first|done|fail)|(simp;first|done|omega|fail))[]))
  exact A8 (by simp [k1, k1', k2])
theorem B2z (w : World) (b : Nat) (a x : SeenV) (hx : SeenOk x) (hb : F2 w b 0 (E6 a)) (hp : F1 w x.pv x.op.pool.length (x.op.pool.flatMap j9)) : Fn PR C5 37 #[.agg x.cs, .pointer (some ⟨b, 0, none⟩)] w (fun u w' => u = .bool (A16 a x) ∧ B6 [] w w') := by
 refine Fn.pure (A2N (TW.go (κ := false) (S := []) ?_))
 unfold m5 A16
 have hk : w.cell? ⟨b, 7, none⟩ = some (.int .i64 a.r.an.bk) := hb.get (i := 7) rfl
 obtain ⟨pa, pk, hpe⟩ := hx.pv
 rw [hpe] at hp
 simp only [SeenV.cs, hpe]
 by_cases k1 : x.op.kind = 1
 case neg =>
  (have zz:=trivial;repeat((first|clear zz|with_reducible first|refine A3 ?_|refine A5 fun _=>?_|refine A4 fun _=>?_);try simp(disch:=first|omega|assumption|((repeat(first|exact A1|exact uH|apply A2|apply uT));first|done|fail)|(simp;first|done|omega|fail))[k1]))
  exact A8 (by simp)
 by_cases k2 : x.r.th = 0
 case neg =>
  (have zz:=trivial;repeat((first|clear zz|with_reducible first|refine A3 ?_|refine A5 fun _=>?_|refine A4 fun _=>?_);try simp(disch:=first|omega|assumption|((repeat(first|exact A1|exact uH|apply A2|apply uT));first|done|fail)|(simp;first|done|omega|fail))[k1, k2]))
  exact A8 (by simp)
 by_cases k3 : x.r.an.err = 0
 case neg =>
  (have zz:=trivial;repeat((first|clear zz|with_reducible first|refine A3 ?_|refine A5 fun _=>?_|refine A4 fun _=>?_);try simp(disch:=first|omega|assumption|((repeat(first|exact A1|exact uH|apply A2|apply uT));first|done|fail)|(simp;first|done|omega|fail))[k1, k2, k3]))
  exact A8 (by simp)
 (have zz:=trivial;repeat((first|clear zz|with_reducible first|refine A3 ?_|refine A5 fun _=>?_|refine A4 fun _=>?_);try simp(disch:=first|omega|assumption|((repeat(first|exact A1|exact uH|apply A2|apply uT));first|done|fail)|(simp;first|done|omega|fail))[k1, k2, k3, hk]))
 refine C8 A6H (fun w' hw' => A8H w' (.slice pa x.op.pool.length pk) x.op.pool a.r.an.bk hx.pl (hp.ks hw'.ks (by simp))) ?_
 (have zz:=trivial;repeat((first|clear zz|with_reducible first|refine A3 ?_|refine A5 fun _=>?_|refine A4 fun _=>?_);try simp(disch:=first|omega|assumption|((repeat(first|exact A1|exact uH|apply A2|apply uT));first|done|fail)|(simp;first|done|omega|fail))[]))
 exact A8 (by simp [k1, k2, k3])
theorem B3c (w : World) (b5 b7 b9 b4 : Nat) (sv : Value) (ss : List SeenV) (t : Nat) (x a : SeenV) (c : CfgV) (hss : F1 w sv ss.length (ss.flatMap E6)) (hl : ss.length ≤ 1000) (hx : ss[t]? = some x) (h5 : w.cell? ⟨b5, 0, none⟩ = some sv) (h7 : w.cell? ⟨b7, 0, none⟩ = some (.int .i64 (t : Nat))) (h9 : F2 w b9 0 (E6 a)) (h4 : w.cell? ⟨b4, 3, none⟩ = some (.int .i64 c.idle)) :
  Fn PR C5 34 #[.pointer (some ⟨b5, 0, none⟩), .pointer (some ⟨b7, 0, none⟩), .pointer (some ⟨b9, 0, none⟩), .pointer (some ⟨b4, 0, none⟩)] w (fun u w' => u = .bool (decide (IntKind.i64.wrap (a.r.nw + c.idle) < x.r.nw)) ∧ B6 [] w w') := by
 refine Fn.pure (A2V (TW.go (κ := false) (S := []) ?_))
 unfold m6
 have hn : w.cell? ⟨b9, 5, none⟩ = some (.int .i64 a.r.nw) := h9.get (i := 5) rfl
 obtain ⟨sa, sc, rfl, hr⟩ := hss.form
 have htl := (List.getElem?_eq_some_iff.1 hx).1
 obtain ⟨b, o, rfl, hrow⟩ := hr (by omega)
 have h1 := hrow.cellAt (f := E6) (k := 16) (j := 5) (fun _ => rfl) hx rfl
 (have zz:=trivial;repeat((first|clear zz|with_reducible first|refine A3 ?_|refine A5 fun _=>?_|refine A4 fun _=>?_);try simp(disch:=first|omega|assumption|((repeat(first|exact A1|exact uH|apply A2|apply uT));first|done|fail)|(simp;first|done|omega|fail))[h5, h7, htl, h1, hn, h4]))
 exact A8 rfl
theorem B4f (w : World) (g c : Nat) (fs : List (FuncId × List Value × List Value × Bool)) (hl : fs.length ≤ 1000) (hr : F2 w g 0 (fs.map fun e => Value.func (.func e.1) e.2.1.toArray e.2.2.1.toArray))
  (hf : ∀ e ∈ fs, B1 PR e.1 ∧ ∀ w', KS false [] w w' → Fn PR C5 e.1 (e.2.1 ++ e.2.2.1).toArray w' (fun v w'' => v = .bool e.2.2.2 ∧ B6 [] w' w'')) :
  Fn PR C5 33 #[.slice (some ⟨g, 0, none⟩) fs.length c] w (fun u w' => u = .bool (fs.any (·.2.2.2)) ∧ B6 [] w w') := by
 refine Fn.pure (A7m (TW.go (κ := false) (S := []) ?_))
 unfold A26
 (have zz:=trivial;repeat((first|clear zz|with_reducible first|refine A3 ?_|refine A5 fun _=>?_|refine A4 fun _=>?_);try simp(disch:=first|omega|assumption|((repeat(first|exact A1|exact uH|apply A2|apply uT));first|done|fail)|(simp;first|done|omega|fail))[]))
 refine g8 (α := Unit) fs.length (fun _ _ => .bool false) (fun _ _ => []) (fun i _ => ∀ j e, j < i → fs[j]? = some e → e.2.2.2 = false) () (by simp) ?_
 rintro i _ hi hpre L hL
 by_cases hlt : i < fs.length
 ·have hx := List.getElem?_eq_getElem hlt
  have h1 : w.cell? ⟨g, i, none⟩ = some (.func (.func fs[i].1) fs[i].2.1.toArray fs[i].2.2.1.toArray) := by
   have := hr.get (i := i) (v := .func (.func fs[i].1) fs[i].2.1.toArray fs[i].2.2.1.toArray) (by rw [List.getElem?_map, hx]; rfl)
   simpa using this
  obtain ⟨he, hc⟩ := hf fs[i] (List.getElem_mem hlt)
  have hmem := List.getElem_mem hlt
  generalize fs[i] = e at *
  (have zz:=trivial;repeat((first|clear zz|with_reducible first|refine A3 ?_|refine A5 fun _=>?_|refine A4 fun _=>?_);try simp(disch:=first|omega|assumption|((repeat(first|exact A1|exact uH|apply A2|apply uT));first|done|fail)|(simp;first|done|omega|fail))[hlt, h1]))
  refine C8 he (fun w' hw' => hc w' hw'.ks) ?_
  cases hb : e.2.2.2 with
  | true =>
   (have zz:=trivial;repeat((first|clear zz|with_reducible first|refine A3 ?_|refine A5 fun _=>?_|refine A4 fun _=>?_);try simp(disch:=first|omega|assumption|((repeat(first|exact A1|exact uH|apply A2|apply uT));first|done|fail)|(simp;first|done|omega|fail))[]))
   exact A8 (by rw [List.any_eq_true.2 ⟨e, hmem, hb⟩])
  | false =>
   (have zz:=trivial;repeat((first|clear zz|with_reducible first|refine A3 ?_|refine A5 fun _=>?_|refine A4 fun _=>?_);try simp(disch:=first|omega|assumption|((repeat(first|exact A1|exact uH|apply A2|apply uT));first|done|fail)|(simp;first|done|omega|fail))[]))
   refine hL hlt () fun j e' hj he' => ?_
   by_cases h : j < i
   ·exact hpre j e' h he'
   ·obtain rfl : j = i := by omega
    rw [hx] at he'; injection he' with he'; rw [← he']; exact hb
 ·obtain rfl : i = fs.length := by omega
  (have zz:=trivial;repeat((first|clear zz|with_reducible first|refine A3 ?_|refine A5 fun _=>?_|refine A4 fun _=>?_);try simp(disch:=first|omega|assumption|((repeat(first|exact A1|exact uH|apply A2|apply uT));first|done|fail)|(simp;first|done|omega|fail))[]))
  refine A8 ?_
  rw [show fs.any (·.2.2.2) = false from List.any_eq_false.2 fun e he => by
   obtain ⟨j, hj, e'⟩ := List.getElem_of_mem he
   simp [hpre j e hj (by rw [List.getElem?_eq_getElem hj, e'])]]
end Go.Proofs.Ytlplkjgcfjdinaa
namespace Go.Proofs.Ytlplkjgcfjdinaa
open Go
def K9 : SeenV := ⟨d4, ⟨0, G4, [], 0⟩, .slice none 0 0, G4, false⟩
def W2 (ss : List SeenV) (i j : Nat) (p : SeenV → Bool) : Bool := (List.range ss.length).any fun k => decide (i < k) && decide (k < j) && (ss.getD k K9).is && p (ss.getD k K9)
theorem B22 {ss : List SeenV} {i j k : Nat} {p : SeenV → Bool} {x : SeenV} (hx : ss[k]? = some x) (h1 : i < k) (h2 : k < j) (h3 : x.is = true) (h4 : p x = true) : W2 ss i j p = true := by
 unfold W2
 rw [List.any_eq_true]
 have hk := (List.getElem?_eq_some_iff.1 hx).1
 refine ⟨k, List.mem_range.2 hk, ?_⟩
 rw [List.getD_eq_getElem?_getD, hx]
 simp [h1, h2, h3, h4]
theorem B4Y {ss : List SeenV} {i j : Nat} {p : SeenV → Bool} (h : ∀ k x, i < k → k < j → ss[k]? = some x → x.is = true → p x = false) : W2 ss i j p = false := by
 unfold W2
 rw [List.any_eq_false]
 intro k hk
 have hk := List.mem_range.1 hk
 have hx := List.getElem?_eq_getElem hk
 rw [List.getD_eq_getElem?_getD, hx]
 simp only [Option.getD_some]
 intro hh
 simp only [Bool.and_eq_true, decide_eq_true_eq] at hh
 rw [h k _ hh.1.1.1 hh.1.1.2 hx hh.1.2] at hh
 simp at hh
theorem A7c (w : World) (b6 b7 b5 b8 b9 : Nat) (sv : Value) (ss : List SeenV) (i j : Nat) (f : FuncId) (p : SeenV → Bool) (he : B1 PR f) (hss : F1 w sv ss.length (ss.flatMap E6)) (hok : ∀ s ∈ ss, SeenOk s) (hl : ss.length ≤ 1000) (hi : i < 1000) (hj : j ≤ ss.length)
  (h6 : w.cell? ⟨b6, 0, none⟩ = some (.int .i64 (i : Nat))) (h7 : w.cell? ⟨b7, 0, none⟩ = some (.int .i64 (j : Nat))) (h5 : w.cell? ⟨b5, 0, none⟩ = some sv) (h8 : w.cell? ⟨b8, 0, none⟩ = some (.func (.func f) #[] #[.pointer (some ⟨b9, 0, none⟩)]))
  (hf : ∀ x ∈ ss, ∀ w', KS false [] w w' → Fn PR C5 f #[.agg x.cs, .pointer (some ⟨b9, 0, none⟩)] w' (fun v w'' => v = .bool (p x) ∧ B6 [] w' w'')) :
  Fn PR C5 32 #[.pointer (some ⟨b6, 0, none⟩), .pointer (some ⟨b7, 0, none⟩), .pointer (some ⟨b5, 0, none⟩), .pointer (some ⟨b8, 0, none⟩)] w (fun u w' => u = .bool (W2 ss i j p) ∧ B6 [] w w') := by
 refine Fn.pure (A05 (TW.go (κ := false) (S := []) ?_))
 unfold Z1
 obtain ⟨sa, sc, rfl, hr⟩ := hss.form
 (have zz:=trivial;repeat((first|clear zz|with_reducible first|refine A3 ?_|refine A5 fun _=>?_|refine A4 fun _=>?_);try simp(disch:=first|omega|assumption|((repeat(first|exact A1|exact uH|apply A2|apply uT));first|done|fail)|(simp;first|done|omega|fail))[h6]))
 rw [show ((i : Int) + 1) = ((i + 1 : Nat) : Int) by omega]
 refine w8 (fun _ : Nat => []) (fun k => i < k ∧ ∀ m x, i < m → m < k → ss[m]? = some x → x.is = true → p x = false) (fun k => ss.length - k) (i + 1) (fun _ => .bool false) (fun k => .int .i64 (k : Nat)) ⟨by omega, fun m x h1 h2 => by omega⟩ ?_
 rintro k ⟨hk, hpre⟩ L hL
 by_cases hlt : k < j
 ·have hx := List.getElem?_eq_getElem (show k < ss.length by omega)
  obtain ⟨b, o, rfl, hrow⟩ := hr (by omega)
  have h1 := hrow.cellAt (f := E6) (k := 16) (j := 15) (fun _ => rfl) hx rfl
  have h2 := hrow.at (f := E6) (k := 16) (fun _ => rfl) hx
  have hmem := List.getElem_mem (show k < ss.length by omega)
  have hs := hok _ hmem
  have hfx := hf _ hmem
  have hkl : k < ss.length := by omega
  generalize ss[k] = x at *
  obtain ⟨pa, pk, hp⟩ := hs.pv
  have hL' := hL (k + 1)
  simp only [SeenV.cs, E6, hp] at h1 h2 hfx
  cases his : x.is with
  | false =>
   rw [his] at h1 h2
   (have zz:=trivial;repeat((first|clear zz|with_reducible first|refine A3 ?_|refine A5 fun _=>?_|refine A4 fun _=>?_);try simp(disch:=first|omega|assumption|((repeat(first|exact A1|exact uH|apply A2|apply uT));first|done|fail)|(simp;first|done|omega|fail))[h5, h7, hlt, hkl, h1, h2]))
   refine hL' ⟨by omega, fun m y m1 m2 hy hy2 => ?_⟩ (by omega)
   by_cases e : m < k
   ·exact hpre m y m1 e hy hy2
   ·obtain rfl : m = k := by omega
    rw [hx] at hy; injection hy with hy; subst hy; rw [his] at hy2; cases hy2
  | true =>
   rw [his] at h1 h2 hfx
   (have zz:=trivial;repeat((first|clear zz|with_reducible first|refine A3 ?_|refine A5 fun _=>?_|refine A4 fun _=>?_);try simp(disch:=first|omega|assumption|((repeat(first|exact A1|exact uH|apply A2|apply uT));first|done|fail)|(simp;first|done|omega|fail))[h5, h7, h8, hlt, hkl, h1, h2]))
   refine C8 he (fun w' hw' => hfx w' hw'.ks) ?_
   cases hpx : p x with
   | true =>
    (have zz:=trivial;repeat((first|clear zz|with_reducible first|refine A3 ?_|refine A5 fun _=>?_|refine A4 fun _=>?_);try simp(disch:=first|omega|assumption|((repeat(first|exact A1|exact uH|apply A2|apply uT));first|done|fail)|(simp;first|done|omega|fail))[]))
    exact A8 (by rw [B22 hx hk hlt his hpx])
   | false =>
    (have zz:=trivial;repeat((first|clear zz|with_reducible first|refine A3 ?_|refine A5 fun _=>?_|refine A4 fun _=>?_);try simp(disch:=first|omega|assumption|((repeat(first|exact A1|exact uH|apply A2|apply uT));first|done|fail)|(simp;first|done|omega|fail))[]))
    refine hL' ⟨by omega, fun m y m1 m2 hy hy2 => ?_⟩ (by omega)
    by_cases e : m < k
    ·exact hpre m y m1 e hy hy2
    ·obtain rfl : m = k := by omega
     rw [hx] at hy; injection hy with hy; subst hy; exact hpx
 ·have hlt' : ¬ (k : Int) < j := by omega
  (have zz:=trivial;repeat((first|clear zz|with_reducible first|refine A3 ?_|refine A5 fun _=>?_|refine A4 fun _=>?_);try simp(disch:=first|omega|assumption|((repeat(first|exact A1|exact uH|apply A2|apply uT));first|done|fail)|(simp;first|done|omega|fail))[h7, hlt, hlt']))
  exact A8 (by rw [B4Y fun m x m1 m2 hx hx2 => hpre m x m1 (by omega) hx hx2])
def A5C (c : CfgV) (ss : List SeenV) (i j : Nat) : Bool :=
 (ss.getD i K9).is && (ss.getD j K9).is && (decide (IntKind.i64.wrap ((ss.getD i K9).r.nw + c.idle) < (ss.getD j K9).r.nw) || k6 (ss.getD i K9).op || W2 ss i j (A1m (ss.getD i K9)) || W2 ss i j (A16 (ss.getD i K9)))
def Q6 (c : CfgV) (ss : List SeenV) (f t : Int) : Bool := decide (0 ≤ f) && decide (0 ≤ t) && decide (f < ss.length) && decide (t < ss.length) && A5C c ss f.toNat t.toNat
theorem A8f (w : World) (f : FuncId) (b9 b6 b7 b5 : Nat) : Fn PR C5 31 #[.func (.func f) #[] #[.pointer (some ⟨b9, 0, none⟩)], .pointer (some ⟨b6, 0, none⟩), .pointer (some ⟨b7, 0, none⟩), .pointer (some ⟨b5, 0, none⟩)] w (Rn [] w (fun b u => u = .func (.func 32) #[] #[.pointer (some ⟨b6, 0, none⟩), .pointer (some ⟨b7, 0, none⟩), .pointer (some ⟨b5, 0, none⟩), .pointer (some ⟨b, 0, none⟩)]) fun b => [.pt b (.cells #[.func (.func f) #[] #[.pointer (some ⟨b9, 0, none⟩)]] 87)]) := by
 refine A2S (TW.go (κ := false) (S := []) ?_)
 unfold m0
 (have zz:=trivial;repeat((first|clear zz|with_reducible first|refine A3 ?_|refine A5 fun _=>?_|refine A4 fun _=>?_);try simp(disch:=first|omega|assumption|((repeat(first|exact A1|exact uH|apply A2|apply uT));first|done|fail)|(simp;first|done|omega|fail))[]))
 rename_i b
 exact G9 b rfl (by (repeat' constructor))
theorem A4f (w : World) (c : CfgV) (sv : Value) (ss : List SeenV) (f t : Int) (hss : F1 w sv ss.length (ss.flatMap E6)) (hok : ∀ s ∈ ss, SeenOk s) (hpl : ∀ s ∈ ss, F1 w s.pv s.op.pool.length (s.op.pool.flatMap j9)) (hl : ss.length ≤ 100) :
  Fn PR C5 20 #[c.val, sv, .int .i64 f, .int .i64 t] w (fun u w' => u = .bool (Q6 c ss f t) ∧ B6 [] w w') := by
 refine Fn.pure (A3q (TW.go (κ := false) (S := []) ?_))
 unfold y8
 have hss0 := hss
 obtain ⟨sa, sc, rfl, hr⟩ := hss.form
 simp only [CfgV.val]
 by_cases f0 : f < 0
 ·have hx : Q6 c ss f t = false := by unfold Q6; rw [decide_eq_false (show ¬ 0 ≤ f by omega)]; simp
  (have zz:=trivial;repeat((first|clear zz|with_reducible first|refine A3 ?_|refine A5 fun _=>?_|refine A4 fun _=>?_);try simp(disch:=first|omega|assumption|((repeat(first|exact A1|exact uH|apply A2|apply uT));first|done|fail)|(simp;first|done|omega|fail))[f0]))
  exact A8 (by rw [hx])
 by_cases t0 : t < 0
 ·have hx : Q6 c ss f t = false := by unfold Q6; rw [decide_eq_false (show ¬ 0 ≤ t by omega)]; simp
  (have zz:=trivial;repeat((first|clear zz|with_reducible first|refine A3 ?_|refine A5 fun _=>?_|refine A4 fun _=>?_);try simp(disch:=first|omega|assumption|((repeat(first|exact A1|exact uH|apply A2|apply uT));first|done|fail)|(simp;first|done|omega|fail))[f0, t0]))
  exact A8 (by rw [hx])
 obtain ⟨i, rfl⟩ : ∃ i : Nat, f = i := ⟨f.toNat, by omega⟩
 obtain ⟨j, rfl⟩ : ∃ j : Nat, t = j := ⟨t.toNat, by omega⟩
 have f0' : ¬ ((i : Nat) : Int) < 0 := by omega
 have t0' : ¬ ((j : Nat) : Int) < 0 := by omega
 by_cases f1 : ss.length ≤ i
 ·have hx : Q6 c ss i j = false := by unfold Q6; rw [decide_eq_false (show ¬ (i : Int) < ss.length by omega)]; simp
  have f1' : (ss.length : Int) ≤ i := by omega
  (have zz:=trivial;repeat((first|clear zz|with_reducible first|refine A3 ?_|refine A5 fun _=>?_|refine A4 fun _=>?_);try simp(disch:=first|omega|assumption|((repeat(first|exact A1|exact uH|apply A2|apply uT));first|done|fail)|(simp;first|done|omega|fail))[f0', t0', f1, f1']))
  exact A8 (by rw [hx])
 have f1' : ¬ (ss.length : Int) ≤ i := by omega
 by_cases t1 : ss.length ≤ j
 ·have hx : Q6 c ss i j = false := by unfold Q6; rw [decide_eq_false (show ¬ (j : Int) < ss.length by omega)]; simp
  have t1' : (ss.length : Int) ≤ j := by omega
  (have zz:=trivial;repeat((first|clear zz|with_reducible first|refine A3 ?_|refine A5 fun _=>?_|refine A4 fun _=>?_);try simp(disch:=first|omega|assumption|((repeat(first|exact A1|exact uH|apply A2|apply uT));first|done|fail)|(simp;first|done|omega|fail))[f0', t0', f1, f1', t1, t1']))
  exact A8 (by rw [hx])
 have t1' : ¬ (ss.length : Int) ≤ j := by omega
 have hil : i < ss.length := by omega
 have hjl : j < ss.length := by omega
 have hxi := List.getElem?_eq_getElem hil
 have hxj := List.getElem?_eq_getElem hjl
 have hx : Q6 c ss i j = (ss[i].is && ss[j].is && (decide (IntKind.i64.wrap (ss[i].r.nw + c.idle) < ss[j].r.nw) || k6 ss[i].op || W2 ss i j (A1m ss[i]) || W2 ss i j (A16 ss[i]))) := by
  unfold Q6 A5C
  rw [Int.toNat_natCast, Int.toNat_natCast, List.getD_eq_getElem?_getD, List.getD_eq_getElem?_getD, hxi, hxj]
  simp [hil, hjl]
 rw [hx]
 obtain ⟨b, o, rfl, hrow⟩ := hr (by omega)
 have hi15 := hrow.cellAt (f := E6) (k := 16) (j := 15) (fun _ => rfl) hxi rfl
 have hj15 := hrow.cellAt (f := E6) (k := 16) (j := 15) (fun _ => rfl) hxj rfl
 have hia := hrow.at (f := E6) (k := 16) (fun _ => rfl) hxi
 have hoi := hok _ (List.getElem_mem hil)
 generalize ss[i] = a at *
 generalize ss[j] = y at *
 cases hai : a.is with
 | false =>
  rw [hai] at hi15
  (have zz:=trivial;repeat((first|clear zz|with_reducible first|refine A3 ?_|refine A5 fun _=>?_|refine A4 fun _=>?_);try simp(disch:=first|omega|assumption|((repeat(first|exact A1|exact uH|apply A2|apply uT));first|done|fail)|(simp;first|done|omega|fail))[f0', t0', f1, f1', t1, t1', hil, hjl, hi15]))
  exact A8 rfl
 | true =>
 rw [hai] at hi15
 cases hyi : y.is with
 | false =>
  rw [hyi] at hj15
  (have zz:=trivial;repeat((first|clear zz|with_reducible first|refine A3 ?_|refine A5 fun _=>?_|refine A4 fun _=>?_);try simp(disch:=first|omega|assumption|((repeat(first|exact A1|exact uH|apply A2|apply uT));first|done|fail)|(simp;first|done|omega|fail))[f0', t0', f1, f1', t1, t1', hil, hjl, hi15, hj15]))
  exact A8 rfl
 | true =>
 rw [hyi] at hj15
 obtain ⟨pa, pk, hp⟩ := hoi.pv
 have hcs : a.cs = (E6 a).toArray := rfl
 rw [E6, hp, hai] at hia
 (have zz:=trivial;repeat((first|clear zz|with_reducible first|refine A3 ?_|refine A5 fun _=>?_|refine A4 fun _=>?_);try simp(disch:=first|omega|assumption|((repeat(first|exact A1|exact uH|apply A2|apply uT));first|done|fail)|(simp;first|done|omega|fail))[f0', t0', f1, f1', t1, t1', hil, hjl, hi15, hj15, hia]))
 rename_i b4 b5 b6 b7 b9
 have hrow9 : ∀ {κ : Bool} {H : List Res} {w1 w' : World}, LW κ [] w1 H w' → Res.pt b9 (.cells #[.int .i64 a.r.th, .int .i64 a.r.op, .int .i64 a.r.st, .int .i64 a.r.tk, .int .i64 a.r.en, .int .i64 a.r.nw, .int .i64 a.r.an.err, .int .i64 a.r.an.bk, .bool a.r.an.made, .int .i64 a.r.an.count, .int .i64 a.op.kind, .string a.op.packet, .slice pa a.op.pool.length pk, .int .i64 a.op.shard, .string a.key, .bool true] 70) ∈ H → F2 w' b9 0 (E6 a) := fun h hm => by rw [E6, hp, hai]; exact B4M h hm
 refine K7 k4 (fun w' _ => A8f w' 36 b9 b6 b7 b5) ?_
 intro bb1 _ hu
 subst hu
 rw [H5 (by (repeat constructor)) (by rfl)]
 (have zz:=trivial;repeat((first|clear zz|with_reducible first|refine A3 ?_|refine A5 fun _=>?_|refine A4 fun _=>?_);try simp(disch:=first|omega|assumption|((repeat(first|exact A1|exact uH|apply A2|apply uT));first|done|fail)|(simp;first|done|omega|fail))[]))
 refine K7 k4 (fun w' _ => A8f w' 37 b9 b6 b7 b5) ?_
 intro bb2 _ hu
 subst hu
 rw [H5 (by (repeat constructor)) (by rfl)]
 refine B5V (hK := fun g => ?_)
 have h2 : ∀ {κ : Bool} {H : List Res} {w' : World}, LW κ [] w H w' → Res.pt b5 (.cells #[.slice (some ⟨b, o, none⟩) ss.length sc] 64) ∈ H → F1 w' (.slice (some ⟨b, o, none⟩) ss.length sc) ss.length (ss.flatMap E6) := fun h _ => hss0.ks h.ks (by simp)
 have hcl := fun w' => A3j w' a hoi
 simp only [SeenV.cs, hp, hai] at hcl
 refine C8 (u := .bool (decide (IntKind.i64.wrap (a.r.nw + c.idle) < y.r.nw) || k6 a.op || W2 ss i j (A1m a) || W2 ss i j (A16 a))) A6b (fun w' hw' => ?_) ?_
 ·have ho := B4f w' g 4 [(34, [], [.pointer (some ⟨b5, 0, none⟩), .pointer (some ⟨b7, 0, none⟩), .pointer (some ⟨b9, 0, none⟩), .pointer (some ⟨b4, 0, none⟩)], decide (IntKind.i64.wrap (a.r.nw + c.idle) < y.r.nw)), (35, [.agg #[.int .i64 a.r.th, .int .i64 a.r.op, .int .i64 a.r.st, .int .i64 a.r.tk, .int .i64 a.r.en, .int .i64 a.r.nw, .int .i64 a.r.an.err, .int .i64 a.r.an.bk, .bool a.r.an.made, .int .i64 a.r.an.count, .int .i64 a.op.kind, .string a.op.packet, .slice pa a.op.pool.length pk, .int .i64 a.op.shard, .string a.key, .bool true]], [], k6 a.op), (32, [], [.pointer (some ⟨b6, 0, none⟩), .pointer (some ⟨b7, 0, none⟩), .pointer (some ⟨b5, 0, none⟩), .pointer (some ⟨bb1, 0, none⟩)], W2 ss i j (A1m a)), (32, [], [.pointer (some ⟨b6, 0, none⟩), .pointer (some ⟨b7, 0, none⟩), .pointer (some ⟨b5, 0, none⟩), .pointer (some ⟨bb2, 0, none⟩)], W2 ss i j (A16 a))] (by simp) ?_ ?_
  ·have e : ([(34, ([] : List Value), ([] : List Value), decide (IntKind.i64.wrap (a.r.nw + c.idle) < y.r.nw)), (0, [], [], k6 a.op), (0, [], [], W2 ss i j (A1m a)), (0, [], [], W2 ss i j (A16 a))] : List (FuncId × List Value × List Value × Bool)).any (·.2.2.2) = (decide (IntKind.i64.wrap (a.r.nw + c.idle) < y.r.nw) || k6 a.op || W2 ss i j (A1m a) || W2 ss i j (A16 a)) := by simp [Bool.or_assoc]
   simp only [List.any_cons, List.any_nil, Bool.or_false] at ho e
   rw [← e]
   exact ho
  ·exact (hw'.ownr (by (repeat constructor)))
  ·intro e he
   simp only [List.mem_cons, List.not_mem_nil, or_false] at he
   rcases he with rfl | rfl | rfl | rfl
   ·refine ⟨A1p, fun w'' hk => ?_⟩
    have hw2 := hw'.ext hk
    exact B3c w'' b5 b7 b9 b4 _ ss j y a c (h2 hw2 (by (repeat constructor))) (by omega) hxj (hw2.cell1 (by (repeat constructor))) (hw2.cell1 (by (repeat constructor))) (hrow9 hw2 (by (repeat constructor))) (hw2.cell (o := 3) (by (repeat constructor)) rfl)
   ·exact ⟨Z0, fun w'' hk => hcl w''⟩
   ·refine ⟨Y5, fun w'' hk => ?_⟩
    have hw2 := hw'.ext hk
    refine A7c w'' b6 b7 b5 bb1 b9 _ ss i j 36 (A1m a) A1k (h2 hw2 (by (repeat constructor))) hok (by omega) (by omega) (by omega) (hw2.cell1 (by (repeat constructor))) (hw2.cell1 (by (repeat constructor))) (hw2.cell1 (by (repeat constructor))) (hw2.cell1 (by (repeat constructor))) fun x hx w3 hk3 => ?_
    have hw3 := hw2.ext hk3
    exact B3L w3 b9 a x (hok x hx) (hrow9 hw3 (by (repeat constructor)))
   ·refine ⟨Y5, fun w'' hk => ?_⟩
    have hw2 := hw'.ext hk
    refine A7c w'' b6 b7 b5 bb2 b9 _ ss i j 37 (A16 a) A1u (h2 hw2 (by (repeat constructor))) hok (by omega) (by omega) (by omega) (hw2.cell1 (by (repeat constructor))) (hw2.cell1 (by (repeat constructor))) (hw2.cell1 (by (repeat constructor))) (hw2.cell1 (by (repeat constructor))) fun x hx w3 hk3 => ?_
    have hw3 := hw2.ext hk3
    exact B2z w3 b9 a x (hok x hx) (hrow9 hw3 (by (repeat constructor))) ((hpl x hx).ks hw3.ks (by simp))
 ·(have zz:=trivial;repeat((first|clear zz|with_reducible first|refine A3 ?_|refine A5 fun _=>?_|refine A4 fun _=>?_);try simp(disch:=first|omega|assumption|((repeat(first|exact A1|exact uH|apply A2|apply uT));first|done|fail)|(simp;first|done|omega|fail))[]))
  exact A8 (by simp)
end Go.Proofs.Ytlplkjgcfjdinaa
namespace Go.Proofs.Ytlplkjgcfjdinaa
open Go
def N1 (ts : List M7) (x : RecV) : SeenV := if m8 ts x then ⟨x, (A7C ts x).1, (A7C ts x).2, (A31 (A7C ts x).1).1, true⟩ else ⟨x, ⟨0, G4, [], 0⟩, .slice none 0 0, G4, false⟩
def D7 (ts : List M7) (l : List RecV) : List SeenV := (V9 (G0 l) l.length).map fun i => N1 ts (l.getD i d4)
theorem A57 {ts : List M7} {x : RecV} {w : World} (ht : ∀ t ∈ ts, ThRd w t) (hops : ∀ t ∈ ts, t.2.length ≤ 24 ∧ ∀ o ∈ t.2, o.1.packet.size ≤ 100 ∧ o.1.pool.length ≤ 8) : SeenOk (N1 ts x) ∧ F1 w (N1 ts x).pv (N1 ts x).op.pool.length ((N1 ts x).op.pool.flatMap j9) := by
 unfold N1
 cases hop : m8 ts x with
 | false =>
  rw [if_neg (by simp)]
  exact ⟨⟨⟨none, 0, rfl⟩, by show (0 : Nat) < 2 ^ 40; omega, by simp⟩, Or.inl ⟨rfl, rfl, none, 0, rfl⟩⟩
 | true =>
  rw [if_pos rfl]
  obtain ⟨n, q, t, o, hn, hq, htt, ho, hat⟩ := A7L hop
  rw [hat]
  have htm := List.mem_of_getElem? htt
  have hom := List.mem_of_getElem? ho
  have h1 := (hops t htm).2 o hom
  have h2 := (ht t htm).pool o hom
  obtain ⟨a, k, e, _⟩ := h2.form
  exact ⟨⟨⟨a, k, e⟩, by simp only; omega, by simp only; omega⟩, h2⟩
theorem B0M (w : World) (tv lv : Value) (ts : List M7) (l : List RecV) (hr : F1 w tv ts.length (ts.flatMap A18)) (ht : ∀ t ∈ ts, ThRd w t) (hts : ts.length ≤ 1000) (hops : ∀ t ∈ ts, t.2.length ≤ 24 ∧ ∀ o ∈ t.2, o.1.packet.size ≤ 100 ∧ o.1.pool.length ≤ 8) (hl : l.length ≤ 24) (hv : F1 w lv l.length (l.flatMap F6)) :
  Fn PR C5 18 #[tv, lv] w (Rn [] w (fun r u => u = r) fun r => [.own 70 16 r (D7 ts l).length ((D7 ts l).flatMap E6)]) := by
 refine A7b (TW.go (κ := false) (S := []) ?_)
 unfold A3A
 have hv0 := hv
 obtain ⟨ta, tc, rfl, htr⟩ := hr.form
 obtain ⟨la, lc, rfl, hlr⟩ := hv.form
 refine K7 u5 (fun w' hw' => A4r w' (.slice la l.length lc) l hl (hv0.ks hw'.ks (by simp))) ?_
 intro _ r1 hr1
 subst hr1
 unfold D7
 have hwl : (V9 (G0 l) l.length).length ≤ 24 := by rw [A4D]; have := A4W (G0 l) l.length; omega
 have hwlt : ∀ y ∈ V9 (G0 l) l.length, y < l.length := fun y hy => (A5S hy).1
 generalize V9 (G0 l) l.length = wl at *
 refine A0k (e := 3) (k := 1) (v := r1) (q := wl.length) (xs := G5 wl) (by (repeat constructor)) fun ra rc e => ?_
 subst e
 (have zz:=trivial;repeat((first|clear zz|with_reducible first|refine A3 ?_|refine A5 fun _=>?_|refine A4 fun _=>?_);try simp(disch:=first|omega|assumption|((repeat(first|exact A1|exact uH|apply A2|apply uT));first|done|fail)|(simp;first|done|omega|fail))[]))
 refine A3N 70 16 ?_
 refine g8 wl.length (fun i (x : Option Addr × Nat) => .slice x.1 i x.2) (fun i x => [.own 70 16 (.slice x.1 i x.2) i (((wl.take i).map fun i => N1 ts (l.getD i d4)).flatMap E6), .own 3 1 (.slice ra wl.length rc) wl.length (G5 wl)]) (fun i x => True) (none, 0) trivial ?_ (by simp)
 rintro i ⟨xa, xc⟩ hi _ L hL
 by_cases hlt : i < wl.length
 case neg =>
  obtain rfl : i = wl.length := by omega
  (have zz:=trivial;repeat((first|clear zz|with_reducible first|refine A3 ?_|refine A5 fun _=>?_|refine A4 fun _=>?_);try simp(disch:=first|omega|assumption|((repeat(first|exact A1|exact uH|apply A2|apply uT));first|done|fail)|(simp;first|done|omega|fail))[]))
  refine G9 (.slice xa wl.length xc) rfl ?_
  try rw [List.length_map]
  try rw [List.take_length]
  try simp only [List.getD_eq_getElem?_getD]
  (repeat' constructor)
 have h := hL hlt
 clear hL
 have hkl := hwlt _ (A4m hlt)
 have g1 := K6 hlt
 have hst : ((wl.take (i + 1)).map fun i => N1 ts (l.getD i d4)).flatMap E6 = ((wl.take i).map fun i => N1 ts (l.getD i d4)).flatMap E6 ++ E6 (N1 ts (l.getD (ix wl i) d4)) := by
  unfold ix
  rw [List.take_add_one, List.getElem?_eq_getElem hlt, Option.toList_some, List.map_append, List.map_singleton, List.flatMap_append, List.flatMap_singleton, A1S hlt]
 rw [hst] at h
 generalize ix wl i = k at *
 have hyr : l[k]? = some (l.getD k d4) := by rw [List.getD_eq_getElem?_getD, List.getElem?_eq_getElem hkl]; rfl
 obtain ⟨lb, lo, rfl, hlrow⟩ := hlr (by omega)
 have h1 := hlrow.at (f := F6) (k := 10) (fun _ => rfl) hyr
 rw [F6] at h1
 generalize l.getD k d4 = y at *
 generalize hpre : ((wl.take i).map fun i => N1 ts (l.getD i d4)).flatMap E6 = pre at *
 refine A2C (e := 3) (k := 1) (v := .slice ra wl.length rc) (q := wl.length) (xs := G5 wl) (by (repeat constructor)) (by omega) fun g gc hg => ?_
 cases hg
 obtain ⟨s, hs⟩ : ∃ s, s = N1 ts y := ⟨_, rfl⟩
 rw [← hs] at h
 have hsv : m8 ts y = false → s = ⟨y, ⟨0, G4, [], 0⟩, .slice none 0 0, G4, false⟩ := fun e => by rw [hs]; unfold N1; rw [if_neg (by rw [e]; simp)]
 have hsok : SeenOk s := by rw [hs]; exact (A57 ht hops).1
 obtain ⟨pa, pk, hpv⟩ := hsok.pv
 (have zz:=trivial;repeat((first|clear zz|with_reducible first|refine A3 ?_|refine A5 fun _=>?_|refine A4 fun _=>?_);try simp(disch:=first|omega|assumption|((repeat(first|exact A1|exact uH|apply A2|apply uT));first|done|fail)|(simp;first|done|omega|fail))[-V7, hlt]))
 rw [V7]
 (have zz:=trivial;repeat((first|clear zz|with_reducible first|refine A3 ?_|refine A5 fun _=>?_|refine A4 fun _=>?_);try simp(disch:=first|omega|assumption|((repeat(first|exact A1|exact uH|apply A2|apply uT));first|done|fail)|(simp;first|done|omega|fail))[-V7, hlt]))
 rw [V7]
 (have zz:=trivial;repeat((first|clear zz|with_reducible first|refine A3 ?_|refine A5 fun _=>?_|refine A4 fun _=>?_);try simp(disch:=first|omega|assumption|((repeat(first|exact A1|exact uH|apply A2|apply uT));first|done|fail)|(simp;first|done|omega|fail))[-V7, hlt, g1, hkl, h1]))
 rename_i b8 b9
 refine B5k (Hj := [.pt b9 (.cells s.cs 70), .own 70 16 (.slice xa i xc) i pre, .own 3 1 (.slice (some ⟨g, 0, none⟩) wl.length rc) wl.length (G5 wl)]) ?_ fun J hJ => ?_
 ·simp only [SeenV.cs, hpv]
  (have zz:=trivial;repeat((first|clear zz|with_reducible first|refine A3 ?_|refine A5 fun _=>?_|refine A4 fun _=>?_|refine B8 fun _=>?_|refine B9 (hK:=fun _=>?_)|refine B4 (hK:=fun _=>?_)|refine C0 (hK:=fun _=>?_)|refine C3 (hK:=fun _=>?_)|refine C4 (hK:=fun _=>?_));try simp(disch:=first|omega|assumption|((repeat(first|exact A1|exact uH|apply A2|apply uT));first|done|fail)|(simp;first|done|omega|fail))[]))
  refine A3P (e := 70) (k := 16) (q := i) (r := 1) (xs := pre) (news := E6 s) (by (repeat constructor)) (by simp only [E6, hpv]; exact M5.own (by (repeat constructor))) (by decide) rfl (by simp [E6, hpv]) (by simp only [maxLen]; omega) (by omega) fun a' c' => ?_
  (have zz:=trivial;repeat((first|clear zz|with_reducible first|refine A3 ?_|refine A5 fun _=>?_|refine A4 fun _=>?_);try simp(disch:=first|omega|assumption|((repeat(first|exact A1|exact uH|apply A2|apply uT));first|done|fail)|(simp;first|done|omega|fail))[]))
  exact Sels.tw (by (repeat' constructor)) (h (a', c') trivial)
 have hno : m8 ts y = false → TW false [] w [.pt b9 (.cells #[.int .i64 y.th, .int .i64 y.op, .int .i64 y.st, .int .i64 y.tk, .int .i64 y.en, .int .i64 y.nw, .int .i64 y.an.err, .int .i64 y.an.bk, .bool y.an.made, .int .i64 y.an.count, .int .i64 0, .string G4, .slice none 0 0, .int .i64 0, .string G4, .bool false] 70), .own 70 16 (.slice xa i xc) i pre, .own 3 1 (.slice (some ⟨g, 0, none⟩) wl.length rc) wl.length (G5 wl)] J := fun e => by
  have e1 := hsv e
  rw [e1] at hJ
  exact hJ
 by_cases t0 : y.th < 0
 ·have t1 : ¬ 0 ≤ y.th := by omega
  have h := hno (A7w t0)
  (have zz:=trivial;repeat((first|clear zz|with_reducible first|refine A3 ?_|refine A5 fun _=>?_|refine A4 fun _=>?_);try simp(disch:=first|omega|assumption|((repeat(first|exact A1|exact uH|apply A2|apply uT));first|done|fail)|(simp;first|done|omega|fail))[t0, t1]))
  exact Sels.tw (by (repeat' constructor)) h
 have t1 : 0 ≤ y.th := by omega
 by_cases t2 : (ts.length : Int) ≤ y.th
 ·have t3 : ¬ y.th < ts.length := by omega
  have h := hno (A7G t2)
  (have zz:=trivial;repeat((first|clear zz|with_reducible first|refine A3 ?_|refine A5 fun _=>?_|refine A4 fun _=>?_);try simp(disch:=first|omega|assumption|((repeat(first|exact A1|exact uH|apply A2|apply uT));first|done|fail)|(simp;first|done|omega|fail))[t0, t1, t2, t3]))
  exact Sels.tw (by (repeat' constructor)) h
 have t3 : y.th < ts.length := by omega
 obtain ⟨n, hn⟩ : ∃ n : Nat, y.th = n := ⟨y.th.toNat, by omega⟩
 have hnl : n < ts.length := by omega
 have n2 : y.th.toNat = n := by omega
 have htt := List.getElem?_eq_getElem hnl
 have htm := List.getElem_mem hnl
 generalize ts[n] = t at *
 obtain ⟨tb, tof, rfl, htrow⟩ := htr (by omega)
 have ht1 := htrow.cellAt (f := A18) (k := 1) (j := 0) (fun _ => rfl) htt rfl
 rw [Nat.mul_one, Nat.add_zero] at ht1
 obtain ⟨oa, oc, hte, hor⟩ := (ht t htm).rd.form
 rw [hte] at ht1
 have hio := A8p hn htt
 have hop1 := (hops t htm).1
 by_cases q0 : 0 ≤ y.op
 case neg =>
  have h := hno (by rw [hio, decide_eq_false q0, Bool.false_and])
  (have zz:=trivial;repeat((first|clear zz|with_reducible first|refine A3 ?_|refine A5 fun _=>?_|refine A4 fun _=>?_);try simp(disch:=first|omega|assumption|((repeat(first|exact A1|exact uH|apply A2|apply uT));first|done|fail)|(simp;first|done|omega|fail))[t0, t1, t2, t3, n2, hnl, ht1, q0]))
  exact Sels.tw (by (repeat' constructor)) h
 by_cases q1 : y.op < (t.2.length : Nat)
 case neg =>
  have h := hno (by rw [hio, decide_eq_false q1, Bool.and_false])
  (have zz:=trivial;repeat((first|clear zz|with_reducible first|refine A3 ?_|refine A5 fun _=>?_|refine A4 fun _=>?_);try simp(disch:=first|omega|assumption|((repeat(first|exact A1|exact uH|apply A2|apply uT));first|done|fail)|(simp;first|done|omega|fail))[t0, t1, t2, t3, n2, hnl, ht1, q0, q1]))
  exact Sels.tw (by (repeat' constructor)) h
 have hop : m8 ts y = true := by rw [hio, decide_eq_true q0, decide_eq_true q1]; rfl
 obtain ⟨n', q, t', o, hn', hq, htt', ho, hat⟩ := A7L hop
 obtain rfl : n' = n := by omega
 rw [htt] at htt'
 obtain rfl : t = t' := Option.some.inj htt'
 have hs1 : s = ⟨y, o.1, o.2, (A31 o.1).1, true⟩ := by rw [hs]; unfold N1; rw [if_pos hop, hat]
 have hom := List.mem_of_getElem? ho
 have hql := (List.getElem?_eq_some_iff.1 ho).1
 have q2 : y.op.toNat = q := by omega
 obtain ⟨ob, oo, rfl, horow⟩ := hor (by omega)
 have ho1 := horow.at (f := A2b) (k := 4) (fun _ => rfl) ho
 have hop2 := (hops t htm).2 o hom
 rw [hs1] at hpv
 simp only at hpv
 rw [A2b, hpv] at ho1
 rw [hs1] at hJ
 simp only [SeenV.cs, hpv] at hJ
 (have zz:=trivial;repeat((first|clear zz|with_reducible first|refine A3 ?_|refine A5 fun _=>?_|refine A4 fun _=>?_);try simp(disch:=first|omega|assumption|((repeat(first|exact A1|exact uH|apply A2|apply uT));first|done|fail)|(simp;first|done|omega|fail))[t0, t1, t2, t3, n2, hnl, ht1, q0, q1, q2, hql, ho1]))
 refine C8 u3 (fun w' _ => by have := A5E w' o.1 pa o.1.pool.length pk (by omega); rw [OpV.val] at this; exact this) ?_
 (have zz:=trivial;repeat((first|clear zz|with_reducible first|refine A3 ?_|refine A5 fun _=>?_|refine A4 fun _=>?_);try simp(disch:=first|omega|assumption|((repeat(first|exact A1|exact uH|apply A2|apply uT));first|done|fail)|(simp;first|done|omega|fail))[]))
 exact Sels.tw (by (repeat' constructor)) hJ
end Go.Proofs.Ytlplkjgcfjdinaa
namespace Go.Proofs.Ytlplkjgcfjdinaa
open Go
def A47 (key : ByteArray) : List SeenV → Nat → Option Nat
 | [], _ => none
 | s :: l, j => if N7 s && decide (s.key = key) then some j else A47 key l (j + 1)
def x4 (ss : List SeenV) (j : Nat) (key : ByteArray) : Option Nat := A47 key (ss.drop j) j
def G6 (ss : List SeenV) (i : Nat) : Nat := if N7 (ss.getD i K9) then (x4 ss (i + 1) (ss.getD i K9).key).getD 0 else 0
def a7 (ss : List SeenV) : List Nat := (List.range ss.length).map (G6 ss)
def nxA (ss : List SeenV) (n : Nat) : List Nat := List.replicate n 0 ++ (a7 ss).drop n
theorem A23 (ss : List SeenV) : (a7 ss).length = ss.length := by simp [a7]
theorem A7n {ss : List SeenV} {i : Nat} (h : i < ss.length) : (a7 ss)[i]? = some (G6 ss i) := by simp [a7, h]
theorem B3B {ss : List SeenV} {n : Nat} (h : n ≤ ss.length) : (nxA ss n).length = ss.length := by simp [nxA, A23]; omega
theorem B3A (ss : List SeenV) : nxA ss ss.length = List.replicate ss.length 0 := by
 unfold nxA; rw [List.drop_of_length_le (by rw [A23]; exact Nat.le_refl _), List.append_nil]
theorem B1f (ss : List SeenV) : nxA ss 0 = a7 ss := by simp [nxA]
theorem A7p {ss : List SeenV} {n : Nat} (h : n < ss.length) : nxA ss n = (nxA ss (n + 1)).set n (G6 ss n) := by
 unfold nxA
 have h1 : n < (a7 ss).length := by rw [A23]; exact h
 have h2 : (a7 ss)[n] = G6 ss n := by
  have := A7n h
  rw [List.getElem?_eq_getElem h1] at this
  exact Option.some.inj this
 rw [List.drop_eq_getElem_cons h1, h2, List.replicate_succ', List.append_assoc, List.singleton_append, List.set_append_right _ _ (by simp), List.length_replicate, Nat.sub_self, List.set_cons_zero]
theorem B2H {ss : List SeenV} {n : Nat} (h : n < ss.length) (h0 : G6 ss n = 0) : nxA ss n = nxA ss (n + 1) := by
 rw [A7p h, h0]
 apply List.ext_getElem (by simp)
 intro i h1 h2
 rw [List.getElem_set]
 split
 ·rename_i e
  subst e
  have : n < (List.replicate (n + 1) 0 : List Nat).length := by simp
  simp [nxA, List.getElem_append_left this]
 ·rfl
theorem A8z {ss : List SeenV} {n : Nat} {s : SeenV} (hx : ss[n]? = some s) (key : ByteArray) : x4 ss n key = if N7 s && decide (s.key = key) then some n else x4 ss (n + 1) key := by
 obtain ⟨h, rfl⟩ := List.getElem?_eq_some_iff.1 hx
 unfold x4
 rw [List.drop_eq_getElem_cons h, A47]
theorem B0x {ss : List SeenV} (key : ByteArray) : x4 ss ss.length key = none := by unfold x4; rw [List.drop_length]; rfl
theorem A9Q {key : ByteArray} {l : List SeenV} : ∀ {j k : Nat}, A47 key l j = some k → j ≤ k ∧ k < j + l.length ∧ ∃ s, l[k - j]? = some s ∧ N7 s = true ∧ s.key = key := by
 induction l with
 | nil => intro j k h; cases h
 | cons s l ih =>
  intro j k h
  rw [A47] at h
  split at h
  ·rename_i hc
   injection h with h
   subst h
   rw [Bool.and_eq_true, decide_eq_true_eq] at hc
   exact ⟨Nat.le_refl _, by simp, s, by simp, hc.1, hc.2⟩
  ·obtain ⟨h1, h2, s', h3, h4⟩ := ih h
   refine ⟨by omega, by simp only [List.length_cons]; omega, s', ?_, h4⟩
   rw [show k - j = (k - (j + 1)) + 1 by omega]
   simpa using h3
theorem A86 {ss : List SeenV} {i : Nat} (hi : i < ss.length) (h : 0 < G6 ss i) : i < G6 ss i ∧ G6 ss i < ss.length ∧ N7 (ss.getD i K9) = true ∧ N7 (ss.getD (G6 ss i) K9) = true := by
 unfold G6 at h ⊢
 split at h
 case isFalse => omega
 rename_i hc
 rw [if_pos hc]
 cases hl : x4 ss (i + 1) (ss.getD i K9).key with
 | none => rw [hl] at h; simp at h
 | some k =>
  simp only [Option.getD_some]
  obtain ⟨h1, h2, s, h3, h4, _⟩ := A9Q hl
  rw [List.length_drop] at h2
  refine ⟨by omega, by omega, hc, ?_⟩
  rw [List.getElem?_drop, show i + 1 + (k - (i + 1)) = k by omega] at h3
  rw [List.getD_eq_getElem?_getD, h3]
  exact h4
def Q2 (ss : List SeenV) (n : Nat) : List (Nat × Nat) := ((List.range n).map fun i => (i, G6 ss i)).filter fun p => decide (0 < p.2)
def K4 (ss : List SeenV) : List (Nat × Nat) := Q2 ss ss.length
theorem A1C (ss : List SeenV) (n : Nat) : Q2 ss (n + 1) = if 0 < G6 ss n then Q2 ss n ++ [(n, G6 ss n)] else Q2 ss n := by
 unfold Q2
 rw [List.range_succ, List.map_append, List.filter_append]
 by_cases h : 0 < G6 ss n <;> simp [h]
theorem A8y (ss : List SeenV) {m n : Nat} (h : m ≤ n) : ∃ t, Q2 ss n = Q2 ss m ++ t := by
 induction n with
 | zero =>
  obtain rfl : m = 0 := by omega
  exact ⟨[], by simp⟩
 | succ n ih =>
  by_cases e : m = n + 1
  ·subst e; exact ⟨[], by simp⟩
  ·obtain ⟨t, ht⟩ := ih (by omega)
   rw [A1C, ht]
   split
   ·exact ⟨t ++ [(n, G6 ss n)], by simp⟩
   ·exact ⟨t, rfl⟩
theorem B0U {ss : List SeenV} {i n : Nat} (h : i < n) (h0 : 0 < G6 ss i) : (Q2 ss n)[(Q2 ss i).length]? = some (i, G6 ss i) := by
 obtain ⟨t, ht⟩ := A8y ss (show i + 1 ≤ n by omega)
 rw [ht, A1C, if_pos h0, List.append_assoc, List.getElem?_append_right (Nat.le_refl _)]
 simp
theorem r5 {ss : List SeenV} {p : Nat × Nat} (h : p ∈ K4 ss) : p.1 < p.2 ∧ p.2 < ss.length ∧ N7 (ss.getD p.1 K9) = true ∧ N7 (ss.getD p.2 K9) = true := by
 unfold K4 Q2 at h
 rw [List.mem_filter, decide_eq_true_eq] at h
 obtain ⟨h1, h2⟩ := h
 obtain ⟨i, hi, rfl⟩ := List.mem_map.1 h1
 have hi := List.mem_range.1 hi
 exact A86 hi h2
theorem A9j (ss : List SeenV) : (K4 ss).Pairwise fun p q => p.1 < q.1 := by
 unfold K4 Q2
 refine List.Pairwise.filter _ ?_
 rw [List.pairwise_map]
 exact List.pairwise_lt_range
def S7 (c : CfgV) (ss : List SeenV) (p : Nat × Nat) : Bool := !decide ((ss.getD p.1 K9).r.an.bk = (ss.getD p.2 K9).r.an.bk) && !Q6 c ss p.1 p.2
def P3 (c : CfgV) (ss : List SeenV) : List (Nat × Nat) := (K4 ss).filter (S7 c ss)
end Go.Proofs.Ytlplkjgcfjdinaa
namespace Go.Proofs.Ytlplkjgcfjdinaa
open Go
theorem B5J (n : Nat) : (Builtin.zeroCells (Value.int .i64 0).cells n).toList = G5 (List.replicate n 0) := by
 have hz : (Builtin.zeroCells (Value.int .i64 0).cells n).toList.length = n := by simp [size_zeroCells]
 apply List.ext_getElem (by rw [hz]; simp [G5])
 intro i h1 h2
 simp [Builtin.zeroCells, G5, Nat.mod_one]
theorem B1x (o : Option Nat) : (o.map fun k => Value.int .i64 (k : Nat)).getD (.int .i64 0) = .int .i64 ((o.getD 0 : Nat) : Int) := by cases o <;> rfl
abbrev B05 (b : Nat) : Value := .func (.func 30) #[] #[.pointer (some ⟨b, 0, none⟩)]
theorem B2M (w : World) (sv : Value) (ss : List SeenV) (hss : F1 w sv ss.length (ss.flatMap E6)) (hok : ∀ s ∈ ss, SeenOk s) (hl : ss.length ≤ 100) :
  Fn PR C5 19 #[sv] w (Rn [] w (fun (x : Nat × Nat × Nat) u => u = B05 x.1) fun x => [.pt x.1 (.cells #[.slice (some ⟨x.2.1, 0, none⟩) ss.length x.2.2] 37), OI x.2.1 ss.length x.2.2 (a7 ss)]) := by
 refine A5Z (TW.go (κ := false) (S := []) ?_)
 unfold A1f
 obtain ⟨sa, sc, rfl, hr⟩ := hss.form
 (have zz:=trivial;repeat((first|clear zz|with_reducible first|refine A3 ?_|refine A5 fun _=>?_|refine A4 fun _=>?_);try simp(disch:=first|omega|assumption|((repeat(first|exact A1|exact uH|apply A2|apply uT));first|done|fail)|(simp;first|done|omega|fail))[]))
 refine B30 (by omega) (by omega) (by omega) (by omega) fun g => ?_
 rw [Int.toNat_natCast, B5J]
 (have zz:=trivial;repeat((first|clear zz|with_reducible first|refine A3 ?_|refine A5 fun _=>?_|refine A4 fun _=>?_);try simp(disch:=first|omega|assumption|((repeat(first|exact A1|exact uH|apply A2|apply uT));first|done|fail)|(simp;first|done|omega|fail))[]))
 rename_i b3
 refine A8n Value.string fun m => ?_
 (have zz:=trivial;repeat((first|clear zz|with_reducible first|refine A3 ?_|refine A5 fun _=>?_|refine A4 fun _=>?_);try simp(disch:=first|omega|assumption|((repeat(first|exact A1|exact uH|apply A2|apply uT));first|done|fail)|(simp;first|done|omega|fail))[]))
 rw [← B3A]
 refine Sels.tw (rs := [OI g ss.length ss.length (nxA ss ss.length), .pt m (U2 Value.string []), .pt b3 (.cells #[.slice (some ⟨g, 0, none⟩) ss.length ss.length] 37)]) (by (repeat' constructor)) ?_
 refine A13 (fun z : Nat × List (ByteArray × Value) => [OI g ss.length ss.length (nxA ss z.1), .pt m (U2 Value.string z.2), .pt b3 (.cells #[.slice (some ⟨g, 0, none⟩) ss.length ss.length] 37)]) (fun z => z.1 ≤ ss.length ∧ ∀ key, V4 key z.2 = (x4 ss z.1 key).map fun k => .int .i64 (k : Nat)) (fun z => z.1) (ss.length, []) (fun z => .int .i64 ((z.1 : Nat) - 1 : Int)) ⟨Nat.le_refl _, fun key => by rw [B0x]; rfl⟩ ?_
 rintro ⟨n, M⟩ ⟨hn, hM⟩ L hL
 simp only at hn hM hL ⊢
 cases n with
 | zero =>
  rw [B1f]
  (have zz:=trivial;repeat((first|clear zz|with_reducible first|refine A3 ?_|refine A5 fun _=>?_|refine A4 fun _=>?_);try simp(disch:=first|omega|assumption|((repeat(first|exact A1|exact uH|apply A2|apply uT));first|done|fail)|(simp;first|done|omega|fail))[]))
  exact G9 (b3, g, ss.length) rfl (by (repeat' constructor))
 | succ n =>
  have e1 : (((n + 1 : Nat) : Int) - 1) = (n : Nat) := by omega
  rw [e1]
  have hnl : n < ss.length := by omega
  have hx := List.getElem?_eq_getElem hnl
  have hs := hok _ (List.getElem_mem hnl)
  have hnw : G6 ss n = if N7 ss[n] then (x4 ss (n + 1) ss[n].key).getD 0 else 0 := by unfold G6; rw [List.getD_eq_getElem?_getD, hx]; rfl
  have hlw := fun key => A8z hx key
  obtain ⟨b, o, rfl, hrow⟩ := hr (by omega)
  have h1 := hrow.at (f := E6) (k := 16) (fun _ => rfl) hx
  have h2 := hrow.cellAt (f := E6) (k := 16) (j := 14) (fun _ => rfl) hx rfl
  generalize ss[n] = x at *
  obtain ⟨pa, pk, hp⟩ := hs.pv
  have hct := fun w' => B0d w' x hs
  rw [E6, hp] at h1
  simp only [SeenV.cs, hp] at hct
  have hlen := B3B (show n + 1 ≤ ss.length by omega)
  have hL' := fun M' => hL (n, M')
  simp only at hL'
  clear hL
  (have zz:=trivial;repeat((first|clear zz|with_reducible first|refine A3 ?_|refine A5 fun _=>?_|refine A4 fun _=>?_);try simp(disch:=first|omega|assumption|((repeat(first|exact A1|exact uH|apply A2|apply uT));first|done|fail)|(simp;first|done|omega|fail))[-V7]))
  rw [V7]
  (have zz:=trivial;repeat((first|clear zz|with_reducible first|refine A3 ?_|refine A5 fun _=>?_|refine A4 fun _=>?_);try simp(disch:=first|omega|assumption|((repeat(first|exact A1|exact uH|apply A2|apply uT));first|done|fail)|(simp;first|done|omega|fail))[-V7]))
  rw [V7]
  (have zz:=trivial;repeat((first|clear zz|with_reducible first|refine A3 ?_|refine A5 fun _=>?_|refine A4 fun _=>?_);try simp(disch:=first|omega|assumption|((repeat(first|exact A1|exact uH|apply A2|apply uT));first|done|fail)|(simp;first|done|omega|fail))[-V7, hnl, h1]))
  rw [V7]
  (have zz:=trivial;repeat((first|clear zz|with_reducible first|refine A3 ?_|refine A5 fun _=>?_|refine A4 fun _=>?_);try simp(disch:=first|omega|assumption|((repeat(first|exact A1|exact uH|apply A2|apply uT));first|done|fail)|(simp;first|done|omega|fail))[-V7, hnl, h1]))
  refine C8 A1e (fun w' _ => hct w') ?_
  cases hc : N7 x with
  | false =>
   rw [hc] at hnw hlw
   have h := hL' M ⟨by omega, fun key => by rw [hM, hlw]; rfl⟩ (by omega)
   rw [B2H hnl hnw] at h
   (have zz:=trivial;repeat((first|clear zz|with_reducible first|refine A3 ?_|refine A5 fun _=>?_|refine A4 fun _=>?_);try simp(disch:=first|omega|assumption|((repeat(first|exact A1|exact uH|apply A2|apply uT));first|done|fail)|(simp;first|done|omega|fail))[]))
   exact Sels.tw (by (repeat' constructor)) h
  | true =>
   rw [hc] at hnw hlw
   simp only [if_true] at hnw
   have h := hL' (S8 x.key (.int .i64 (n : Nat)) M) ⟨by omega, fun key => by
    rw [A99, hM, hlw]
    by_cases e : key = x.key
    ·subst e; simp
    ·have e' : ¬ x.key = key := fun h => e h.symm
     simp [e, e']⟩ (by omega)
   rw [A7p hnl] at h
   (have zz:=trivial;repeat((first|clear zz|with_reducible first|refine A3 ?_|refine A5 fun _=>?_|refine A4 fun _=>?_);try simp(disch:=first|omega|assumption|((repeat(first|exact A1|exact uH|apply A2|apply uT));first|done|fail)|(simp;first|done|omega|fail))[hnl, h2]))
   rw [A4G B4H H6 (KeyT.string Z7) (l := M) (by (repeat constructor)), hM, B1x, ← hnw]
   generalize G6 ss n = nw at *
   generalize nxA ss (n + 1) = q at *
   (have zz:=trivial;repeat((first|clear zz|with_reducible first|refine A3 ?_|refine A5 fun _=>?_|refine A4 fun _=>?_);try simp(disch:=first|omega|assumption|((repeat(first|exact A1|exact uH|apply A2|apply uT));first|done|fail)|(simp;first|done|omega|fail))[hnl, hlen]))
   refine B3j (r := OI g ss.length ss.length q) (by repeat (first | exact Sel.here | apply Sel.there)) ?_
   refine g4 (y := nw) (by omega) ?_
   (have zz:=trivial;repeat((first|clear zz|with_reducible first|refine A3 ?_|refine A5 fun _=>?_|refine A4 fun _=>?_);try simp(disch:=first|omega|assumption|((repeat(first|exact A1|exact uH|apply A2|apply uT));first|done|fail)|(simp;first|done|omega|fail))[hnl, h2]))
   refine A4H B4H (KeyT.string Z7) (k := x.key) (by (repeat constructor)) ?_
   (have zz:=trivial;repeat((first|clear zz|with_reducible first|refine A3 ?_|refine A5 fun _=>?_|refine A4 fun _=>?_);try simp(disch:=first|omega|assumption|((repeat(first|exact A1|exact uH|apply A2|apply uT));first|done|fail)|(simp;first|done|omega|fail))[]))
   exact Sels.tw (by (repeat' constructor)) h
end Go.Proofs.Ytlplkjgcfjdinaa
namespace Go.Proofs.Ytlplkjgcfjdinaa
open Go
def A4k (p : Nat × Nat) : List Value := [.agg #[.int .i64 (p.1 : Nat), .int .i64 (p.2 : Nat)]]
def Y8 (p : Nat × Nat) : List Value := [.int .i64 (p.1 : Nat), .int .i64 (p.2 : Nat)]
theorem B1F (l : List (Nat × Nat)) : ∀ x ∈ l.map A4k, x.length = 1 := by
 intro x hx
 obtain ⟨p, _, rfl⟩ := List.mem_map.1 hx
 rfl
theorem B1W (b g c : Nat) (ss : List SeenV) (hl : ss.length ≤ 100) : A6f (B05 b) [.pt b (.cells #[.slice (some ⟨g, 0, none⟩) ss.length c] 37), OI g ss.length c (a7 ss)] (fun _ _ => True) ((K4 ss).map A4k) := by
 refine ⟨_, _, _, rfl, fun y J E hJ hE stJ stE hy w0 h0 => ?_⟩
 refine A3U (A3W (TW.at (κ := true) ?_ (hJ _ _ _ h0).1))
 unfold u9
 (have zz:=trivial;repeat((first|clear zz|with_reducible first|refine A3 ?_|refine A5 fun _=>?_|refine A4 fun _=>?_);try simp(disch:=first|omega|assumption|((repeat(first|exact A1|exact uH|apply A2|apply uT));first|done|fail)|(simp;first|done|omega|fail))[]))
 refine B06 ss.length (fun i => (Q2 ss i).length) (fun _ => _) hJ stJ (by simpa [Q2] using h0) fun i a hi hJi hRi L hL => ?_
 by_cases hlt : i < ss.length
 ·have g1 : (G5 (a7 ss))[i]? = some (.int .i64 (G6 ss i : Nat)) := by
   unfold G5; rw [List.getElem?_map, A7n hlt]; rfl
  have hsu := A1C ss i
  have hlen : ((K4 ss).map A4k).length = (K4 ss).length := by simp
  by_cases c1 : 0 < G6 ss i
  ·have hat := B0U hlt c1
   rw [if_pos c1] at hsu
   obtain ⟨h1, h2⟩ := List.getElem?_eq_some_iff.1 hat
   rw [hsu, List.length_append, List.length_singleton] at hL
   (have zz:=trivial;repeat((first|clear zz|with_reducible first|refine A3 ?_|refine A5 fun _=>?_|refine A4 fun _=>?_);try simp(disch:=first|omega|assumption|((repeat(first|exact A1|exact uH|apply A2|apply uT));first|done|fail)|(simp;first|done|omega|fail))[hlt, g1, c1, bd2]))
   refine A89 hJ hE stJ hy hJi (by rw [hlen]; exact h1) (by rw [List.getElem_map]; exact congrArg A4k h2) (fun w3 h => ?_) (fun w3 h => ?_)
   ·(have zz:=trivial;repeat((first|clear zz|with_reducible first|refine A3 ?_|refine A5 fun _=>?_|refine A4 fun _=>?_);try simp(disch:=first|omega|assumption|((repeat(first|exact A1|exact uH|apply A2|apply uT));first|done|fail)|(simp;first|done|omega|fail))[c1]))
    exact fun w' hw' => hL hlt w' (stJ _ _ _ _ _ h hw')
   ·(have zz:=trivial;repeat((first|clear zz|with_reducible first|refine A3 ?_|refine A5 fun _=>?_|refine A4 fun _=>?_);try simp(disch:=first|omega|assumption|((repeat(first|exact A1|exact uH|apply A2|apply uT));first|done|fail)|(simp;first|done|omega|fail))[c1]))
    exact A6v stE h
  ·rw [if_neg c1] at hsu
   rw [hsu] at hL
   (have zz:=trivial;repeat((first|clear zz|with_reducible first|refine A3 ?_|refine A5 fun _=>?_|refine A4 fun _=>?_);try simp(disch:=first|omega|assumption|((repeat(first|exact A1|exact uH|apply A2|apply uT));first|done|fail)|(simp;first|done|omega|fail))[hlt, g1, c1]))
   exact fun w' hw' => hL hlt w' (stJ _ _ _ _ _ hJi hw')
 ·obtain rfl : i = ss.length := by omega
  (have zz:=trivial;repeat((first|clear zz|with_reducible first|refine A3 ?_|refine A5 fun _=>?_|refine A4 fun _=>?_);try simp(disch:=first|omega|assumption|((repeat(first|exact A1|exact uH|apply A2|apply uT));first|done|fail)|(simp;first|done|omega|fail))[]))
  refine A70 stJ ?_
  simpa [K4] using hJi
theorem A4A (ts : List M7) (l : List RecV) : (D7 ts l).length ≤ l.length := by
 unfold D7; rw [List.length_map, A4D]; exact A4W _ _
theorem A8e {ts : List M7} {l : List RecV} {w : World} (ht : ∀ t ∈ ts, ThRd w t) (hops : ∀ t ∈ ts, t.2.length ≤ 24 ∧ ∀ o ∈ t.2, o.1.packet.size ≤ 100 ∧ o.1.pool.length ≤ 8) : ∀ s ∈ D7 ts l, SeenOk s ∧ F1 w s.pv s.op.pool.length (s.op.pool.flatMap j9) := by
 intro s hs
 unfold D7 at hs
 obtain ⟨i, _, rfl⟩ := List.mem_map.1 hs
 exact A57 ht hops
theorem A4v (w : World) (c : CfgV) (tv lv : Value) (ts : List M7) (l : List RecV) (f t : Int) (hr : F1 w tv ts.length (ts.flatMap A18)) (ht : ∀ t ∈ ts, ThRd w t) (hts : ts.length ≤ 1000) (hops : ∀ t ∈ ts, t.2.length ≤ 24 ∧ ∀ o ∈ t.2, o.1.packet.size ≤ 100 ∧ o.1.pool.length ≤ 8) (hl : l.length ≤ 24) (hv : F1 w lv l.length (l.flatMap F6)) :
  Fn PR C5 12 #[c.val, tv, lv, .int .i64 f, .int .i64 t] w (fun u w' => u = .bool (Q6 c (D7 ts l) f t) ∧ B6 [] w w') := by
 refine Fn.pure (A39 (TW.go (κ := false) (S := []) ?_))
 unfold y9
 simp only [CfgV.val]
 (have zz:=trivial;repeat((first|clear zz|with_reducible first|refine A3 ?_|refine A5 fun _=>?_|refine A4 fun _=>?_);try simp(disch:=first|omega|assumption|((repeat(first|exact A1|exact uH|apply A2|apply uT));first|done|fail)|(simp;first|done|omega|fail))[]))
 refine K7 A2F (fun w' hw' => B0M w' tv lv ts l (hr.ks hw'.ks (by simp)) (fun t ht' => ⟨(ht t ht').rd.ks hw'.ks (by simp), fun o ho => ((ht t ht').pool o ho).ks hw'.ks (by simp), (ht t ht').len⟩) hts hops hl (hv.ks hw'.ks (by simp))) ?_
 intro _ r hu
 subst hu
 have hall := A8e (l := l) ht hops
 have hlen := A4A ts l
 generalize D7 ts l = ss at *
 rw [H5 (by (repeat constructor)) (by rfl)]
 refine C8 v7 (fun w' hw' => A4f w' c _ ss f t (M5.own (e := 70) (k := 16) (by (repeat constructor)) w' hw') (fun s hs => (hall s hs).1) (fun s hs => (hall s hs).2.ks hw'.ks (by simp)) (by omega)) ?_
 (have zz:=trivial;repeat((first|clear zz|with_reducible first|refine A3 ?_|refine A5 fun _=>?_|refine A4 fun _=>?_);try simp(disch:=first|omega|assumption|((repeat(first|exact A1|exact uH|apply A2|apply uT));first|done|fail)|(simp;first|done|omega|fail))[]))
 exact A8 rfl
theorem A0Z (w : World) (c : CfgV) (tv lv : Value) (ts : List M7) (l : List RecV) (hr : F1 w tv ts.length (ts.flatMap A18)) (ht : ∀ t ∈ ts, ThRd w t) (hts : ts.length ≤ 1000) (hops : ∀ t ∈ ts, t.2.length ≤ 24 ∧ ∀ o ∈ t.2, o.1.packet.size ≤ 100 ∧ o.1.pool.length ≤ 8) (hl : l.length ≤ 24) (hv : F1 w lv l.length (l.flatMap F6)) :
  Fn PR C5 10 #[c.val, tv, lv] w (Rn [] w (fun r u => u = r) fun r => [.own 39 2 r (P3 c (D7 ts l)).length ((P3 c (D7 ts l)).flatMap Y8)]) := by
 refine A4w (TW.go (κ := false) (S := []) ?_)
 unfold A0s
 simp only [CfgV.val]
 (have zz:=trivial;repeat((first|clear zz|with_reducible first|refine A3 ?_|refine A5 fun _=>?_|refine A4 fun _=>?_);try simp(disch:=first|omega|assumption|((repeat(first|exact A1|exact uH|apply A2|apply uT));first|done|fail)|(simp;first|done|omega|fail))[]))
 rename_i b3
 refine K7 A2F (fun w' hw' => B0M w' tv lv ts l (hr.ks hw'.ks (by simp)) (fun t ht' => ⟨(ht t ht').rd.ks hw'.ks (by simp), fun o ho => ((ht t ht').pool o ho).ks hw'.ks (by simp), (ht t ht').len⟩) hts hops hl (hv.ks hw'.ks (by simp))) ?_
 intro _ r hu
 subst hu
 have hall := A8e (l := l) ht hops
 have hlen := A4A ts l
 generalize D7 ts l = ss at *
 refine A0k (e := 70) (k := 16) (v := r) (q := ss.length) (xs := ss.flatMap E6) (by (repeat constructor)) fun sa sc e => ?_
 subst e
 (have zz:=trivial;repeat((first|clear zz|with_reducible first|refine A3 ?_|refine A5 fun _=>?_|refine A4 fun _=>?_);try simp(disch:=first|omega|assumption|((repeat(first|exact A1|exact uH|apply A2|apply uT));first|done|fail)|(simp;first|done|omega|fail))[]))
 rename_i b7 b8
 refine K7 A4z (fun w' hw' => B2M w' (.slice sa ss.length sc) ss (M5.own (e := 70) (k := 16) (by (repeat constructor)) w' hw') (fun s hs => (hall s hs).1) (by omega)) ?_
 rintro ⟨bp, g, gc⟩ _ hu
 subst hu
 simp only
 refine A3N 39 2 ?_
 have hit := B1W bp g gc ss (by omega)
 have hpm : ∀ p ∈ K4 ss, p.1 < p.2 ∧ p.2 < ss.length := fun p hp => ⟨(r5 hp).1, (r5 hp).2.1⟩
 unfold P3
 have hpl : (K4 ss).length ≤ 100 := by
  have := List.length_filter_le (fun p : Nat × Nat => decide (0 < p.2)) ((List.range ss.length).map fun i => (i, G6 ss i))
  rw [List.length_map, List.length_range] at this
  have e : (K4 ss).length = (((List.range ss.length).map fun i => (i, G6 ss i)).filter fun p => decide (0 < p.2)).length := rfl
  omega
 generalize K4 ss = ps at *
 refine Sels.tw (rs := [.pt bp (.cells #[.slice (some ⟨g, 0, none⟩) ss.length gc] 37), OI g ss.length gc (a7 ss)] ++ [.own 39 2 (.slice none 0 0) 0 [], .pt b8 (.cells #[.slice none 0 0] 35), .pt b7 (.cells #[.slice sa ss.length sc] 64), .own 70 16 (.slice sa ss.length sc) ss.length (ss.flatMap E6), .pt b3 (.cells #[.int .i64 c.wk, .int .i64 c.sh, .int .i64 c.cp, .int .i64 c.idle, .int .i64 c.sl] 23)]) (by simp only [List.cons_append, List.nil_append]; (repeat' constructor)) ?_
 refine A6g hit (B1F _) (fun i (x : Option Addr × Nat) => True) (fun i x => [.own 39 2 (.slice x.1 ((ps.take i).filter (S7 c ss)).length x.2) ((ps.take i).filter (S7 c ss)).length (((ps.take i).filter (S7 c ss)).flatMap Y8), .pt b8 (.cells #[.slice x.1 ((ps.take i).filter (S7 c ss)).length x.2] 35), .pt b7 (.cells #[.slice sa ss.length sc] 64), .own 70 16 (.slice sa ss.length sc) ss.length (ss.flatMap E6), .pt b3 (.cells #[.int .i64 c.wk, .int .i64 c.sh, .int .i64 c.cp, .int .i64 c.idle, .int .i64 c.sl] 23)])
  (fun cd (y : Unit) => False) (fun y => []) (none, 0) trivial ?_ ?_ ?_ ?_
 ·intro i _ F w1 _ _
  trivial
 ·rintro i hi ⟨xa, xc⟩ F _ K' hK _
  have hi' : i < ps.length := by simpa using hi
  have hp := hpm _ (List.getElem_mem hi')
  have hst : (ps.take (i + 1)).filter (S7 c ss) = (ps.take i).filter (S7 c ss) ++ (if S7 c ss ps[i] then [ps[i]] else []) := by
   rw [List.take_add_one, List.getElem?_eq_getElem hi', Option.toList_some, List.filter_append]
   cases h : S7 c ss ps[i] <;> simp [h]
  have hfl : ((ps.take i).filter (S7 c ss)).length ≤ 100 := by
   have := List.length_filter_le (S7 c ss) (ps.take i)
   rw [List.length_take] at this; omega
  simp only [hst] at hK
  simp only [List.getElem_map]
  generalize ps[i] = p at *
  generalize (ps.take i).filter (S7 c ss) = out at *
  obtain ⟨i1, i2⟩ := p
  simp only at hp
  have hx1 := List.getElem?_eq_getElem (show i1 < ss.length by omega)
  have hx2 := List.getElem?_eq_getElem hp.2
  have k1 := d5 (f := E6) (k := 16) (fun _ => rfl) ss i1 7 (by omega)
  have k2 := d5 (f := E6) (k := 16) (fun _ => rfl) ss i2 7 (by omega)
  rw [hx1] at k1
  rw [hx2] at k2
  have hbp : S7 c ss (i1, i2) = (!decide (ss[i1].r.an.bk = ss[i2].r.an.bk) && !Q6 c ss (i1 : Nat) (i2 : Nat)) := by
   unfold S7
   simp only
   rw [List.getD_eq_getElem?_getD, List.getD_eq_getElem?_getD, hx1, hx2]; rfl
  generalize ss[i1] = x1 at *
  generalize ss[i2] = x2 at *
  have k1 : (ss.flatMap E6)[i1 * 16 + 7]? = some (.int .i64 x1.r.an.bk) := k1
  have k2 : (ss.flatMap E6)[i2 * 16 + 7]? = some (.int .i64 x2.r.an.bk) := k2
  have hl1 : i1 < ss.length := by omega
  have hl2 := hp.2
  simp only [A4k, VF.app, List.cons_append, List.nil_append] at hK ⊢
  refine A2C (e := 70) (k := 16) (v := .slice sa ss.length sc) (q := ss.length) (xs := ss.flatMap E6) (by (repeat constructor)) (by omega) fun g2 gc2 hg => ?_
  cases hg
  by_cases e : x1.r.an.bk = x2.r.an.bk
  ·rw [hbp, decide_eq_true e] at hK
   simp only [Bool.not_true, Bool.false_and, Bool.false_eq_true, if_false, List.append_nil] at hK
   (have zz:=trivial;repeat((first|clear zz|with_reducible first|refine A3 ?_|refine A5 fun _=>?_|refine A4 fun _=>?_);try simp(disch:=first|omega|assumption|((repeat(first|exact A1|exact uH|apply A2|apply uT));first|done|fail)|(simp;first|done|omega|fail))[hl1, hl2, k1, k2, e]))
   exact TW.sub (hK (xa, xc) trivial) (by ((try simp only [List.cons_append, List.nil_append, List.append_assoc]); (repeat (first | exact List.Sublist.refl _ | exact List.nil_sublist _ | with_reducible apply List.Sublist.cons_cons | apply List.Sublist.cons)); first | done | fail))
  rw [hbp, decide_eq_false e] at hK
  simp only [Bool.not_false, Bool.true_and] at hK
  (have zz:=trivial;repeat((first|clear zz|with_reducible first|refine A3 ?_|refine A5 fun _=>?_|refine A4 fun _=>?_);try simp(disch:=first|omega|assumption|((repeat(first|exact A1|exact uH|apply A2|apply uT));first|done|fail)|(simp;first|done|omega|fail))[hl1, hl2, k1, k2, e]))
  rename_i b9
  refine C8 v7 (fun w' hw' => A4f w' c (.slice (some ⟨g2, 0, none⟩) ss.length sc) ss (i1 : Nat) (i2 : Nat) (M5.own (e := 70) (k := 16) (by (repeat constructor)) w' hw') (fun s hs => (hall s hs).1) (fun s hs => (hall s hs).2.ks hw'.ks (by simp)) (by omega)) ?_
  cases hex : Q6 c ss (i1 : Nat) (i2 : Nat) with
  | true =>
   rw [hex] at hK
   simp only [Bool.not_true, Bool.false_eq_true, if_false, List.append_nil] at hK
   (have zz:=trivial;repeat((first|clear zz|with_reducible first|refine A3 ?_|refine A5 fun _=>?_|refine A4 fun _=>?_);try simp(disch:=first|omega|assumption|((repeat(first|exact A1|exact uH|apply A2|apply uT));first|done|fail)|(simp;first|done|omega|fail))[e]))
   exact TW.sub (hK (xa, xc) trivial) (by ((try simp only [List.cons_append, List.nil_append, List.append_assoc]); (repeat (first | exact List.Sublist.refl _ | exact List.nil_sublist _ | with_reducible apply List.Sublist.cons_cons | apply List.Sublist.cons)); first | done | fail))
  | false =>
   rw [hex] at hK
   simp only [Bool.not_false, if_true] at hK
   (have zz:=trivial;repeat((first|clear zz|with_reducible first|refine A3 ?_|refine A5 fun _=>?_|refine A4 fun _=>?_|refine B8 fun _=>?_|refine B9 (hK:=fun _=>?_)|refine B4 (hK:=fun _=>?_)|refine C0 (hK:=fun _=>?_)|refine C3 (hK:=fun _=>?_)|refine C4 (hK:=fun _=>?_));try simp(disch:=first|omega|assumption|((repeat(first|exact A1|exact uH|apply A2|apply uT));first|done|fail)|(simp;first|done|omega|fail))[e]))
   refine A3P (e := 39) (k := 2) (q := out.length) (r := 1) (xs := out.flatMap Y8) (news := [.int .i64 (i1 : Nat), .int .i64 (i2 : Nat)]) (by (repeat constructor)) (M5.own (by (repeat constructor))) (by decide) (by simp) (by simp) (by simp only [maxLen]; omega) (by omega) fun a' c' => ?_
   (have zz:=trivial;repeat((first|clear zz|with_reducible first|refine A3 ?_|refine A5 fun _=>?_|refine A4 fun _=>?_);try simp(disch:=first|omega|assumption|((repeat(first|exact A1|exact uH|apply A2|apply uT));first|done|fail)|(simp;first|done|omega|fail))[]))
   have h := hK (a', c') trivial
   rw [List.flatMap_append, List.flatMap_singleton, List.length_append, List.length_singleton] at h
   rw [show Y8 (i1, i2) = [.int .i64 (i1 : Nat), .int .i64 (i2 : Nat)] from rfl] at h
   exact TW.sub h (by ((try simp only [List.cons_append, List.nil_append, List.append_assoc]); (repeat (first | exact List.Sublist.refl _ | exact List.nil_sublist _ | with_reducible apply List.Sublist.cons_cons | apply List.Sublist.cons)); first | done | fail))
 ·rintro ⟨xa, xc⟩ _
  rw [List.length_map, List.take_length]
  (have zz:=trivial;repeat((first|clear zz|with_reducible first|refine A3 ?_|refine A5 fun _=>?_|refine A4 fun _=>?_);try simp(disch:=first|omega|assumption|((repeat(first|exact A1|exact uH|apply A2|apply uT));first|done|fail)|(simp;first|done|omega|fail))[]))
  exact G9 (.slice xa (ps.filter (S7 c ss)).length xc) rfl (by (repeat' constructor))
 ·rintro _ _ h; exact h.elim
end Go.Proofs.Ytlplkjgcfjdinaa
namespace Go.Proofs.Ytlplkjgcfjdinaa
open Go
def f8 (X : Nat → Prop) (t0 : Value) (R : Value → WP) : WP :=
 B0 PR X (Instr.box 27 t0) fun t1 =>
 jn (n := 1) (fun t2 =>
 jn (n := 3) (fun t3 t2_1 t4 =>
 A0 PR (Instr.fieldAt 27 t1 0) fun t41 =>
 A6 PR (Instr.loadAt 23 t41) fun t42 =>
 C6 PR X 17 [t42] fun t43 =>
 R t43) fun J1 =>
 lp (n := 3) (fun L2 t3_1 t2_2 t4_1 =>
 jn (n := 0) (
 jn (n := 2) (fun t3_2 t2_3 =>
 A0 PR (binOp .add 3 t4_1 (.int .i64 1)) fun t21 =>
 L2 t3_2 t2_3 t21) fun J3 =>
 A0 PR (Instr.fieldAt 27 t1 1) fun t23 =>
 A6 PR (Instr.loadAt 24 t23) fun t24 =>
 A0 PR (Instr.indexAt 24 t24 t4_1) fun t26 =>
 A6 PR (Instr.loadAt 54 t26) fun t27 =>
 A0 PR (A7 .len #[54] 0 [t27]) fun t28 =>
 A0 PR (binOp .add 3 t3_1 t28) fun t29 =>
 A0 PR (binOp .gtr 3 t29 (.int .i64 24)) fun t31 =>
 gj t31 false (fun J => A0 PR (Instr.fieldAt 27 t1 1) J) fun t33 =>
 gj t31 false (fun J => A6 PR (Instr.loadAt 24 t33) J) fun t34 =>
 gj t31 false (fun J => J t4_1) fun t35 =>
 gj t31 false (fun J => A0 PR (Instr.indexAt 24 t34 t35) J) fun t36 =>
 gj t31 false (fun J => A6 PR (Instr.loadAt 54 t36) J) fun t37 =>
 gj t31 false (fun J => C6 PR X 16 [t37, (.int .i64 24)] J) fun t38 =>
 gj t31 false (fun J => A0 PR (Op.unary .not t38) J) fun t39 =>
 A0 PR (do pure (if ← asBool t31 then (.bool true) else t39)) fun t40 =>
 C9 t40 (
 R (.bool false)) (
 J3 t29 t2_2)) fun J4 =>
 A0 PR (Instr.fieldAt 27 t1 1) fun t16 =>
 A6 PR (Instr.loadAt 24 t16) fun t17 =>
 A0 PR (A7 .len #[24] 0 [t17]) fun t18 =>
 A0 PR (binOp .lss 3 t4_1 t18) fun t19 =>
 C9 t19 (
 J4) (
 J1 t3_1 t2_2 t4_1)) (.int .i64 0) t2 (.int .i64 0)) fun J5 =>
 A0 PR (Instr.fieldAt 27 t1 1) fun t5 =>
 A6 PR (Instr.loadAt 24 t5) fun t6 =>
 A0 PR (A7 .len #[24] 0 [t6]) fun t7 =>
 A0 PR (binOp .gtr 3 t7 (.int .i64 7)) fun t8 =>
 gj t8 false (fun J => A0 PR (Instr.fieldAt 27 t1 2) J) fun t10 =>
 gj t8 false (fun J => A6 PR (Instr.loadAt 25 t10) J) fun t11 =>
 gj t8 false (fun J => A0 PR (A7 .len #[25] 0 [t11]) J) fun t12 =>
 gj t8 false (fun J => A0 PR (binOp .gtr 3 t12 (.int .i64 400)) J) fun t13 =>
 A0 PR (do pure (if ← asBool t8 then (.bool true) else t13)) fun t14 =>
 C9 t14 (
 R (.bool false)) (
 J5 (.bool false))
theorem A1A : B1 PR 6 := A9 Try.func6 (by kernel_rfl) rfl
theorem A1K {X : Nat → Prop} {t0 : Value} {R : Value → WP} {w : World} (h : f8 X t0 R w) : Fn PR X 6 #[t0] w R := D3 (args := [t0]) mixed Try.func6 (by kernel_rfl) h
end Go.Proofs.Ytlplkjgcfjdinaa
namespace Go.Proofs.Ytlplkjgcfjdinaa
open Go
def d9 (X : Nat → Prop) (t0 : Value) (R : Value → WP) : WP :=
 A0 PR (A7 .len #[28] 0 [t0]) fun t4 =>
 A0 PR (binOp .leq 3 t4 (.int .i64 24)) fun t5 =>
 R t5
theorem A07 : B1 PR 7 := A9 Try.func7 (by kernel_rfl) rfl
theorem A1d {X : Nat → Prop} {t0 : Value} {R : Value → WP} {w : World} (h : d9 X t0 R w) : Fn PR X 7 #[t0] w R := D3 (args := [t0]) mixed Try.func7 (by kernel_rfl) h
end Go.Proofs.Ytlplkjgcfjdinaa
namespace Go.Proofs.Ytlplkjgcfjdinaa
open Go
theorem B2D (w : World) (v : Value) (l : List RecV) (hl : l.length ≤ 9223372036854775807) (hv : F1 w v l.length (l.flatMap F6)) :
  Fn PR C5 7 #[v] w (fun r w' => r = .bool (decide (l.length ≤ 24)) ∧ B6 [] w w') := by
 refine Fn.pure (A1d (TW.go (κ := false) (S := []) ?_))
 unfold d9
 obtain ⟨a, c, rfl, hr⟩ := hv.form
 (have zz:=trivial;repeat((first|clear zz|with_reducible first|refine A3 ?_|refine A5 fun _=>?_|refine A4 fun _=>?_);try simp(disch:=first|omega|assumption|((repeat(first|exact A1|exact uH|apply A2|apply uT));first|done|fail)|(simp;first|done|omega|fail))[]))
 exact A8 (by congr 1; rw [decide_eq_decide]; omega)
structure FewScr (c : CfgV) (ts : List M7) : Prop where
 small : x6 c = true
 len : ts.length ≤ 7
 ops : ∀ t ∈ ts, U8 (t.2.map (·.1)) 24 = true
theorem FewScr.op {c : CfgV} {ts : List M7} (h : FewScr c ts) {t : M7} (ht : t ∈ ts) : t.2.length ≤ 24 ∧ ∀ o ∈ t.2, o.1.packet.size ≤ 100 ∧ o.1.pool.length ≤ 8 := by
 have := h.ops t ht
 unfold U8 at this
 rw [Bool.and_eq_true, List.all_eq_true] at this
 refine ⟨by have := this.1; simp at this; omega, fun o ho => ?_⟩
 have h2 := this.2 o.1 (List.mem_map_of_mem ho)
 simpa [A37] using h2
theorem ThRd.form {w : World} {t : M7} (h : ThRd w t) : ∃ a k, t.1 = .slice a t.2.length k := by
 obtain ⟨a, k, e, _⟩ := h.rd.form
 exact ⟨a, k, e⟩
def y6 (c : CfgV) (ts : List M7) (r : Value) : Prop := ∃ b : Bool, r = .bool b ∧ (b = true → FewScr c ts)
theorem y6.no {c : CfgV} {ts : List M7} : y6 c ts (.bool false) := ⟨false, rfl, by simp⟩
theorem B1d (w : World) (c : CfgV) (tv pv : Value) (ts : List M7) (hr : F1 w tv ts.length (ts.flatMap A18)) (ht : ∀ t ∈ ts, ThRd w t) (hl : ts.length ≤ 9223372036854775807) (hp : ∃ a n k, pv = .slice a n k ∧ n ≤ 9223372036854775807) :
  Fn PR C5 6 #[.agg #[.int .i64 c.wk, .int .i64 c.sh, .int .i64 c.cp, .int .i64 c.idle, .int .i64 c.sl, tv, pv]] w (fun r w' => y6 c ts r ∧ B6 [] w w') := by
 refine Fn.pure (A1K (TW.go (κ := false) (S := []) ?_))
 unfold f8
 obtain ⟨a, k, rfl, hrow0⟩ := hr.form
 obtain ⟨pa, pn, pk, rfl, hpn⟩ := hp
 by_cases c1 : (7 : Int) < ts.length
 ·(have zz:=trivial;repeat((first|clear zz|with_reducible first|refine A3 ?_|refine A5 fun _=>?_|refine A4 fun _=>?_);try simp(disch:=first|omega|assumption|((repeat(first|exact A1|exact uH|apply A2|apply uT));first|done|fail)|(simp;first|done|omega|fail))[c1]))
  exact A8 y6.no
 by_cases c2 : (400 : Int) < pn
 ·(have zz:=trivial;repeat((first|clear zz|with_reducible first|refine A3 ?_|refine A5 fun _=>?_|refine A4 fun _=>?_);try simp(disch:=first|omega|assumption|((repeat(first|exact A1|exact uH|apply A2|apply uT));first|done|fail)|(simp;first|done|omega|fail))[c1, c2]))
  exact A8 y6.no
 (have zz:=trivial;repeat((first|clear zz|with_reducible first|refine A3 ?_|refine A5 fun _=>?_|refine A4 fun _=>?_);try simp(disch:=first|omega|assumption|((repeat(first|exact A1|exact uH|apply A2|apply uT));first|done|fail)|(simp;first|done|omega|fail))[c1, c2]))
 rename_i bs
 refine B0a (α := Nat) ts.length (fun _ x => .int .i64 (x : Nat)) (fun _ _ => .bool false) (fun _ _ => [.pt bs (.cells #[.int .i64 c.wk, .int .i64 c.sh, .int .i64 c.cp, .int .i64 c.idle, .int .i64 c.sl, .slice a ts.length k, .slice pa pn pk] 27)]) (fun i x => x ≤ 24 ∧ ∀ j t, j < i → ts[j]? = some t → U8 (t.2.map (·.1)) 24 = true) 0 ⟨by omega, by simp⟩ ?_
 rintro i x hi ⟨hx, hok⟩ L hL
 by_cases hlt : i < ts.length
 ·obtain ⟨b, o, rfl, hrow⟩ := hrow0 (by omega)
  have hy := List.getElem?_eq_getElem hlt
  have h1 := hrow.cellAt (f := A18) (k := 1) (j := 0) (fun _ => rfl) hy rfl
  rw [Nat.mul_one, Nat.add_zero] at h1
  have hth := ht ts[i] (List.getElem_mem hlt)
  generalize ts[i] = t at *
  obtain ⟨ta, tk, hte⟩ := hth.form
  rw [hte] at h1
  have hlen := hth.len
  have hfw : ∀ w', LW false [] w [.pt bs (.cells #[.int .i64 c.wk, .int .i64 c.sh, .int .i64 c.cp, .int .i64 c.idle, .int .i64 c.sl, .slice (some ⟨b, o, none⟩) ts.length k, .slice pa pn pk] 27)] w' → _ := fun w' hw' => B2L w' (.slice ta t.2.length tk) t.2 24 hlen ((hte ▸ hth.rd).ks hw'.ks (by simp)) fun o ho => by obtain ⟨a, k, e, _⟩ := (hth.pool o ho).form; exact ⟨a, k, e⟩
  by_cases hbig : 1000 < t.2.length
  ·by_cases c3 : (24 : Int) < IntKind.i64.wrap ((x : Int) + t.2.length)
   ·(have zz:=trivial;repeat((first|clear zz|with_reducible first|refine A3 ?_|refine A5 fun _=>?_|refine A4 fun _=>?_);try simp(disch:=first|omega|assumption|((repeat(first|exact A1|exact uH|apply A2|apply uT));first|done|fail)|(simp;first|done|omega|fail))[hlt, h1, c3]))
    exact A8 y6.no
   ·(have zz:=trivial;repeat((first|clear zz|with_reducible first|refine A3 ?_|refine A5 fun _=>?_|refine A4 fun _=>?_);try simp(disch:=first|omega|assumption|((repeat(first|exact A1|exact uH|apply A2|apply uT));first|done|fail)|(simp;first|done|omega|fail))[hlt, h1, c3]))
    refine C8 Z5 hfw ?_
    rw [show U8 (t.2.map (·.1)) 24 = false by unfold U8; rw [Bool.and_eq_false_iff]; left; simp; omega]
    (have zz:=trivial;repeat((first|clear zz|with_reducible first|refine A3 ?_|refine A5 fun _=>?_|refine A4 fun _=>?_);try simp(disch:=first|omega|assumption|((repeat(first|exact A1|exact uH|apply A2|apply uT));first|done|fail)|(simp;first|done|omega|fail))[c3]))
    exact A8 y6.no
  by_cases c3 : (24 : Int) < (x : Int) + t.2.length
  ·(have zz:=trivial;repeat((first|clear zz|with_reducible first|refine A3 ?_|refine A5 fun _=>?_|refine A4 fun _=>?_);try simp(disch:=first|omega|assumption|((repeat(first|exact A1|exact uH|apply A2|apply uT));first|done|fail)|(simp;first|done|omega|fail))[hlt, h1, c3]))
   exact A8 y6.no
  ·(have zz:=trivial;repeat((first|clear zz|with_reducible first|refine A3 ?_|refine A5 fun _=>?_|refine A4 fun _=>?_);try simp(disch:=first|omega|assumption|((repeat(first|exact A1|exact uH|apply A2|apply uT));first|done|fail)|(simp;first|done|omega|fail))[hlt, h1, c3]))
   refine C8 Z5 hfw ?_
   have hwr : IntKind.i64.wrap ((x : Int) + t.2.length) = (x : Int) + t.2.length := V1 (by omega) (by omega)
   cases hf : U8 (t.2.map (·.1)) 24 with
   | false =>
    (have zz:=trivial;repeat((first|clear zz|with_reducible first|refine A3 ?_|refine A5 fun _=>?_|refine A4 fun _=>?_);try simp(disch:=first|omega|assumption|((repeat(first|exact A1|exact uH|apply A2|apply uT));first|done|fail)|(simp;first|done|omega|fail))[c3]))
    exact A8 y6.no
   | true =>
    (have zz:=trivial;repeat((first|clear zz|with_reducible first|refine A3 ?_|refine A5 fun _=>?_|refine A4 fun _=>?_);try simp(disch:=first|omega|assumption|((repeat(first|exact A1|exact uH|apply A2|apply uT));first|done|fail)|(simp;first|done|omega|fail))[c3, hwr]))
    have h := hL hlt (x + t.2.length) ⟨by omega, fun j y hj hy' => by
     by_cases e : j < i
     ·exact hok j y e hy'
     ·obtain rfl : j = i := by omega
      rw [hy] at hy'; injection hy' with hy'; subst hy'; exact hf⟩
    rw [Int.natCast_add] at h
    exact h
 ·obtain rfl : i = ts.length := by omega
  (have zz:=trivial;repeat((first|clear zz|with_reducible first|refine A3 ?_|refine A5 fun _=>?_|refine A4 fun _=>?_);try simp(disch:=first|omega|assumption|((repeat(first|exact A1|exact uH|apply A2|apply uT));first|done|fail)|(simp;first|done|omega|fail))[hlt]))
  refine C8 A0A (fun w' _ => B1u w' c) ?_
  (have zz:=trivial;repeat((first|clear zz|with_reducible first|refine A3 ?_|refine A5 fun _=>?_|refine A4 fun _=>?_);try simp(disch:=first|omega|assumption|((repeat(first|exact A1|exact uH|apply A2|apply uT));first|done|fail)|(simp;first|done|omega|fail))[]))
  refine A8 (show y6 c ts (.bool (x6 c)) from ⟨_, rfl, fun h => ⟨h, by omega, fun t ht' => ?_⟩⟩)
  obtain ⟨j, hj, e⟩ := List.getElem_of_mem ht'
  exact hok j t hj (by rw [List.getElem?_eq_getElem hj, e])
end Go.Proofs.Ytlplkjgcfjdinaa
namespace Go.Proofs.Ytlplkjgcfjdinaa
open Go
theorem A7T (w : World) (v : Value) (l : List RecV) (hl : l.length ≤ 24) (hv : F1 w v l.length (l.flatMap F6)) :
  Fn PR C5 9 #[v] w (Rn [] w (fun r u => u = r) fun r => [.own 58 10 r l.length (l.flatMap F6)]) := by
 refine w9 (TW.go (κ := false) (S := []) ?_)
 unfold V5
 obtain ⟨a, c, rfl, hr⟩ := hv.form
 refine A3N 58 10 ?_
 (have zz:=trivial;repeat((first|clear zz|with_reducible first|refine A3 ?_|refine A5 fun _=>?_|refine A4 fun _=>?_);try simp(disch:=first|omega|assumption|((repeat(first|exact A1|exact uH|apply A2|apply uT));first|done|fail)|(simp;first|done|omega|fail))[]))
 refine g8 l.length (fun i (x : Option Addr × Nat) => .slice x.1 i x.2) (fun i x => [.own 58 10 (.slice x.1 i x.2) i ((l.take i).flatMap F6)]) (fun i x => True) (none, 0) trivial ?_ (by simp)
 rintro i ⟨xa, xc⟩ hi _ L hL
 by_cases hlt : i < l.length
 ·obtain ⟨b, o, rfl, hrow⟩ := hr (by omega)
  have h1 := hrow.at (f := F6) (k := 10) (fun _ => rfl) (List.getElem?_eq_getElem hlt)
  have hst : (l.take (i + 1)).flatMap F6 = (l.take i).flatMap F6 ++ F6 l[i] := by
   rw [List.take_add_one, List.getElem?_eq_getElem hlt, Option.toList_some, List.flatMap_append, List.flatMap_singleton]
  have h := hL hlt
  rw [hst] at h
  generalize l[i] = y at *
  rw [F6] at h1
  (have zz:=trivial;repeat((first|clear zz|with_reducible first|refine A3 ?_|refine A5 fun _=>?_|refine A4 fun _=>?_|refine B8 fun _=>?_|refine B9 (hK:=fun _=>?_)|refine B4 (hK:=fun _=>?_)|refine C0 (hK:=fun _=>?_)|refine C3 (hK:=fun _=>?_)|refine C4 (hK:=fun _=>?_));try simp(disch:=first|omega|assumption|((repeat(first|exact A1|exact uH|apply A2|apply uT));first|done|fail)|(simp;first|done|omega|fail))[hlt, h1]))
  refine A3P (e := 58) (k := 10) (q := i) (r := 1) (xs := (l.take i).flatMap F6) (news := F6 y) (by (repeat constructor)) (M5.own (by (repeat constructor))) (by decide) rfl (by simp [F6]) (by simp only [maxLen]; omega) (by omega) fun a' c' => ?_
  (have zz:=trivial;repeat((first|clear zz|with_reducible first|refine A3 ?_|refine A5 fun _=>?_|refine A4 fun _=>?_);try simp(disch:=first|omega|assumption|((repeat(first|exact A1|exact uH|apply A2|apply uT));first|done|fail)|(simp;first|done|omega|fail))[]))
  exact Sels.tw (by (repeat' constructor)) (h (a', c') trivial)
 ·obtain rfl : i = l.length := by omega
  (have zz:=trivial;repeat((first|clear zz|with_reducible first|refine A3 ?_|refine A5 fun _=>?_|refine A4 fun _=>?_);try simp(disch:=first|omega|assumption|((repeat(first|exact A1|exact uH|apply A2|apply uT));first|done|fail)|(simp;first|done|omega|fail))[]))
  refine G9 (.slice xa l.length xc) rfl ?_
  try rw [List.take_length]
  (repeat' constructor)
structure NearV (c : CfgV) (l : List RecV) : Prop where
 lo : -1000000000 ≤ c.idle
 hi : c.idle ≤ 1000000000
 now : ∀ x ∈ l, -1000000000 ≤ x.nw ∧ x.nw ≤ 1000000000
def w7 (c : CfgV) (l : List RecV) (r : Value) : Prop := ∃ b : Bool, r = .bool b ∧ (b = true → NearV c l)
theorem w7.no {c : CfgV} {l : List RecV} : w7 c l (.bool false) := ⟨false, rfl, by simp⟩
theorem B24 (w : World) (c : CfgV) (lv : Value) (l : List RecV) (hv : F1 w lv l.length (l.flatMap F6)) (hl : l.length ≤ 24) :
  Fn PR C5 8 #[c.val, lv] w (fun r w' => w7 c l r ∧ B6 [] w w') := by
 refine Fn.pure (A1E (TW.go (κ := false) (S := []) ?_))
 unfold Z3
 obtain ⟨la, lc, rfl, hlr⟩ := hv.form
 simp only [CfgV.val]
 by_cases c1 : c.idle < -1000000000
 ·(have zz:=trivial;repeat((first|clear zz|with_reducible first|refine A3 ?_|refine A5 fun _=>?_|refine A4 fun _=>?_);try simp(disch:=first|omega|assumption|((repeat(first|exact A1|exact uH|apply A2|apply uT));first|done|fail)|(simp;first|done|omega|fail))[c1]))
  exact A8 w7.no
 by_cases c2 : 1000000000 < c.idle
 ·(have zz:=trivial;repeat((first|clear zz|with_reducible first|refine A3 ?_|refine A5 fun _=>?_|refine A4 fun _=>?_);try simp(disch:=first|omega|assumption|((repeat(first|exact A1|exact uH|apply A2|apply uT));first|done|fail)|(simp;first|done|omega|fail))[c1, c2]))
  exact A8 w7.no
 (have zz:=trivial;repeat((first|clear zz|with_reducible first|refine A3 ?_|refine A5 fun _=>?_|refine A4 fun _=>?_);try simp(disch:=first|omega|assumption|((repeat(first|exact A1|exact uH|apply A2|apply uT));first|done|fail)|(simp;first|done|omega|fail))[c1, c2]))
 rename_i bc
 refine g8 (α := Unit) l.length (fun _ _ => .bool false) (fun _ _ => [.pt bc (.cells #[.int .i64 c.wk, .int .i64 c.sh, .int .i64 c.cp, .int .i64 c.idle, .int .i64 c.sl] 23)]) (fun i _ => ∀ j x, j < i → l[j]? = some x → -1000000000 ≤ x.nw ∧ x.nw ≤ 1000000000) () (by simp) ?_
 rintro i _ hi hpre L hL
 by_cases hlt : i < l.length
 ·obtain ⟨b, o, rfl, hrow⟩ := hlr (by omega)
  have hx := List.getElem?_eq_getElem hlt
  have h1 := hrow.cellAt (f := F6) (k := 10) (j := 5) (fun _ => rfl) hx rfl
  generalize l[i] = x at *
  by_cases c3 : x.nw < -1000000000
  ·(have zz:=trivial;repeat((first|clear zz|with_reducible first|refine A3 ?_|refine A5 fun _=>?_|refine A4 fun _=>?_);try simp(disch:=first|omega|assumption|((repeat(first|exact A1|exact uH|apply A2|apply uT));first|done|fail)|(simp;first|done|omega|fail))[hlt, h1, c3]))
   exact A8 w7.no
  by_cases c4 : 1000000000 < x.nw
  ·(have zz:=trivial;repeat((first|clear zz|with_reducible first|refine A3 ?_|refine A5 fun _=>?_|refine A4 fun _=>?_);try simp(disch:=first|omega|assumption|((repeat(first|exact A1|exact uH|apply A2|apply uT));first|done|fail)|(simp;first|done|omega|fail))[hlt, h1, c3, c4]))
   exact A8 w7.no
  (have zz:=trivial;repeat((first|clear zz|with_reducible first|refine A3 ?_|refine A5 fun _=>?_|refine A4 fun _=>?_);try simp(disch:=first|omega|assumption|((repeat(first|exact A1|exact uH|apply A2|apply uT));first|done|fail)|(simp;first|done|omega|fail))[hlt, h1, c3, c4]))
  refine Sels.tw (by (repeat' constructor)) (hL hlt () fun j y hj hy => ?_)
  by_cases e : j < i
  ·exact hpre j y e hy
  ·obtain rfl : j = i := by omega
   rw [hx] at hy; injection hy with hy; subst hy; omega
 ·obtain rfl : i = l.length := by omega
  (have zz:=trivial;repeat((first|clear zz|with_reducible first|refine A3 ?_|refine A5 fun _=>?_|refine A4 fun _=>?_);try simp(disch:=first|omega|assumption|((repeat(first|exact A1|exact uH|apply A2|apply uT));first|done|fail)|(simp;first|done|omega|fail))[hlt]))
  refine A8 (show w7 c l (.bool true) from ⟨true, rfl, fun _ => ⟨by omega, by omega, fun x hx => ?_⟩⟩)
  obtain ⟨j, hj, e⟩ := List.getElem_of_mem hx
  exact hpre j x hj (by rw [List.getElem?_eq_getElem hj, e])
theorem B0F {c c' : CfgV} {l : List RecV} {ts : List M7} (hn : NearV c l) (h : c.idle ≤ c'.idle) (h' : c'.idle ≤ 1000000100) (i j : Nat) : A5C c' (D7 ts l) i j = true → A5C c (D7 ts l) i j = true := by
 have hnw : ∀ k, -1000000000 ≤ ((D7 ts l).getD k K9).r.nw ∧ ((D7 ts l).getD k K9).r.nw ≤ 1000000000 := fun k => by
  rw [List.getD_eq_getElem?_getD]
  cases hk : (D7 ts l)[k]? with
  | none => simp [K9, d4]
  | some s =>
   have hs := List.mem_of_getElem? hk
   unfold D7 at hs
   obtain ⟨q, hq, e⟩ := List.mem_map.1 hs
   have hql := (A5S hq).1
   have hm : l.getD q d4 ∈ l := by rw [List.getD_eq_getElem?_getD, List.getElem?_eq_getElem hql]; exact List.getElem_mem hql
   have := hn.now _ hm
   have er : s.r = l.getD q d4 := by
    rw [← e]; unfold N1; split <;> rfl
   simp only [Option.getD_some]
   rw [er]; exact this
 have h1 := hnw i
 have h2 := hnw j
 have hl := hn.lo
 unfold A5C
 rw [V1 (by omega) (by omega), V1 (by omega) (by omega)]
 intro hh
 simp only [Bool.and_eq_true, Bool.or_eq_true, decide_eq_true_eq] at hh ⊢
 refine ⟨hh.1, ?_⟩
 rcases hh.2 with ((h3 | h3) | h3) | h3
 ·exact Or.inl (Or.inl (Or.inl (by omega)))
 ·exact Or.inl (Or.inl (Or.inr h3))
 ·exact Or.inl (Or.inr h3)
 ·exact Or.inr h3
theorem B2T {c : CfgV} {ss : List SeenV} {i j : Nat} (hi : i < ss.length) (hj : j < ss.length) : Q6 c ss i j = A5C c ss i j := by
 unfold Q6
 rw [decide_eq_true (show (0 : Int) ≤ i by omega), decide_eq_true (show (0 : Int) ≤ j by omega), decide_eq_true (show (i : Int) < ss.length by omega), decide_eq_true (show (j : Int) < ss.length by omega)]
 simp
theorem B2W {c c' : CfgV} {l : List RecV} {ts : List M7} (hn : NearV c l) (h : c.idle ≤ c'.idle) (h' : c'.idle ≤ 1000000100) : (P3 c (D7 ts l)).length ≤ (P3 c' (D7 ts l)).length := by
 unfold P3
 have : ∀ p ∈ K4 (D7 ts l), S7 c (D7 ts l) p = true → S7 c' (D7 ts l) p = true := fun p hp hb => by
  have hm := r5 hp
  unfold S7 at hb ⊢
  rw [B2T (by omega) hm.2.1] at hb ⊢
  simp only [Bool.and_eq_true, Bool.not_eq_true'] at hb ⊢
  refine ⟨hb.1, ?_⟩
  rw [Bool.eq_false_iff]
  intro he
  have := B0F hn h h' _ _ he
  rw [this] at hb; cases hb.2
 rw [← List.countP_eq_length_filter, ← List.countP_eq_length_filter]
 exact List.countP_mono_left this
theorem B3H {l : List RecV} : ∀ s ∈ D7 [] l, s.is = false := by
 intro s hs
 unfold D7 at hs
 obtain ⟨i, _, rfl⟩ := List.mem_map.1 hs
 unfold N1
 have e : m8 [] (l.getD i d4) = false := by
  by_cases h : (l.getD i d4).th < 0
  ·exact A7w h
  ·exact A7G (by rw [List.length_nil]; omega)
 rw [e]; rfl
theorem B3V (c : CfgV) (l : List RecV) : P3 c (D7 [] l) = [] := by
 unfold P3
 have : K4 (D7 [] l) = [] := by
  rw [List.eq_nil_iff_forall_not_mem]
  intro p hp
  have hm := r5 hp
  have hc := hm.2.2.1
  rw [List.getD_eq_getElem?_getD, List.getElem?_eq_getElem (show p.1 < (D7 [] l).length by omega)] at hc
  simp only [Option.getD_some] at hc
  have := B3H _ (List.getElem_mem (show p.1 < (D7 [] l).length by omega))
  unfold N7 at hc
  rw [this] at hc; simp at hc
 rw [this]; rfl
end Go.Proofs.Ytlplkjgcfjdinaa
namespace Go.Proofs.Ytlplkjgcfjdinaa
open Go
theorem B1k {P : Program} {t e : TypeId} {n m m' : Nat} {z z' : Value} (h : TI P t (.array 2 e) n m z) (he : TI P e (.int .i64) 1 m' z') (a b c d : Int) : EqV P 10000 t (.agg #[.int .i64 a, .int .i64 b]) (.agg #[.int .i64 c, .int .i64 d]) (decide (a = c) && decide (b = d)) := by
 intro w
 have p0 : ∀ (x y : Int) (w : World), (part e #[.int .i64 x, .int .i64 y] 0).run P w = .ok (.int .i64 x) w := fun x y w => by simp [part, he.run_agg, H4]
 have p1 : ∀ (x y : Int) (w : World), (part e #[.int .i64 x, .int .i64 y] 1).run P w = .ok (.int .i64 y) w := fun x y w => by simp [part, he.run_agg, H4]
 have q := fun (x y : Int) (w : World) => B26 (P := P) (k := .i64) (q := .i64) (a := x) (b := y) (e := 9998) he w
 rw [show (10000 : Nat) = 9999 + 1 from rfl, Op.equalIn]
 simp only [Sem.run_bind, h.run_und, he.run_size, Result.andThen_ok]
 simp only [Std.Legacy.Range.forIn_eq_forIn_range', Std.Legacy.Range.size, Nat.sub_zero, Nat.add_sub_cancel, Nat.div_one, List.range'_succ, List.range'_zero, List.forIn_cons, List.forIn_nil, Sem.run_bind, Nat.zero_mul, Nat.zero_add, Nat.mul_one, p0, p1, q, Result.andThen_ok]
 by_cases h1 : a = c <;> by_cases h2 : b = d <;> simp [h1, h2, p0, p1, q]
theorem B5N (a b c d : Int) (x y : Operand) (K : Value → WP) : A6 PR (Z4 .eql 39 x y (.agg #[.int .i64 a, .int .i64 b]) (.agg #[.int .i64 c, .int .i64 d])) K = K (.bool (decide (a = c) && decide (b = d))) :=
 funext fun w => B47 (by kernel_rfl) (B1k A5F H6 a b c d)
end Go.Proofs.Ytlplkjgcfjdinaa
namespace Go.Proofs.Ytlplkjgcfjdinaa
open Go
def A1q : KeyV := ⟨4, ByteArray.mk #[97, 98, 99, 100], ByteArray.mk #[101, 102, 103, 104], 1, 2, 17⟩
def S4 : ByteArray := (V3 A1q 0).1
def A7Y : OpV × Value := (⟨0, S4, [], 0⟩, .slice none 0 0)
def S6 (v : Value) : List M7 := [(.slice none 0 0, []), (v, [A7Y, A7Y])]
def a8 : CfgV := ⟨1, 1, 1, 5, 2⟩
def n9 : RecV := ⟨1, 0, 0, 1, 2, 0, ⟨0, 7, false, 0⟩⟩
def n4 (n : Int) : RecV := ⟨1, 1, 0, 3, 4, n, ⟨0, 8, false, 0⟩⟩
theorem A1g : S4.size = 28 := by kernel_rfl
theorem B0v : A31 A7Y.1 = (q5 A1q, true) := by kernel_rfl
theorem A90 : (q5 A1q).size = 38 := by kernel_rfl
theorem A7M (v : Value) : P3 a8 (D7 (S6 v) [n9, n4 0]) = [(0, 1)] := by kernel_rfl
theorem A7e (v : Value) : P3 a8 (D7 (S6 v) [n9, n4 6]) = [] := by kernel_rfl
theorem A7v (v : Value) : P3 a8 (D7 (S6 v) []) = [] := by kernel_rfl
theorem B4Z (v : Value) : Q6 a8 (D7 (S6 v) [n9, n4 6]) 0 1 = true := by kernel_rfl
theorem B4V (v : Value) : Q6 a8 (D7 (S6 v) [n9, n4 0]) 0 1 = false := by kernel_rfl
theorem A9F (w : World) : Fn PR C5 5 #[] w (fun r w' => r = .bool true ∧ B6 [] w w') := by
 refine Fn.pure (A0U (TW.go (κ := false) (S := []) ?_))
 unfold Y1
 (have zz:=trivial;repeat((first|clear zz|with_reducible first|refine A3 ?_|refine A5 fun _=>?_|refine A4 fun _=>?_|refine B8 fun _=>?_|refine B9 (hK:=fun _=>?_)|refine B4 (hK:=fun _=>?_)|refine C0 (hK:=fun _=>?_)|refine C3 (hK:=fun _=>?_)|refine C4 (hK:=fun _=>?_));try simp(disch:=first|omega|assumption|((repeat(first|exact A1|exact uH|apply A2|apply uT));first|done|fail)|(simp;first|done|omega|fail))[]))
 refine C8 (u := .tuple #[.string S4, .int .i64 (V3 A1q 0).2]) A5j (fun w' _ => A7z w' A1q 0) ?_
 rw [show (V3 A1q 0).2 = 0 by kernel_rfl]
 (have zz:=trivial;repeat((first|clear zz|with_reducible first|refine A3 ?_|refine A5 fun _=>?_|refine A4 fun _=>?_|refine B8 fun _=>?_|refine B9 (hK:=fun _=>?_)|refine B4 (hK:=fun _=>?_)|refine C0 (hK:=fun _=>?_)|refine C3 (hK:=fun _=>?_)|refine C4 (hK:=fun _=>?_));try simp(disch:=first|omega|assumption|((repeat(first|exact A1|exact uH|apply A2|apply uT));first|done|fail)|(simp;first|done|omega|fail))[]))
 rename_i b1 bo bt b5 b6 b7
 have hops : ∀ v, ∀ t ∈ S6 v, t.2.length ≤ 24 ∧ ∀ o ∈ t.2, o.1.packet.size ≤ 100 ∧ o.1.pool.length ≤ 8 := by
  intro v t ht
  simp only [S6, List.mem_cons, List.not_mem_nil, or_false] at ht
  rcases ht with rfl | rfl
  ·simp
  ·refine ⟨by simp, fun o ho => ?_⟩
   simp only [List.mem_cons, List.not_mem_nil, or_false, or_self] at ho
   subst ho
   have := A1g
   exact ⟨by show S4.size ≤ 100; omega, by simp [A7Y]⟩
 have hth : ∀ w', F1 w' (.slice (some ⟨bo, 0, none⟩) 2 2) 2 [.int .i64 0, .string S4, .slice none 0 0, .int .i64 0, .int .i64 0, .string S4, .slice none 0 0, .int .i64 0] → ∀ t ∈ S6 (.slice (some ⟨bo, 0, none⟩) 2 2), ThRd w' t := by
  intro w' h t ht
  simp only [S6, List.mem_cons, List.not_mem_nil, or_false] at ht
  rcases ht with rfl | rfl
  ·exact ⟨Or.inl ⟨rfl, rfl, none, 0, rfl⟩, by simp, by simp⟩
  ·refine ⟨h, fun o ho => ?_, by simp⟩
   simp only [List.mem_cons, List.not_mem_nil, or_false, or_self] at ho
   subst ho
   exact Or.inl ⟨rfl, rfl, none, 0, rfl⟩
 have hB : ∀ (rs : List RecV) (lv : Value) {H : List Res} (w' : World), LW false [] w H w' → Res.own 53 4 (.slice (some ⟨bo, 0, none⟩) 2 2) 2 [.int .i64 0, .string S4, .slice none 0 0, .int .i64 0, .int .i64 0, .string S4, .slice none 0 0, .int .i64 0] ∈ H → Res.own 54 1 (.slice (some ⟨bt, 0, none⟩) 2 2) 2 [.slice none 0 0, .slice (some ⟨bo, 0, none⟩) 2 2] ∈ H → rs.length ≤ 24 → F1 w' lv rs.length (rs.flatMap F6) →
   Fn PR C5 10 #[a8.val, .slice (some ⟨bt, 0, none⟩) 2 2, lv] w' (Rn [] w' (fun r u => u = r) fun r => [.own 39 2 r (P3 a8 (D7 (S6 (.slice (some ⟨bo, 0, none⟩) 2 2)) rs)).length ((P3 a8 (D7 (S6 (.slice (some ⟨bo, 0, none⟩) 2 2)) rs)).flatMap Y8)]) := fun rs lv H w' hw' h1 h2 hl hv =>
  A0Z w' a8 (.slice (some ⟨bt, 0, none⟩) 2 2) lv (S6 (.slice (some ⟨bo, 0, none⟩) 2 2)) rs (M5.own (e := 54) (k := 1) h2 w' hw') (hth w' (M5.own (e := 53) (k := 4) h1 w' hw')) (by simp [S6]) (hops _) hl hv
 have hE : ∀ (rs : List RecV) (lv : Value) {H : List Res} (w' : World), LW false [] w H w' → Res.own 53 4 (.slice (some ⟨bo, 0, none⟩) 2 2) 2 [.int .i64 0, .string S4, .slice none 0 0, .int .i64 0, .int .i64 0, .string S4, .slice none 0 0, .int .i64 0] ∈ H → Res.own 54 1 (.slice (some ⟨bt, 0, none⟩) 2 2) 2 [.slice none 0 0, .slice (some ⟨bo, 0, none⟩) 2 2] ∈ H → rs.length ≤ 24 → F1 w' lv rs.length (rs.flatMap F6) →
   Fn PR C5 12 #[a8.val, .slice (some ⟨bt, 0, none⟩) 2 2, lv, .int .i64 0, .int .i64 1] w' (fun u w'' => u = .bool (Q6 a8 (D7 (S6 (.slice (some ⟨bo, 0, none⟩) 2 2)) rs) 0 1) ∧ B6 [] w' w'') := fun rs lv H w' hw' h1 h2 hl hv =>
  A4v w' a8 (.slice (some ⟨bt, 0, none⟩) 2 2) lv (S6 (.slice (some ⟨bo, 0, none⟩) 2 2)) rs 0 1 (M5.own (e := 54) (k := 1) h2 w' hw') (hth w' (M5.own (e := 53) (k := 4) h1 w' hw')) (by simp [S6]) (hops _) hl hv
 have cells1 : ∀ n, ([n9, n4 n].flatMap F6) = [.int .i64 1, .int .i64 0, .int .i64 0, .int .i64 1, .int .i64 2, .int .i64 0, .int .i64 0, .int .i64 7, .bool false, .int .i64 0, .int .i64 1, .int .i64 1, .int .i64 0, .int .i64 3, .int .i64 4, .int .i64 n, .int .i64 0, .int .i64 8, .bool false, .int .i64 0] := fun n => rfl
 refine B5E (α := Value × Value × Value) (fun _ => True) (fun z => [.own 39 2 z.1 1 [.int .i64 0, .int .i64 1], .own 39 2 z.2.1 0 [], .own 39 2 z.2.2 0 [], .pt b7 (.cells #[.int .i64 1, .int .i64 1, .int .i64 0, .int .i64 3, .int .i64 4, .int .i64 6, .int .i64 0, .int .i64 8, .bool false, .int .i64 0] 58), .pt b6 (.cells #[.int .i64 1, .int .i64 1, .int .i64 0, .int .i64 3, .int .i64 4, .int .i64 0, .int .i64 0, .int .i64 8, .bool false, .int .i64 0] 58), .pt b5 (.cells #[.int .i64 1, .int .i64 0, .int .i64 0, .int .i64 1, .int .i64 2, .int .i64 0, .int .i64 0, .int .i64 7, .bool false, .int .i64 0] 58),
  .own 54 1 (.slice (some ⟨bt, 0, none⟩) 2 2) 2 [.slice none 0 0, .slice (some ⟨bo, 0, none⟩) 2 2], .own 53 4 (.slice (some ⟨bo, 0, none⟩) 2 2) 2 [.int .i64 0, .string S4, .slice none 0 0, .int .i64 0, .int .i64 0, .string S4, .slice none 0 0, .int .i64 0], .pt b1 (.cells #[.int .i64 1, .int .i64 1, .int .i64 1, .int .i64 5, .int .i64 2] 23)]) (fun z => z.1) (fun z => z.2.1) (fun z => z.2.2) ?_ ?_
 ·rintro ⟨r1, r2, r3⟩ _
  simp only
  refine A0k (e := 39) (k := 2) (v := r2) (q := 0) (xs := []) (by (repeat constructor)) fun ra2 rc2 e => ?_
  subst e
  refine A0k (e := 39) (k := 2) (v := r3) (q := 0) (xs := []) (by (repeat constructor)) fun ra3 rc3 e => ?_
  subst e
  refine A2C (e := 39) (k := 2) (v := r1) (q := 1) (xs := [.int .i64 0, .int .i64 1]) (by (repeat constructor)) (by omega) fun g1 gc1 hg => ?_
  subst hg
  (have zz:=trivial;repeat((first|clear zz|with_reducible first|refine A3 ?_|refine A5 fun _=>?_|refine A4 fun _=>?_);try simp(disch:=first|omega|assumption|((repeat(first|exact A1|exact uH|apply A2|apply uT));first|done|fail)|(simp;first|done|omega|fail))[]))
  refine C8 u3 (fun w' _ => A5E w' A7Y.1 none 0 0 (by have := A1g; show S4.size < 2 ^ 40; omega)) ?_
  rw [B0v]
  have hks := A90
  generalize q5 A1q = kb at *
  (have zz:=trivial;repeat((first|clear zz|with_reducible first|refine A3 ?_|refine A5 fun _=>?_|refine A4 fun _=>?_);try simp(disch:=first|omega|assumption|((repeat(first|exact A1|exact uH|apply A2|apply uT));first|done|fail)|(simp;first|done|omega|fail))[hks]))
  refine C8 u3 (fun w' _ => A5E w' ⟨3, S4, [], 0⟩ none 0 0 (by have := A1g; show S4.size < 2 ^ 40; omega)) ?_
  rw [show A31 ⟨3, S4, [], 0⟩ = (G4, false) from rfl]
  (have zz:=trivial;repeat((first|clear zz|with_reducible first|refine A3 ?_|refine A5 fun _=>?_|refine A4 fun _=>?_);try simp(disch:=first|omega|assumption|((repeat(first|exact A1|exact uH|apply A2|apply uT));first|done|fail)|(simp;first|done|omega|fail))[hks, bd2, B5N]))
  refine B4 (hK := fun ge => ?_)
  (have zz:=trivial;repeat((first|clear zz|with_reducible first|refine A3 ?_|refine A5 fun _=>?_|refine A4 fun _=>?_);try simp(disch:=first|omega|assumption|((repeat(first|exact A1|exact uH|apply A2|apply uT));first|done|fail)|(simp;first|done|omega|fail))[]))
  refine C8 Y6 (fun w' hw' => hE [n9, n4 6] (.slice (some ⟨ge, 0, none⟩) 2 2) w' hw' (by (repeat constructor)) (by (repeat constructor)) (by simp) (by rw [cells1]; exact M5.own (e := 58) (k := 10) (by (repeat constructor)) w' hw')) ?_
  rw [B4Z]
  (have zz:=trivial;repeat((first|clear zz|with_reducible first|refine A3 ?_|refine A5 fun _=>?_|refine A4 fun _=>?_);try simp(disch:=first|omega|assumption|((repeat(first|exact A1|exact uH|apply A2|apply uT));first|done|fail)|(simp;first|done|omega|fail))[]))
  refine B4 (hK := fun gf => ?_)
  (have zz:=trivial;repeat((first|clear zz|with_reducible first|refine A3 ?_|refine A5 fun _=>?_|refine A4 fun _=>?_);try simp(disch:=first|omega|assumption|((repeat(first|exact A1|exact uH|apply A2|apply uT));first|done|fail)|(simp;first|done|omega|fail))[]))
  refine C8 Y6 (fun w' hw' => hE [n9, n4 0] (.slice (some ⟨gf, 0, none⟩) 2 2) w' hw' (by (repeat constructor)) (by (repeat constructor)) (by simp) (by rw [cells1]; exact M5.own (e := 58) (k := 10) (by (repeat constructor)) w' hw')) ?_
  rw [B4V]
  (have zz:=trivial;repeat((first|clear zz|with_reducible first|refine A3 ?_|refine A5 fun _=>?_|refine A4 fun _=>?_);try simp(disch:=first|omega|assumption|((repeat(first|exact A1|exact uH|apply A2|apply uT));first|done|fail)|(simp;first|done|omega|fail))[]))
  exact A8 rfl
 ·intro C1 hC1
  (have zz:=trivial;repeat((first|clear zz|with_reducible first|refine A3 ?_|refine A5 fun _=>?_|refine A4 fun _=>?_);try simp(disch:=first|omega|assumption|((repeat(first|exact A1|exact uH|apply A2|apply uT));first|done|fail)|(simp;first|done|omega|fail))[]))
  refine ⟨?_, ?_, fun _ _ => trivial⟩
  ·refine B4 (hK := fun g1 => ?_)
   repeat rw [H5 (by (repeat constructor)) (by rfl)]
   (have zz:=trivial;repeat((first|clear zz|with_reducible first|refine A3 ?_|refine A5 fun _=>?_|refine A4 fun _=>?_);try simp(disch:=first|omega|assumption|((repeat(first|exact A1|exact uH|apply A2|apply uT));first|done|fail)|(simp;first|done|omega|fail))[]))
   refine ⟨?_, ?_, fun _ _ => trivial⟩
   ·refine K7 D9 (fun w' hw' => hB [n9, n4 0] (.slice (some ⟨g1, 0, none⟩) 2 2) w' hw' (by (repeat constructor)) (by (repeat constructor)) (by simp) (by rw [cells1]; exact M5.own (e := 58) (k := 10) (by (repeat constructor)) w' hw')) ?_
    intro _ r1 hu
    subst hu
    rw [A7M]
    repeat rw [H5 (by (repeat constructor)) (by rfl)]
    (have zz:=trivial;repeat((first|clear zz|with_reducible first|refine A3 ?_|refine A5 fun _=>?_|refine A4 fun _=>?_);try simp(disch:=first|omega|assumption|((repeat(first|exact A1|exact uH|apply A2|apply uT));first|done|fail)|(simp;first|done|omega|fail))[]))
    refine B4 (hK := fun g2 => ?_)
    repeat rw [H5 (by (repeat constructor)) (by rfl)]
    (have zz:=trivial;repeat((first|clear zz|with_reducible first|refine A3 ?_|refine A5 fun _=>?_|refine A4 fun _=>?_);try simp(disch:=first|omega|assumption|((repeat(first|exact A1|exact uH|apply A2|apply uT));first|done|fail)|(simp;first|done|omega|fail))[]))
    refine K7 D9 (fun w' hw' => hB [n9, n4 6] (.slice (some ⟨g2, 0, none⟩) 2 2) w' hw' (by (repeat constructor)) (by (repeat constructor)) (by simp) (by rw [cells1]; exact M5.own (e := 58) (k := 10) (by (repeat constructor)) w' hw')) ?_
    intro _ r2 hu
    subst hu
    rw [A7e]
    repeat rw [H5 (by (repeat constructor)) (by rfl)]
    (have zz:=trivial;repeat((first|clear zz|with_reducible first|refine A3 ?_|refine A5 fun _=>?_|refine A4 fun _=>?_);try simp(disch:=first|omega|assumption|((repeat(first|exact A1|exact uH|apply A2|apply uT));first|done|fail)|(simp;first|done|omega|fail))[]))
    refine K7 D9 (fun w' hw' => hB [] (.slice none 0 0) w' hw' (by (repeat constructor)) (by (repeat constructor)) (by simp) (Or.inl ⟨rfl, rfl, none, 0, rfl⟩)) ?_
    intro _ r3 hu
    subst hu
    rw [A7v]
    refine Sels.tw ?_ (hC1 (r1, r2, r3) trivial)
    simp only [List.length_cons, List.length_nil, List.flatMap_cons, List.flatMap_nil, Y8, List.append_nil]
    (repeat' constructor)
   ·refine B4 (hK := fun g2 => ?_)
    repeat rw [H5 (by (repeat constructor)) (by rfl)]
    (have zz:=trivial;repeat((first|clear zz|with_reducible first|refine A3 ?_|refine A5 fun _=>?_|refine A4 fun _=>?_);try simp(disch:=first|omega|assumption|((repeat(first|exact A1|exact uH|apply A2|apply uT));first|done|fail)|(simp;first|done|omega|fail))[]))
    refine K7 D9 (fun w' hw' => hB [n9, n4 0] (.slice (some ⟨g1, 0, none⟩) 2 2) w' hw' (by (repeat constructor)) (by (repeat constructor)) (by simp) (by rw [cells1]; exact M5.own (e := 58) (k := 10) (by (repeat constructor)) w' hw')) ?_
    intro _ r1 hu
    subst hu
    rw [A7M]
    repeat rw [H5 (by (repeat constructor)) (by rfl)]
    (have zz:=trivial;repeat((first|clear zz|with_reducible first|refine A3 ?_|refine A5 fun _=>?_|refine A4 fun _=>?_);try simp(disch:=first|omega|assumption|((repeat(first|exact A1|exact uH|apply A2|apply uT));first|done|fail)|(simp;first|done|omega|fail))[]))
    refine K7 D9 (fun w' hw' => hB [n9, n4 6] (.slice (some ⟨g2, 0, none⟩) 2 2) w' hw' (by (repeat constructor)) (by (repeat constructor)) (by simp) (by rw [cells1]; exact M5.own (e := 58) (k := 10) (by (repeat constructor)) w' hw')) ?_
    intro _ r2 hu
    subst hu
    rw [A7e]
    repeat rw [H5 (by (repeat constructor)) (by rfl)]
    (have zz:=trivial;repeat((first|clear zz|with_reducible first|refine A3 ?_|refine A5 fun _=>?_|refine A4 fun _=>?_);try simp(disch:=first|omega|assumption|((repeat(first|exact A1|exact uH|apply A2|apply uT));first|done|fail)|(simp;first|done|omega|fail))[]))
    refine K7 D9 (fun w' hw' => hB [] (.slice none 0 0) w' hw' (by (repeat constructor)) (by (repeat constructor)) (by simp) (Or.inl ⟨rfl, rfl, none, 0, rfl⟩)) ?_
    intro _ r3 hu
    subst hu
    rw [A7v]
    refine Sels.tw ?_ (hC1 (r1, r2, r3) trivial)
    simp only [List.length_cons, List.length_nil, List.flatMap_cons, List.flatMap_nil, Y8, List.append_nil]
    (repeat' constructor)
  ·refine B4 (hK := fun g2 => ?_)
   repeat rw [H5 (by (repeat constructor)) (by rfl)]
   (have zz:=trivial;repeat((first|clear zz|with_reducible first|refine A3 ?_|refine A5 fun _=>?_|refine A4 fun _=>?_);try simp(disch:=first|omega|assumption|((repeat(first|exact A1|exact uH|apply A2|apply uT));first|done|fail)|(simp;first|done|omega|fail))[]))
   refine B4 (hK := fun g1 => ?_)
   repeat rw [H5 (by (repeat constructor)) (by rfl)]
   (have zz:=trivial;repeat((first|clear zz|with_reducible first|refine A3 ?_|refine A5 fun _=>?_|refine A4 fun _=>?_);try simp(disch:=first|omega|assumption|((repeat(first|exact A1|exact uH|apply A2|apply uT));first|done|fail)|(simp;first|done|omega|fail))[]))
   refine K7 D9 (fun w' hw' => hB [n9, n4 0] (.slice (some ⟨g1, 0, none⟩) 2 2) w' hw' (by (repeat constructor)) (by (repeat constructor)) (by simp) (by rw [cells1]; exact M5.own (e := 58) (k := 10) (by (repeat constructor)) w' hw')) ?_
   intro _ r1 hu
   subst hu
   rw [A7M]
   repeat rw [H5 (by (repeat constructor)) (by rfl)]
   (have zz:=trivial;repeat((first|clear zz|with_reducible first|refine A3 ?_|refine A5 fun _=>?_|refine A4 fun _=>?_);try simp(disch:=first|omega|assumption|((repeat(first|exact A1|exact uH|apply A2|apply uT));first|done|fail)|(simp;first|done|omega|fail))[]))
   refine K7 D9 (fun w' hw' => hB [n9, n4 6] (.slice (some ⟨g2, 0, none⟩) 2 2) w' hw' (by (repeat constructor)) (by (repeat constructor)) (by simp) (by rw [cells1]; exact M5.own (e := 58) (k := 10) (by (repeat constructor)) w' hw')) ?_
   intro _ r2 hu
   subst hu
   rw [A7e]
   repeat rw [H5 (by (repeat constructor)) (by rfl)]
   (have zz:=trivial;repeat((first|clear zz|with_reducible first|refine A3 ?_|refine A5 fun _=>?_|refine A4 fun _=>?_);try simp(disch:=first|omega|assumption|((repeat(first|exact A1|exact uH|apply A2|apply uT));first|done|fail)|(simp;first|done|omega|fail))[]))
   refine K7 D9 (fun w' hw' => hB [] (.slice none 0 0) w' hw' (by (repeat constructor)) (by (repeat constructor)) (by simp) (Or.inl ⟨rfl, rfl, none, 0, rfl⟩)) ?_
   intro _ r3 hu
   subst hu
   rw [A7v]
   refine Sels.tw ?_ (hC1 (r1, r2, r3) trivial)
   simp only [List.length_cons, List.length_nil, List.flatMap_cons, List.flatMap_nil, Y8, List.append_nil]
   (repeat' constructor)
end Go.Proofs.Ytlplkjgcfjdinaa
namespace Go.Proofs.Ytlplkjgcfjdinaa
open Go
theorem B3y {ts : List M7} {w : World} (ht : ∀ t ∈ ts, ThRd w t) : ∀ w', KS false [] w w' → ∀ t ∈ ts, ThRd w' t := fun w' hk t ht' => ⟨(ht t ht').rd.ks hk (by simp), fun o ho => ((ht t ht').pool o ho).ks hk (by simp), (ht t ht').len⟩
theorem A8x {bs : List (Nat × Nat)} {i : Nat} {p : Nat × Nat} (h : bs[i]? = some p) : (bs.flatMap Y8)[i * 2]? = some (.int .i64 (p.1 : Nat)) ∧ (bs.flatMap Y8)[i * 2 + 1]? = some (.int .i64 (p.2 : Nat)) := by
 have k1 := d5 (f := Y8) (k := 2) (fun _ => rfl) bs i 0 (by omega)
 have k2 := d5 (f := Y8) (k := 2) (fun _ => rfl) bs i 1 (by omega)
 rw [h] at k1 k2
 exact ⟨k1, k2⟩
set_option maxHeartbeats 1000000 in
theorem A4Y (w : World) (c : CfgV) (tv pv : Value) (ts : List M7) (hs : ScrRd w tv pv ts) (lv : Value) (l : List RecV) (hv : F1 w lv l.length (l.flatMap F6)) (hl : l.length ≤ 9223372036854775807) (n : Int) :
  Fn PR C5 3 #[B2J c tv pv, lv, .int .i64 n] w (fun v w' => v = .bool true ∧ B6 [] w w') := by
 refine Fn.pure (g5 (TW.go (κ := false) (S := []) ?_))
 unfold Q1
 obtain ⟨hr, ht, hts0, hpk⟩ := hs
 have hth := B3y ht
 obtain ⟨ta, tc, rfl, _⟩ := hr.form
 obtain ⟨pa, pn, pc, rfl, hpn⟩ := hpk
 obtain ⟨la, lc, rfl, _⟩ := hv.form
 simp only [B2J]
 (have zz:=trivial;repeat((first|clear zz|with_reducible first|refine A3 ?_|refine A5 fun _=>?_|refine A4 fun _=>?_);try simp(disch:=first|omega|assumption|((repeat(first|exact A1|exact uH|apply A2|apply uT));first|done|fail)|(simp;first|done|omega|fail))[]))
 rename_i bs
 refine C8 y2 (fun w' _ => A9F w') ?_
 (have zz:=trivial;repeat((first|clear zz|with_reducible first|refine A3 ?_|refine A5 fun _=>?_|refine A4 fun _=>?_);try simp(disch:=first|omega|assumption|((repeat(first|exact A1|exact uH|apply A2|apply uT));first|done|fail)|(simp;first|done|omega|fail))[]))
 refine A74 (φ := y6 c ts) A1A (fun w' hw' => B1d w' c (.slice ta ts.length tc) (.slice pa pn pc) ts (hr.ks hw'.ks (by simp)) (hth w' hw'.ks) hts0 ⟨_, _, _, rfl, hpn⟩) ?_
 rintro _ ⟨b, rfl, hb⟩
 cases b with
 | false =>
  (have zz:=trivial;repeat((first|clear zz|with_reducible first|refine A3 ?_|refine A5 fun _=>?_|refine A4 fun _=>?_);try simp(disch:=first|omega|assumption|((repeat(first|exact A1|exact uH|apply A2|apply uT));first|done|fail)|(simp;first|done|omega|fail))[]))
  exact A8 rfl
 | true =>
 have hfs := hb rfl
 clear hb
 (have zz:=trivial;repeat((first|clear zz|with_reducible first|refine A3 ?_|refine A5 fun _=>?_|refine A4 fun _=>?_);try simp(disch:=first|omega|assumption|((repeat(first|exact A1|exact uH|apply A2|apply uT));first|done|fail)|(simp;first|done|omega|fail))[]))
 refine C8 A07 (fun w' hw' => B2D w' (.slice la l.length lc) l hl (hv.ks hw'.ks (by simp))) ?_
 by_cases h24 : l.length ≤ 24
 case neg =>
  rw [decide_eq_false h24]
  (have zz:=trivial;repeat((first|clear zz|with_reducible first|refine A3 ?_|refine A5 fun _=>?_|refine A4 fun _=>?_);try simp(disch:=first|omega|assumption|((repeat(first|exact A1|exact uH|apply A2|apply uT));first|done|fail)|(simp;first|done|omega|fail))[]))
  exact A8 rfl
 rw [decide_eq_true h24]
 have hops : ∀ t ∈ ts, t.2.length ≤ 24 ∧ ∀ o ∈ t.2, o.1.packet.size ≤ 100 ∧ o.1.pool.length ≤ 8 := fun t ht => hfs.op ht
 have hts := hfs.len
 (have zz:=trivial;repeat((first|clear zz|with_reducible first|refine A3 ?_|refine A5 fun _=>?_|refine A4 fun _=>?_);try simp(disch:=first|omega|assumption|((repeat(first|exact A1|exact uH|apply A2|apply uT));first|done|fail)|(simp;first|done|omega|fail))[]))
 refine A74 (φ := w7 c l) A0T (fun w' hw' => B24 w' c (.slice la l.length lc) l (hv.ks hw'.ks (by simp)) h24) ?_
 rintro _ ⟨b, rfl, hb⟩
 cases b with
 | false =>
  (have zz:=trivial;repeat((first|clear zz|with_reducible first|refine A3 ?_|refine A5 fun _=>?_|refine A4 fun _=>?_);try simp(disch:=first|omega|assumption|((repeat(first|exact A1|exact uH|apply A2|apply uT));first|done|fail)|(simp;first|done|omega|fail))[]))
  exact A8 rfl
 | true =>
 have hnr := hb rfl
 clear hb
 have hlo := hnr.lo
 have hhi := hnr.hi
 by_cases n0 : n < 0
 ·(have zz:=trivial;repeat((first|clear zz|with_reducible first|refine A3 ?_|refine A5 fun _=>?_|refine A4 fun _=>?_);try simp(disch:=first|omega|assumption|((repeat(first|exact A1|exact uH|apply A2|apply uT));first|done|fail)|(simp;first|done|omega|fail))[n0]))
  exact A8 rfl
 by_cases n1 : 100 < n
 ·(have zz:=trivial;repeat((first|clear zz|with_reducible first|refine A3 ?_|refine A5 fun _=>?_|refine A4 fun _=>?_);try simp(disch:=first|omega|assumption|((repeat(first|exact A1|exact uH|apply A2|apply uT));first|done|fail)|(simp;first|done|omega|fail))[n0, n1]))
  exact A8 rfl
 (have zz:=trivial;repeat((first|clear zz|with_reducible first|refine A3 ?_|refine A5 fun _=>?_|refine A4 fun _=>?_);try simp(disch:=first|omega|assumption|((repeat(first|exact A1|exact uH|apply A2|apply uT));first|done|fail)|(simp;first|done|omega|fail))[n0, n1]))
 refine K7 s8 (fun w' hw' => A7T w' (.slice la l.length lc) l h24 (hv.ks hw'.ks (by simp))) ?_
 intro _ r hr1
 subst hr1
 (have zz:=trivial;repeat((first|clear zz|with_reducible first|refine A3 ?_|refine A5 fun _=>?_|refine A4 fun _=>?_);try simp(disch:=first|omega|assumption|((repeat(first|exact A1|exact uH|apply A2|apply uT));first|done|fail)|(simp;first|done|omega|fail))[]))
 refine K7 D9 (fun w' hw' => A0Z w' c (.slice ta ts.length tc) r ts l (hr.ks hw'.ks (by simp)) (hth w' hw'.ks) (by omega) hops h24 (M5.own (e := 58) (k := 10) (by (repeat constructor)) w' hw')) ?_
 intro _ rb hr1
 subst hr1
 (have zz:=trivial;repeat((first|clear zz|with_reducible first|refine A3 ?_|refine A5 fun _=>?_|refine A4 fun _=>?_);try simp(disch:=first|omega|assumption|((repeat(first|exact A1|exact uH|apply A2|apply uT));first|done|fail)|(simp;first|done|omega|fail))[]))
 refine K7 u5 (fun w' hw' => A4r w' r l h24 (M5.own (e := 58) (k := 10) (by (repeat constructor)) w' hw')) ?_
 intro _ r1 hr1
 subst hr1
 have hwlen : (V9 (G0 l) l.length).length = (D7 ts l).length := by unfold D7; rw [List.length_map]
 rw [hwlen]
 generalize V9 (G0 l) l.length = wl at *
 obtain ⟨c', hc'⟩ : ∃ c' : CfgV, c' = { c with idle := c.idle + n } := ⟨_, rfl⟩
 have hmono : (P3 c (D7 ts l)).length ≤ (P3 c' (D7 ts l)).length := B2W hnr (by rw [hc']; simp only; omega) (by rw [hc']; simp only; omega)
 have hbm : ∀ p ∈ P3 c (D7 ts l), p.1 < p.2 ∧ p.2 < (D7 ts l).length ∧ Q6 c (D7 ts l) p.1 p.2 = false := fun p hp => by
  unfold P3 at hp
  rw [List.mem_filter] at hp
  have hm := r5 hp.1
  have := hp.2
  unfold S7 at this
  simp only [Bool.and_eq_true, Bool.not_eq_true'] at this
  exact ⟨hm.1, hm.2.1, this.2⟩
 have hrise : (P3 c (D7 ts l)).Pairwise fun p q => p.1 < q.1 := (A9j _).filter _
 have hsl := A4A ts l
 have hbl : (P3 c (D7 ts l)).length ≤ 100 := by
  unfold P3
  have h1 := List.length_filter_le (S7 c (D7 ts l)) (K4 (D7 ts l))
  have h2 : (K4 (D7 ts l)).length ≤ (D7 ts l).length := by
   unfold K4 Q2
   have := List.length_filter_le (fun p : Nat × Nat => decide (0 < p.2)) ((List.range (D7 ts l).length).map fun i => (i, G6 (D7 ts l) i))
   rw [List.length_map, List.length_range] at this
   exact this
  omega
 have hB' := fun w' => A0Z w' c' (.slice ta ts.length tc) r ts l
 have hEx := fun w' (x y : Nat) => A4v w' c (.slice ta ts.length tc) r ts l (x : Nat) (y : Nat)
 generalize hss : D7 ts l = ss at *
 generalize hbk : P3 c ss = bk at *
 generalize P3 c' ss = bk' at *
 refine A0k (e := 3) (k := 1) (v := r1) (q := ss.length) (xs := G5 wl) (by (repeat constructor)) fun ra rc e => ?_
 subst e
 refine A0k (e := 39) (k := 2) (v := rb) (q := bk.length) (xs := bk.flatMap Y8) (by (repeat constructor)) fun ba bc e => ?_
 subst e
 (have zz:=trivial;repeat((first|clear zz|with_reducible first|refine A3 ?_|refine A5 fun _=>?_|refine A4 fun _=>?_);try simp(disch:=first|omega|assumption|((repeat(first|exact A1|exact uH|apply A2|apply uT));first|done|fail)|(simp;first|done|omega|fail))[]))
 rename_i b11
 have hwi : (G5 wl).length = wl.length := by unfold G5; rw [List.length_map]
 obtain ⟨Hs, hHs⟩ : ∃ Hs : List Res, Hs = [.pt b11 (.cells #[.int .i64 c.wk, .int .i64 c.sh, .int .i64 c.cp, .int .i64 (c.idle + n), .int .i64 c.sl] 23), .own 3 1 (.slice ra ss.length rc) ss.length (G5 wl), .own 39 2 (.slice ba bk.length bc) bk.length (bk.flatMap Y8), .own 58 10 r l.length (l.flatMap F6), .pt bs (.cells #[.int .i64 c.wk, .int .i64 c.sh, .int .i64 c.cp, .int .i64 c.idle, .int .i64 c.sl, .slice ta ts.length tc, .slice pa pn pc] 27)] := ⟨_, rfl⟩
 refine g8 (α := Unit) bk.length (fun _ _ => .bool false) (fun _ _ => Hs) (fun _ _ => True) () trivial ?_ (by subst hHs; rfl)
 intro i _ hi _ L hL
 by_cases hlt : i < bk.length
 ·obtain ⟨p, hp⟩ : ∃ p, bk[i]? = some p := ⟨_, List.getElem?_eq_getElem hlt⟩
  obtain ⟨k1, k2⟩ := A8x hp
  have hpm := hbm p (List.mem_of_getElem? hp)
  subst hHs
  refine A2C (e := 39) (k := 2) (v := .slice ba bk.length bc) (q := bk.length) (xs := bk.flatMap Y8) (by (repeat constructor)) (by omega) fun g gc hg => ?_
  cases hg
  obtain ⟨x, y⟩ := p
  simp only at hpm k1 k2
  obtain ⟨m1, m2, m3⟩ := hpm
  have j0 : ¬ ((x : Nat) : Int) < 0 := by omega
  have j1 : ¬ ((y : Nat) : Int) ≤ ((x : Nat) : Int) := by omega
  have j2 : ¬ ((ss.length : Nat) : Int) ≤ ((y : Nat) : Int) := by omega
  have j3 : ¬ y ≤ x := by omega
  have j4 : ¬ ss.length ≤ y := by omega
  (have zz:=trivial;repeat((first|clear zz|with_reducible first|refine A3 ?_|refine A5 fun _=>?_|refine A4 fun _=>?_);try simp(disch:=first|omega|assumption|((repeat(first|exact A1|exact uH|apply A2|apply uT));first|done|fail)|(simp;first|done|omega|fail))[hlt, k1, k2, bd2, j0, j1, j2, j3, j4]))
  refine C8 Y6 (fun w' hw' => hEx w' x y (hr.ks hw'.ks (by simp)) (hth w' hw'.ks) (by omega) hops h24 (M5.own (e := 58) (k := 10) (by (repeat constructor)) w' hw')) ?_
  rw [m3]
  by_cases i0 : 0 < i
  ·obtain ⟨q, hq⟩ : ∃ q, bk[i - 1]? = some q := ⟨_, List.getElem?_eq_getElem (by omega)⟩
   have k3 := (A8x hq).1
   have hqx : q.1 < x := by
    obtain ⟨a1, b1⟩ := List.getElem?_eq_some_iff.1 hq
    obtain ⟨a2, b2⟩ := List.getElem?_eq_some_iff.1 hp
    have := List.pairwise_iff_getElem.1 hrise (i - 1) i a1 a2 (by omega)
    rw [b1, b2] at this
    exact this
   have ei : ((i : Nat) : Int) - 1 = ((i - 1 : Nat) : Int) := by omega
   have j5 : ¬ ((x : Nat) : Int) ≤ ((q.1 : Nat) : Int) := by omega
   have j6 : ¬ x ≤ q.1 := by omega
   have j7 : (0 : Int) < (i : Int) := by omega
   have j8 : i - 1 < bk.length := by omega
   (have zz:=trivial;repeat((first|clear zz|with_reducible first|refine A3 ?_|refine A5 fun _=>?_|refine A4 fun _=>?_);try simp(disch:=first|omega|assumption|((repeat(first|exact A1|exact uH|apply A2|apply uT));first|done|fail)|(simp;first|done|omega|fail))[ei, i0, j7, j8, k3, bd2, j5, j6]))
   exact hL hlt () trivial
  ·obtain rfl : i = 0 := by omega
   (have zz:=trivial;repeat((first|clear zz|with_reducible first|refine A3 ?_|refine A5 fun _=>?_|refine A4 fun _=>?_);try simp(disch:=first|omega|assumption|((repeat(first|exact A1|exact uH|apply A2|apply uT));first|done|fail)|(simp;first|done|omega|fail))[]))
   have := hL hlt () trivial
   simpa using this
 ·obtain rfl : i = bk.length := by omega
  subst hHs
  (have zz:=trivial;repeat((first|clear zz|with_reducible first|refine A3 ?_|refine A5 fun _=>?_|refine A4 fun _=>?_);try simp(disch:=first|omega|assumption|((repeat(first|exact A1|exact uH|apply A2|apply uT));first|done|fail)|(simp;first|done|omega|fail))[]))
  have hcv : c'.val = .agg #[.int .i64 c.wk, .int .i64 c.sh, .int .i64 c.cp, .int .i64 (c.idle + n), .int .i64 c.sl] := by rw [hc']; rfl
  rw [hcv] at hB'
  refine K7 D9 (fun w' hw' => hB' w' (hr.ks hw'.ks (by simp)) (hth w' hw'.ks) (by omega) hops h24 (M5.own (e := 58) (k := 10) (by (repeat constructor)) w' hw')) ?_
  intro _ r2 hu
  subst hu
  refine A0k (e := 39) (k := 2) (v := r2) (q := bk'.length) (xs := bk'.flatMap Y8) (by (repeat constructor)) fun ra2 rc2 e => ?_
  subst e
  have hmi : ((bk.length : Nat) : Int) ≤ ((bk'.length : Nat) : Int) := by omega
  (have zz:=trivial;repeat((first|clear zz|with_reducible first|refine A3 ?_|refine A5 fun _=>?_|refine A4 fun _=>?_);try simp(disch:=first|omega|assumption|((repeat(first|exact A1|exact uH|apply A2|apply uT));first|done|fail)|(simp;first|done|omega|fail))[hmono, hmi]))
  refine K7 D9 (fun w' hw' => A0Z w' c (.slice none 0 0) r [] l (Or.inl ⟨rfl, rfl, none, 0, rfl⟩) (by simp) (by simp) (by simp) h24 (M5.own (e := 58) (k := 10) (by (repeat constructor)) w' hw')) ?_
  intro _ r3 hu
  subst hu
  rw [B3V]
  refine A0k (e := 39) (k := 2) (v := r3) (q := 0) (xs := []) (by (repeat constructor)) fun ra3 rc3 e => ?_
  subst e
  (have zz:=trivial;repeat((first|clear zz|with_reducible first|refine A3 ?_|refine A5 fun _=>?_|refine A4 fun _=>?_);try simp(disch:=first|omega|assumption|((repeat(first|exact A1|exact uH|apply A2|apply uT));first|done|fail)|(simp;first|done|omega|fail))[]))
  exact A8 rfl
end Go.Proofs.Ytlplkjgcfjdinaa
