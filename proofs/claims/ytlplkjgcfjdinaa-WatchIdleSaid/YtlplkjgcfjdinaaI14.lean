/- The proof of a given statement, a part of it (Ord Flows Flows2 Stab Stab2 WitL Stab3 Wit WatA Sweep Wat WatB WatC WatD WatE WatF WatG ShR21 ShR22 Few22 L23 EqA Works23 IdlW). No condition but what each lemma says. -/
import Derived.Sort.Grow
import Derived.Deep.Draws
import Derived.Test.YtlplkjgcfjdinaaI13
set_option linter.unusedVariables false
set_option linter.unusedSimpArgs false
namespace Go.Proofs.Ytlplkjgcfjdinaa
open Go
theorem A5r (w : World) (a : Int) : Fn PR C5 40 #[.int .i64 a] w (fun v w' => v = .bool false ∧ w' = w) := by
 refine A3p ?_
 unfold x5
 simp
def Q5 (a b : Int) : Int := if a < b then -1 else if b < a then 1 else 0
theorem B2H (w : World) (a b : Int) : Fn PR C5 23 #[.int .i64 a, .int .i64 b] w (fun v w' => v = .int .i64 (Q5 a b) ∧ w' = w) := by
 refine A2v ?_
 unfold p6
 refine A0Y ((A5r w a).use ?_)
 rintro _ _ ⟨rfl, rfl⟩ _
 refine A0Y ((A5r _ b).use ?_)
 rintro _ _ ⟨rfl, rfl⟩ _
 by_cases c1 : a < b
 ·simp [c1, Q5]
 by_cases c2 : b < a
 ·simp [c1, c2, Q5]
 ·simp [c1, c2, Q5]
def Gr (w w' : World) : Prop := ∃ q os, w' = Sort.grow (w.drewN q) os
theorem Gr.refl (w : World) : Gr w w := ⟨0, #[], by simp [Sort.grow]; rfl⟩
theorem Gr.alloc {w w' : World} (h : Gr w w') (o : Obj) : Gr w (w'.alloc o) := by
 obtain ⟨q, os, rfl⟩ := h
 exact ⟨q, os ++ #[o], by rw [Sort.alloc_eq_grow, Sort.grow_grow]⟩
theorem Gr.drew {w w' : World} (h : Gr w w') : Gr w w'.drew := by
 obtain ⟨q, os, rfl⟩ := h
 exact ⟨q + 1, os, rfl⟩
end Go.Proofs.Ytlplkjgcfjdinaa
namespace Go.Proofs.Ytlplkjgcfjdinaa
open Go
end Go.Proofs.Ytlplkjgcfjdinaa
namespace Go.Proofs.Ytlplkjgcfjdinaa
open Go
theorem A3D {κ : Bool} {S : List Nat} {w0 : World} {H : List Res} {K0 : WP} {e : TypeId} {k : Nat} {v : Value} {q : Nat} {xs : List Value} (hm : Res.own e k v q xs ∈ H) (h : ∀ a c, v = .slice a q c → TW κ S w0 H K0) : TW κ S w0 H K0 := fun w hw => by
 obtain ⟨a, c, rfl⟩ := K8.form (hw.hold _ hm); exact h a c rfl w hw
end Go.Proofs.Ytlplkjgcfjdinaa
namespace Go.Proofs.Ytlplkjgcfjdinaa
open Go
def H8 (l : List Nat) : List Value := l.map fun n : Nat => .int .i64 (n : Int)
theorem A6w (l : List Nat) : (H8 l).length = l.length := by simp [H8]
theorem B2E {l : List Nat} {x : Nat} (h : x < l.length) : (H8 l)[x]? = some (.int .i64 (l.getD x 0 : Nat)) := by
 unfold H8
 rw [List.getElem?_map, List.getElem?_eq_getElem h, List.getD_eq_getElem?_getD, List.getElem?_eq_getElem h]; rfl
theorem B1Z {l : List Nat} {x y : Nat} (h : x < l.length) : A1g (H8 l) x [.int .i64 (y : Int)] = H8 (l.set x y) := by
 rw [A62 (by rw [A6w]; exact h), H8, H8, List.map_set]
def ix (l : List Nat) (i : Nat) : Nat := l.getD i 0
theorem K7 {l : List Nat} {x : Nat} (h : x < l.length) : (H8 l)[x]? = some (.int .i64 (ix l x : Nat)) := B2E h
theorem A1n (l : List Nat) (i j : Nat) : A0Z l i j = (l.set i (ix l j)).set j (ix l i) := rfl
abbrev OI (g q c : Nat) (l : List Nat) : Res := .own 3 1 (.slice (some ⟨g, 0, none⟩) q c) q (H8 l)
theorem g7 {κ : Bool} {S : List Nat} {w0 : World} {Hr : List Res} {K0 : WP} {g q c x y : Nat} {l : List Nat} (hx : x < l.length) (hK : TW κ S w0 (OI g q c (l.set x y) :: Hr) K0) :
  TW κ S w0 (OI g q c l :: Hr) (C8 PR C5 (Instr.storeAt 3 (.pointer (some ⟨g, x, none⟩)) (.int .i64 (y : Int))) K0) := by
 have ev : (Value.int IntKind.i64 (y : Int)).cells.toList = [.int .i64 (y : Int)] := rfl
 have e := B1Z (l := l) (x := x) (y := y) hx
 rw [← ev] at e
 exact A69 (n := 1) (e := 3) (k := 1) (q := q) (c := c) (xs := H8 l) Up.here rfl (by rw [A6w]; exact hx) rfl (by rw [e]; exact hK)
theorem y3 (w : World) (g c : Nat) (l : List Nat) (x y n : Nat) (F : Value) (h1 : x + n ≤ y) (h2 : y + n ≤ l.length) (hl : l.length ≤ 1000) (hw : LW false (B7 [OI g l.length c l]) w [OI g l.length c l] w) :
  Fn PR C5 73 #[.slice (some ⟨g, 0, none⟩) l.length c, .int .i64 (x : Int), .int .i64 (y : Int), .int .i64 (n : Int), F] w (Rn (B7 [OI g l.length c l]) w (fun (_ : Unit) u => u = .tuple #[]) fun _ => [OI g l.length c (S5 l x y n)]) := by
 refine g8 (TW.goH (κ := false) (S := B7 [OI g l.length c l]) ?_ hw)
 unfold P6
 generalize hS : B7 [OI g l.length c l] = S
 refine A8Z n (fun i (_ : Unit) => [OI g l.length c (S5 l x y i)]) (fun _ _ => True) () trivial ?_
 rintro i _ hi _ L hL
 by_cases hlt : i < n
 ·have e := W2 l x y i
  have g1 := K7 (l := S5 l x y i) (x := x + i) (by omega)
  have g2 := K7 (l := S5 l x y i) (x := y + i) (by omega)
  have h := hL hlt () trivial
  rw [S5, A1n] at h
  generalize S5 l x y i = m at *
  have hx1 : ((x : Int) + i).toNat = x + i := by omega
  have hy1 : ((y : Int) + i).toNat = y + i := by omega
  (have zz:=trivial;repeat((first|clear zz|with_reducible first|refine A3 ?_|refine A5 fun _=>?_|refine A4 fun _=>?_);try simp(disch:=first|omega|assumption|((repeat(first|exact A1|exact uH|apply A2|apply uT));first|done|fail)|(simp;first|done|omega|fail))[hlt, hx1, hy1, g1, g2]))
  refine g7 (y := ix m (y + i)) (by omega) ?_
  (have zz:=trivial;repeat((first|clear zz|with_reducible first|refine A3 ?_|refine A5 fun _=>?_|refine A4 fun _=>?_);try simp(disch:=first|omega|assumption|((repeat(first|exact A1|exact uH|apply A2|apply uT));first|done|fail)|(simp;first|done|omega|fail))[hlt, hx1, hy1]))
  refine g7 (y := ix m (x + i)) (by simp; omega) ?_
  (have zz:=trivial;repeat((first|clear zz|with_reducible first|refine A3 ?_|refine A5 fun _=>?_|refine A4 fun _=>?_);try simp(disch:=first|omega|assumption|((repeat(first|exact A1|exact uH|apply A2|apply uT));first|done|fail)|(simp;first|done|omega|fail))[]))
  exact h
 ·obtain rfl : i = n := by omega
  (have zz:=trivial;repeat((first|clear zz|with_reducible first|refine A3 ?_|refine A5 fun _=>?_|refine A4 fun _=>?_);try simp(disch:=first|omega|assumption|((repeat(first|exact A1|exact uH|apply A2|apply uT));first|done|fail)|(simp;first|done|omega|fail))[]))
  exact G7 () rfl (by (repeat' constructor))
theorem A93 (w : World) (g c : Nat) (l : List Nat) (a m b : Nat) (F : Value) (h1 : a < m) (h2 : m < b) (h3 : b ≤ l.length) (hl : l.length ≤ 1000) (hw : LW false (B7 [OI g l.length c l]) w [OI g l.length c l] w) :
  Fn PR C5 62 #[.slice (some ⟨g, 0, none⟩) l.length c, .int .i64 (a : Int), .int .i64 (m : Int), .int .i64 (b : Int), F] w (Rn (B7 [OI g l.length c l]) w (fun (_ : Unit) u => u = .tuple #[]) fun _ => [OI g l.length c (G2 l a m b)]) := by
 refine p4 (TW.goH (κ := false) (S := B7 [OI g l.length c l]) ?_ hw)
 unfold T9
 generalize hS : B7 [OI g l.length c l] = S
 have e1 : ((m : Int) - a) = ((m - a : Nat) : Int) := by omega
 have e2 : ((b : Int) - m) = ((b - m : Nat) : Int) := by omega
 (have zz:=trivial;repeat((first|clear zz|with_reducible first|refine A3 ?_|refine A5 fun _=>?_|refine A4 fun _=>?_);try simp(disch:=first|omega|assumption|((repeat(first|exact A1|exact uH|apply A2|apply uT));first|done|fail)|(simp;first|done|omega|fail))[]))
 rw [e1, e2]
 refine v7 (fun z : Nat × Nat × List Nat => [OI g l.length c z.2.2]) (fun z => 0 < z.1 ∧ 0 < z.2.1 ∧ z.1 ≤ m ∧ m + z.2.1 ≤ l.length ∧ z.2.2.length = l.length ∧ G2 z.2.2 (m - z.1) m (m + z.2.1) = G2 l a m b) (fun z => z.1 + z.2.1) (m - a, b - m, l) (fun z => .int .i64 (z.1 : Nat)) (fun z => .int .i64 (z.2.1 : Nat)) ⟨by simp only; omega, by simp only; omega, by simp only; omega, by simp only; omega, rfl, by simp only; congr 1 <;> omega⟩ ?_
 rintro ⟨i, j, p⟩ ⟨i0, j0, i1, i2, hp, hr⟩ L hL
 simp only at i0 j0 i1 i2 hp hr hL ⊢
 rw [← hp] at i2 hl
 have eA : ((m : Int) - i) = ((m - i : Nat) : Int) := by omega
 by_cases c1 : i = j
 ·subst c1
  (have zz:=trivial;repeat((first|clear zz|with_reducible first|refine A3 ?_|refine A5 fun _=>?_|refine A4 fun _=>?_);try simp(disch:=first|omega|assumption|((repeat(first|exact A1|exact uH|apply A2|apply uT));first|done|fail)|(simp;first|done|omega|fail))[]))
  rw [eA, ← hp]
  refine F7 (Hc := [OI g p.length c p]) H2 (fun w' hw hs => y3 w' g c p (m - i) m i F (by omega) (by omega) hl hs) (by (repeat' constructor)) ?_
  rintro _ _ rfl
  rw [B4U i1 i2, hr]
  (have zz:=trivial;repeat((first|clear zz|with_reducible first|refine A3 ?_|refine A5 fun _=>?_|refine A4 fun _=>?_);try simp(disch:=first|omega|assumption|((repeat(first|exact A1|exact uH|apply A2|apply uT));first|done|fail)|(simp;first|done|omega|fail))[]))
  exact G7 () rfl (by (repeat' constructor))
 have c1' : ¬ (i : Int) = (j : Int) := by omega
 by_cases c2 : j < i
 ·have c2' : (j : Int) < i := by omega
  have eB : ((i : Int) - j) = ((i - j : Nat) : Int) := by omega
  have h := hL (i - j, j, S5 p (m - i) m j) ⟨by simp only; omega, j0, by simp only; omega, by simp only; omega, by simp only; rw [W2, hp], by simp only; rw [← hr, ← B3w i1 c2 i2]; congr 1; omega⟩ (by simp only; omega)
  (have zz:=trivial;repeat((first|clear zz|with_reducible first|refine A3 ?_|refine A5 fun _=>?_|refine A4 fun _=>?_);try simp(disch:=first|omega|assumption|((repeat(first|exact A1|exact uH|apply A2|apply uT));first|done|fail)|(simp;first|done|omega|fail))[c1, c1', c2, c2']))
  rw [eA, ← hp]
  refine F7 (Hc := [OI g p.length c p]) H2 (fun w' hw hs => y3 w' g c p (m - i) m j F (by omega) (by omega) hl hs) (by (repeat' constructor)) ?_
  rintro _ _ rfl
  (have zz:=trivial;repeat((first|clear zz|with_reducible first|refine A3 ?_|refine A5 fun _=>?_|refine A4 fun _=>?_);try simp(disch:=first|omega|assumption|((repeat(first|exact A1|exact uH|apply A2|apply uT));first|done|fail)|(simp;first|done|omega|fail))[]))
  rw [eB, hp]
  exact h
 ·have c2' : ¬ (j : Int) < i := by omega
  have eB : ((j : Int) - i) = ((j - i : Nat) : Int) := by omega
  have eC : ((m : Int) + j - i) = ((m + j - i : Nat) : Int) := by omega
  have h := hL (i, j - i, S5 p (m - i) (m + j - i) i) ⟨i0, by simp only; omega, i1, by simp only; omega, by simp only; rw [W2, hp], by simp only; rw [← hr, ← B3p i1 (by omega) i2]; congr 1; omega⟩ (by simp only; omega)
  (have zz:=trivial;repeat((first|clear zz|with_reducible first|refine A3 ?_|refine A5 fun _=>?_|refine A4 fun _=>?_);try simp(disch:=first|omega|assumption|((repeat(first|exact A1|exact uH|apply A2|apply uT));first|done|fail)|(simp;first|done|omega|fail))[c1, c1', c2, c2']))
  rw [eA, eC, ← hp]
  refine F7 (Hc := [OI g p.length c p]) H2 (fun w' hw hs => y3 w' g c p (m - i) (m + j - i) i F (by omega) (by omega) hl hs) (by (repeat' constructor)) ?_
  rintro _ _ rfl
  (have zz:=trivial;repeat((first|clear zz|with_reducible first|refine A3 ?_|refine A5 fun _=>?_|refine A4 fun _=>?_);try simp(disch:=first|omega|assumption|((repeat(first|exact A1|exact uH|apply A2|apply uT));first|done|fail)|(simp;first|done|omega|fail))[]))
  rw [eB, hp]
  exact h
theorem A1y (a b : Int) : Q5 a b < 0 ↔ a < b := by
 unfold Q5; repeat' split
 all_goals omega
abbrev A5J (b : Nat) : Value := .func (.func 22) #[] #[.pointer (some ⟨b, 0, none⟩)]
abbrev A39 (w : World) (S : List Nat) (bw : Nat) (key : Nat → Int) (l : List Nat) : Prop := ∀ w', KS false S w w' → ∀ x y, x ∈ l → y ∈ l →
 Fn PR C5 22 #[.int .i64 (x : Int), .int .i64 (y : Int), .pointer (some ⟨bw, 0, none⟩)] w' (fun v w'' => v = .int .i64 (Q5 (key x) (key y)) ∧ B5 [] w' w'')
theorem A4J {l : List Nat} {i : Nat} (h : i < l.length) : ix l i ∈ l := by
 unfold ix; rw [List.getD_eq_getElem?_getD, List.getElem?_eq_getElem h]; exact List.getElem_mem h
theorem A4S (w : World) (g c : Nat) (l : List Nat) (a b bw : Nat) (key : Nat → Int) (hc : A39 w (B7 [OI g l.length c l]) bw key l) (hI : Inc l a b) (hab : a ≤ b) (hb : b ≤ l.length) (hl : l.length ≤ 1000) (hw : LW false (B7 [OI g l.length c l]) w [OI g l.length c l] w) :
  Fn PR C5 54 #[.slice (some ⟨g, 0, none⟩) l.length c, .int .i64 (a : Int), .int .i64 (b : Int), A5J bw] w (Rn (B7 [OI g l.length c l]) w (fun (l' : List Nat) u => u = .tuple #[] ∧ E6 key l' a b ∧ Mix l a b l') fun l' => [OI g l.length c l']) := by
 refine M7 (TW.goH (κ := false) (S := B7 [OI g l.length c l]) ?_ hw)
 unfold G0
 generalize hS : B7 [OI g l.length c l] = S at *
 (have zz:=trivial;repeat((first|clear zz|with_reducible first|refine A3 ?_|refine A5 fun _=>?_|refine A4 fun _=>?_);try simp(disch:=first|omega|assumption|((repeat(first|exact A1|exact uH|apply A2|apply uT));first|done|fail)|(simp;first|done|omega|fail))[]))
 refine A13 (fun z : Nat × List Nat => [OI g l.length c z.2]) (fun z => a + 1 ≤ z.1 ∧ (z.1 ≤ b ∨ z.1 = a + 1 ∧ z.2 = l) ∧ E6 key z.2 a z.1 ∧ Mix l a z.1 z.2) (fun z => b - z.1) (a + 1, l) (fun z => .int .i64 (z.1 : Nat)) ⟨Nat.le_refl _, Or.inr ⟨rfl, rfl⟩, fun i j _ _ _ => by simp only at *; omega, Mix.refl ..⟩ ?_
 rintro ⟨i, p⟩ ⟨i0, i1, hs, hm⟩ L hL
 simp only at i0 i1 hs hm hL ⊢
 by_cases c0 : i < b
 case neg =>
  have c0' : ¬ (i : Int) < b := by omega
  (have zz:=trivial;repeat((first|clear zz|with_reducible first|refine A3 ?_|refine A5 fun _=>?_|refine A4 fun _=>?_);try simp(disch:=first|omega|assumption|((repeat(first|exact A1|exact uH|apply A2|apply uT));first|done|fail)|(simp;first|done|omega|fail))[c0, c0']))
  refine G7 p ⟨rfl, ?_⟩ (by (repeat' constructor))
  rcases i1 with h | ⟨h, rfl⟩
  ·obtain rfl : i = b := by omega
   exact ⟨hs, hm⟩
  ·by_cases hib : i = b
   ·subst hib; exact ⟨hs, hm⟩
   ·exact ⟨fun x y _ _ _ => by omega, Mix.refl ..⟩
 have hpl := hm.len
 have hmem : ∀ x, x < p.length → ix p x ∈ l := fun x hx => hm.perm.mem_iff.1 (A4J hx)
 (have zz:=trivial;repeat((first|clear zz|with_reducible first|refine A3 ?_|refine A5 fun _=>?_|refine A4 fun _=>?_);try simp(disch:=first|omega|assumption|((repeat(first|exact A1|exact uH|apply A2|apply uT));first|done|fail)|(simp;first|done|omega|fail))[c0]))
 have hex : ∀ n, n ≤ i - a → (0 < n → key (ix p i) < key (ix p (i - n))) → (a < i - n → ¬ key (ix p i) < key (ix p (i - n - 1))) → TW false S w [OI g l.length c (H0 p i n)] (L (.int .i64 ((i : Int) + 1))) := fun n n1 n2 n3 => by
  have h := A5p (key := key) (l := p) (a := a) (s := i - n) (m := i) (by omega) (by omega) (by omega) hs (hI.st hm c0) n3 (fun hh => n2 (by omega))
  rw [← A5y (by omega) (by omega)] at h
  exact hL (i + 1, H0 p i n) ⟨by simp only; omega, Or.inl (by simp only; omega), h.1, (hm.wide (Nat.le_refl _) (by omega)).trans h.2⟩ (by simp only; omega)
 refine A13 (fun n : Nat => [OI g l.length c (H0 p i n)]) (fun n => n ≤ i - a ∧ (0 < n → key (ix p i) < key (ix p (i - n)))) (fun n => i - n) 0 (fun n => .int .i64 ((i - n : Nat) : Int)) ⟨Nat.zero_le _, fun h => by omega⟩ ?_
 rintro n ⟨n1, n2⟩ L3 hL3
 have hq := A0s p i n
 have hlen : l.length = (H0 p i n).length := by omega
 obtain ⟨j, hj⟩ : ∃ j, j = i - n := ⟨_, rfl⟩
 rw [← hj] at n2 ⊢
 by_cases c1 : a < j
 case neg =>
  have c1' : ¬ (a : Int) < j := by omega
  (have zz:=trivial;repeat((first|clear zz|with_reducible first|refine A3 ?_|refine A5 fun _=>?_|refine A4 fun _=>?_);try simp(disch:=first|omega|assumption|((repeat(first|exact A1|exact uH|apply A2|apply uT));first|done|fail)|(simp;first|done|omega|fail))[c1, c1']))
  exact hex n n1 (by rw [← hj]; exact n2) (fun h => by omega)
 have c1' : (a : Int) < j := by omega
 have ej : ((j : Int) - 1) = ((j - 1 : Nat) : Int) := by omega
 have v1 : ix (H0 p i n) j = ix p i := by unfold ix; rw [A29 (by omega) (by omega), if_pos hj]
 have v2 : ix (H0 p i n) (j - 1) = ix p (j - 1) := by unfold ix; rw [A29 (by omega) (by omega), if_neg (by omega), if_neg (by omega)]
 have g1 := K7 (l := H0 p i n) (x := j) (by omega)
 have g2 := K7 (l := H0 p i n) (x := j - 1) (by omega)
 rw [v1] at g1
 rw [v2] at g2
 have hnext : H0 p i (n + 1) = (((H0 p i n).set j (ix p (j - 1))).set (j - 1) (ix p i)) := by
  rw [H0, ← hj, A1n, v1, v2]
 have hdl : (H0 p i n).length = l.length := by omega
 have hL3' := hL3 (n + 1)
 rw [hnext] at hL3'
 have hexn := hex n n1 (by rw [← hj]; exact n2)
 rw [← hj] at hexn
 have hij : i - (n + 1) = j - 1 := by omega
 have hlt0 : i - (n + 1) < i - n := by omega
 rw [hij] at hL3'
 generalize H0 p i n = q at *
 (have zz:=trivial;repeat((first|clear zz|with_reducible first|refine A3 ?_|refine A5 fun _=>?_|refine A4 fun _=>?_);try simp(disch:=first|omega|assumption|((repeat(first|exact A1|exact uH|apply A2|apply uT));first|done|fail)|(simp;first|done|omega|fail))[c1, c1', ej, g1, g2]))
 refine C7 N1 (fun w' hw' => hc w' hw'.ks _ _ (hmem i (by omega)) (hmem (j - 1) (by omega))) ?_
 have hcm := A1y (key (ix p i)) (key (ix p (j - 1)))
 by_cases c2 : key (ix p i) < key (ix p (j - 1))
 ·have c2' := hcm.2 c2
  generalize Q5 (key (ix p i)) (key (ix p (j - 1))) = z at *
  (have zz:=trivial;repeat((first|clear zz|with_reducible first|refine A3 ?_|refine A5 fun _=>?_|refine A4 fun _=>?_);try simp(disch:=first|omega|assumption|((repeat(first|exact A1|exact uH|apply A2|apply uT));first|done|fail)|(simp;first|done|omega|fail))[c1, c1', c2', ej, g1, g2]))
  refine g7 (y := ix p (j - 1)) (by omega) ?_
  (have zz:=trivial;repeat((first|clear zz|with_reducible first|refine A3 ?_|refine A5 fun _=>?_|refine A4 fun _=>?_);try simp(disch:=first|omega|assumption|((repeat(first|exact A1|exact uH|apply A2|apply uT));first|done|fail)|(simp;first|done|omega|fail))[c1, c1', ej]))
  refine g7 (y := ix p i) (by simp; omega) ?_
  (have zz:=trivial;repeat((first|clear zz|with_reducible first|refine A3 ?_|refine A5 fun _=>?_|refine A4 fun _=>?_);try simp(disch:=first|omega|assumption|((repeat(first|exact A1|exact uH|apply A2|apply uT));first|done|fail)|(simp;first|done|omega|fail))[ej]))
  exact hL3' ⟨by omega, fun _ => c2⟩ (by omega)
 ·have c2' : ¬ Q5 (key (ix p i)) (key (ix p (j - 1))) < 0 := fun h => c2 (hcm.1 h)
  generalize Q5 (key (ix p i)) (key (ix p (j - 1))) = z at *
  (have zz:=trivial;repeat((first|clear zz|with_reducible first|refine A3 ?_|refine A5 fun _=>?_|refine A4 fun _=>?_);try simp(disch:=first|omega|assumption|((repeat(first|exact A1|exact uH|apply A2|apply uT));first|done|fail)|(simp;first|done|omega|fail))[c1, c1', c2']))
  exact hexn fun _ => c2
end Go.Proofs.Ytlplkjgcfjdinaa
namespace Go.Proofs.Ytlplkjgcfjdinaa
open Go
theorem A0Q (i j : Nat) : ((i : Int) + j).fdiv (2 ^ min 1 IntKind.u64.bits) = (((i + j) / 2 : Nat) : Int) := by
 rw [show (2 : Int) ^ min 1 IntKind.u64.bits = 2 from rfl, Int.fdiv_eq_ediv_of_nonneg _ (by omega)]; omega
abbrev B36 (g bw : Nat) (key : Nat → Int) (w : World) (c : Nat) (l : List Nat) (a m b : Nat) : Prop :=
 A39 w (B7 [OI g l.length c l]) bw key l → E6 key l a m → E6 key l m b → St key l a m b → LW false (B7 [OI g l.length c l]) w [OI g l.length c l] w →
  Fn PR C5 55 #[.slice (some ⟨g, 0, none⟩) l.length c, .int .i64 (a : Int), .int .i64 (m : Int), .int .i64 (b : Int), A5J bw] w
   (Rn (B7 [OI g l.length c l]) w (fun (l' : List Nat) u => u = .tuple #[] ∧ E6 key l' a b ∧ Mix l a b l') fun l' => [OI g l.length c l'])
abbrev B7H (g bw : Nat) (key : Nat → Int) (k : Nat) : Prop := ∀ (w : World) (c : Nat) (l : List Nat) (a m b : Nat), b - a ≤ k → a < m → m < b → b ≤ l.length → l.length ≤ 1000 → B36 g bw key w c l a m b
theorem B0E {κ : Bool} {S : List Nat} {w0 : World} {H : List Res} {F : WP} {A : WP → WP} {α : Type} (φ : α → Prop) (Hj : α → List Res) (hF : ∀ x, φ x → TW κ S w0 (Hj x) F) (hA : ∀ J : WP, (∀ x, φ x → TW κ S w0 (Hj x) J) → TW κ S w0 H (A J)) : TW κ S w0 H (jn (n := 0) F A) := hA F hF
theorem B4v {κ : Bool} {S : List Nat} {w0 : World} {H : List Res} {P : Prop} [Decidable P] {A : Value → Value → WP} {a1 a2 b1 b2 s r : Value} (h1 : P → a1 = s ∧ a2 = r) (h2 : ¬ P → b1 = s ∧ b2 = r) (h : TW κ S w0 H (A s r)) : if P then TW κ S w0 H (A a1 a2) else TW κ S w0 H (A b1 b2) := by
 split
 ·rename_i hp; rw [(h1 hp).1, (h1 hp).2]; exact h
 ·rename_i hp; rw [(h2 hp).1, (h2 hp).2]; exact h
theorem B2x {l : List Nat} {s m e : Nat} (h1 : s ≤ m) (h2 : m ≤ e) (h3 : e ≤ l.length) (h : ¬ (s < m ∧ m < e)) : G2 l s m e = l := by
 apply A33
 ·rw [U4 h1 h2 h3]
 intro t ht
 rw [K6 h1 h2 h3]
 congr 1; unfold T1; repeat' split
 all_goals omega
set_option maxHeartbeats 2000000 in
theorem A90 (g bw : Nat) (key : Nat → Int) (k : Nat) (ih : B7H g bw key k) (w : World) (c : Nat) (l : List Nat) (a m b : Nat) (hk : b - a ≤ k + 1) (ham : a + 1 < m) (hmb : m + 1 < b) (hbl : b ≤ l.length) (hl : l.length ≤ 1000) : B36 g bw key w c l a m b := by
 intro hc hS1 hS2 hSt hw
 refine S0 (TW.goH (κ := false) (S := B7 [OI g l.length c l]) ?_ hw)
 unfold K3
 generalize hS : B7 [OI g l.length c l] = S at *
 have hmem : ∀ x, x < l.length → ix l x ∈ l := fun x hx => A4J hx
 have c1' : ¬ (m : Int) - a = 1 := by omega
 have c5' : ¬ (b : Int) - m = 1 := by omega
 obtain ⟨md, hmd⟩ : ∃ md, md = (a + b) / 2 := ⟨_, rfl⟩
 have eh := A0Q a b
 rw [← hmd] at eh
 obtain ⟨s0, hs0⟩ : ∃ s0 : Nat, s0 = if md < m then md + m - b else a := ⟨_, rfl⟩
 obtain ⟨r0, hr0⟩ : ∃ r0 : Nat, r0 = if md < m then md else m := ⟨_, rfl⟩
 obtain ⟨q, hq⟩ : ∃ q : Nat, q = md + m - 1 := ⟨_, rfl⟩
 have w1 : IntKind.i64.wrap ((md : Int) + m - 1) = (q : Nat) := by rw [V8 (by omega) (by omega)]; omega
 have w2 : IntKind.i64.wrap ((md : Int) + m) = ((md + m : Nat) : Int) := by rw [V8 (by omega) (by omega)]; omega
 have w3 : IntKind.i64.wrap (md : Int) = (md : Nat) := V8 (by omega) (by omega)
 have hs1 : md < m → s0 = md + m - b ∧ r0 = md := fun h => by rw [hs0, hr0, if_pos h, if_pos h]; exact ⟨rfl, rfl⟩
 have hs2 : ¬ md < m → s0 = a ∧ r0 = m := fun h => by rw [hs0, hr0, if_neg h, if_neg h]; exact ⟨rfl, rfl⟩
 clear hs0 hr0
 (have zz:=trivial;repeat((first|clear zz|with_reducible first|refine A3 ?_|refine A5 fun _=>?_|refine A4 fun _=>?_);try simp(disch:=first|omega|assumption|((repeat(first|exact A1|exact uH|apply A2|apply uT));first|done|fail)|(simp;first|done|omega|fail))[c1', c5', eh]))
 refine B4v (s := .int .i64 (s0 : Nat)) (r := .int .i64 (r0 : Nat)) (fun h => ?_) (fun h => ?_) ?_
 ·have := hs1 h
  refine ⟨?_, ?_⟩
  ·congr 1; omega
  ·congr 1; omega
 ·have := hs2 h
  refine ⟨?_, ?_⟩
  ·congr 1; omega
  ·congr 1; omega
 rw [w1, w2, w3]
 have hsr : s0 ≤ r0 ∧ a ≤ s0 ∧ r0 ≤ m ∧ r0 ≤ md ∧ md + m - s0 ≤ b := by
  by_cases h : md < m
  ·have := hs1 h; omega
  ·have := hs2 h; omega
 obtain ⟨z1, z2, z3, z4, z5⟩ := hsr
 refine v7 (fun _ : Nat × Nat => [OI g l.length c l]) (fun z => s0 ≤ z.1 ∧ z.1 ≤ z.2 ∧ z.2 ≤ r0 ∧ (s0 < z.1 → ¬ key (ix l (q - (z.1 - 1))) < key (ix l (z.1 - 1))) ∧ (z.2 < r0 → key (ix l (q - z.2)) < key (ix l z.2))) (fun z => z.2 - z.1) (s0, r0) (fun z => .int .i64 (z.1 : Nat)) (fun z => .int .i64 (z.2 : Nat)) ⟨Nat.le_refl _, by simp only; omega, Nat.le_refl _, fun h => by simp only at h; omega, fun h => by simp only at h; omega⟩ ?_
 rintro ⟨i, j⟩ ⟨i1, i2, i3, p1, p2⟩ L hL
 simp only at i1 i2 i3 p1 p2 hL ⊢
 by_cases c2 : i < j
 ·have eh2 := A0Q i j
  obtain ⟨h, hh⟩ : ∃ h, h = (i + j) / 2 := ⟨_, rfl⟩
  rw [← hh] at eh2
  have h1 : i ≤ h := by omega
  have h2 : h < j := by omega
  have eq1 : ((q : Int) - h) = ((q - h : Nat) : Int) := by omega
  have g1 := K7 (l := l) (x := q - h) (by omega)
  have g2 := K7 (l := l) (x := h) (by omega)
  have hcm := A1y (key (ix l (q - h))) (key (ix l h))
  have hL1 := hL (h + 1, j)
  have hL2 := hL (i, h)
  simp only at hL1 hL2
  clear hL hh hs1 hs2
  have hqh : q - h < l.length := by omega
  (have zz:=trivial;repeat((first|clear zz|with_reducible first|refine A3 ?_|refine A5 fun _=>?_|refine A4 fun _=>?_);try simp(disch:=first|omega|assumption|((repeat(first|exact A1|exact uH|apply A2|apply uT));first|done|fail)|(simp;first|done|omega|fail))[c2, eh2, eq1, g1, g2]))
  refine C7 N1 (fun w' hw' => hc w' hw'.ks _ _ (hmem (q - h) (by omega)) (hmem h (by omega))) ?_
  by_cases c3 : key (ix l (q - h)) < key (ix l h)
  ·have c3' := hcm.2 c3
   generalize Q5 (key (ix l (q - h))) (key (ix l h)) = z at *
   (have zz:=trivial;repeat((first|clear zz|with_reducible first|refine A3 ?_|refine A5 fun _=>?_|refine A4 fun _=>?_);try simp(disch:=first|omega|assumption|((repeat(first|exact A1|exact uH|apply A2|apply uT));first|done|fail)|(simp;first|done|omega|fail))[c3']))
   exact hL2 ⟨i1, h1, by omega, p1, fun _ => c3⟩ (by omega)
  ·have c3' : ¬ Q5 (key (ix l (q - h))) (key (ix l h)) < 0 := fun h => c3 (hcm.1 h)
   generalize Q5 (key (ix l (q - h))) (key (ix l h)) = z at *
   (have zz:=trivial;repeat((first|clear zz|with_reducible first|refine A3 ?_|refine A5 fun _=>?_|refine A4 fun _=>?_);try simp(disch:=first|omega|assumption|((repeat(first|exact A1|exact uH|apply A2|apply uT));first|done|fail)|(simp;first|done|omega|fail))[c3']))
   exact hL1 ⟨by omega, by omega, i3, fun _ => c3, p2⟩ (by omega)
 obtain rfl : i = j := by omega
 clear hL
 obtain ⟨e, he⟩ : ∃ e : Nat, e = md + m - i := ⟨_, rfl⟩
 have eE : ((md + m : Nat) : Int) - (i : Int) = (e : Nat) := by omega
 have eE' : ((md : Int) + (m : Int) - (i : Int)) = (e : Nat) := by omega
 have him : i ≤ m := by omega
 have hme : m ≤ e := by omega
 have heb : e ≤ b := by omega
 have hH := A2j (key := key) (l := l) (a := a) (s := i) (m := m) (e := e) (b := b) (by omega) him hme heb hbl hS1 hS2 hSt
  (fun h1 h2 => by
   have h3 : s0 < i := by
    by_cases h : md < m
    ·have := hs1 h; omega
    ·have := hs2 h; omega
   have := p1 h3
   rwa [show q - (i - 1) = e by omega] at this)
  (fun h1 h2 => by
   have h3 : i < r0 := by
    by_cases h : md < m
    ·have := hs1 h; omega
    ·have := hs2 h; omega
   have := p2 h3
   rwa [show q - i = e - 1 by omega] at this)
 have hmid : i + (e - m) = md := by omega
 rw [hmid] at hH
 have hrm := (A5j (l := l) him hme (by omega)).wide (show a ≤ i by omega) heb
 have hc0 : ¬ (i : Int) < (i : Int) := by omega
 clear p1 p2 hs1 hs2
 rw [V6]
 (have zz:=trivial;repeat((first|clear zz|with_reducible first|refine A3 ?_|refine A5 fun _=>?_|refine A4 fun _=>?_);try simp(disch:=first|omega|assumption|((repeat(first|exact A1|exact uH|apply A2|apply uT));first|done|fail)|(simp;first|done|omega|fail))[-V6, hc0, eE, eE']))
 refine B0E (φ := fun l1 => l1 = G2 l i m e) (fun l1 => [OI g l.length c l1]) ?_ ?_
 case refine_2 =>
  intro J hJ
  by_cases cR : i < m ∧ m < e
  ·obtain ⟨cR1, cR2⟩ := cR
   (have zz:=trivial;repeat((first|clear zz|with_reducible first|refine A3 ?_|refine A5 fun _=>?_|refine A4 fun _=>?_);try simp(disch:=first|omega|assumption|((repeat(first|exact A1|exact uH|apply A2|apply uT));first|done|fail)|(simp;first|done|omega|fail))[cR1, cR2, eE, eE']))
   refine F7 (Hc := [OI g l.length c l]) m4 (fun w' hw hs => A93 w' g c l i m e (A5J bw) cR1 cR2 (by omega) hl hs) (by (repeat' constructor)) ?_
   rintro _ _ rfl
   exact hJ _ rfl
  ·have e1 := B2x him hme (show e ≤ l.length by omega) cR
   have h := hJ l e1.symm
   by_cases cA : i < m
   ·have cB : ¬ m < e := fun h => cR ⟨cA, h⟩
    (have zz:=trivial;repeat((first|clear zz|with_reducible first|refine A3 ?_|refine A5 fun _=>?_|refine A4 fun _=>?_);try simp(disch:=first|omega|assumption|((repeat(first|exact A1|exact uH|apply A2|apply uT));first|done|fail)|(simp;first|done|omega|fail))[cA, cB, eE, eE']))
    exact h
   ·(have zz:=trivial;repeat((first|clear zz|with_reducible first|refine A3 ?_|refine A5 fun _=>?_|refine A4 fun _=>?_);try simp(disch:=first|omega|assumption|((repeat(first|exact A1|exact uH|apply A2|apply uT));first|done|fail)|(simp;first|done|omega|fail))[cA, eE, eE']))
    exact h
 rintro l1 rfl
 generalize G2 l i m e = l1 at *
 have hl1 := hrm.len
 have hmem1 : ∀ x, x ∈ l1 → x ∈ l := fun x hx => hrm.perm.mem_iff.1 hx
 refine B0E (φ := fun l2 => Mix l1 a md l2 ∧ E6 key l2 a md) (fun l2 => [OI g l.length c l2]) ?_ ?_
 case refine_2 =>
  intro J hJ
  by_cases cL : a < i ∧ i < md
  ·obtain ⟨cL1, cL2⟩ := cL
   (have zz:=trivial;repeat((first|clear zz|with_reducible first|refine A3 ?_|refine A5 fun _=>?_|refine A4 fun _=>?_);try simp(disch:=first|omega|assumption|((repeat(first|exact A1|exact uH|apply A2|apply uT));first|done|fail)|(simp;first|done|omega|fail))[cL1, cL2, eE, eE']))
   rw [← hl1]
   refine F7 (Hc := [OI g l1.length c l1]) H7 (fun w' hw hs => ih w' c l1 a i md (by omega) cL1 cL2 (by omega) (by omega) (fun w'' hw'' x y hx hy => hc w'' ((hw.ks.low.trans (by rw [← hS]; exact hw''))) x y (hmem1 x hx) (hmem1 y hy)) hH.s1 hH.s2 hH.st1 hs) (by (repeat' constructor)) ?_
   rintro l2 _ ⟨rfl, h1, h2⟩
   rw [hl1]
   exact hJ l2 ⟨h2, h1⟩
  ·have h := hJ l1 ⟨Mix.refl .., fun x y x1 x2 x3 => by
    by_cases h : a < i
    ·exact hH.s1 x y x1 x2 (by omega)
    ·exact hH.s2 x y (by omega) x2 x3⟩
   by_cases cA : a < i
   ·have cB : ¬ i < md := fun h => cL ⟨cA, h⟩
    (have zz:=trivial;repeat((first|clear zz|with_reducible first|refine A3 ?_|refine A5 fun _=>?_|refine A4 fun _=>?_);try simp(disch:=first|omega|assumption|((repeat(first|exact A1|exact uH|apply A2|apply uT));first|done|fail)|(simp;first|done|omega|fail))[cA, cB, eE, eE']))
    exact h
   ·(have zz:=trivial;repeat((first|clear zz|with_reducible first|refine A3 ?_|refine A5 fun _=>?_|refine A4 fun _=>?_);try simp(disch:=first|omega|assumption|((repeat(first|exact A1|exact uH|apply A2|apply uT));first|done|fail)|(simp;first|done|omega|fail))[cA, eE, eE']))
    exact h
 rintro l2 ⟨hm2, hs2⟩
 have hl2 := hm2.len
 have hmem2 : ∀ x, x ∈ l2 → x ∈ l := fun x hx => hmem1 x (hm2.perm.mem_iff.1 hx)
 have t3 : E6 key l2 md e := hH.s3.same fun x x1 x2 => hm2.out x (by omega)
 have t4 : E6 key l2 e b := hH.s4.same fun x x1 x2 => hm2.out x (by omega)
 have tt : St key l2 md e b := hH.st2.same (fun x x1 x2 => hm2.out x (by omega)) (by omega) heb
 by_cases cL : md < e ∧ e < b
 ·obtain ⟨cL1, cL2⟩ := cL
  (have zz:=trivial;repeat((first|clear zz|with_reducible first|refine A3 ?_|refine A5 fun _=>?_|refine A4 fun _=>?_);try simp(disch:=first|omega|assumption|((repeat(first|exact A1|exact uH|apply A2|apply uT));first|done|fail)|(simp;first|done|omega|fail))[cL1, cL2, eE, eE']))
  rw [← hl1, ← hl2]
  refine F7 (Hc := [OI g l2.length c l2]) H7 (fun w' hw hs => ih w' c l2 md e b (by omega) cL1 cL2 (by omega) (by omega) (fun w'' hw'' x y hx hy => hc w'' ((hw.ks.low.trans (by rw [← hS]; exact hw''))) x y (hmem2 x hx) (hmem2 y hy)) t3 t4 tt hs) (by (repeat' constructor)) ?_
  rintro l3 _ ⟨rfl, h1, h2⟩
  have hfin := B1G hH (by omega) (by omega) hm2 hs2 h2 h1
  exact G7 _ ⟨rfl, hfin.1, hrm.trans hfin.2⟩ (by (repeat' constructor))
 ·have hfin := B1G hH (by omega) (by omega) hm2 hs2 (Mix.refl _ md b) (fun x y x1 x2 x3 => by
    by_cases h : md < e
    ·exact t3 x y x1 x2 (by omega)
    ·exact t4 x y (by omega) x2 x3)
  by_cases cA : md < e
  ·have cB : ¬ e < b := fun h => cL ⟨cA, h⟩
   (have zz:=trivial;repeat((first|clear zz|with_reducible first|refine A3 ?_|refine A5 fun _=>?_|refine A4 fun _=>?_);try simp(disch:=first|omega|assumption|((repeat(first|exact A1|exact uH|apply A2|apply uT));first|done|fail)|(simp;first|done|omega|fail))[cA, cB, eE, eE']))
   exact G7 _ ⟨rfl, hfin.1, hrm.trans hfin.2⟩ (by (repeat' constructor))
  ·(have zz:=trivial;repeat((first|clear zz|with_reducible first|refine A3 ?_|refine A5 fun _=>?_|refine A4 fun _=>?_);try simp(disch:=first|omega|assumption|((repeat(first|exact A1|exact uH|apply A2|apply uT));first|done|fail)|(simp;first|done|omega|fail))[cA, eE, eE']))
   exact G7 _ ⟨rfl, hfin.1, hrm.trans hfin.2⟩ (by (repeat' constructor))
set_option maxHeartbeats 2000000 in
theorem A75 (g bw : Nat) (key : Nat → Int) : ∀ (k : Nat) (w : World) (c : Nat) (l : List Nat) (a m b : Nat), b - a ≤ k → a < m → m < b → b ≤ l.length → l.length ≤ 1000 → A39 w (B7 [OI g l.length c l]) bw key l → E6 key l a m → E6 key l m b → St key l a m b →
  LW false (B7 [OI g l.length c l]) w [OI g l.length c l] w → Fn PR C5 55 #[.slice (some ⟨g, 0, none⟩) l.length c, .int .i64 (a : Int), .int .i64 (m : Int), .int .i64 (b : Int), A5J bw] w
   (Rn (B7 [OI g l.length c l]) w (fun (l' : List Nat) u => u = .tuple #[] ∧ E6 key l' a b ∧ Mix l a b l') fun l' => [OI g l.length c l']) := by
 intro k
 induction k with
 | zero => intro w c l a m b h1 h2 h3; omega
 | succ k ih =>
 intro w c l a m b hk ham hmb hbl hl hc hS1 hS2 hSt hw
 by_cases hgen : a + 1 < m ∧ m + 1 < b
 ·exact A90 g bw key k ih w c l a m b hk hgen.1 hgen.2 hbl hl hc hS1 hS2 hSt hw
 refine S0 (TW.goH (κ := false) (S := B7 [OI g l.length c l]) ?_ hw)
 unfold K3
 generalize hS : B7 [OI g l.length c l] = S at *
 have hmem : ∀ x, x < l.length → ix l x ∈ l := fun x hx => A4J hx
 by_cases c1 : m = a + 1
 ·have e1 : (m : Int) - a = 1 := by omega
  (have zz:=trivial;repeat((first|clear zz|with_reducible first|refine A3 ?_|refine A5 fun _=>?_|refine A4 fun _=>?_);try simp(disch:=first|omega|assumption|((repeat(first|exact A1|exact uH|apply A2|apply uT));first|done|fail)|(simp;first|done|omega|fail))[e1]))
  refine v7 (fun _ : Nat × Nat => [OI g l.length c l]) (fun z => m ≤ z.1 ∧ z.1 ≤ z.2 ∧ z.2 ≤ b ∧ (m < z.1 → key (ix l (z.1 - 1)) < key (ix l a)) ∧ (z.2 < b → ¬ key (ix l z.2) < key (ix l a))) (fun z => z.2 - z.1) (m, b) (fun z => .int .i64 (z.1 : Nat)) (fun z => .int .i64 (z.2 : Nat)) ⟨Nat.le_refl _, by simp only; omega, Nat.le_refl _, fun h => by simp only at h; omega, fun h => by simp only at h; omega⟩ ?_
  rintro ⟨i, j⟩ ⟨i1, i2, i3, p1, p2⟩ L hL
  simp only at i1 i2 i3 p1 p2 hL ⊢
  by_cases c2 : i < j
  ·have eh := A0Q i j
   have g1 := K7 (l := l) (x := (i + j) / 2) (by omega)
   have g2 := K7 (l := l) (x := a) (by omega)
   obtain ⟨h, hh⟩ : ∃ h, h = (i + j) / 2 := ⟨_, rfl⟩
   have h1 : i ≤ h := by omega
   have h2 : h < j := by omega
   rw [← hh] at eh g1
   have hcm := A1y (key (ix l h)) (key (ix l a))
   have hL1 := hL (h + 1, j)
   have hL2 := hL (i, h)
   simp only at hL1 hL2
   clear hL hh
   (have zz:=trivial;repeat((first|clear zz|with_reducible first|refine A3 ?_|refine A5 fun _=>?_|refine A4 fun _=>?_);try simp(disch:=first|omega|assumption|((repeat(first|exact A1|exact uH|apply A2|apply uT));first|done|fail)|(simp;first|done|omega|fail))[c2, eh, g1, g2]))
   refine C7 N1 (fun w' hw' => hc w' hw'.ks _ _ (hmem h (by omega)) (hmem a (by omega))) ?_
   by_cases c3 : key (ix l h) < key (ix l a)
   ·have c3' := hcm.2 c3
    generalize Q5 (key (ix l h)) (key (ix l a)) = z at *
    (have zz:=trivial;repeat((first|clear zz|with_reducible first|refine A3 ?_|refine A5 fun _=>?_|refine A4 fun _=>?_);try simp(disch:=first|omega|assumption|((repeat(first|exact A1|exact uH|apply A2|apply uT));first|done|fail)|(simp;first|done|omega|fail))[c3']))
    exact hL1 ⟨by omega, by omega, i3, fun _ => c3, p2⟩ (by omega)
   ·have c3' : ¬ Q5 (key (ix l h)) (key (ix l a)) < 0 := fun h => c3 (hcm.1 h)
    generalize Q5 (key (ix l h)) (key (ix l a)) = z at *
    (have zz:=trivial;repeat((first|clear zz|with_reducible first|refine A3 ?_|refine A5 fun _=>?_|refine A4 fun _=>?_);try simp(disch:=first|omega|assumption|((repeat(first|exact A1|exact uH|apply A2|apply uT));first|done|fail)|(simp;first|done|omega|fail))[c3']))
    exact hL2 ⟨i1, h1, by omega, p1, fun _ => c3⟩ (by omega)
  ·obtain rfl : i = j := by omega
   have hfin := B1j (key := key) (l := l) (a := a) (e := i) (b := b) (by omega) i3 hbl (by rw [← c1]; exact hS2) (by rw [← c1]; exact hSt) p2 (fun h => p1 (by omega))
   rw [← show upL l a (i - a - 1) = G2 l a (a + 1) i by rw [B2r (by omega)]; congr 1; omega] at hfin
   (have zz:=trivial;repeat((first|clear zz|with_reducible first|refine A3 ?_|refine A5 fun _=>?_|refine A4 fun _=>?_);try simp(disch:=first|omega|assumption|((repeat(first|exact A1|exact uH|apply A2|apply uT));first|done|fail)|(simp;first|done|omega|fail))[c2]))
   clear hL
   refine A13 (fun n : Nat => [OI g l.length c (upL l a n)]) (fun n => n ≤ i - a - 1) (fun n => i - n) 0 (fun n => .int .i64 ((a + n : Nat) : Int)) (Nat.zero_le _) ?_
   intro n hn L hL
   have hq := A5C l a n
   obtain ⟨j, hj⟩ : ∃ j, j = a + n := ⟨_, rfl⟩
   have hL' := hL (n + 1)
   rw [upL, A1n, ← hj] at hL'
   rw [show a + (n + 1) = j + 1 by omega] at hL'
   rw [← hj]
   clear hL
   by_cases c4 : j < i - 1
   ·have c4' : (j : Int) < (i : Int) - 1 := by omega
    have ej : ((j : Int) + 1).toNat = j + 1 := by omega
    have g1 := K7 (l := upL l a n) (x := j) (by omega)
    have g2 := K7 (l := upL l a n) (x := j + 1) (by omega)
    generalize upL l a n = q at *
    (have zz:=trivial;repeat((first|clear zz|with_reducible first|refine A3 ?_|refine A5 fun _=>?_|refine A4 fun _=>?_);try simp(disch:=first|omega|assumption|((repeat(first|exact A1|exact uH|apply A2|apply uT));first|done|fail)|(simp;first|done|omega|fail))[c4', ej, g1, g2]))
    refine g7 (y := ix q (j + 1)) (by omega) ?_
    (have zz:=trivial;repeat((first|clear zz|with_reducible first|refine A3 ?_|refine A5 fun _=>?_|refine A4 fun _=>?_);try simp(disch:=first|omega|assumption|((repeat(first|exact A1|exact uH|apply A2|apply uT));first|done|fail)|(simp;first|done|omega|fail))[ej]))
    refine g7 (y := ix q j) (by simp; omega) ?_
    (have zz:=trivial;repeat((first|clear zz|with_reducible first|refine A3 ?_|refine A5 fun _=>?_|refine A4 fun _=>?_);try simp(disch:=first|omega|assumption|((repeat(first|exact A1|exact uH|apply A2|apply uT));first|done|fail)|(simp;first|done|omega|fail))[]))
    exact hL' (by omega) (by omega)
   ·have c4' : ¬ (j : Int) < (i : Int) - 1 := by omega
    obtain rfl : n = i - a - 1 := by omega
    (have zz:=trivial;repeat((first|clear zz|with_reducible first|refine A3 ?_|refine A5 fun _=>?_|refine A4 fun _=>?_);try simp(disch:=first|omega|assumption|((repeat(first|exact A1|exact uH|apply A2|apply uT));first|done|fail)|(simp;first|done|omega|fail))[c4']))
    exact G7 _ ⟨rfl, hfin⟩ (by (repeat' constructor))
 have c1' : ¬ (m : Int) - a = 1 := by omega
 by_cases c5 : b = m + 1
 ·have e1 : (b : Int) - m = 1 := by omega
  (have zz:=trivial;repeat((first|clear zz|with_reducible first|refine A3 ?_|refine A5 fun _=>?_|refine A4 fun _=>?_);try simp(disch:=first|omega|assumption|((repeat(first|exact A1|exact uH|apply A2|apply uT));first|done|fail)|(simp;first|done|omega|fail))[c1', e1]))
  refine v7 (fun _ : Nat × Nat => [OI g l.length c l]) (fun z => a ≤ z.1 ∧ z.1 ≤ z.2 ∧ z.2 ≤ m ∧ (a < z.1 → ¬ key (ix l m) < key (ix l (z.1 - 1))) ∧ (z.2 < m → key (ix l m) < key (ix l z.2))) (fun z => z.2 - z.1) (a, m) (fun z => .int .i64 (z.1 : Nat)) (fun z => .int .i64 (z.2 : Nat)) ⟨Nat.le_refl _, by simp only; omega, Nat.le_refl _, fun h => by simp only at h; omega, fun h => by simp only at h; omega⟩ ?_
  rintro ⟨i, j⟩ ⟨i1, i2, i3, p1, p2⟩ L hL
  simp only at i1 i2 i3 p1 p2 hL ⊢
  by_cases c2 : i < j
  ·have eh := A0Q i j
   have g1 := K7 (l := l) (x := (i + j) / 2) (by omega)
   have g2 := K7 (l := l) (x := m) (by omega)
   obtain ⟨h, hh⟩ : ∃ h, h = (i + j) / 2 := ⟨_, rfl⟩
   have h1 : i ≤ h := by omega
   have h2 : h < j := by omega
   rw [← hh] at eh g1
   have hcm := A1y (key (ix l m)) (key (ix l h))
   have hL1 := hL (h + 1, j)
   have hL2 := hL (i, h)
   simp only at hL1 hL2
   clear hL hh
   (have zz:=trivial;repeat((first|clear zz|with_reducible first|refine A3 ?_|refine A5 fun _=>?_|refine A4 fun _=>?_);try simp(disch:=first|omega|assumption|((repeat(first|exact A1|exact uH|apply A2|apply uT));first|done|fail)|(simp;first|done|omega|fail))[c2, eh, g1, g2]))
   refine C7 N1 (fun w' hw' => hc w' hw'.ks _ _ (hmem m (by omega)) (hmem h (by omega))) ?_
   by_cases c3 : key (ix l m) < key (ix l h)
   ·have c3' := hcm.2 c3
    generalize Q5 (key (ix l m)) (key (ix l h)) = z at *
    (have zz:=trivial;repeat((first|clear zz|with_reducible first|refine A3 ?_|refine A5 fun _=>?_|refine A4 fun _=>?_);try simp(disch:=first|omega|assumption|((repeat(first|exact A1|exact uH|apply A2|apply uT));first|done|fail)|(simp;first|done|omega|fail))[c3']))
    exact hL2 ⟨i1, h1, by omega, p1, fun _ => c3⟩ (by omega)
   ·have c3' : ¬ Q5 (key (ix l m)) (key (ix l h)) < 0 := fun h => c3 (hcm.1 h)
    generalize Q5 (key (ix l m)) (key (ix l h)) = z at *
    (have zz:=trivial;repeat((first|clear zz|with_reducible first|refine A3 ?_|refine A5 fun _=>?_|refine A4 fun _=>?_);try simp(disch:=first|omega|assumption|((repeat(first|exact A1|exact uH|apply A2|apply uT));first|done|fail)|(simp;first|done|omega|fail))[c3']))
    exact hL1 ⟨by omega, by omega, i3, fun _ => c3, p2⟩ (by omega)
  ·obtain rfl : i = j := by omega
   subst c5
   have hfin := A5p (key := key) (l := l) (a := a) (s := i) (m := m) i1 i3 (by omega) hS1 hSt p1 p2
   have hrot := A5y (l := l) (m := m) (n := m - i) (by omega) (by omega)
   rw [show m - (m - i) = i by omega] at hrot
   rw [← hrot] at hfin
   (have zz:=trivial;repeat((first|clear zz|with_reducible first|refine A3 ?_|refine A5 fun _=>?_|refine A4 fun _=>?_);try simp(disch:=first|omega|assumption|((repeat(first|exact A1|exact uH|apply A2|apply uT));first|done|fail)|(simp;first|done|omega|fail))[c2]))
   clear hL
   refine A13 (fun n : Nat => [OI g l.length c (H0 l m n)]) (fun n => n ≤ m - i) (fun n => m - n) 0 (fun n => .int .i64 ((m - n : Nat) : Int)) (Nat.zero_le _) ?_
   intro n hn L hL
   have hq := A0s l m n
   obtain ⟨j, hj⟩ : ∃ j, j = m - n := ⟨_, rfl⟩
   have hL' := hL (n + 1)
   rw [H0, A1n, ← hj] at hL'
   rw [show m - (n + 1) = j - 1 by omega] at hL'
   rw [← hj]
   clear hL
   by_cases c4 : i < j
   ·have c4' : (i : Int) < (j : Int) := by omega
    have ej : ((j : Int) - 1) = ((j - 1 : Nat) : Int) := by omega
    have g1 := K7 (l := H0 l m n) (x := j) (by omega)
    have g2 := K7 (l := H0 l m n) (x := j - 1) (by omega)
    have hm2 : j - 1 < j := by omega
    generalize H0 l m n = q at *
    (have zz:=trivial;repeat((first|clear zz|with_reducible first|refine A3 ?_|refine A5 fun _=>?_|refine A4 fun _=>?_);try simp(disch:=first|omega|assumption|((repeat(first|exact A1|exact uH|apply A2|apply uT));first|done|fail)|(simp;first|done|omega|fail))[c4, c4', ej, g1, g2]))
    refine g7 (y := ix q (j - 1)) (by omega) ?_
    (have zz:=trivial;repeat((first|clear zz|with_reducible first|refine A3 ?_|refine A5 fun _=>?_|refine A4 fun _=>?_);try simp(disch:=first|omega|assumption|((repeat(first|exact A1|exact uH|apply A2|apply uT));first|done|fail)|(simp;first|done|omega|fail))[ej]))
    refine g7 (y := ix q j) (by simp; omega) ?_
    (have zz:=trivial;repeat((first|clear zz|with_reducible first|refine A3 ?_|refine A5 fun _=>?_|refine A4 fun _=>?_);try simp(disch:=first|omega|assumption|((repeat(first|exact A1|exact uH|apply A2|apply uT));first|done|fail)|(simp;first|done|omega|fail))[ej]))
    exact hL' (by omega) (by omega)
   ·have c4' : ¬ (i : Int) < (j : Int) := by omega
    obtain rfl : n = m - i := by omega
    (have zz:=trivial;repeat((first|clear zz|with_reducible first|refine A3 ?_|refine A5 fun _=>?_|refine A4 fun _=>?_);try simp(disch:=first|omega|assumption|((repeat(first|exact A1|exact uH|apply A2|apply uT));first|done|fail)|(simp;first|done|omega|fail))[c4, c4']))
    exact G7 _ ⟨rfl, hfin⟩ (by (repeat' constructor))
 exact absurd (show a + 1 < m ∧ m + 1 < b by omega) hgen
end Go.Proofs.Ytlplkjgcfjdinaa
namespace Go.Proofs.Ytlplkjgcfjdinaa
open Go
def A5T (key : Nat → Int) : List Nat → Nat → List Nat
 | [], i => [i]
 | p :: ps, i => if key p > key i then i :: p :: ps else p :: A5T key ps i
def A6d (key : Nat → Int) (out : List Nat) (i : Nat) : List Nat := if 0 ≤ key i then A5T key out i else out
def W0 (key : Nat → Int) (n : Nat) : List Nat := (List.range n).foldl (A6d key) []
def V5 (key : Nat → Int) (n : Nat) : List Nat := (List.range n).filter fun i => decide (0 ≤ key i)
theorem A5w (key : Nat → Int) (n : Nat) : W0 key (n + 1) = A6d key (W0 key n) n := by unfold W0; rw [List.range_succ, List.foldl_append]; rfl
theorem A70 (key : Nat → Int) (n : Nat) : V5 key (n + 1) = if 0 ≤ key n then V5 key n ++ [n] else V5 key n := by
 unfold V5; rw [List.range_succ, List.filter_append]
 by_cases h : 0 ≤ key n <;> simp [h]
theorem A5z (key : Nat → Int) (l : List Nat) (i : Nat) : (A5T key l i).Perm (l ++ [i]) := by
 induction l with
 | nil => exact List.Perm.refl _
 | cons p ps ih =>
  unfold A5T
  split
  ·exact (List.perm_append_comm (l₁ := [i]) (l₂ := p :: ps))
  ·exact ih.cons p
theorem B29 (key : Nat → Int) (l : List Nat) (i : Nat) (h : l.Pairwise (V1 key)) (hi : ∀ p ∈ l, p < i) : (A5T key l i).Pairwise (V1 key) := by
 induction l with
 | nil => exact List.pairwise_singleton _ _
 | cons p ps ih =>
  have hh := List.pairwise_cons.1 h
  unfold A5T
  split
  ·rename_i hg
   refine List.pairwise_cons.2 ⟨fun x hx => ?_, h⟩
   rcases List.mem_cons.1 hx with rfl | hx
   ·exact Or.inl hg
   ·exact (show V1 key i p from Or.inl hg).trans (hh.1 x hx)
  ·rename_i hg
   refine List.pairwise_cons.2 ⟨fun x hx => ?_, ih hh.2 fun q hq => hi q (List.mem_cons_of_mem _ hq)⟩
   have := (A5z key ps i).mem_iff.1 hx
   rcases List.mem_append.1 this with hx | hx
   ·exact hh.1 x hx
   ·obtain rfl : x = i := by simpa using hx
    have := hi p List.mem_cons_self
    unfold V1; omega
theorem A2n (key : Nat → Int) (n : Nat) : (W0 key n).Perm (V5 key n) := by
 induction n with
 | zero => exact List.Perm.refl _
 | succ n ih =>
  rw [A5w, A70]
  unfold A6d
  split
  ·exact (A5z _ _ _).trans (ih.append_right _)
  ·exact ih
theorem A94 {key : Nat → Int} {n i : Nat} (h : i ∈ V5 key n) : i < n ∧ 0 ≤ key i := by simpa [V5] using h
theorem A49 {key : Nat → Int} {n i : Nat} (h : i ∈ W0 key n) : i < n ∧ 0 ≤ key i := A94 ((A2n key n).mem_iff.1 h)
theorem B3L (key : Nat → Int) (n : Nat) : (W0 key n).Pairwise (V1 key) := by
 induction n with
 | zero => exact List.Pairwise.nil
 | succ n ih =>
  rw [A5w]
  unfold A6d
  split
  ·exact B29 key _ _ ih fun p hp => (A49 hp).1
  ·exact ih
theorem A4L (key : Nat → Int) (n : Nat) : (V5 key n).length ≤ n := by
 have := List.length_filter_le (fun i => decide (0 ≤ key i)) (List.range n)
 rw [List.length_range] at this
 exact this
theorem A3k (key : Nat → Int) (n : Nat) : (W0 key n).length = (V5 key n).length := (A2n key n).length_eq
theorem A1F {l : List Nat} {i : Nat} (h : i < l.length) : l.getD i 0 = l[i] := by simp [List.getD_eq_getElem?_getD, List.getElem?_eq_getElem h]
theorem B0P {key : Nat → Int} {l : List Nat} (h : l.Pairwise (V1 key)) : E6 key l 0 l.length := fun i j _ h2 h3 => by
 rw [A1F (by omega), A1F h3]
 exact List.pairwise_iff_getElem.1 h i j (by omega) h3 h2
theorem B2s (key : Nat → Int) (n : Nat) : Inc (V5 key n) 0 (V5 key n).length := fun i j _ h2 h3 => by
 rw [A1F (by omega), A1F h3]
 have h : (V5 key n).Pairwise (· < ·) := List.pairwise_lt_range.filter _
 exact List.pairwise_iff_getElem.1 h i j (by omega) h3 h2
theorem A81 {key : Nat → Int} {n : Nat} {l : List Nat} (hp : l.Perm (V5 key n)) (h : E6 key l 0 (V5 key n).length) : l = W0 key n :=
 B4M (hp.trans (A2n key n).symm) (B0P (B3L key n)) (by rw [hp.length_eq]; exact h)
theorem Inc.mono {l : List Nat} {a b a' b' : Nat} (h : Inc l a b) (h1 : a ≤ a') (h2 : b' ≤ b) : Inc l a' b' := fun i j i1 i2 i3 => h i j (by omega) i2 (by omega)
theorem Inc.st2 {key : Nat → Int} {l l1 l2 : List Nat} {a m b : Nat} (h : Inc l a b) (m1 : Mix l a m l1) (m2 : Mix l1 m b l2) : St key l2 a m b := fun p q p1 p2 q1 q2 _ => by
 rw [m2.out p (by omega)]
 obtain ⟨p', r1, r2, e⟩ := m1.ins p p1 p2
 obtain ⟨q', s1, s2, e'⟩ := m2.ins q q1 q2
 rw [e, e', m1.out q' (by omega)]
 exact h p' q' r1 (by omega) s2
end Go.Proofs.Ytlplkjgcfjdinaa
namespace Go.Proofs.Ytlplkjgcfjdinaa
open Go
theorem E6.nil {key : Nat → Int} {l : List Nat} {a : Nat} : E6 key l a a := fun i j _ _ _ => by omega
theorem B0F (w : World) (g c : Nat) (l : List Nat) (bw : Nat) (key : Nat → Int) (hc : A39 w (B7 [OI g l.length c l]) bw key l) (hI : Inc l 0 l.length) (hl : l.length ≤ 30) (hw : LW false (B7 [OI g l.length c l]) w [OI g l.length c l] w) :
  Fn PR C5 39 #[.slice (some ⟨g, 0, none⟩) l.length c, .int .i64 (l.length : Int), A5J bw] w (Rn (B7 [OI g l.length c l]) w (fun (l' : List Nat) u => u = .tuple #[] ∧ E6 key l' 0 l.length ∧ l'.Perm l) fun l' => [OI g l.length c l']) := by
 refine T7 (TW.goH (κ := false) (S := B7 [OI g l.length c l]) ?_ hw)
 unfold L5
 generalize hS : B7 [OI g l.length c l] = S at *
 have hmm : ∀ {p : List Nat}, p.Perm l → A39 w S bw key p := fun {p} hp w' hw' x y hx hy => hc w' hw' x y (hp.mem_iff.1 hx) (hp.mem_iff.1 hy)
 have hcall : ∀ {w' : World} {p : List Nat} {Hk : List Res}, LW false S w Hk w' → p.length = l.length → p.Perm l → A39 w' (B7 [OI g p.length c p]) bw key p := fun {w'} {p} {Hk} hw' hpl hp w'' hw'' => hmm hp w'' (hw'.ks.trans (by rw [← hS]; exact hw''))
 (have zz:=trivial;repeat((first|clear zz|with_reducible first|refine A3 ?_|refine A5 fun _=>?_|refine A4 fun _=>?_);try simp(disch:=first|omega|assumption|((repeat(first|exact A1|exact uH|apply A2|apply uT));first|done|fail)|(simp;first|done|omega|fail))[]))
 refine v7 (fun z : Nat × List Nat => [OI g l.length c z.2]) (fun z => (z.1 = 0 ∧ z.2 = l) ∨ (z.1 = 20 ∧ 20 ≤ l.length ∧ E6 key z.2 0 20 ∧ Mix l 0 20 z.2)) (fun z => 40 - z.1) (0, l) (fun z => .int .i64 (z.1 : Nat)) (fun z => .int .i64 ((z.1 + 20 : Nat) : Int)) (Or.inl ⟨rfl, rfl⟩) ?_
 rintro ⟨a, p⟩ hz L hL
 simp only at hz hL ⊢
 by_cases hgo : a = 0 ∧ 20 ≤ l.length
 ·obtain ⟨rfl, h20⟩ := hgo
  have hpl : p = l := by
   rcases hz with h | h
   ·exact h.2
   ·omega
  subst hpl
  have c1 : (20 : Int) ≤ (p.length : Nat) := by omega
  have h := fun q : List Nat => hL (20, q)
  simp only at h
  clear hL hz
  (have zz:=trivial;repeat((first|clear zz|with_reducible first|refine A3 ?_|refine A5 fun _=>?_|refine A4 fun _=>?_);try simp(disch:=first|omega|assumption|((repeat(first|exact A1|exact uH|apply A2|apply uT));first|done|fail)|(simp;first|done|omega|fail))[c1]))
  refine F7 (Hc := [OI g p.length c p]) F5 (fun w' hw hs => A4S w' g c p 0 20 bw key (hcall hw rfl (List.Perm.refl _)) (hI.mono (Nat.le_refl _) h20) (by omega) h20 (by omega) hs) (by (repeat' constructor)) ?_
  rintro q _ ⟨rfl, h1, h2⟩
  (have zz:=trivial;repeat((first|clear zz|with_reducible first|refine A3 ?_|refine A5 fun _=>?_|refine A4 fun _=>?_);try simp(disch:=first|omega|assumption|((repeat(first|exact A1|exact uH|apply A2|apply uT));first|done|fail)|(simp;first|done|omega|fail))[]))
  exact h q (Or.inr ⟨trivial, h20, h1, h2⟩) (by omega)
 have hend : a ≤ l.length ∧ ¬ (a + 20 ≤ l.length) ∧ p.length = l.length ∧ p.Perm l ∧ Mix l 0 a p ∧ E6 key p 0 a := by
  rcases hz with ⟨rfl, rfl⟩ | ⟨rfl, h1, h2, h3⟩
  ·exact ⟨by omega, by omega, rfl, List.Perm.refl _, Mix.refl .., E6.nil⟩
  ·exact ⟨h1, by omega, h3.len, h3.perm, h3, h2⟩
 obtain ⟨ha, hb, hpl, hpp, hpm, hps⟩ := hend
 have ha0 : a = 0 ∨ a = 20 := by rcases hz with h | h <;> omega
 have hpI : Inc p a l.length := fun x y x1 x2 x3 => by rw [hpm.out x (by omega), hpm.out y (by omega)]; exact hI x y (by omega) x2 x3
 clear hL hz
 have c1 : ¬ ((a : Int) + 20 ≤ (l.length : Nat)) := by omega
 (have zz:=trivial;repeat((first|clear zz|with_reducible first|refine A3 ?_|refine A5 fun _=>?_|refine A4 fun _=>?_);try simp(disch:=first|omega|assumption|((repeat(first|exact A1|exact uH|apply A2|apply uT));first|done|fail)|(simp;first|done|omega|fail))[c1]))
 rw [← hpl]
 refine F7 (Hc := [OI g p.length c p]) F5 (fun w' hw hs => A4S w' g c p a p.length bw key (hcall hw hpl hpp) (by rw [hpl]; exact hpI) (by omega) (by omega) (by omega) hs) (by (repeat' constructor)) ?_
 rintro q _ ⟨rfl, h1, h2⟩
 have hql : q.length = p.length := h2.len
 have hqp : q.Perm l := h2.perm.trans hpp
 (have zz:=trivial;repeat((first|clear zz|with_reducible first|refine A3 ?_|refine A5 fun _=>?_|refine A4 fun _=>?_);try simp(disch:=first|omega|assumption|((repeat(first|exact A1|exact uH|apply A2|apply uT));first|done|fail)|(simp;first|done|omega|fail))[]))
 refine A9c (fun z : Nat × Nat × Nat × List Nat => [OI g p.length c z.2.2.2]) (fun z => z = (a, a + 20, 20, q) ∨ (z.2.2.1 = 40 ∧ E6 key z.2.2.2 0 p.length ∧ z.2.2.2.Perm l)) (fun z => 60 - z.2.2.1) (a, a + 20, 20, q) (fun z => .int .i64 (z.1 : Nat)) (fun z => .int .i64 (z.2.1 : Nat)) (fun z => .int .i64 (z.2.2.1 : Nat)) (Or.inl rfl) ?_
 rintro ⟨a1, b1, bs, q1⟩ hz L hL
 simp only at hz hL ⊢
 by_cases hbs : bs < p.length
 ·have hz1 : (a1, b1, bs, q1) = (a, a + 20, 20, q) := by
   rcases hz with h | ⟨h, _⟩
   ·exact h
   ·omega
  injection hz1 with e1 hz1
  injection hz1 with e2 hz1
  injection hz1 with e3 e4
  subst e1 e2 e3 e4
  obtain rfl : a1 = 20 := by omega
  have c2 : (20 : Int) < (p.length : Nat) := by omega
  have c3 : ¬ (40 : Int) ≤ (p.length : Nat) := by omega
  have h := fun q : List Nat => hL (0, 40, 40, q)
  simp only at h
  clear hL hz
  have hS1 : E6 key q1 0 20 := hps.same fun x _ x2 => h2.out x (by omega)
  have hSt : St key q1 0 20 p.length := (hI.mono (b' := p.length) (Nat.le_refl _) (by omega)).st2 hpm h2
  (have zz:=trivial;repeat((first|clear zz|with_reducible first|refine A3 ?_|refine A5 fun _=>?_|refine A4 fun _=>?_);try simp(disch:=first|omega|assumption|((repeat(first|exact A1|exact uH|apply A2|apply uT));first|done|fail)|(simp;first|done|omega|fail))[c2, c3]))
  refine v7 (fun _ : Unit => [OI g p.length c q1]) (fun _ => True) (fun _ => 0) () (fun _ => .int .i64 0) (fun _ => .int .i64 40) trivial ?_
  rintro _ _ L2 _
  (have zz:=trivial;repeat((first|clear zz|with_reducible first|refine A3 ?_|refine A5 fun _=>?_|refine A4 fun _=>?_);try simp(disch:=first|omega|assumption|((repeat(first|exact A1|exact uH|apply A2|apply uT));first|done|fail)|(simp;first|done|omega|fail))[c2, c3]))
  rw [← hql]
  refine F7 (Hc := [OI g q1.length c q1]) H7 (fun w' hw hs => A75 g bw key q1.length w' c q1 0 20 q1.length (by omega) (by omega) (by omega) (Nat.le_refl _) (by omega) (hcall hw (by omega) hqp) hS1 (by rw [hql]; exact h1) (by rw [hql]; exact hSt) hs) (by (repeat' constructor)) ?_
  rintro q2 _ ⟨rfl, g1, g2⟩
  rw [hql] at g1 ⊢
  (have zz:=trivial;repeat((first|clear zz|with_reducible first|refine A3 ?_|refine A5 fun _=>?_|refine A4 fun _=>?_);try simp(disch:=first|omega|assumption|((repeat(first|exact A1|exact uH|apply A2|apply uT));first|done|fail)|(simp;first|done|omega|fail))[]))
  exact h q2 (Or.inr ⟨trivial, g1, g2.perm.trans hqp⟩) (by omega)
 ·have c2 : ¬ (bs : Int) < (p.length : Nat) := by omega
  have hfin : E6 key q1 0 p.length ∧ q1.Perm l := by
   rcases hz with h | ⟨_, h⟩
   ·injection h with e1 h
    injection h with e2 h
    injection h with e3 e4
    subst e1 e2 e3 e4
    refine ⟨?_, hqp⟩
    rcases ha0 with rfl | rfl
    ·exact h1
    ·have : p.length = 20 := by omega
     rw [this]
     exact hps.same fun x _ x2 => h2.out x (by omega)
   ·exact h
  (have zz:=trivial;repeat((first|clear zz|with_reducible first|refine A3 ?_|refine A5 fun _=>?_|refine A4 fun _=>?_);try simp(disch:=first|omega|assumption|((repeat(first|exact A1|exact uH|apply A2|apply uT));first|done|fail)|(simp;first|done|omega|fail))[c2]))
  exact G7 q1 ⟨rfl, hfin.1, hfin.2⟩ (by (repeat' constructor))
end Go.Proofs.Ytlplkjgcfjdinaa
namespace Go.Proofs.Ytlplkjgcfjdinaa
open Go
theorem B4E (w : World) (bw : Nat) (v : Value) (l : List RecV) (x y : Nat) (hx : x < l.length) (hy : y < l.length) (hl : l.length ≤ 1000000) (hv : E9 w v l.length (l.flatMap F9)) (hb : w.cell? ⟨bw, 0, none⟩ = some v) :
  Fn PR C5 22 #[.int .i64 (x : Int), .int .i64 (y : Int), .pointer (some ⟨bw, 0, none⟩)] w (fun u w' => u = .int .i64 (Q5 (G1 l x) (G1 l y)) ∧ B5 [] w w') := by
 refine Fn.pure (A2K (TW.go (κ := false) (S := []) ?_))
 unfold k8
 obtain ⟨a, c, rfl, hr⟩ := hv.form
 obtain ⟨b, o, rfl, hrow⟩ := hr (by omega)
 have h1 := hrow.cellAt (f := F9) (k := 10) (j := 3) (fun _ => rfl) (List.getElem?_eq_getElem hx) rfl
 have h2 := hrow.cellAt (f := F9) (k := 10) (j := 3) (fun _ => rfl) (List.getElem?_eq_getElem hy) rfl
 rw [← A5W hx] at h1
 rw [← A5W hy] at h2
 generalize G1 l x = p at *
 generalize G1 l y = q at *
 (have zz:=trivial;repeat((first|clear zz|with_reducible first|refine A3 ?_|refine A5 fun _=>?_|refine A4 fun _=>?_);try simp(disch:=first|omega|assumption|((repeat(first|exact A1|exact uH|apply A2|apply uT));first|done|fail)|(simp;first|done|omega|fail))[hb, hx, hy, h1, h2]))
 refine C7 (u := .int .i64 (Q5 p q)) A2H (fun w' _ => (B2H w' p q).mono fun v w'' ⟨h, e⟩ => ⟨h, by rw [e]; exact B5.refl _ _⟩) ?_
 (have zz:=trivial;repeat((first|clear zz|with_reducible first|refine A3 ?_|refine A5 fun _=>?_|refine A4 fun _=>?_);try simp(disch:=first|omega|assumption|((repeat(first|exact A1|exact uH|apply A2|apply uT));first|done|fail)|(simp;first|done|omega|fail))[]))
 exact A8 rfl
theorem A9N (w : World) (F : Value) : Fn PR C5 21 #[.slice none 0 0, F] w (fun v w' => v = .tuple #[] ∧ B5 [] w w') := by
 have h40 : ∀ w', Fn PR C5 54 #[.slice none 0 0, .int .i64 0, .int .i64 0, F] w' (fun v w'' => v = .tuple #[] ∧ B5 [] w' w'') := fun w' => by
  refine Fn.pure (M7 (TW.go (κ := false) (S := []) ?_))
  unfold G0
  (have zz:=trivial;repeat((first|clear zz|with_reducible first|refine A3 ?_|refine A5 fun _=>?_|refine A4 fun _=>?_);try simp(disch:=first|omega|assumption|((repeat(first|exact A1|exact uH|apply A2|apply uT));first|done|fail)|(simp;first|done|omega|fail))[]))
  refine A13 (fun _ : Unit => []) (fun _ => True) (fun _ => 0) () (fun _ => .int .i64 1) trivial ?_
  rintro _ _ L _
  (have zz:=trivial;repeat((first|clear zz|with_reducible first|refine A3 ?_|refine A5 fun _=>?_|refine A4 fun _=>?_);try simp(disch:=first|omega|assumption|((repeat(first|exact A1|exact uH|apply A2|apply uT));first|done|fail)|(simp;first|done|omega|fail))[]))
  exact A8 rfl
 have h31 : ∀ w', Fn PR C5 39 #[.slice none 0 0, .int .i64 0, F] w' (fun v w'' => v = .tuple #[] ∧ B5 [] w' w'') := fun w' => by
  refine Fn.pure (T7 (TW.go (κ := false) (S := []) ?_))
  unfold L5
  (have zz:=trivial;repeat((first|clear zz|with_reducible first|refine A3 ?_|refine A5 fun _=>?_|refine A4 fun _=>?_);try simp(disch:=first|omega|assumption|((repeat(first|exact A1|exact uH|apply A2|apply uT));first|done|fail)|(simp;first|done|omega|fail))[]))
  refine v7 (fun _ : Unit => []) (fun _ => True) (fun _ => 0) () (fun _ => .int .i64 0) (fun _ => .int .i64 20) trivial ?_
  rintro _ _ L _
  (have zz:=trivial;repeat((first|clear zz|with_reducible first|refine A3 ?_|refine A5 fun _=>?_|refine A4 fun _=>?_);try simp(disch:=first|omega|assumption|((repeat(first|exact A1|exact uH|apply A2|apply uT));first|done|fail)|(simp;first|done|omega|fail))[]))
  refine C7 F5 (fun w' _ => h40 w') ?_
  (have zz:=trivial;repeat((first|clear zz|with_reducible first|refine A3 ?_|refine A5 fun _=>?_|refine A4 fun _=>?_);try simp(disch:=first|omega|assumption|((repeat(first|exact A1|exact uH|apply A2|apply uT));first|done|fail)|(simp;first|done|omega|fail))[]))
  refine A9c (fun _ : Unit => []) (fun _ => True) (fun _ => 0) () (fun _ => .int .i64 0) (fun _ => .int .i64 20) (fun _ => .int .i64 20) trivial ?_
  rintro _ _ L2 _
  (have zz:=trivial;repeat((first|clear zz|with_reducible first|refine A3 ?_|refine A5 fun _=>?_|refine A4 fun _=>?_);try simp(disch:=first|omega|assumption|((repeat(first|exact A1|exact uH|apply A2|apply uT));first|done|fail)|(simp;first|done|omega|fail))[]))
  exact A8 rfl
 refine Fn.pure (N8 (TW.go (κ := false) (S := []) ?_))
 unfold G6
 (have zz:=trivial;repeat((first|clear zz|with_reducible first|refine A3 ?_|refine A5 fun _=>?_|refine A4 fun _=>?_);try simp(disch:=first|omega|assumption|((repeat(first|exact A1|exact uH|apply A2|apply uT));first|done|fail)|(simp;first|done|omega|fail))[]))
 refine C7 T4 (fun w' _ => h31 w') ?_
 (have zz:=trivial;repeat((first|clear zz|with_reducible first|refine A3 ?_|refine A5 fun _=>?_|refine A4 fun _=>?_);try simp(disch:=first|omega|assumption|((repeat(first|exact A1|exact uH|apply A2|apply uT));first|done|fail)|(simp;first|done|omega|fail))[]))
 exact A8 rfl
theorem B0f (w : World) (g c : Nat) (l : List Nat) (bw : Nat) (key : Nat → Int) (hc : A39 w (B7 [OI g l.length c l]) bw key l) (hI : Inc l 0 l.length) (hl : l.length ≤ 30) (hw : LW false (B7 [OI g l.length c l]) w [OI g l.length c l] w) :
  Fn PR C5 21 #[.slice (some ⟨g, 0, none⟩) l.length c, A5J bw] w (Rn (B7 [OI g l.length c l]) w (fun (l' : List Nat) u => u = .tuple #[] ∧ E6 key l' 0 l.length ∧ l'.Perm l) fun l' => [OI g l.length c l']) := by
 refine N8 (TW.goH (κ := false) (S := B7 [OI g l.length c l]) ?_ hw)
 unfold G6
 (have zz:=trivial;repeat((first|clear zz|with_reducible first|refine A3 ?_|refine A5 fun _=>?_|refine A4 fun _=>?_);try simp(disch:=first|omega|assumption|((repeat(first|exact A1|exact uH|apply A2|apply uT));first|done|fail)|(simp;first|done|omega|fail))[]))
 refine F7 (Hc := [OI g l.length c l]) T4 (fun w' hw hs => B0F w' g c l bw key (fun w'' hw'' x y hx hy => hc w'' (hw.ks.low.trans hw'') x y hx hy) hI hl hs) (by (repeat' constructor)) ?_
 rintro l' _ ⟨rfl, h1, h2⟩
 (have zz:=trivial;repeat((first|clear zz|with_reducible first|refine A3 ?_|refine A5 fun _=>?_|refine A4 fun _=>?_);try simp(disch:=first|omega|assumption|((repeat(first|exact A1|exact uH|apply A2|apply uT));first|done|fail)|(simp;first|done|omega|fail))[]))
 exact G7 l' ⟨rfl, h1, h2⟩ (by (repeat' constructor))
theorem A4k (w : World) (v : Value) (l : List RecV) (hl : l.length ≤ 24) (hv : E9 w v l.length (l.flatMap F9)) :
  Fn PR C5 11 #[v] w (Rn [] w (fun r u => u = r) fun r => [.own 3 1 r (W0 (G1 l) l.length).length (H8 (W0 (G1 l) l.length))]) := by
 refine A3u (TW.go (κ := false) (S := []) ?_)
 unfold y4
 obtain ⟨a, c, rfl, hr⟩ := hv.form
 (have zz:=trivial;repeat((first|clear zz|with_reducible first|refine A3 ?_|refine A5 fun _=>?_|refine A4 fun _=>?_);try simp(disch:=first|omega|assumption|((repeat(first|exact A1|exact uH|apply A2|apply uT));first|done|fail)|(simp;first|done|omega|fail))[]))
 rename_i bw
 refine A3E 3 1 ?_
 refine q7 l.length (fun i (x : Option Addr × Nat) => .slice x.1 (V5 (G1 l) i).length x.2) (fun i x => [.own 3 1 (.slice x.1 (V5 (G1 l) i).length x.2) (V5 (G1 l) i).length (H8 (V5 (G1 l) i)), .pt bw (.cells #[.slice a l.length c] 33)]) (fun i x => (V5 (G1 l) i).length = 0 → x = (none, 0)) (none, 0) (fun _ => rfl) ?_
 rintro i ⟨xa, xc⟩ hi hx L hL
 by_cases hlt : i < l.length
 ·obtain ⟨b, o, rfl, hrow⟩ := hr (by omega)
  have h1 := hrow.at (f := F9) (k := 10) (fun _ => rfl) (List.getElem?_eq_getElem hlt)
  have hk := A5W hlt
  rw [F9] at h1
  generalize l[i] = y at *
  have hst := A70 (G1 l) i
  have hle := A4L (G1 l) i
  rw [hk] at hst
  have h := hL hlt
  rw [hst] at h
  clear hL
  generalize V5 (G1 l) i = p at *
  by_cases c1 : 0 ≤ y.tk
  ·rw [if_pos c1] at h
   (have zz:=trivial;repeat((first|clear zz|with_reducible first|refine A3 ?_|refine A5 fun _=>?_|refine A4 fun _=>?_|refine B9 fun _=>?_|refine C3 (hK:=fun _=>?_)|refine B4 (hK:=fun _=>?_)|refine C0 (hK:=fun _=>?_)|refine C4 (hK:=fun _=>?_)|refine B8 (hK:=fun _=>?_));try simp(disch:=first|omega|assumption|((repeat(first|exact A1|exact uH|apply A2|apply uT));first|done|fail)|(simp;first|done|omega|fail))[hlt, h1, c1]))
   refine A3H (e := 3) (k := 1) (q := p.length) (r := 1) (xs := H8 p) (news := [.int .i64 (i : Int)]) (by (repeat constructor)) (M8.own (by (repeat constructor))) (by decide) (by simp) (by simp) (by simp only [maxLen]; omega) (by omega) fun a' c' => ?_
   (have zz:=trivial;repeat((first|clear zz|with_reducible first|refine A3 ?_|refine A5 fun _=>?_|refine A4 fun _=>?_);try simp(disch:=first|omega|assumption|((repeat(first|exact A1|exact uH|apply A2|apply uT));first|done|fail)|(simp;first|done|omega|fail))[]))
   have h := h (a', c') (fun e => by simp at e)
   rw [show H8 (p ++ [i]) = H8 p ++ [.int .i64 (i : Int)] by simp [H8], show (p ++ [i]).length = p.length + 1 by simp] at h
   exact Sels.tw (by (repeat' constructor)) h
  ·rw [if_neg c1] at h
   (have zz:=trivial;repeat((first|clear zz|with_reducible first|refine A3 ?_|refine A5 fun _=>?_|refine A4 fun _=>?_);try simp(disch:=first|omega|assumption|((repeat(first|exact A1|exact uH|apply A2|apply uT));first|done|fail)|(simp;first|done|omega|fail))[hlt, h1, c1]))
   exact Sels.tw (by (repeat' constructor)) (h (xa, xc) hx)
 ·obtain rfl : i = l.length := by omega
  clear hL
  have hinc := B2s (G1 l) l.length
  have hle := A4L (G1 l) l.length
  have hlt' : ∀ x ∈ V5 (G1 l) l.length, x < l.length := fun x h => (A94 h).1
  have hfin : ∀ q : List Nat, q.Perm (V5 (G1 l) l.length) → E6 (G1 l) q 0 (V5 (G1 l) l.length).length → q = W0 (G1 l) l.length := fun q => A81
  have hwl := A3k (G1 l) l.length
  generalize V5 (G1 l) l.length = p at *
  (have zz:=trivial;repeat((first|clear zz|with_reducible first|refine A3 ?_|refine A5 fun _=>?_|refine A4 fun _=>?_);try simp(disch:=first|omega|assumption|((repeat(first|exact A1|exact uH|apply A2|apply uT));first|done|fail)|(simp;first|done|omega|fail))[]))
  by_cases h0 : p.length = 0
  ·obtain rfl : p = [] := List.length_eq_zero_iff.1 h0
   have := hx rfl
   injection this with e1 e2
   subst e1 e2
   have hw0 := hfin [] (List.Perm.refl _) (fun i j _ _ h => by simp at h)
   refine C7 N4 (fun w' _ => A9N w' _) ?_
   (have zz:=trivial;repeat((first|clear zz|with_reducible first|refine A3 ?_|refine A5 fun _=>?_|refine A4 fun _=>?_);try simp(disch:=first|omega|assumption|((repeat(first|exact A1|exact uH|apply A2|apply uT));first|done|fail)|(simp;first|done|omega|fail))[]))
   refine G7 (.slice none 0 0) rfl ?_
   rw [← hw0]
   (repeat' constructor)
  ·refine A3F (e := 3) (k := 1) (v := .slice xa p.length xc) (q := p.length) (xs := H8 p) (by (repeat constructor)) (by omega) fun g gc hg => ?_
   cases hg
   refine F7 (Hc := [OI g p.length xc p]) N4 (fun w' hw hs => B0f w' g xc p bw (G1 l) (fun w'' hw'' x y hx hy => ?_) hinc (by omega) hs) (by (repeat' constructor)) ?_
   ·have h2 := hw.part (Hn := []) (w' := w'') ⟨hw'', by simp, by simp, .nil⟩
    exact B4E w'' bw (.slice a l.length c) l x y (hlt' x hx) (hlt' y hy) (by omega) (hv.ks h2.ks (by simp)) (h2.cell1 (by (repeat constructor)))
   rintro q _ ⟨rfl, h1, h2⟩
   have hq := hfin q h2 h1
   subst hq
   (have zz:=trivial;repeat((first|clear zz|with_reducible first|refine A3 ?_|refine A5 fun _=>?_|refine A4 fun _=>?_);try simp(disch:=first|omega|assumption|((repeat(first|exact A1|exact uH|apply A2|apply uT));first|done|fail)|(simp;first|done|omega|fail))[]))
   refine G7 (.slice (some ⟨g, 0, none⟩) p.length xc) rfl ?_
   rw [hwl]
   (repeat' constructor)
end Go.Proofs.Ytlplkjgcfjdinaa
namespace Go.Proofs.Ytlplkjgcfjdinaa
open Go
structure SeenV where
 r : RecV
 op : OpV
 pv : Value
 key : ByteArray
 is : Bool
def E5 (s : SeenV) : List Value := [.int .i64 s.r.th, .int .i64 s.r.op, .int .i64 s.r.st, .int .i64 s.r.tk, .int .i64 s.r.en, .int .i64 s.r.nw, .int .i64 s.r.an.err, .int .i64 s.r.an.bk, .bool s.r.an.made, .int .i64 s.r.an.count, .int .i64 s.op.kind, .string s.op.packet, s.pv, .int .i64 s.op.shard, .string s.key, .bool s.is]
def SeenV.cs (s : SeenV) : Array Value := #[.int .i64 s.r.th, .int .i64 s.r.op, .int .i64 s.r.st, .int .i64 s.r.tk, .int .i64 s.r.en, .int .i64 s.r.nw, .int .i64 s.r.an.err, .int .i64 s.r.an.bk, .bool s.r.an.made, .int .i64 s.r.an.count, .int .i64 s.op.kind, .string s.op.packet, s.pv, .int .i64 s.op.shard, .string s.key, .bool s.is]
def L7 (o : OpV) : KeyV × Nat × Bool := if o.kind = 0 then ((T3 o.packet).1, (T3 o.packet).2.1, decide ((T3 o.packet).2.2 = 0)) else (noK, 0, false)
def A30 (o : OpV) : ByteArray × Bool := if (L7 o).2.2 then (if S8 (L7 o).1 then p9 (L7 o).1 else G4, S8 (L7 o).1) else (G4, false)
def j9 (o : OpV) : Bool := (L7 o).2.2 && A1p (L7 o).1 (L7 o).2.1
def M2 (s : SeenV) : Bool := s.is && !decide (s.key = G4) && !decide (s.r.th = 0) && decide (0 ≤ s.r.en) && decide (s.r.an.err = 0)
theorem A50 (w : World) (o : OpV) (a : Option Addr) (n k : Nat) (hs : o.packet.size < 2 ^ 40) : Fn PR C5 27 #[o.val (.slice a n k)] w (fun u w' => u = .tuple #[F6 (L7 o).1 (L7 o).2.1, .bool (L7 o).2.2] ∧ B5 [] w w') := by
 refine Fn.pure (A4b (TW.go (κ := false) (S := []) ?_))
 unfold A0q
 simp only [OpV.val]
 by_cases k0 : o.kind = 0
 ·have hv : L7 o = ((T3 o.packet).1, (T3 o.packet).2.1, decide ((T3 o.packet).2.2 = 0)) := if_pos k0
  rw [hv]
  (have zz:=trivial;repeat((first|clear zz|with_reducible first|refine A3 ?_|refine A5 fun _=>?_|refine A4 fun _=>?_);try simp(disch:=first|omega|assumption|((repeat(first|exact A1|exact uH|apply A2|apply uT));first|done|fail)|(simp;first|done|omega|fail))[k0]))
  refine C7 A3z (fun w' _ => A5b w' o.packet hs) ?_
  generalize T3 o.packet = p
  obtain ⟨q, f, e⟩ := p
  (have zz:=trivial;repeat((first|clear zz|with_reducible first|refine A3 ?_|refine A5 fun _=>?_|refine A4 fun _=>?_);try simp(disch:=first|omega|assumption|((repeat(first|exact A1|exact uH|apply A2|apply uT));first|done|fail)|(simp;first|done|omega|fail))[packet.val, F6]))
  exact A8 (by simp)
 ·have hv : L7 o = (noK, 0, false) := if_neg k0
  rw [hv]
  (have zz:=trivial;repeat((first|clear zz|with_reducible first|refine A3 ?_|refine A5 fun _=>?_|refine A4 fun _=>?_);try simp(disch:=first|omega|assumption|((repeat(first|exact A1|exact uH|apply A2|apply uT));first|done|fail)|(simp;first|done|omega|fail))[k0, F6, noK, G4]))
  exact A8 rfl
theorem A5L (w : World) (o : OpV) (a : Option Addr) (n k : Nat) (hs : o.packet.size < 2 ^ 40) : Fn PR C5 15 #[o.val (.slice a n k)] w (fun u w' => u = .tuple #[.string (A30 o).1, .bool (A30 o).2] ∧ B5 [] w w') := by
 refine Fn.pure (A7K (TW.go (κ := false) (S := []) ?_))
 unfold A2r
 simp only [OpV.val]
 (have zz:=trivial;repeat((first|clear zz|with_reducible first|refine A3 ?_|refine A5 fun _=>?_|refine A4 fun _=>?_);try simp(disch:=first|omega|assumption|((repeat(first|exact A1|exact uH|apply A2|apply uT));first|done|fail)|(simp;first|done|omega|fail))[]))
 refine C7 A0G (fun w' _ => A50 w' o a n k hs) ?_
 unfold A30
 generalize L7 o = p
 obtain ⟨q, f, b⟩ := p
 cases b with
 | false =>
  (have zz:=trivial;repeat((first|clear zz|with_reducible first|refine A3 ?_|refine A5 fun _=>?_|refine A4 fun _=>?_);try simp(disch:=first|omega|assumption|((repeat(first|exact A1|exact uH|apply A2|apply uT));first|done|fail)|(simp;first|done|omega|fail))[F6]))
  exact A8 rfl
 | true =>
  (have zz:=trivial;repeat((first|clear zz|with_reducible first|refine A3 ?_|refine A5 fun _=>?_|refine A4 fun _=>?_);try simp(disch:=first|omega|assumption|((repeat(first|exact A1|exact uH|apply A2|apply uT));first|done|fail)|(simp;first|done|omega|fail))[F6]))
  refine C7 A32 (fun w' _ => B1W w' q) ?_
  (have zz:=trivial;repeat((first|clear zz|with_reducible first|refine A3 ?_|refine A5 fun _=>?_|refine A4 fun _=>?_);try simp(disch:=first|omega|assumption|((repeat(first|exact A1|exact uH|apply A2|apply uT));first|done|fail)|(simp;first|done|omega|fail))[A2U]))
  exact A8 rfl
end Go.Proofs.Ytlplkjgcfjdinaa
namespace Go.Proofs.Ytlplkjgcfjdinaa
open Go
theorem B5K {κ : Bool} {S : List Nat} {w0 : World} {H Hj : List Res} {F : WP} {A : WP → WP} (hF : TW κ S w0 Hj F) (hA : ∀ J : WP, TW κ S w0 Hj J → TW κ S w0 H (A J)) : TW κ S w0 H (jn (n := 0) F A) := hA F hF
end Go.Proofs.Ytlplkjgcfjdinaa
namespace Go.Proofs.Ytlplkjgcfjdinaa
open Go
theorem H3 {κ : Bool} {S : List Nat} {w0 : World} {H : List Res} {K0 : WP} {t : TypeId} {n : Nat} {z : Value} [h : TG t n z] {b o : Nat} {c : Array Value} {T : TypeId} {f : Nat × Nat} {xs : Array Value} {l : List Rd} (hm : Res.pt b (.cells c T f) ∈ H) (hl : N2 c.toList o n = some xs.toList) :
  TW κ S w0 H (watch PR ((none, Instr.loadAt t (.pointer (some ⟨b, o, none⟩)), .agg xs) :: l) K0) = TW κ S w0 H (watch PR l K0) := by
 obtain ⟨_, _, h, hd⟩ := h.ti
 refine A5c fun w hw => ?_
 have hr := x4 hl (F1.bl (hw.pt hm))
 have h2 := l7 hr
 have := A0V h hd h2.1 h2.2
 simpa using this
theorem B4D {κ : Bool} {S : List Nat} {w0 w : World} {H : List Res} {b : Nat} {c : Array Value} {T : TypeId} {f : Nat × Nat} (hw : LW κ S w0 H w) (hm : Res.pt b (.cells c T f) ∈ H) : F1 w b 0 c.toList := F1.bl (hw.pt hm)
theorem F1.sub {w : World} {b o : Nat} {l : List Value} (h : F1 w b o l) (j n : Nat) (hn : j + n ≤ l.length) : Y9 w b (o + j) n = some ((l.drop j).take n) := by
 have hl : ((l.drop j).take n).length = n := by simp; omega
 have h1 : F1 w b (o + j) ((l.drop j).take n) := fun q hq => by
  rw [hl] at hq
  rw [Nat.add_assoc, h (j + q) (by omega), List.getElem?_take_of_lt hq, List.getElem?_drop]
 have := A3B h1
 rwa [hl] at this
end Go.Proofs.Ytlplkjgcfjdinaa
namespace Go.Proofs.Ytlplkjgcfjdinaa
open Go
structure SeenOk (s : SeenV) : Prop where
 pv : ∃ a k, s.pv = .slice a s.op.pool.length k
 pk : s.op.packet.size < 2 ^ 40
 pl : s.op.pool.length ≤ 1000000
theorem A3d (w : World) (s : SeenV) (hs : SeenOk s) : Fn PR C5 35 #[.agg s.cs] w (fun u w' => u = .bool (j9 s.op) ∧ B5 [] w w') := by
 refine Fn.pure (A1Z (TW.go (κ := false) (S := []) ?_))
 unfold f8
 obtain ⟨a, k, hp⟩ := hs.pv
 simp only [SeenV.cs, hp]
 (have zz:=trivial;repeat((first|clear zz|with_reducible first|refine A3 ?_|refine A5 fun _=>?_|refine A4 fun _=>?_);try simp(disch:=first|omega|assumption|((repeat(first|exact A1|exact uH|apply A2|apply uT));first|done|fail)|(simp;first|done|omega|fail))[]))
 refine C7 A0G (fun w' _ => by have := A50 w' s.op a s.op.pool.length k hs.pk; rw [OpV.val] at this; exact this) ?_
 unfold j9
 generalize L7 s.op = p
 obtain ⟨q, f, b⟩ := p
 cases b with
 | false =>
  (have zz:=trivial;repeat((first|clear zz|with_reducible first|refine A3 ?_|refine A5 fun _=>?_|refine A4 fun _=>?_);try simp(disch:=first|omega|assumption|((repeat(first|exact A1|exact uH|apply A2|apply uT));first|done|fail)|(simp;first|done|omega|fail))[F6]))
  exact A8 rfl
 | true =>
  (have zz:=trivial;repeat((first|clear zz|with_reducible first|refine A3 ?_|refine A5 fun _=>?_|refine A4 fun _=>?_);try simp(disch:=first|omega|assumption|((repeat(first|exact A1|exact uH|apply A2|apply uT));first|done|fail)|(simp;first|done|omega|fail))[F6]))
  refine C7 A2q (fun w' _ => by have := A9F w' q f; rw [F6] at this; exact this) ?_
  (have zz:=trivial;repeat((first|clear zz|with_reducible first|refine A3 ?_|refine A5 fun _=>?_|refine A4 fun _=>?_);try simp(disch:=first|omega|assumption|((repeat(first|exact A1|exact uH|apply A2|apply uT));first|done|fail)|(simp;first|done|omega|fail))[]))
  exact A8 rfl
theorem B0D (w : World) (s : SeenV) (hs : SeenOk s) : Fn PR C5 29 #[.agg s.cs] w (fun u w' => u = .bool (M2 s) ∧ B5 [] w w') := by
 refine Fn.pure (A15 (TW.go (κ := false) (S := []) ?_))
 unfold g4 M2
 obtain ⟨a, k, hp⟩ := hs.pv
 simp only [SeenV.cs, hp]
 cases hi : s.is with
 | false =>
  (have zz:=trivial;repeat((first|clear zz|with_reducible first|refine A3 ?_|refine A5 fun _=>?_|refine A4 fun _=>?_);try simp(disch:=first|omega|assumption|((repeat(first|exact A1|exact uH|apply A2|apply uT));first|done|fail)|(simp;first|done|omega|fail))[]))
  exact A8 rfl
 | true =>
 by_cases k1 : s.key = G4
 ·(have zz:=trivial;repeat((first|clear zz|with_reducible first|refine A3 ?_|refine A5 fun _=>?_|refine A4 fun _=>?_);try simp(disch:=first|omega|assumption|((repeat(first|exact A1|exact uH|apply A2|apply uT));first|done|fail)|(simp;first|done|omega|fail))[k1]))
  exact A8 (by simp)
 by_cases k2 : s.r.th = 0
 ·(have zz:=trivial;repeat((first|clear zz|with_reducible first|refine A3 ?_|refine A5 fun _=>?_|refine A4 fun _=>?_);try simp(disch:=first|omega|assumption|((repeat(first|exact A1|exact uH|apply A2|apply uT));first|done|fail)|(simp;first|done|omega|fail))[k1, k2]))
  exact A8 (by simp)
 by_cases k3 : 0 ≤ s.r.en
 ·(have zz:=trivial;repeat((first|clear zz|with_reducible first|refine A3 ?_|refine A5 fun _=>?_|refine A4 fun _=>?_);try simp(disch:=first|omega|assumption|((repeat(first|exact A1|exact uH|apply A2|apply uT));first|done|fail)|(simp;first|done|omega|fail))[k1, k2, k3]))
  exact A8 (by simp [k1])
 ·(have zz:=trivial;repeat((first|clear zz|with_reducible first|refine A3 ?_|refine A5 fun _=>?_|refine A4 fun _=>?_);try simp(disch:=first|omega|assumption|((repeat(first|exact A1|exact uH|apply A2|apply uT));first|done|fail)|(simp;first|done|omega|fail))[k1, k2, k3]))
  exact A8 (by simp)
def A1e (a x : SeenV) : Bool := !decide (x.key = G4) && decide (x.key = a.key) && (decide (x.r.en < 0) || j9 x.op)
def A1u (a x : SeenV) : Bool := decide (x.op.kind = 1) && decide (x.r.th = 0) && decide (x.r.an.err = 0) && decide (B2k x.op.pool a.r.an.bk < 0)
theorem B3K (w : World) (b : Nat) (a x : SeenV) (hx : SeenOk x) (hb : F1 w b 0 (E5 a)) : Fn PR C5 36 #[.agg x.cs, .pointer (some ⟨b, 0, none⟩)] w (fun u w' => u = .bool (A1e a x) ∧ B5 [] w w') := by
 refine Fn.pure (A2L (TW.go (κ := false) (S := []) ?_))
 unfold l5 A1e
 have hk : w.cell? ⟨b, 14, none⟩ = some (.string a.key) := hb.get (i := 14) rfl
 obtain ⟨pa, pk, hp⟩ := hx.pv
 have hcl := fun w' => A3d w' x hx
 simp only [SeenV.cs, hp] at hcl ⊢
 by_cases k1 : x.key = G4
 ·(have zz:=trivial;repeat((first|clear zz|with_reducible first|refine A3 ?_|refine A5 fun _=>?_|refine A4 fun _=>?_);try simp(disch:=first|omega|assumption|((repeat(first|exact A1|exact uH|apply A2|apply uT));first|done|fail)|(simp;first|done|omega|fail))[k1]))
  exact A8 (by simp)
 by_cases k2 : x.key = a.key
 case neg =>
  (have zz:=trivial;repeat((first|clear zz|with_reducible first|refine A3 ?_|refine A5 fun _=>?_|refine A4 fun _=>?_);try simp(disch:=first|omega|assumption|((repeat(first|exact A1|exact uH|apply A2|apply uT));first|done|fail)|(simp;first|done|omega|fail))[k1, hk, k2]))
  exact A8 (by simp [k2])
 have k1' : ¬ a.key = G4 := by rw [← k2]; exact k1
 by_cases k3 : x.r.en < 0
 ·(have zz:=trivial;repeat((first|clear zz|with_reducible first|refine A3 ?_|refine A5 fun _=>?_|refine A4 fun _=>?_);try simp(disch:=first|omega|assumption|((repeat(first|exact A1|exact uH|apply A2|apply uT));first|done|fail)|(simp;first|done|omega|fail))[k1, k1', hk, k2, k3]))
  exact A8 (by simp)
 ·rw [k2] at hcl
  (have zz:=trivial;repeat((first|clear zz|with_reducible first|refine A3 ?_|refine A5 fun _=>?_|refine A4 fun _=>?_);try simp(disch:=first|omega|assumption|((repeat(first|exact A1|exact uH|apply A2|apply uT));first|done|fail)|(simp;first|done|omega|fail))[k1, k1', hk, k2, k3]))
  refine C7 Z6 (fun w' _ => hcl w') ?_
  (have zz:=trivial;repeat((first|clear zz|with_reducible first|refine A3 ?_|refine A5 fun _=>?_|refine A4 fun _=>?_);try simp(disch:=first|omega|assumption|((repeat(first|exact A1|exact uH|apply A2|apply uT));first|done|fail)|(simp;first|done|omega|fail))[]))
  exact A8 (by simp [k1, k1', k2])
theorem B2w (w : World) (b : Nat) (a x : SeenV) (hx : SeenOk x) (hb : F1 w b 0 (E5 a)) (hp : E9 w x.pv x.op.pool.length (x.op.pool.flatMap f9)) : Fn PR C5 37 #[.agg x.cs, .pointer (some ⟨b, 0, none⟩)] w (fun u w' => u = .bool (A1u a x) ∧ B5 [] w w') := by
 refine Fn.pure (A2M (TW.go (κ := false) (S := []) ?_))
 unfold l4 A1u
 have hk : w.cell? ⟨b, 7, none⟩ = some (.int .i64 a.r.an.bk) := hb.get (i := 7) rfl
 obtain ⟨pa, pk, hpe⟩ := hx.pv
 rw [hpe] at hp
 simp only [SeenV.cs, hpe]
 by_cases k1 : x.op.kind = 1
 case neg =>
  (have zz:=trivial;repeat((first|clear zz|with_reducible first|refine A3 ?_|refine A5 fun _=>?_|refine A4 fun _=>?_);try simp(disch:=first|omega|assumption|((repeat(first|exact A1|exact uH|apply A2|apply uT));first|done|fail)|(simp;first|done|omega|fail))[k1]))
  exact A8 (by simp)
 by_cases k2 : x.r.th = 0
 case neg =>
  (have zz:=trivial;repeat((first|clear zz|with_reducible first|refine A3 ?_|refine A5 fun _=>?_|refine A4 fun _=>?_);try simp(disch:=first|omega|assumption|((repeat(first|exact A1|exact uH|apply A2|apply uT));first|done|fail)|(simp;first|done|omega|fail))[k1, k2]))
  exact A8 (by simp)
 by_cases k3 : x.r.an.err = 0
 case neg =>
  (have zz:=trivial;repeat((first|clear zz|with_reducible first|refine A3 ?_|refine A5 fun _=>?_|refine A4 fun _=>?_);try simp(disch:=first|omega|assumption|((repeat(first|exact A1|exact uH|apply A2|apply uT));first|done|fail)|(simp;first|done|omega|fail))[k1, k2, k3]))
  exact A8 (by simp)
 (have zz:=trivial;repeat((first|clear zz|with_reducible first|refine A3 ?_|refine A5 fun _=>?_|refine A4 fun _=>?_);try simp(disch:=first|omega|assumption|((repeat(first|exact A1|exact uH|apply A2|apply uT));first|done|fail)|(simp;first|done|omega|fail))[k1, k2, k3, hk]))
 refine C7 A6N (fun w' hw' => A8Y w' (.slice pa x.op.pool.length pk) x.op.pool a.r.an.bk hx.pl (hp.ks hw'.ks (by simp))) ?_
 (have zz:=trivial;repeat((first|clear zz|with_reducible first|refine A3 ?_|refine A5 fun _=>?_|refine A4 fun _=>?_);try simp(disch:=first|omega|assumption|((repeat(first|exact A1|exact uH|apply A2|apply uT));first|done|fail)|(simp;first|done|omega|fail))[]))
 exact A8 (by simp [k1, k2, k3])
theorem B2q (w : World) (b5 b7 b9 b4 : Nat) (sv : Value) (ss : List SeenV) (t : Nat) (x a : SeenV) (c : CfgV) (hss : E9 w sv ss.length (ss.flatMap E5)) (hl : ss.length ≤ 1000) (hx : ss[t]? = some x) (h5 : w.cell? ⟨b5, 0, none⟩ = some sv) (h7 : w.cell? ⟨b7, 0, none⟩ = some (.int .i64 (t : Nat))) (h9 : F1 w b9 0 (E5 a)) (h4 : w.cell? ⟨b4, 3, none⟩ = some (.int .i64 c.idle)) :
  Fn PR C5 34 #[.pointer (some ⟨b5, 0, none⟩), .pointer (some ⟨b7, 0, none⟩), .pointer (some ⟨b9, 0, none⟩), .pointer (some ⟨b4, 0, none⟩)] w (fun u w' => u = .bool (decide (IntKind.i64.wrap (a.r.nw + c.idle) < x.r.nw)) ∧ B5 [] w w') := by
 refine Fn.pure (A2N (TW.go (κ := false) (S := []) ?_))
 unfold l0
 have hn : w.cell? ⟨b9, 5, none⟩ = some (.int .i64 a.r.nw) := h9.get (i := 5) rfl
 obtain ⟨sa, sc, rfl, hr⟩ := hss.form
 have htl := (List.getElem?_eq_some_iff.1 hx).1
 obtain ⟨b, o, rfl, hrow⟩ := hr (by omega)
 have h1 := hrow.cellAt (f := E5) (k := 16) (j := 5) (fun _ => rfl) hx rfl
 (have zz:=trivial;repeat((first|clear zz|with_reducible first|refine A3 ?_|refine A5 fun _=>?_|refine A4 fun _=>?_);try simp(disch:=first|omega|assumption|((repeat(first|exact A1|exact uH|apply A2|apply uT));first|done|fail)|(simp;first|done|omega|fail))[h5, h7, htl, h1, hn, h4]))
 exact A8 rfl
theorem B4P (w : World) (g c : Nat) (fs : List (FuncId × List Value × List Value × Bool)) (hl : fs.length ≤ 1000) (hr : F1 w g 0 (fs.map fun e => Value.func (.func e.1) e.2.1.toArray e.2.2.1.toArray))
  (hf : ∀ e ∈ fs, B0 PR e.1 ∧ ∀ w', KS false [] w w' → Fn PR C5 e.1 (e.2.1 ++ e.2.2.1).toArray w' (fun v w'' => v = .bool e.2.2.2 ∧ B5 [] w' w'')) :
  Fn PR C5 33 #[.slice (some ⟨g, 0, none⟩) fs.length c] w (fun u w' => u = .bool (fs.any (·.2.2.2)) ∧ B5 [] w w') := by
 refine Fn.pure (A6l (TW.go (κ := false) (S := []) ?_))
 unfold A2Q
 (have zz:=trivial;repeat((first|clear zz|with_reducible first|refine A3 ?_|refine A5 fun _=>?_|refine A4 fun _=>?_);try simp(disch:=first|omega|assumption|((repeat(first|exact A1|exact uH|apply A2|apply uT));first|done|fail)|(simp;first|done|omega|fail))[]))
 refine q7 (α := Unit) fs.length (fun _ _ => .bool false) (fun _ _ => []) (fun i _ => ∀ j e, j < i → fs[j]? = some e → e.2.2.2 = false) () (by simp) ?_
 rintro i _ hi hpre L hL
 by_cases hlt : i < fs.length
 ·have hx := List.getElem?_eq_getElem hlt
  have h1 : w.cell? ⟨g, i, none⟩ = some (.func (.func fs[i].1) fs[i].2.1.toArray fs[i].2.2.1.toArray) := by
   have := hr.get (i := i) (v := .func (.func fs[i].1) fs[i].2.1.toArray fs[i].2.2.1.toArray) (by rw [List.getElem?_map, hx]; rfl)
   simpa using this
  obtain ⟨he, hc⟩ := hf fs[i] (List.getElem_mem hlt)
  have hmem := List.getElem_mem hlt
  generalize fs[i] = e at *
  (have zz:=trivial;repeat((first|clear zz|with_reducible first|refine A3 ?_|refine A5 fun _=>?_|refine A4 fun _=>?_);try simp(disch:=first|omega|assumption|((repeat(first|exact A1|exact uH|apply A2|apply uT));first|done|fail)|(simp;first|done|omega|fail))[hlt, h1]))
  refine C7 he (fun w' hw' => hc w' hw'.ks) ?_
  cases hb : e.2.2.2 with
  | true =>
   (have zz:=trivial;repeat((first|clear zz|with_reducible first|refine A3 ?_|refine A5 fun _=>?_|refine A4 fun _=>?_);try simp(disch:=first|omega|assumption|((repeat(first|exact A1|exact uH|apply A2|apply uT));first|done|fail)|(simp;first|done|omega|fail))[]))
   exact A8 (by rw [List.any_eq_true.2 ⟨e, hmem, hb⟩])
  | false =>
   (have zz:=trivial;repeat((first|clear zz|with_reducible first|refine A3 ?_|refine A5 fun _=>?_|refine A4 fun _=>?_);try simp(disch:=first|omega|assumption|((repeat(first|exact A1|exact uH|apply A2|apply uT));first|done|fail)|(simp;first|done|omega|fail))[]))
   refine hL hlt () fun j e' hj he' => ?_
   by_cases h : j < i
   ·exact hpre j e' h he'
   ·obtain rfl : j = i := by omega
    rw [hx] at he'; injection he' with he'; rw [← he']; exact hb
 ·obtain rfl : i = fs.length := by omega
  (have zz:=trivial;repeat((first|clear zz|with_reducible first|refine A3 ?_|refine A5 fun _=>?_|refine A4 fun _=>?_);try simp(disch:=first|omega|assumption|((repeat(first|exact A1|exact uH|apply A2|apply uT));first|done|fail)|(simp;first|done|omega|fail))[]))
  refine A8 ?_
  rw [show fs.any (·.2.2.2) = false from List.any_eq_false.2 fun e he => by
   obtain ⟨j, hj, e'⟩ := List.getElem_of_mem he
   simp [hpre j e hj (by rw [List.getElem?_eq_getElem hj, e'])]]
end Go.Proofs.Ytlplkjgcfjdinaa
namespace Go.Proofs.Ytlplkjgcfjdinaa
open Go
def K4 : SeenV := ⟨s6, ⟨0, G4, [], 0⟩, .slice none 0 0, G4, false⟩
def W3 (ss : List SeenV) (i j : Nat) (p : SeenV → Bool) : Bool := (List.range ss.length).any fun k => decide (i < k) && decide (k < j) && (ss.getD k K4).is && p (ss.getD k K4)
theorem B3N {ss : List SeenV} {i j k : Nat} {p : SeenV → Bool} {x : SeenV} (hx : ss[k]? = some x) (h1 : i < k) (h2 : k < j) (h3 : x.is = true) (h4 : p x = true) : W3 ss i j p = true := by
 unfold W3
 rw [List.any_eq_true]
 have hk := (List.getElem?_eq_some_iff.1 hx).1
 refine ⟨k, List.mem_range.2 hk, ?_⟩
 rw [List.getD_eq_getElem?_getD, hx]
 simp [h1, h2, h3, h4]
theorem B3v {ss : List SeenV} {i j : Nat} {p : SeenV → Bool} (h : ∀ k x, i < k → k < j → ss[k]? = some x → x.is = true → p x = false) : W3 ss i j p = false := by
 unfold W3
 rw [List.any_eq_false]
 intro k hk
 have hk := List.mem_range.1 hk
 have hx := List.getElem?_eq_getElem hk
 rw [List.getD_eq_getElem?_getD, hx]
 simp only [Option.getD_some]
 intro hh
 simp only [Bool.and_eq_true, decide_eq_true_eq] at hh
 rw [h k _ hh.1.1.1 hh.1.1.2 hx hh.1.2] at hh
 simp at hh
theorem A7Z (w : World) (b6 b7 b5 b8 b9 : Nat) (sv : Value) (ss : List SeenV) (i j : Nat) (f : FuncId) (p : SeenV → Bool) (he : B0 PR f) (hss : E9 w sv ss.length (ss.flatMap E5)) (hok : ∀ s ∈ ss, SeenOk s) (hl : ss.length ≤ 1000) (hi : i < 1000) (hj : j ≤ ss.length)
  (h6 : w.cell? ⟨b6, 0, none⟩ = some (.int .i64 (i : Nat))) (h7 : w.cell? ⟨b7, 0, none⟩ = some (.int .i64 (j : Nat))) (h5 : w.cell? ⟨b5, 0, none⟩ = some sv) (h8 : w.cell? ⟨b8, 0, none⟩ = some (.func (.func f) #[] #[.pointer (some ⟨b9, 0, none⟩)]))
  (hf : ∀ x ∈ ss, ∀ w', KS false [] w w' → Fn PR C5 f #[.agg x.cs, .pointer (some ⟨b9, 0, none⟩)] w' (fun v w'' => v = .bool (p x) ∧ B5 [] w' w'')) :
  Fn PR C5 32 #[.pointer (some ⟨b6, 0, none⟩), .pointer (some ⟨b7, 0, none⟩), .pointer (some ⟨b5, 0, none⟩), .pointer (some ⟨b8, 0, none⟩)] w (fun u w' => u = .bool (W3 ss i j p) ∧ B5 [] w w') := by
 refine Fn.pure (A07 (TW.go (κ := false) (S := []) ?_))
 unfold Z3
 obtain ⟨sa, sc, rfl, hr⟩ := hss.form
 (have zz:=trivial;repeat((first|clear zz|with_reducible first|refine A3 ?_|refine A5 fun _=>?_|refine A4 fun _=>?_);try simp(disch:=first|omega|assumption|((repeat(first|exact A1|exact uH|apply A2|apply uT));first|done|fail)|(simp;first|done|omega|fail))[h6]))
 rw [show ((i : Int) + 1) = ((i + 1 : Nat) : Int) by omega]
 refine v7 (fun _ : Nat => []) (fun k => i < k ∧ ∀ m x, i < m → m < k → ss[m]? = some x → x.is = true → p x = false) (fun k => ss.length - k) (i + 1) (fun _ => .bool false) (fun k => .int .i64 (k : Nat)) ⟨by omega, fun m x h1 h2 => by omega⟩ ?_
 rintro k ⟨hk, hpre⟩ L hL
 by_cases hlt : k < j
 ·have hx := List.getElem?_eq_getElem (show k < ss.length by omega)
  obtain ⟨b, o, rfl, hrow⟩ := hr (by omega)
  have h1 := hrow.cellAt (f := E5) (k := 16) (j := 15) (fun _ => rfl) hx rfl
  have h2 := hrow.at (f := E5) (k := 16) (fun _ => rfl) hx
  have hmem := List.getElem_mem (show k < ss.length by omega)
  have hs := hok _ hmem
  have hfx := hf _ hmem
  have hkl : k < ss.length := by omega
  generalize ss[k] = x at *
  obtain ⟨pa, pk, hp⟩ := hs.pv
  have hL' := hL (k + 1)
  simp only [SeenV.cs, E5, hp] at h1 h2 hfx
  cases his : x.is with
  | false =>
   rw [his] at h1 h2
   (have zz:=trivial;repeat((first|clear zz|with_reducible first|refine A3 ?_|refine A5 fun _=>?_|refine A4 fun _=>?_);try simp(disch:=first|omega|assumption|((repeat(first|exact A1|exact uH|apply A2|apply uT));first|done|fail)|(simp;first|done|omega|fail))[h5, h7, hlt, hkl, h1, h2]))
   refine hL' ⟨by omega, fun m y m1 m2 hy hy2 => ?_⟩ (by omega)
   by_cases e : m < k
   ·exact hpre m y m1 e hy hy2
   ·obtain rfl : m = k := by omega
    rw [hx] at hy; injection hy with hy; subst hy; rw [his] at hy2; cases hy2
  | true =>
   rw [his] at h1 h2 hfx
   (have zz:=trivial;repeat((first|clear zz|with_reducible first|refine A3 ?_|refine A5 fun _=>?_|refine A4 fun _=>?_);try simp(disch:=first|omega|assumption|((repeat(first|exact A1|exact uH|apply A2|apply uT));first|done|fail)|(simp;first|done|omega|fail))[h5, h7, h8, hlt, hkl, h1, h2]))
   refine C7 he (fun w' hw' => hfx w' hw'.ks) ?_
   cases hpx : p x with
   | true =>
    (have zz:=trivial;repeat((first|clear zz|with_reducible first|refine A3 ?_|refine A5 fun _=>?_|refine A4 fun _=>?_);try simp(disch:=first|omega|assumption|((repeat(first|exact A1|exact uH|apply A2|apply uT));first|done|fail)|(simp;first|done|omega|fail))[]))
    exact A8 (by rw [B3N hx hk hlt his hpx])
   | false =>
    (have zz:=trivial;repeat((first|clear zz|with_reducible first|refine A3 ?_|refine A5 fun _=>?_|refine A4 fun _=>?_);try simp(disch:=first|omega|assumption|((repeat(first|exact A1|exact uH|apply A2|apply uT));first|done|fail)|(simp;first|done|omega|fail))[]))
    refine hL' ⟨by omega, fun m y m1 m2 hy hy2 => ?_⟩ (by omega)
    by_cases e : m < k
    ·exact hpre m y m1 e hy hy2
    ·obtain rfl : m = k := by omega
     rw [hx] at hy; injection hy with hy; subst hy; exact hpx
 ·have hlt' : ¬ (k : Int) < j := by omega
  (have zz:=trivial;repeat((first|clear zz|with_reducible first|refine A3 ?_|refine A5 fun _=>?_|refine A4 fun _=>?_);try simp(disch:=first|omega|assumption|((repeat(first|exact A1|exact uH|apply A2|apply uT));first|done|fail)|(simp;first|done|omega|fail))[h7, hlt, hlt']))
  exact A8 (by rw [B3v fun m x m1 m2 hx hx2 => hpre m x m1 (by omega) hx hx2])
def A89 (c : CfgV) (ss : List SeenV) (i j : Nat) : Bool :=
 (ss.getD i K4).is && (ss.getD j K4).is && (decide (IntKind.i64.wrap ((ss.getD i K4).r.nw + c.idle) < (ss.getD j K4).r.nw) || j9 (ss.getD i K4).op || W3 ss i j (A1e (ss.getD i K4)) || W3 ss i j (A1u (ss.getD i K4)))
def N7 (c : CfgV) (ss : List SeenV) (f t : Int) : Bool := decide (0 ≤ f) && decide (0 ≤ t) && decide (f < ss.length) && decide (t < ss.length) && A89 c ss f.toNat t.toNat
theorem A8c (w : World) (f : FuncId) (b9 b6 b7 b5 : Nat) : Fn PR C5 31 #[.func (.func f) #[] #[.pointer (some ⟨b9, 0, none⟩)], .pointer (some ⟨b6, 0, none⟩), .pointer (some ⟨b7, 0, none⟩), .pointer (some ⟨b5, 0, none⟩)] w (Rn [] w (fun b u => u = .func (.func 32) #[] #[.pointer (some ⟨b6, 0, none⟩), .pointer (some ⟨b7, 0, none⟩), .pointer (some ⟨b5, 0, none⟩), .pointer (some ⟨b, 0, none⟩)]) fun b => [.pt b (.cells #[.func (.func f) #[] #[.pointer (some ⟨b9, 0, none⟩)]] 87)]) := by
 refine A2J (TW.go (κ := false) (S := []) ?_)
 unfold k9
 (have zz:=trivial;repeat((first|clear zz|with_reducible first|refine A3 ?_|refine A5 fun _=>?_|refine A4 fun _=>?_);try simp(disch:=first|omega|assumption|((repeat(first|exact A1|exact uH|apply A2|apply uT));first|done|fail)|(simp;first|done|omega|fail))[]))
 rename_i b
 exact G7 b rfl (by (repeat' constructor))
theorem A4m (w : World) (c : CfgV) (sv : Value) (ss : List SeenV) (f t : Int) (hss : E9 w sv ss.length (ss.flatMap E5)) (hok : ∀ s ∈ ss, SeenOk s) (hpl : ∀ s ∈ ss, E9 w s.pv s.op.pool.length (s.op.pool.flatMap f9)) (hl : ss.length ≤ 100) :
  Fn PR C5 20 #[c.val, sv, .int .i64 f, .int .i64 t] w (fun u w' => u = .bool (N7 c ss f t) ∧ B5 [] w w') := by
 refine Fn.pure (A3g (TW.go (κ := false) (S := []) ?_))
 unfold A0J
 have hss0 := hss
 obtain ⟨sa, sc, rfl, hr⟩ := hss.form
 simp only [CfgV.val]
 by_cases f0 : f < 0
 ·have hx : N7 c ss f t = false := by unfold N7; rw [decide_eq_false (show ¬ 0 ≤ f by omega)]; simp
  (have zz:=trivial;repeat((first|clear zz|with_reducible first|refine A3 ?_|refine A5 fun _=>?_|refine A4 fun _=>?_);try simp(disch:=first|omega|assumption|((repeat(first|exact A1|exact uH|apply A2|apply uT));first|done|fail)|(simp;first|done|omega|fail))[f0]))
  exact A8 (by rw [hx])
 by_cases t0 : t < 0
 ·have hx : N7 c ss f t = false := by unfold N7; rw [decide_eq_false (show ¬ 0 ≤ t by omega)]; simp
  (have zz:=trivial;repeat((first|clear zz|with_reducible first|refine A3 ?_|refine A5 fun _=>?_|refine A4 fun _=>?_);try simp(disch:=first|omega|assumption|((repeat(first|exact A1|exact uH|apply A2|apply uT));first|done|fail)|(simp;first|done|omega|fail))[f0, t0]))
  exact A8 (by rw [hx])
 obtain ⟨i, rfl⟩ : ∃ i : Nat, f = i := ⟨f.toNat, by omega⟩
 obtain ⟨j, rfl⟩ : ∃ j : Nat, t = j := ⟨t.toNat, by omega⟩
 have f0' : ¬ ((i : Nat) : Int) < 0 := by omega
 have t0' : ¬ ((j : Nat) : Int) < 0 := by omega
 by_cases f1 : ss.length ≤ i
 ·have hx : N7 c ss i j = false := by unfold N7; rw [decide_eq_false (show ¬ (i : Int) < ss.length by omega)]; simp
  have f1' : (ss.length : Int) ≤ i := by omega
  (have zz:=trivial;repeat((first|clear zz|with_reducible first|refine A3 ?_|refine A5 fun _=>?_|refine A4 fun _=>?_);try simp(disch:=first|omega|assumption|((repeat(first|exact A1|exact uH|apply A2|apply uT));first|done|fail)|(simp;first|done|omega|fail))[f0', t0', f1, f1']))
  exact A8 (by rw [hx])
 have f1' : ¬ (ss.length : Int) ≤ i := by omega
 by_cases t1 : ss.length ≤ j
 ·have hx : N7 c ss i j = false := by unfold N7; rw [decide_eq_false (show ¬ (j : Int) < ss.length by omega)]; simp
  have t1' : (ss.length : Int) ≤ j := by omega
  (have zz:=trivial;repeat((first|clear zz|with_reducible first|refine A3 ?_|refine A5 fun _=>?_|refine A4 fun _=>?_);try simp(disch:=first|omega|assumption|((repeat(first|exact A1|exact uH|apply A2|apply uT));first|done|fail)|(simp;first|done|omega|fail))[f0', t0', f1, f1', t1, t1']))
  exact A8 (by rw [hx])
 have t1' : ¬ (ss.length : Int) ≤ j := by omega
 have hil : i < ss.length := by omega
 have hjl : j < ss.length := by omega
 have hxi := List.getElem?_eq_getElem hil
 have hxj := List.getElem?_eq_getElem hjl
 have hx : N7 c ss i j = (ss[i].is && ss[j].is && (decide (IntKind.i64.wrap (ss[i].r.nw + c.idle) < ss[j].r.nw) || j9 ss[i].op || W3 ss i j (A1e ss[i]) || W3 ss i j (A1u ss[i]))) := by
  unfold N7 A89
  rw [Int.toNat_natCast, Int.toNat_natCast, List.getD_eq_getElem?_getD, List.getD_eq_getElem?_getD, hxi, hxj]
  simp [hil, hjl]
 rw [hx]
 obtain ⟨b, o, rfl, hrow⟩ := hr (by omega)
 have hi15 := hrow.cellAt (f := E5) (k := 16) (j := 15) (fun _ => rfl) hxi rfl
 have hj15 := hrow.cellAt (f := E5) (k := 16) (j := 15) (fun _ => rfl) hxj rfl
 have hia := hrow.at (f := E5) (k := 16) (fun _ => rfl) hxi
 have hoi := hok _ (List.getElem_mem hil)
 generalize ss[i] = a at *
 generalize ss[j] = y at *
 cases hai : a.is with
 | false =>
  rw [hai] at hi15
  (have zz:=trivial;repeat((first|clear zz|with_reducible first|refine A3 ?_|refine A5 fun _=>?_|refine A4 fun _=>?_);try simp(disch:=first|omega|assumption|((repeat(first|exact A1|exact uH|apply A2|apply uT));first|done|fail)|(simp;first|done|omega|fail))[f0', t0', f1, f1', t1, t1', hil, hjl, hi15]))
  exact A8 rfl
 | true =>
 rw [hai] at hi15
 cases hyi : y.is with
 | false =>
  rw [hyi] at hj15
  (have zz:=trivial;repeat((first|clear zz|with_reducible first|refine A3 ?_|refine A5 fun _=>?_|refine A4 fun _=>?_);try simp(disch:=first|omega|assumption|((repeat(first|exact A1|exact uH|apply A2|apply uT));first|done|fail)|(simp;first|done|omega|fail))[f0', t0', f1, f1', t1, t1', hil, hjl, hi15, hj15]))
  exact A8 rfl
 | true =>
 rw [hyi] at hj15
 obtain ⟨pa, pk, hp⟩ := hoi.pv
 have hcs : a.cs = (E5 a).toArray := rfl
 rw [E5, hp, hai] at hia
 (have zz:=trivial;repeat((first|clear zz|with_reducible first|refine A3 ?_|refine A5 fun _=>?_|refine A4 fun _=>?_);try simp(disch:=first|omega|assumption|((repeat(first|exact A1|exact uH|apply A2|apply uT));first|done|fail)|(simp;first|done|omega|fail))[f0', t0', f1, f1', t1, t1', hil, hjl, hi15, hj15, hia]))
 rename_i b4 b5 b6 b7 b9
 have hrow9 : ∀ {κ : Bool} {H : List Res} {w1 w' : World}, LW κ [] w1 H w' → Res.pt b9 (.cells #[.int .i64 a.r.th, .int .i64 a.r.op, .int .i64 a.r.st, .int .i64 a.r.tk, .int .i64 a.r.en, .int .i64 a.r.nw, .int .i64 a.r.an.err, .int .i64 a.r.an.bk, .bool a.r.an.made, .int .i64 a.r.an.count, .int .i64 a.op.kind, .string a.op.packet, .slice pa a.op.pool.length pk, .int .i64 a.op.shard, .string a.key, .bool true] 70) ∈ H → F1 w' b9 0 (E5 a) := fun h hm => by rw [E5, hp, hai]; exact B4D h hm
 refine M4 j7 (fun w' _ => A8c w' 36 b9 b6 b7 b5) ?_
 intro bb1 _ hu
 subst hu
 rw [H3 (by (repeat constructor)) (by rfl)]
 (have zz:=trivial;repeat((first|clear zz|with_reducible first|refine A3 ?_|refine A5 fun _=>?_|refine A4 fun _=>?_);try simp(disch:=first|omega|assumption|((repeat(first|exact A1|exact uH|apply A2|apply uT));first|done|fail)|(simp;first|done|omega|fail))[]))
 refine M4 j7 (fun w' _ => A8c w' 37 b9 b6 b7 b5) ?_
 intro bb2 _ hu
 subst hu
 rw [H3 (by (repeat constructor)) (by rfl)]
 refine B5A (hK := fun g => ?_)
 have h2 : ∀ {κ : Bool} {H : List Res} {w' : World}, LW κ [] w H w' → Res.pt b5 (.cells #[.slice (some ⟨b, o, none⟩) ss.length sc] 64) ∈ H → E9 w' (.slice (some ⟨b, o, none⟩) ss.length sc) ss.length (ss.flatMap E5) := fun h _ => hss0.ks h.ks (by simp)
 have hcl := fun w' => A3d w' a hoi
 simp only [SeenV.cs, hp, hai] at hcl
 refine C7 (u := .bool (decide (IntKind.i64.wrap (a.r.nw + c.idle) < y.r.nw) || j9 a.op || W3 ss i j (A1e a) || W3 ss i j (A1u a))) A6G (fun w' hw' => ?_) ?_
 ·have ho := B4P w' g 4 [(34, [], [.pointer (some ⟨b5, 0, none⟩), .pointer (some ⟨b7, 0, none⟩), .pointer (some ⟨b9, 0, none⟩), .pointer (some ⟨b4, 0, none⟩)], decide (IntKind.i64.wrap (a.r.nw + c.idle) < y.r.nw)), (35, [.agg #[.int .i64 a.r.th, .int .i64 a.r.op, .int .i64 a.r.st, .int .i64 a.r.tk, .int .i64 a.r.en, .int .i64 a.r.nw, .int .i64 a.r.an.err, .int .i64 a.r.an.bk, .bool a.r.an.made, .int .i64 a.r.an.count, .int .i64 a.op.kind, .string a.op.packet, .slice pa a.op.pool.length pk, .int .i64 a.op.shard, .string a.key, .bool true]], [], j9 a.op), (32, [], [.pointer (some ⟨b6, 0, none⟩), .pointer (some ⟨b7, 0, none⟩), .pointer (some ⟨b5, 0, none⟩), .pointer (some ⟨bb1, 0, none⟩)], W3 ss i j (A1e a)), (32, [], [.pointer (some ⟨b6, 0, none⟩), .pointer (some ⟨b7, 0, none⟩), .pointer (some ⟨b5, 0, none⟩), .pointer (some ⟨bb2, 0, none⟩)], W3 ss i j (A1u a))] (by simp) ?_ ?_
  ·have e : ([(34, ([] : List Value), ([] : List Value), decide (IntKind.i64.wrap (a.r.nw + c.idle) < y.r.nw)), (0, [], [], j9 a.op), (0, [], [], W3 ss i j (A1e a)), (0, [], [], W3 ss i j (A1u a))] : List (FuncId × List Value × List Value × Bool)).any (·.2.2.2) = (decide (IntKind.i64.wrap (a.r.nw + c.idle) < y.r.nw) || j9 a.op || W3 ss i j (A1e a) || W3 ss i j (A1u a)) := by simp [Bool.or_assoc]
   simp only [List.any_cons, List.any_nil, Bool.or_false] at ho e
   rw [← e]
   exact ho
  ·exact (hw'.ownr (by (repeat constructor)))
  ·intro e he
   simp only [List.mem_cons, List.not_mem_nil, or_false] at he
   rcases he with rfl | rfl | rfl | rfl
   ·refine ⟨A10, fun w'' hk => ?_⟩
    have hw2 := hw'.ext hk
    exact B2q w'' b5 b7 b9 b4 _ ss j y a c (h2 hw2 (by (repeat constructor))) (by omega) hxj (hw2.cell1 (by (repeat constructor))) (hw2.cell1 (by (repeat constructor))) (hrow9 hw2 (by (repeat constructor))) (hw2.cell (o := 3) (by (repeat constructor)) rfl)
   ·exact ⟨Z6, fun w'' hk => hcl w''⟩
   ·refine ⟨Y5, fun w'' hk => ?_⟩
    have hw2 := hw'.ext hk
    refine A7Z w'' b6 b7 b5 bb1 b9 _ ss i j 36 (A1e a) A1c (h2 hw2 (by (repeat constructor))) hok (by omega) (by omega) (by omega) (hw2.cell1 (by (repeat constructor))) (hw2.cell1 (by (repeat constructor))) (hw2.cell1 (by (repeat constructor))) (hw2.cell1 (by (repeat constructor))) fun x hx w3 hk3 => ?_
    have hw3 := hw2.ext hk3
    exact B3K w3 b9 a x (hok x hx) (hrow9 hw3 (by (repeat constructor)))
   ·refine ⟨Y5, fun w'' hk => ?_⟩
    have hw2 := hw'.ext hk
    refine A7Z w'' b6 b7 b5 bb2 b9 _ ss i j 37 (A1u a) A12 (h2 hw2 (by (repeat constructor))) hok (by omega) (by omega) (by omega) (hw2.cell1 (by (repeat constructor))) (hw2.cell1 (by (repeat constructor))) (hw2.cell1 (by (repeat constructor))) (hw2.cell1 (by (repeat constructor))) fun x hx w3 hk3 => ?_
    have hw3 := hw2.ext hk3
    exact B2w w3 b9 a x (hok x hx) (hrow9 hw3 (by (repeat constructor))) ((hpl x hx).ks hw3.ks (by simp))
 ·(have zz:=trivial;repeat((first|clear zz|with_reducible first|refine A3 ?_|refine A5 fun _=>?_|refine A4 fun _=>?_);try simp(disch:=first|omega|assumption|((repeat(first|exact A1|exact uH|apply A2|apply uT));first|done|fail)|(simp;first|done|omega|fail))[]))
  exact A8 (by simp)
end Go.Proofs.Ytlplkjgcfjdinaa
namespace Go.Proofs.Ytlplkjgcfjdinaa
open Go
def N6 (ts : List N5) (x : RecV) : SeenV := if r9 ts x then ⟨x, (A7G ts x).1, (A7G ts x).2, (A30 (A7G ts x).1).1, true⟩ else ⟨x, ⟨0, G4, [], 0⟩, .slice none 0 0, G4, false⟩
def F2 (ts : List N5) (l : List RecV) : List SeenV := (W0 (G1 l) l.length).map fun i => N6 ts (l.getD i s6)
theorem A53 {ts : List N5} {x : RecV} {w : World} (ht : ∀ t ∈ ts, ThRd w t) (hops : ∀ t ∈ ts, t.2.length ≤ 24 ∧ ∀ o ∈ t.2, o.1.packet.size ≤ 100 ∧ o.1.pool.length ≤ 8) : SeenOk (N6 ts x) ∧ E9 w (N6 ts x).pv (N6 ts x).op.pool.length ((N6 ts x).op.pool.flatMap f9) := by
 unfold N6
 cases hop : r9 ts x with
 | false =>
  rw [if_neg (by simp)]
  exact ⟨⟨⟨none, 0, rfl⟩, by show (0 : Nat) < 2 ^ 40; omega, by simp⟩, Or.inl ⟨rfl, rfl, none, 0, rfl⟩⟩
 | true =>
  rw [if_pos rfl]
  obtain ⟨n, q, t, o, hn, hq, htt, ho, hat⟩ := A7l hop
  rw [hat]
  have htm := List.mem_of_getElem? htt
  have hom := List.mem_of_getElem? ho
  have h1 := (hops t htm).2 o hom
  have h2 := (ht t htm).pool o hom
  obtain ⟨a, k, e, _⟩ := h2.form
  exact ⟨⟨⟨a, k, e⟩, by simp only; omega, by simp only; omega⟩, h2⟩
theorem B0m (w : World) (tv lv : Value) (ts : List N5) (l : List RecV) (hr : E9 w tv ts.length (ts.flatMap A11)) (ht : ∀ t ∈ ts, ThRd w t) (hts : ts.length ≤ 1000) (hops : ∀ t ∈ ts, t.2.length ≤ 24 ∧ ∀ o ∈ t.2, o.1.packet.size ≤ 100 ∧ o.1.pool.length ≤ 8) (hl : l.length ≤ 24) (hv : E9 w lv l.length (l.flatMap F9)) :
  Fn PR C5 18 #[tv, lv] w (Rn [] w (fun r u => u = r) fun r => [.own 70 16 r (F2 ts l).length ((F2 ts l).flatMap E5)]) := by
 refine A6z (TW.go (κ := false) (S := []) ?_)
 unfold A2Z
 have hv0 := hv
 obtain ⟨ta, tc, rfl, htr⟩ := hr.form
 obtain ⟨la, lc, rfl, hlr⟩ := hv.form
 refine M4 u0 (fun w' hw' => A4k w' (.slice la l.length lc) l hl (hv0.ks hw'.ks (by simp))) ?_
 intro _ r1 hr1
 subst hr1
 unfold F2
 have hwl : (W0 (G1 l) l.length).length ≤ 24 := by rw [A3k]; have := A4L (G1 l) l.length; omega
 have hwlt : ∀ y ∈ W0 (G1 l) l.length, y < l.length := fun y hy => (A49 hy).1
 generalize W0 (G1 l) l.length = wl at *
 refine A3D (e := 3) (k := 1) (v := r1) (q := wl.length) (xs := H8 wl) (by (repeat constructor)) fun ra rc e => ?_
 subst e
 (have zz:=trivial;repeat((first|clear zz|with_reducible first|refine A3 ?_|refine A5 fun _=>?_|refine A4 fun _=>?_);try simp(disch:=first|omega|assumption|((repeat(first|exact A1|exact uH|apply A2|apply uT));first|done|fail)|(simp;first|done|omega|fail))[]))
 refine A3E 70 16 ?_
 refine q7 wl.length (fun i (x : Option Addr × Nat) => .slice x.1 i x.2) (fun i x => [.own 70 16 (.slice x.1 i x.2) i (((wl.take i).map fun i => N6 ts (l.getD i s6)).flatMap E5), .own 3 1 (.slice ra wl.length rc) wl.length (H8 wl)]) (fun i x => True) (none, 0) trivial ?_ (by simp)
 rintro i ⟨xa, xc⟩ hi _ L hL
 by_cases hlt : i < wl.length
 case neg =>
  obtain rfl : i = wl.length := by omega
  (have zz:=trivial;repeat((first|clear zz|with_reducible first|refine A3 ?_|refine A5 fun _=>?_|refine A4 fun _=>?_);try simp(disch:=first|omega|assumption|((repeat(first|exact A1|exact uH|apply A2|apply uT));first|done|fail)|(simp;first|done|omega|fail))[]))
  refine G7 (.slice xa wl.length xc) rfl ?_
  try rw [List.length_map]
  try rw [List.take_length]
  try simp only [List.getD_eq_getElem?_getD]
  (repeat' constructor)
 have h := hL hlt
 clear hL
 have hkl := hwlt _ (A4J hlt)
 have g1 := K7 hlt
 have hst : ((wl.take (i + 1)).map fun i => N6 ts (l.getD i s6)).flatMap E5 = ((wl.take i).map fun i => N6 ts (l.getD i s6)).flatMap E5 ++ E5 (N6 ts (l.getD (ix wl i) s6)) := by
  unfold ix
  rw [List.take_add_one, List.getElem?_eq_getElem hlt, Option.toList_some, List.map_append, List.map_singleton, List.flatMap_append, List.flatMap_singleton, A1F hlt]
 rw [hst] at h
 generalize ix wl i = k at *
 have hyr : l[k]? = some (l.getD k s6) := by rw [List.getD_eq_getElem?_getD, List.getElem?_eq_getElem hkl]; rfl
 obtain ⟨lb, lo, rfl, hlrow⟩ := hlr (by omega)
 have h1 := hlrow.at (f := F9) (k := 10) (fun _ => rfl) hyr
 rw [F9] at h1
 generalize l.getD k s6 = y at *
 generalize hpre : ((wl.take i).map fun i => N6 ts (l.getD i s6)).flatMap E5 = pre at *
 refine A3F (e := 3) (k := 1) (v := .slice ra wl.length rc) (q := wl.length) (xs := H8 wl) (by (repeat constructor)) (by omega) fun g gc hg => ?_
 cases hg
 obtain ⟨s, hs⟩ : ∃ s, s = N6 ts y := ⟨_, rfl⟩
 rw [← hs] at h
 have hsv : r9 ts y = false → s = ⟨y, ⟨0, G4, [], 0⟩, .slice none 0 0, G4, false⟩ := fun e => by rw [hs]; unfold N6; rw [if_neg (by rw [e]; simp)]
 have hsok : SeenOk s := by rw [hs]; exact (A53 ht hops).1
 obtain ⟨pa, pk, hpv⟩ := hsok.pv
 (have zz:=trivial;repeat((first|clear zz|with_reducible first|refine A3 ?_|refine A5 fun _=>?_|refine A4 fun _=>?_);try simp(disch:=first|omega|assumption|((repeat(first|exact A1|exact uH|apply A2|apply uT));first|done|fail)|(simp;first|done|omega|fail))[-V6, hlt]))
 rw [V6]
 (have zz:=trivial;repeat((first|clear zz|with_reducible first|refine A3 ?_|refine A5 fun _=>?_|refine A4 fun _=>?_);try simp(disch:=first|omega|assumption|((repeat(first|exact A1|exact uH|apply A2|apply uT));first|done|fail)|(simp;first|done|omega|fail))[-V6, hlt]))
 rw [V6]
 (have zz:=trivial;repeat((first|clear zz|with_reducible first|refine A3 ?_|refine A5 fun _=>?_|refine A4 fun _=>?_);try simp(disch:=first|omega|assumption|((repeat(first|exact A1|exact uH|apply A2|apply uT));first|done|fail)|(simp;first|done|omega|fail))[-V6, hlt, g1, hkl, h1]))
 rename_i b8 b9
 refine B5K (Hj := [.pt b9 (.cells s.cs 70), .own 70 16 (.slice xa i xc) i pre, .own 3 1 (.slice (some ⟨g, 0, none⟩) wl.length rc) wl.length (H8 wl)]) ?_ fun J hJ => ?_
 ·simp only [SeenV.cs, hpv]
  (have zz:=trivial;repeat((first|clear zz|with_reducible first|refine A3 ?_|refine A5 fun _=>?_|refine A4 fun _=>?_|refine B9 fun _=>?_|refine C3 (hK:=fun _=>?_)|refine B4 (hK:=fun _=>?_)|refine C0 (hK:=fun _=>?_)|refine C4 (hK:=fun _=>?_)|refine B8 (hK:=fun _=>?_));try simp(disch:=first|omega|assumption|((repeat(first|exact A1|exact uH|apply A2|apply uT));first|done|fail)|(simp;first|done|omega|fail))[]))
  refine A3H (e := 70) (k := 16) (q := i) (r := 1) (xs := pre) (news := E5 s) (by (repeat constructor)) (by simp only [E5, hpv]; exact M8.own (by (repeat constructor))) (by decide) rfl (by simp [E5, hpv]) (by simp only [maxLen]; omega) (by omega) fun a' c' => ?_
  (have zz:=trivial;repeat((first|clear zz|with_reducible first|refine A3 ?_|refine A5 fun _=>?_|refine A4 fun _=>?_);try simp(disch:=first|omega|assumption|((repeat(first|exact A1|exact uH|apply A2|apply uT));first|done|fail)|(simp;first|done|omega|fail))[]))
  exact Sels.tw (by (repeat' constructor)) (h (a', c') trivial)
 have hno : r9 ts y = false → TW false [] w [.pt b9 (.cells #[.int .i64 y.th, .int .i64 y.op, .int .i64 y.st, .int .i64 y.tk, .int .i64 y.en, .int .i64 y.nw, .int .i64 y.an.err, .int .i64 y.an.bk, .bool y.an.made, .int .i64 y.an.count, .int .i64 0, .string G4, .slice none 0 0, .int .i64 0, .string G4, .bool false] 70), .own 70 16 (.slice xa i xc) i pre, .own 3 1 (.slice (some ⟨g, 0, none⟩) wl.length rc) wl.length (H8 wl)] J := fun e => by
  have e1 := hsv e
  rw [e1] at hJ
  exact hJ
 by_cases t0 : y.th < 0
 ·have t1 : ¬ 0 ≤ y.th := by omega
  have h := hno (B0j t0)
  (have zz:=trivial;repeat((first|clear zz|with_reducible first|refine A3 ?_|refine A5 fun _=>?_|refine A4 fun _=>?_);try simp(disch:=first|omega|assumption|((repeat(first|exact A1|exact uH|apply A2|apply uT));first|done|fail)|(simp;first|done|omega|fail))[t0, t1]))
  exact Sels.tw (by (repeat' constructor)) h
 have t1 : 0 ≤ y.th := by omega
 by_cases t2 : (ts.length : Int) ≤ y.th
 ·have t3 : ¬ y.th < ts.length := by omega
  have h := hno (B0w t2)
  (have zz:=trivial;repeat((first|clear zz|with_reducible first|refine A3 ?_|refine A5 fun _=>?_|refine A4 fun _=>?_);try simp(disch:=first|omega|assumption|((repeat(first|exact A1|exact uH|apply A2|apply uT));first|done|fail)|(simp;first|done|omega|fail))[t0, t1, t2, t3]))
  exact Sels.tw (by (repeat' constructor)) h
 have t3 : y.th < ts.length := by omega
 obtain ⟨n, hn⟩ : ∃ n : Nat, y.th = n := ⟨y.th.toNat, by omega⟩
 have hnl : n < ts.length := by omega
 have n2 : y.th.toNat = n := by omega
 have htt := List.getElem?_eq_getElem hnl
 have htm := List.getElem_mem hnl
 generalize ts[n] = t at *
 obtain ⟨tb, tof, rfl, htrow⟩ := htr (by omega)
 have ht1 := htrow.cellAt (f := A11) (k := 1) (j := 0) (fun _ => rfl) htt rfl
 rw [Nat.mul_one, Nat.add_zero] at ht1
 obtain ⟨oa, oc, hte, hor⟩ := (ht t htm).rd.form
 rw [hte] at ht1
 have hio := A8j hn htt
 have hop1 := (hops t htm).1
 by_cases q0 : 0 ≤ y.op
 case neg =>
  have h := hno (by rw [hio, decide_eq_false q0, Bool.false_and])
  (have zz:=trivial;repeat((first|clear zz|with_reducible first|refine A3 ?_|refine A5 fun _=>?_|refine A4 fun _=>?_);try simp(disch:=first|omega|assumption|((repeat(first|exact A1|exact uH|apply A2|apply uT));first|done|fail)|(simp;first|done|omega|fail))[t0, t1, t2, t3, n2, hnl, ht1, q0]))
  exact Sels.tw (by (repeat' constructor)) h
 by_cases q1 : y.op < (t.2.length : Nat)
 case neg =>
  have h := hno (by rw [hio, decide_eq_false q1, Bool.and_false])
  (have zz:=trivial;repeat((first|clear zz|with_reducible first|refine A3 ?_|refine A5 fun _=>?_|refine A4 fun _=>?_);try simp(disch:=first|omega|assumption|((repeat(first|exact A1|exact uH|apply A2|apply uT));first|done|fail)|(simp;first|done|omega|fail))[t0, t1, t2, t3, n2, hnl, ht1, q0, q1]))
  exact Sels.tw (by (repeat' constructor)) h
 have hop : r9 ts y = true := by rw [hio, decide_eq_true q0, decide_eq_true q1]; rfl
 obtain ⟨n', q, t', o, hn', hq, htt', ho, hat⟩ := A7l hop
 obtain rfl : n' = n := by omega
 rw [htt] at htt'
 obtain rfl : t = t' := Option.some.inj htt'
 have hs1 : s = ⟨y, o.1, o.2, (A30 o.1).1, true⟩ := by rw [hs]; unfold N6; rw [if_pos hop, hat]
 have hom := List.mem_of_getElem? ho
 have hql := (List.getElem?_eq_some_iff.1 ho).1
 have q2 : y.op.toNat = q := by omega
 obtain ⟨ob, oo, rfl, horow⟩ := hor (by omega)
 have ho1 := horow.at (f := A21) (k := 4) (fun _ => rfl) ho
 have hop2 := (hops t htm).2 o hom
 rw [hs1] at hpv
 simp only at hpv
 rw [A21, hpv] at ho1
 rw [hs1] at hJ
 simp only [SeenV.cs, hpv] at hJ
 (have zz:=trivial;repeat((first|clear zz|with_reducible first|refine A3 ?_|refine A5 fun _=>?_|refine A4 fun _=>?_);try simp(disch:=first|omega|assumption|((repeat(first|exact A1|exact uH|apply A2|apply uT));first|done|fail)|(simp;first|done|omega|fail))[t0, t1, t2, t3, n2, hnl, ht1, q0, q1, q2, hql, ho1]))
 refine C7 r8 (fun w' _ => by have := A5L w' o.1 pa o.1.pool.length pk (by omega); rw [OpV.val] at this; exact this) ?_
 (have zz:=trivial;repeat((first|clear zz|with_reducible first|refine A3 ?_|refine A5 fun _=>?_|refine A4 fun _=>?_);try simp(disch:=first|omega|assumption|((repeat(first|exact A1|exact uH|apply A2|apply uT));first|done|fail)|(simp;first|done|omega|fail))[]))
 exact Sels.tw (by (repeat' constructor)) hJ
end Go.Proofs.Ytlplkjgcfjdinaa
namespace Go.Proofs.Ytlplkjgcfjdinaa
open Go
def A45 (key : ByteArray) : List SeenV → Nat → Option Nat
 | [], _ => none
 | s :: l, j => if M2 s && decide (s.key = key) then some j else A45 key l (j + 1)
def v6 (ss : List SeenV) (j : Nat) (key : ByteArray) : Option Nat := A45 key (ss.drop j) j
def G8 (ss : List SeenV) (i : Nat) : Nat := if M2 (ss.getD i K4) then (v6 ss (i + 1) (ss.getD i K4).key).getD 0 else 0
def a8 (ss : List SeenV) : List Nat := (List.range ss.length).map (G8 ss)
def z8 (ss : List SeenV) (n : Nat) : List Nat := List.replicate n 0 ++ (a8 ss).drop n
theorem A2T (ss : List SeenV) : (a8 ss).length = ss.length := by simp [a8]
theorem A7v {ss : List SeenV} {i : Nat} (h : i < ss.length) : (a8 ss)[i]? = some (G8 ss i) := by simp [a8, h]
theorem B3D {ss : List SeenV} {n : Nat} (h : n ≤ ss.length) : (z8 ss n).length = ss.length := by simp [z8, A2T]; omega
theorem B25 (ss : List SeenV) : z8 ss ss.length = List.replicate ss.length 0 := by
 unfold z8; rw [List.drop_of_length_le (by rw [A2T]; exact Nat.le_refl _), List.append_nil]
theorem B2C (ss : List SeenV) : z8 ss 0 = a8 ss := by simp [z8]
theorem A7y {ss : List SeenV} {n : Nat} (h : n < ss.length) : z8 ss n = (z8 ss (n + 1)).set n (G8 ss n) := by
 unfold z8
 have h1 : n < (a8 ss).length := by rw [A2T]; exact h
 have h2 : (a8 ss)[n] = G8 ss n := by
  have := A7v h
  rw [List.getElem?_eq_getElem h1] at this
  exact Option.some.inj this
 rw [List.drop_eq_getElem_cons h1, h2, List.replicate_succ', List.append_assoc, List.singleton_append, List.set_append_right _ _ (by simp), List.length_replicate, Nat.sub_self, List.set_cons_zero]
theorem B2U {ss : List SeenV} {n : Nat} (h : n < ss.length) (h0 : G8 ss n = 0) : z8 ss n = z8 ss (n + 1) := by
 rw [A7y h, h0]
 apply List.ext_getElem (by simp)
 intro i h1 h2
 rw [List.getElem_set]
 split
 ·rename_i e
  subst e
  have : n < (List.replicate (n + 1) 0 : List Nat).length := by simp
  simp [z8, List.getElem_append_left this]
 ·rfl
theorem A8s {ss : List SeenV} {n : Nat} {s : SeenV} (hx : ss[n]? = some s) (key : ByteArray) : v6 ss n key = if M2 s && decide (s.key = key) then some n else v6 ss (n + 1) key := by
 obtain ⟨h, rfl⟩ := List.getElem?_eq_some_iff.1 hx
 unfold v6
 rw [List.drop_eq_getElem_cons h, A45]
theorem B1J {ss : List SeenV} (key : ByteArray) : v6 ss ss.length key = none := by unfold v6; rw [List.drop_length]; rfl
theorem A86 {key : ByteArray} {l : List SeenV} : ∀ {j k : Nat}, A45 key l j = some k → j ≤ k ∧ k < j + l.length ∧ ∃ s, l[k - j]? = some s ∧ M2 s = true ∧ s.key = key := by
 induction l with
 | nil => intro j k h; cases h
 | cons s l ih =>
  intro j k h
  rw [A45] at h
  split at h
  ·rename_i hc
   injection h with h
   subst h
   rw [Bool.and_eq_true, decide_eq_true_eq] at hc
   exact ⟨Nat.le_refl _, by simp, s, by simp, hc.1, hc.2⟩
  ·obtain ⟨h1, h2, s', h3, h4⟩ := ih h
   refine ⟨by omega, by simp only [List.length_cons]; omega, s', ?_, h4⟩
   rw [show k - j = (k - (j + 1)) + 1 by omega]
   simpa using h3
theorem A82 {ss : List SeenV} {i : Nat} (hi : i < ss.length) (h : 0 < G8 ss i) : i < G8 ss i ∧ G8 ss i < ss.length ∧ M2 (ss.getD i K4) = true ∧ M2 (ss.getD (G8 ss i) K4) = true := by
 unfold G8 at h ⊢
 split at h
 case isFalse => omega
 rename_i hc
 rw [if_pos hc]
 cases hl : v6 ss (i + 1) (ss.getD i K4).key with
 | none => rw [hl] at h; simp at h
 | some k =>
  simp only [Option.getD_some]
  obtain ⟨h1, h2, s, h3, h4, _⟩ := A86 hl
  rw [List.length_drop] at h2
  refine ⟨by omega, by omega, hc, ?_⟩
  rw [List.getElem?_drop, show i + 1 + (k - (i + 1)) = k by omega] at h3
  rw [List.getD_eq_getElem?_getD, h3]
  exact h4
def U6 (ss : List SeenV) (n : Nat) : List (Nat × Nat) := ((List.range n).map fun i => (i, G8 ss i)).filter fun p => decide (0 < p.2)
def W1 (ss : List SeenV) : List (Nat × Nat) := U6 ss ss.length
theorem A0v (ss : List SeenV) (n : Nat) : U6 ss (n + 1) = if 0 < G8 ss n then U6 ss n ++ [(n, G8 ss n)] else U6 ss n := by
 unfold U6
 rw [List.range_succ, List.map_append, List.filter_append]
 by_cases h : 0 < G8 ss n <;> simp [h]
theorem A9K (ss : List SeenV) {m n : Nat} (h : m ≤ n) : ∃ t, U6 ss n = U6 ss m ++ t := by
 induction n with
 | zero =>
  obtain rfl : m = 0 := by omega
  exact ⟨[], by simp⟩
 | succ n ih =>
  by_cases e : m = n + 1
  ·subst e; exact ⟨[], by simp⟩
  ·obtain ⟨t, ht⟩ := ih (by omega)
   rw [A0v, ht]
   split
   ·exact ⟨t ++ [(n, G8 ss n)], by simp⟩
   ·exact ⟨t, rfl⟩
theorem B00 {ss : List SeenV} {i n : Nat} (h : i < n) (h0 : 0 < G8 ss i) : (U6 ss n)[(U6 ss i).length]? = some (i, G8 ss i) := by
 obtain ⟨t, ht⟩ := A9K ss (show i + 1 ≤ n by omega)
 rw [ht, A0v, if_pos h0, List.append_assoc, List.getElem?_append_right (Nat.le_refl _)]
 simp
theorem A2u {ss : List SeenV} {p : Nat × Nat} (h : p ∈ W1 ss) : p.1 < p.2 ∧ p.2 < ss.length ∧ M2 (ss.getD p.1 K4) = true ∧ M2 (ss.getD p.2 K4) = true := by
 unfold W1 U6 at h
 rw [List.mem_filter, decide_eq_true_eq] at h
 obtain ⟨h1, h2⟩ := h
 obtain ⟨i, hi, rfl⟩ := List.mem_map.1 h1
 have hi := List.mem_range.1 hi
 exact A82 hi h2
def Y8 (c : CfgV) (ss : List SeenV) (p : Nat × Nat) : Bool := !decide ((ss.getD p.1 K4).r.an.bk = (ss.getD p.2 K4).r.an.bk) && !N7 c ss p.1 p.2
def x9 (c : CfgV) (ss : List SeenV) : List (Nat × Nat) := (W1 ss).filter (Y8 c ss)
end Go.Proofs.Ytlplkjgcfjdinaa
namespace Go.Proofs.Ytlplkjgcfjdinaa
open Go
theorem B4y (n : Nat) : (Builtin.zeroCells (Value.int .i64 0).cells n).toList = H8 (List.replicate n 0) := by
 have hz : (Builtin.zeroCells (Value.int .i64 0).cells n).toList.length = n := by simp [size_zeroCells]
 apply List.ext_getElem (by rw [hz]; simp [H8])
 intro i h1 h2
 simp [Builtin.zeroCells, H8, Nat.mod_one]
theorem B2K (o : Option Nat) : (o.map fun k => Value.int .i64 (k : Nat)).getD (.int .i64 0) = .int .i64 ((o.getD 0 : Nat) : Int) := by cases o <;> rfl
abbrev B0L (b : Nat) : Value := .func (.func 30) #[] #[.pointer (some ⟨b, 0, none⟩)]
theorem B1d (w : World) (sv : Value) (ss : List SeenV) (hss : E9 w sv ss.length (ss.flatMap E5)) (hok : ∀ s ∈ ss, SeenOk s) (hl : ss.length ≤ 100) :
  Fn PR C5 19 #[sv] w (Rn [] w (fun (x : Nat × Nat × Nat) u => u = B0L x.1) fun x => [.pt x.1 (.cells #[.slice (some ⟨x.2.1, 0, none⟩) ss.length x.2.2] 37), OI x.2.1 ss.length x.2.2 (a8 ss)]) := by
 refine A5g (TW.go (κ := false) (S := []) ?_)
 unfold A1Y
 obtain ⟨sa, sc, rfl, hr⟩ := hss.form
 (have zz:=trivial;repeat((first|clear zz|with_reducible first|refine A3 ?_|refine A5 fun _=>?_|refine A4 fun _=>?_);try simp(disch:=first|omega|assumption|((repeat(first|exact A1|exact uH|apply A2|apply uT));first|done|fail)|(simp;first|done|omega|fail))[]))
 refine B32 (by omega) (by omega) (by omega) (by omega) fun g => ?_
 rw [Int.toNat_natCast, B4y]
 (have zz:=trivial;repeat((first|clear zz|with_reducible first|refine A3 ?_|refine A5 fun _=>?_|refine A4 fun _=>?_);try simp(disch:=first|omega|assumption|((repeat(first|exact A1|exact uH|apply A2|apply uT));first|done|fail)|(simp;first|done|omega|fail))[]))
 rename_i b3
 refine A8m Value.string fun m => ?_
 (have zz:=trivial;repeat((first|clear zz|with_reducible first|refine A3 ?_|refine A5 fun _=>?_|refine A4 fun _=>?_);try simp(disch:=first|omega|assumption|((repeat(first|exact A1|exact uH|apply A2|apply uT));first|done|fail)|(simp;first|done|omega|fail))[]))
 rw [← B25]
 refine Sels.tw (rs := [OI g ss.length ss.length (z8 ss ss.length), .pt m (U3 Value.string []), .pt b3 (.cells #[.slice (some ⟨g, 0, none⟩) ss.length ss.length] 37)]) (by (repeat' constructor)) ?_
 refine A13 (fun z : Nat × List (ByteArray × Value) => [OI g ss.length ss.length (z8 ss z.1), .pt m (U3 Value.string z.2), .pt b3 (.cells #[.slice (some ⟨g, 0, none⟩) ss.length ss.length] 37)]) (fun z => z.1 ≤ ss.length ∧ ∀ key, V3 key z.2 = (v6 ss z.1 key).map fun k => .int .i64 (k : Nat)) (fun z => z.1) (ss.length, []) (fun z => .int .i64 ((z.1 : Nat) - 1 : Int)) ⟨Nat.le_refl _, fun key => by rw [B1J]; rfl⟩ ?_
 rintro ⟨n, M⟩ ⟨hn, hM⟩ L hL
 simp only at hn hM hL ⊢
 cases n with
 | zero =>
  rw [B2C]
  (have zz:=trivial;repeat((first|clear zz|with_reducible first|refine A3 ?_|refine A5 fun _=>?_|refine A4 fun _=>?_);try simp(disch:=first|omega|assumption|((repeat(first|exact A1|exact uH|apply A2|apply uT));first|done|fail)|(simp;first|done|omega|fail))[]))
  exact G7 (b3, g, ss.length) rfl (by (repeat' constructor))
 | succ n =>
  have e1 : (((n + 1 : Nat) : Int) - 1) = (n : Nat) := by omega
  rw [e1]
  have hnl : n < ss.length := by omega
  have hx := List.getElem?_eq_getElem hnl
  have hs := hok _ (List.getElem_mem hnl)
  have hnw : G8 ss n = if M2 ss[n] then (v6 ss (n + 1) ss[n].key).getD 0 else 0 := by unfold G8; rw [List.getD_eq_getElem?_getD, hx]; rfl
  have hlw := fun key => A8s hx key
  obtain ⟨b, o, rfl, hrow⟩ := hr (by omega)
  have h1 := hrow.at (f := E5) (k := 16) (fun _ => rfl) hx
  have h2 := hrow.cellAt (f := E5) (k := 16) (j := 14) (fun _ => rfl) hx rfl
  generalize ss[n] = x at *
  obtain ⟨pa, pk, hp⟩ := hs.pv
  have hct := fun w' => B0D w' x hs
  rw [E5, hp] at h1
  simp only [SeenV.cs, hp] at hct
  have hlen := B3D (show n + 1 ≤ ss.length by omega)
  have hL' := fun M' => hL (n, M')
  simp only at hL'
  clear hL
  (have zz:=trivial;repeat((first|clear zz|with_reducible first|refine A3 ?_|refine A5 fun _=>?_|refine A4 fun _=>?_);try simp(disch:=first|omega|assumption|((repeat(first|exact A1|exact uH|apply A2|apply uT));first|done|fail)|(simp;first|done|omega|fail))[-V6]))
  rw [V6]
  (have zz:=trivial;repeat((first|clear zz|with_reducible first|refine A3 ?_|refine A5 fun _=>?_|refine A4 fun _=>?_);try simp(disch:=first|omega|assumption|((repeat(first|exact A1|exact uH|apply A2|apply uT));first|done|fail)|(simp;first|done|omega|fail))[-V6]))
  rw [V6]
  (have zz:=trivial;repeat((first|clear zz|with_reducible first|refine A3 ?_|refine A5 fun _=>?_|refine A4 fun _=>?_);try simp(disch:=first|omega|assumption|((repeat(first|exact A1|exact uH|apply A2|apply uT));first|done|fail)|(simp;first|done|omega|fail))[-V6, hnl, h1]))
  rw [V6]
  (have zz:=trivial;repeat((first|clear zz|with_reducible first|refine A3 ?_|refine A5 fun _=>?_|refine A4 fun _=>?_);try simp(disch:=first|omega|assumption|((repeat(first|exact A1|exact uH|apply A2|apply uT));first|done|fail)|(simp;first|done|omega|fail))[-V6, hnl, h1]))
  refine C7 A1W (fun w' _ => hct w') ?_
  cases hc : M2 x with
  | false =>
   rw [hc] at hnw hlw
   have h := hL' M ⟨by omega, fun key => by rw [hM, hlw]; rfl⟩ (by omega)
   rw [B2U hnl hnw] at h
   (have zz:=trivial;repeat((first|clear zz|with_reducible first|refine A3 ?_|refine A5 fun _=>?_|refine A4 fun _=>?_);try simp(disch:=first|omega|assumption|((repeat(first|exact A1|exact uH|apply A2|apply uT));first|done|fail)|(simp;first|done|omega|fail))[]))
   exact Sels.tw (by (repeat' constructor)) h
  | true =>
   rw [hc] at hnw hlw
   simp only [if_true] at hnw
   have h := hL' (S7 x.key (.int .i64 (n : Nat)) M) ⟨by omega, fun key => by
    rw [B1B, hM, hlw]
    by_cases e : key = x.key
    ·subst e; simp
    ·have e' : ¬ x.key = key := fun h => e h.symm
     simp [e, e']⟩ (by omega)
   rw [A7y hnl] at h
   (have zz:=trivial;repeat((first|clear zz|with_reducible first|refine A3 ?_|refine A5 fun _=>?_|refine A4 fun _=>?_);try simp(disch:=first|omega|assumption|((repeat(first|exact A1|exact uH|apply A2|apply uT));first|done|fail)|(simp;first|done|omega|fail))[hnl, h2]))
   rw [A36 B4Q H5 (KeyT.string Z4) (l := M) (by (repeat constructor)), hM, B2K, ← hnw]
   generalize G8 ss n = nw at *
   generalize z8 ss (n + 1) = q at *
   (have zz:=trivial;repeat((first|clear zz|with_reducible first|refine A3 ?_|refine A5 fun _=>?_|refine A4 fun _=>?_);try simp(disch:=first|omega|assumption|((repeat(first|exact A1|exact uH|apply A2|apply uT));first|done|fail)|(simp;first|done|omega|fail))[hnl, hlen]))
   refine B3G (r := OI g ss.length ss.length q) (by repeat (first | exact Sel.here | apply Sel.there)) ?_
   refine g7 (y := nw) (by omega) ?_
   (have zz:=trivial;repeat((first|clear zz|with_reducible first|refine A3 ?_|refine A5 fun _=>?_|refine A4 fun _=>?_);try simp(disch:=first|omega|assumption|((repeat(first|exact A1|exact uH|apply A2|apply uT));first|done|fail)|(simp;first|done|omega|fail))[hnl, h2]))
   refine A3j B4Q (KeyT.string Z4) (k := x.key) (by (repeat constructor)) ?_
   (have zz:=trivial;repeat((first|clear zz|with_reducible first|refine A3 ?_|refine A5 fun _=>?_|refine A4 fun _=>?_);try simp(disch:=first|omega|assumption|((repeat(first|exact A1|exact uH|apply A2|apply uT));first|done|fail)|(simp;first|done|omega|fail))[]))
   exact Sels.tw (by (repeat' constructor)) h
end Go.Proofs.Ytlplkjgcfjdinaa
namespace Go.Proofs.Ytlplkjgcfjdinaa
open Go
def A4e (p : Nat × Nat) : List Value := [.agg #[.int .i64 (p.1 : Nat), .int .i64 (p.2 : Nat)]]
def A2e (p : Nat × Nat) : List Value := [.int .i64 (p.1 : Nat), .int .i64 (p.2 : Nat)]
theorem A97 (l : List (Nat × Nat)) : ∀ x ∈ l.map A4e, x.length = 1 := by
 intro x hx
 obtain ⟨p, _, rfl⟩ := List.mem_map.1 hx
 rfl
theorem B1r (b g c : Nat) (ss : List SeenV) (hl : ss.length ≤ 100) : A6c (B0L b) [.pt b (.cells #[.slice (some ⟨g, 0, none⟩) ss.length c] 37), OI g ss.length c (a8 ss)] (fun _ _ => True) ((W1 ss).map A4e) := by
 refine ⟨_, _, _, rfl, fun y J E hJ hE stJ stE hy w0 h0 => ?_⟩
 refine A3P (A3S (TW.at (κ := true) ?_ (hJ _ _ _ h0).1))
 unfold u5
 (have zz:=trivial;repeat((first|clear zz|with_reducible first|refine A3 ?_|refine A5 fun _=>?_|refine A4 fun _=>?_);try simp(disch:=first|omega|assumption|((repeat(first|exact A1|exact uH|apply A2|apply uT));first|done|fail)|(simp;first|done|omega|fail))[]))
 refine B0y ss.length (fun i => (U6 ss i).length) (fun _ => _) hJ stJ (by simpa [U6] using h0) fun i a hi hJi hRi L hL => ?_
 by_cases hlt : i < ss.length
 ·have g1 : (H8 (a8 ss))[i]? = some (.int .i64 (G8 ss i : Nat)) := by
   unfold H8; rw [List.getElem?_map, A7v hlt]; rfl
  have hsu := A0v ss i
  have hlen : ((W1 ss).map A4e).length = (W1 ss).length := by simp
  by_cases c1 : 0 < G8 ss i
  ·have hat := B00 hlt c1
   rw [if_pos c1] at hsu
   obtain ⟨h1, h2⟩ := List.getElem?_eq_some_iff.1 hat
   rw [hsu, List.length_append, List.length_singleton] at hL
   (have zz:=trivial;repeat((first|clear zz|with_reducible first|refine A3 ?_|refine A5 fun _=>?_|refine A4 fun _=>?_);try simp(disch:=first|omega|assumption|((repeat(first|exact A1|exact uH|apply A2|apply uT));first|done|fail)|(simp;first|done|omega|fail))[hlt, g1, c1, bd2]))
   refine A8x hJ hE stJ hy hJi (by rw [hlen]; exact h1) (by rw [List.getElem_map]; exact congrArg A4e h2) (fun w3 h => ?_) (fun w3 h => ?_)
   ·(have zz:=trivial;repeat((first|clear zz|with_reducible first|refine A3 ?_|refine A5 fun _=>?_|refine A4 fun _=>?_);try simp(disch:=first|omega|assumption|((repeat(first|exact A1|exact uH|apply A2|apply uT));first|done|fail)|(simp;first|done|omega|fail))[c1]))
    exact fun w' hw' => hL hlt w' (stJ _ _ _ _ _ h hw')
   ·(have zz:=trivial;repeat((first|clear zz|with_reducible first|refine A3 ?_|refine A5 fun _=>?_|refine A4 fun _=>?_);try simp(disch:=first|omega|assumption|((repeat(first|exact A1|exact uH|apply A2|apply uT));first|done|fail)|(simp;first|done|omega|fail))[c1]))
    exact A7e stE h
  ·rw [if_neg c1] at hsu
   rw [hsu] at hL
   (have zz:=trivial;repeat((first|clear zz|with_reducible first|refine A3 ?_|refine A5 fun _=>?_|refine A4 fun _=>?_);try simp(disch:=first|omega|assumption|((repeat(first|exact A1|exact uH|apply A2|apply uT));first|done|fail)|(simp;first|done|omega|fail))[hlt, g1, c1]))
   exact fun w' hw' => hL hlt w' (stJ _ _ _ _ _ hJi hw')
 ·obtain rfl : i = ss.length := by omega
  (have zz:=trivial;repeat((first|clear zz|with_reducible first|refine A3 ?_|refine A5 fun _=>?_|refine A4 fun _=>?_);try simp(disch:=first|omega|assumption|((repeat(first|exact A1|exact uH|apply A2|apply uT));first|done|fail)|(simp;first|done|omega|fail))[]))
  refine A7m stJ ?_
  simpa [W1] using hJi
theorem A3s (ts : List N5) (l : List RecV) : (F2 ts l).length ≤ l.length := by
 unfold F2; rw [List.length_map, A3k]; exact A4L _ _
theorem A8f {ts : List N5} {l : List RecV} {w : World} (ht : ∀ t ∈ ts, ThRd w t) (hops : ∀ t ∈ ts, t.2.length ≤ 24 ∧ ∀ o ∈ t.2, o.1.packet.size ≤ 100 ∧ o.1.pool.length ≤ 8) : ∀ s ∈ F2 ts l, SeenOk s ∧ E9 w s.pv s.op.pool.length (s.op.pool.flatMap f9) := by
 intro s hs
 unfold F2 at hs
 obtain ⟨i, _, rfl⟩ := List.mem_map.1 hs
 exact A53 ht hops
theorem A43 (w : World) (c : CfgV) (tv lv : Value) (ts : List N5) (l : List RecV) (f t : Int) (hr : E9 w tv ts.length (ts.flatMap A11)) (ht : ∀ t ∈ ts, ThRd w t) (hts : ts.length ≤ 1000) (hops : ∀ t ∈ ts, t.2.length ≤ 24 ∧ ∀ o ∈ t.2, o.1.packet.size ≤ 100 ∧ o.1.pool.length ≤ 8) (hl : l.length ≤ 24) (hv : E9 w lv l.length (l.flatMap F9)) :
  Fn PR C5 12 #[c.val, tv, lv, .int .i64 f, .int .i64 t] w (fun u w' => u = .bool (N7 c (F2 ts l) f t) ∧ B5 [] w w') := by
 refine Fn.pure (A4B (TW.go (κ := false) (S := []) ?_))
 unfold A0E
 simp only [CfgV.val]
 (have zz:=trivial;repeat((first|clear zz|with_reducible first|refine A3 ?_|refine A5 fun _=>?_|refine A4 fun _=>?_);try simp(disch:=first|omega|assumption|((repeat(first|exact A1|exact uH|apply A2|apply uT));first|done|fail)|(simp;first|done|omega|fail))[]))
 refine M4 A17 (fun w' hw' => B0m w' tv lv ts l (hr.ks hw'.ks (by simp)) (fun t ht' => ⟨(ht t ht').rd.ks hw'.ks (by simp), fun o ho => ((ht t ht').pool o ho).ks hw'.ks (by simp), (ht t ht').len⟩) hts hops hl (hv.ks hw'.ks (by simp))) ?_
 intro _ r hu
 subst hu
 have hall := A8f (l := l) ht hops
 have hlen := A3s ts l
 generalize F2 ts l = ss at *
 rw [H3 (by (repeat constructor)) (by rfl)]
 refine C7 s8 (fun w' hw' => A4m w' c _ ss f t (M8.own (e := 70) (k := 16) (by (repeat constructor)) w' hw') (fun s hs => (hall s hs).1) (fun s hs => (hall s hs).2.ks hw'.ks (by simp)) (by omega)) ?_
 (have zz:=trivial;repeat((first|clear zz|with_reducible first|refine A3 ?_|refine A5 fun _=>?_|refine A4 fun _=>?_);try simp(disch:=first|omega|assumption|((repeat(first|exact A1|exact uH|apply A2|apply uT));first|done|fail)|(simp;first|done|omega|fail))[]))
 exact A8 rfl
theorem A5n (w : World) (c : CfgV) (tv lv : Value) (ts : List N5) (l : List RecV) (hr : E9 w tv ts.length (ts.flatMap A11)) (ht : ∀ t ∈ ts, ThRd w t) (hts : ts.length ≤ 1000) (hops : ∀ t ∈ ts, t.2.length ≤ 24 ∧ ∀ o ∈ t.2, o.1.packet.size ≤ 100 ∧ o.1.pool.length ≤ 8) (hl : l.length ≤ 24) (hv : E9 w lv l.length (l.flatMap F9)) :
  Fn PR C5 10 #[c.val, tv, lv] w (Rn [] w (fun r u => u = r) fun r => [.own 39 2 r (x9 c (F2 ts l)).length ((x9 c (F2 ts l)).flatMap A2e)]) := by
 refine A4K (TW.go (κ := false) (S := []) ?_)
 unfold A0e
 simp only [CfgV.val]
 (have zz:=trivial;repeat((first|clear zz|with_reducible first|refine A3 ?_|refine A5 fun _=>?_|refine A4 fun _=>?_);try simp(disch:=first|omega|assumption|((repeat(first|exact A1|exact uH|apply A2|apply uT));first|done|fail)|(simp;first|done|omega|fail))[]))
 rename_i b3
 refine M4 A17 (fun w' hw' => B0m w' tv lv ts l (hr.ks hw'.ks (by simp)) (fun t ht' => ⟨(ht t ht').rd.ks hw'.ks (by simp), fun o ho => ((ht t ht').pool o ho).ks hw'.ks (by simp), (ht t ht').len⟩) hts hops hl (hv.ks hw'.ks (by simp))) ?_
 intro _ r hu
 subst hu
 have hall := A8f (l := l) ht hops
 have hlen := A3s ts l
 generalize F2 ts l = ss at *
 refine A3D (e := 70) (k := 16) (v := r) (q := ss.length) (xs := ss.flatMap E5) (by (repeat constructor)) fun sa sc e => ?_
 subst e
 (have zz:=trivial;repeat((first|clear zz|with_reducible first|refine A3 ?_|refine A5 fun _=>?_|refine A4 fun _=>?_);try simp(disch:=first|omega|assumption|((repeat(first|exact A1|exact uH|apply A2|apply uT));first|done|fail)|(simp;first|done|omega|fail))[]))
 rename_i b7 b8
 refine M4 A4d (fun w' hw' => B1d w' (.slice sa ss.length sc) ss (M8.own (e := 70) (k := 16) (by (repeat constructor)) w' hw') (fun s hs => (hall s hs).1) (by omega)) ?_
 rintro ⟨bp, g, gc⟩ _ hu
 subst hu
 simp only
 refine A3E 39 2 ?_
 have hit := B1r bp g gc ss (by omega)
 have hpm : ∀ p ∈ W1 ss, p.1 < p.2 ∧ p.2 < ss.length := fun p hp => ⟨(A2u hp).1, (A2u hp).2.1⟩
 unfold x9
 have hpl : (W1 ss).length ≤ 100 := by
  have := List.length_filter_le (fun p : Nat × Nat => decide (0 < p.2)) ((List.range ss.length).map fun i => (i, G8 ss i))
  rw [List.length_map, List.length_range] at this
  have e : (W1 ss).length = (((List.range ss.length).map fun i => (i, G8 ss i)).filter fun p => decide (0 < p.2)).length := rfl
  omega
 generalize W1 ss = ps at *
 refine Sels.tw (rs := [.pt bp (.cells #[.slice (some ⟨g, 0, none⟩) ss.length gc] 37), OI g ss.length gc (a8 ss)] ++ [.own 39 2 (.slice none 0 0) 0 [], .pt b8 (.cells #[.slice none 0 0] 35), .pt b7 (.cells #[.slice sa ss.length sc] 64), .own 70 16 (.slice sa ss.length sc) ss.length (ss.flatMap E5), .pt b3 (.cells #[.int .i64 c.wk, .int .i64 c.sh, .int .i64 c.cp, .int .i64 c.idle, .int .i64 c.sl] 23)]) (by simp only [List.cons_append, List.nil_append]; (repeat' constructor)) ?_
 refine A6j hit (A97 _) (fun i (x : Option Addr × Nat) => True) (fun i x => [.own 39 2 (.slice x.1 ((ps.take i).filter (Y8 c ss)).length x.2) ((ps.take i).filter (Y8 c ss)).length (((ps.take i).filter (Y8 c ss)).flatMap A2e), .pt b8 (.cells #[.slice x.1 ((ps.take i).filter (Y8 c ss)).length x.2] 35), .pt b7 (.cells #[.slice sa ss.length sc] 64), .own 70 16 (.slice sa ss.length sc) ss.length (ss.flatMap E5), .pt b3 (.cells #[.int .i64 c.wk, .int .i64 c.sh, .int .i64 c.cp, .int .i64 c.idle, .int .i64 c.sl] 23)])
  (fun cd (y : Unit) => False) (fun y => []) (none, 0) trivial ?_ ?_ ?_ ?_
 ·intro i _ F w1 _ _
  trivial
 ·rintro i hi ⟨xa, xc⟩ F _ K' hK _
  have hi' : i < ps.length := by simpa using hi
  have hp := hpm _ (List.getElem_mem hi')
  have hst : (ps.take (i + 1)).filter (Y8 c ss) = (ps.take i).filter (Y8 c ss) ++ (if Y8 c ss ps[i] then [ps[i]] else []) := by
   rw [List.take_add_one, List.getElem?_eq_getElem hi', Option.toList_some, List.filter_append]
   cases h : Y8 c ss ps[i] <;> simp [h]
  have hfl : ((ps.take i).filter (Y8 c ss)).length ≤ 100 := by
   have := List.length_filter_le (Y8 c ss) (ps.take i)
   rw [List.length_take] at this; omega
  simp only [hst] at hK
  simp only [List.getElem_map]
  generalize ps[i] = p at *
  generalize (ps.take i).filter (Y8 c ss) = out at *
  obtain ⟨i1, i2⟩ := p
  simp only at hp
  have hx1 := List.getElem?_eq_getElem (show i1 < ss.length by omega)
  have hx2 := List.getElem?_eq_getElem hp.2
  have k1 := x8 (f := E5) (k := 16) (fun _ => rfl) ss i1 7 (by omega)
  have k2 := x8 (f := E5) (k := 16) (fun _ => rfl) ss i2 7 (by omega)
  rw [hx1] at k1
  rw [hx2] at k2
  have hbp : Y8 c ss (i1, i2) = (!decide (ss[i1].r.an.bk = ss[i2].r.an.bk) && !N7 c ss (i1 : Nat) (i2 : Nat)) := by
   unfold Y8
   simp only
   rw [List.getD_eq_getElem?_getD, List.getD_eq_getElem?_getD, hx1, hx2]; rfl
  generalize ss[i1] = x1 at *
  generalize ss[i2] = x2 at *
  have k1 : (ss.flatMap E5)[i1 * 16 + 7]? = some (.int .i64 x1.r.an.bk) := k1
  have k2 : (ss.flatMap E5)[i2 * 16 + 7]? = some (.int .i64 x2.r.an.bk) := k2
  have hl1 : i1 < ss.length := by omega
  have hl2 := hp.2
  simp only [A4e, VF.app, List.cons_append, List.nil_append] at hK ⊢
  refine A3F (e := 70) (k := 16) (v := .slice sa ss.length sc) (q := ss.length) (xs := ss.flatMap E5) (by (repeat constructor)) (by omega) fun g2 gc2 hg => ?_
  cases hg
  by_cases e : x1.r.an.bk = x2.r.an.bk
  ·rw [hbp, decide_eq_true e] at hK
   simp only [Bool.not_true, Bool.false_and, Bool.false_eq_true, if_false, List.append_nil] at hK
   (have zz:=trivial;repeat((first|clear zz|with_reducible first|refine A3 ?_|refine A5 fun _=>?_|refine A4 fun _=>?_);try simp(disch:=first|omega|assumption|((repeat(first|exact A1|exact uH|apply A2|apply uT));first|done|fail)|(simp;first|done|omega|fail))[hl1, hl2, k1, k2, e]))
   exact TW.sub (hK (xa, xc) trivial) (by ((try simp only [List.cons_append, List.nil_append, List.append_assoc]); (repeat (first | exact List.Sublist.refl _ | exact List.nil_sublist _ | with_reducible apply List.Sublist.cons_cons | apply List.Sublist.cons)); first | done | fail))
  rw [hbp, decide_eq_false e] at hK
  simp only [Bool.not_false, Bool.true_and] at hK
  (have zz:=trivial;repeat((first|clear zz|with_reducible first|refine A3 ?_|refine A5 fun _=>?_|refine A4 fun _=>?_);try simp(disch:=first|omega|assumption|((repeat(first|exact A1|exact uH|apply A2|apply uT));first|done|fail)|(simp;first|done|omega|fail))[hl1, hl2, k1, k2, e]))
  rename_i b9
  refine C7 s8 (fun w' hw' => A4m w' c (.slice (some ⟨g2, 0, none⟩) ss.length sc) ss (i1 : Nat) (i2 : Nat) (M8.own (e := 70) (k := 16) (by (repeat constructor)) w' hw') (fun s hs => (hall s hs).1) (fun s hs => (hall s hs).2.ks hw'.ks (by simp)) (by omega)) ?_
  cases hex : N7 c ss (i1 : Nat) (i2 : Nat) with
  | true =>
   rw [hex] at hK
   simp only [Bool.not_true, Bool.false_eq_true, if_false, List.append_nil] at hK
   (have zz:=trivial;repeat((first|clear zz|with_reducible first|refine A3 ?_|refine A5 fun _=>?_|refine A4 fun _=>?_);try simp(disch:=first|omega|assumption|((repeat(first|exact A1|exact uH|apply A2|apply uT));first|done|fail)|(simp;first|done|omega|fail))[e]))
   exact TW.sub (hK (xa, xc) trivial) (by ((try simp only [List.cons_append, List.nil_append, List.append_assoc]); (repeat (first | exact List.Sublist.refl _ | exact List.nil_sublist _ | with_reducible apply List.Sublist.cons_cons | apply List.Sublist.cons)); first | done | fail))
  | false =>
   rw [hex] at hK
   simp only [Bool.not_false, if_true] at hK
   (have zz:=trivial;repeat((first|clear zz|with_reducible first|refine A3 ?_|refine A5 fun _=>?_|refine A4 fun _=>?_|refine B9 fun _=>?_|refine C3 (hK:=fun _=>?_)|refine B4 (hK:=fun _=>?_)|refine C0 (hK:=fun _=>?_)|refine C4 (hK:=fun _=>?_)|refine B8 (hK:=fun _=>?_));try simp(disch:=first|omega|assumption|((repeat(first|exact A1|exact uH|apply A2|apply uT));first|done|fail)|(simp;first|done|omega|fail))[e]))
   refine A3H (e := 39) (k := 2) (q := out.length) (r := 1) (xs := out.flatMap A2e) (news := [.int .i64 (i1 : Nat), .int .i64 (i2 : Nat)]) (by (repeat constructor)) (M8.own (by (repeat constructor))) (by decide) (by simp) (by simp) (by simp only [maxLen]; omega) (by omega) fun a' c' => ?_
   (have zz:=trivial;repeat((first|clear zz|with_reducible first|refine A3 ?_|refine A5 fun _=>?_|refine A4 fun _=>?_);try simp(disch:=first|omega|assumption|((repeat(first|exact A1|exact uH|apply A2|apply uT));first|done|fail)|(simp;first|done|omega|fail))[]))
   have h := hK (a', c') trivial
   rw [List.flatMap_append, List.flatMap_singleton, List.length_append, List.length_singleton] at h
   rw [show A2e (i1, i2) = [.int .i64 (i1 : Nat), .int .i64 (i2 : Nat)] from rfl] at h
   exact TW.sub h (by ((try simp only [List.cons_append, List.nil_append, List.append_assoc]); (repeat (first | exact List.Sublist.refl _ | exact List.nil_sublist _ | with_reducible apply List.Sublist.cons_cons | apply List.Sublist.cons)); first | done | fail))
 ·rintro ⟨xa, xc⟩ _
  rw [List.length_map, List.take_length]
  (have zz:=trivial;repeat((first|clear zz|with_reducible first|refine A3 ?_|refine A5 fun _=>?_|refine A4 fun _=>?_);try simp(disch:=first|omega|assumption|((repeat(first|exact A1|exact uH|apply A2|apply uT));first|done|fail)|(simp;first|done|omega|fail))[]))
  exact G7 (.slice xa (ps.filter (Y8 c ss)).length xc) rfl (by (repeat' constructor))
 ·rintro _ _ h; exact h.elim
end Go.Proofs.Ytlplkjgcfjdinaa
namespace Go.Proofs.Ytlplkjgcfjdinaa
open Go
def e9 (X : Nat → Prop) (t0 : Value) (R : Value → WP) : WP :=
 B1 PR X (Instr.box 27 t0) fun t1 =>
 jn (n := 1) (fun t2 =>
 jn (n := 3) (fun t3 t2_1 t4 =>
 A0 PR (Instr.fieldAt 27 t1 0) fun t41 =>
 A6 PR (Instr.loadAt 23 t41) fun t42 =>
 C6 PR X 17 [t42] fun t43 =>
 R t43) fun J1 =>
 lp (n := 3) (fun L2 t3_1 t2_2 t4_1 =>
 jn (n := 0) (
 jn (n := 2) (fun t3_2 t2_3 =>
 A0 PR (binOp .add 3 t4_1 (.int .i64 1)) fun t21 =>
 L2 t3_2 t2_3 t21) fun J3 =>
 A0 PR (Instr.fieldAt 27 t1 1) fun t23 =>
 A6 PR (Instr.loadAt 24 t23) fun t24 =>
 A0 PR (Instr.indexAt 24 t24 t4_1) fun t26 =>
 A6 PR (Instr.loadAt 54 t26) fun t27 =>
 A0 PR (A7 .len #[54] 0 [t27]) fun t28 =>
 A0 PR (binOp .add 3 t3_1 t28) fun t29 =>
 A0 PR (binOp .gtr 3 t29 (.int .i64 24)) fun t31 =>
 gj t31 false (fun J => A0 PR (Instr.fieldAt 27 t1 1) J) fun t33 =>
 gj t31 false (fun J => A6 PR (Instr.loadAt 24 t33) J) fun t34 =>
 gj t31 false (fun J => J t4_1) fun t35 =>
 gj t31 false (fun J => A0 PR (Instr.indexAt 24 t34 t35) J) fun t36 =>
 gj t31 false (fun J => A6 PR (Instr.loadAt 54 t36) J) fun t37 =>
 gj t31 false (fun J => C6 PR X 16 [t37, (.int .i64 24)] J) fun t38 =>
 gj t31 false (fun J => A0 PR (Op.unary .not t38) J) fun t39 =>
 A0 PR (do pure (if ← asBool t31 then (.bool true) else t39)) fun t40 =>
 C9 t40 (
 R (.bool false)) (
 J3 t29 t2_2)) fun J4 =>
 A0 PR (Instr.fieldAt 27 t1 1) fun t16 =>
 A6 PR (Instr.loadAt 24 t16) fun t17 =>
 A0 PR (A7 .len #[24] 0 [t17]) fun t18 =>
 A0 PR (binOp .lss 3 t4_1 t18) fun t19 =>
 C9 t19 (
 J4) (
 J1 t3_1 t2_2 t4_1)) (.int .i64 0) t2 (.int .i64 0)) fun J5 =>
 A0 PR (Instr.fieldAt 27 t1 1) fun t5 =>
 A6 PR (Instr.loadAt 24 t5) fun t6 =>
 A0 PR (A7 .len #[24] 0 [t6]) fun t7 =>
 A0 PR (binOp .gtr 3 t7 (.int .i64 7)) fun t8 =>
 gj t8 false (fun J => A0 PR (Instr.fieldAt 27 t1 2) J) fun t10 =>
 gj t8 false (fun J => A6 PR (Instr.loadAt 25 t10) J) fun t11 =>
 gj t8 false (fun J => A0 PR (A7 .len #[25] 0 [t11]) J) fun t12 =>
 gj t8 false (fun J => A0 PR (binOp .gtr 3 t12 (.int .i64 400)) J) fun t13 =>
 A0 PR (do pure (if ← asBool t8 then (.bool true) else t13)) fun t14 =>
 C9 t14 (
 R (.bool false)) (
 J5 (.bool false))
theorem A08 : B0 PR 6 := A9 Try.func6 (by kernel_rfl) rfl
theorem A1M {X : Nat → Prop} {t0 : Value} {R : Value → WP} {w : World} (h : e9 X t0 R w) : Fn PR X 6 #[t0] w R := D3 (args := [t0]) mixed Try.func6 (by kernel_rfl) h
end Go.Proofs.Ytlplkjgcfjdinaa
namespace Go.Proofs.Ytlplkjgcfjdinaa
open Go
def d8 (X : Nat → Prop) (t0 : Value) (R : Value → WP) : WP :=
 A0 PR (A7 .len #[28] 0 [t0]) fun t4 =>
 A0 PR (binOp .leq 3 t4 (.int .i64 24)) fun t5 =>
 R t5
theorem A01 : B0 PR 7 := A9 Try.func7 (by kernel_rfl) rfl
theorem A1C {X : Nat → Prop} {t0 : Value} {R : Value → WP} {w : World} (h : d8 X t0 R w) : Fn PR X 7 #[t0] w R := D3 (args := [t0]) mixed Try.func7 (by kernel_rfl) h
end Go.Proofs.Ytlplkjgcfjdinaa
namespace Go.Proofs.Ytlplkjgcfjdinaa
open Go
theorem B1k (w : World) (v : Value) (l : List RecV) (hl : l.length ≤ 9223372036854775807) (hv : E9 w v l.length (l.flatMap F9)) :
  Fn PR C5 7 #[v] w (fun r w' => r = .bool (decide (l.length ≤ 24)) ∧ B5 [] w w') := by
 refine Fn.pure (A1C (TW.go (κ := false) (S := []) ?_))
 unfold d8
 obtain ⟨a, c, rfl, hr⟩ := hv.form
 (have zz:=trivial;repeat((first|clear zz|with_reducible first|refine A3 ?_|refine A5 fun _=>?_|refine A4 fun _=>?_);try simp(disch:=first|omega|assumption|((repeat(first|exact A1|exact uH|apply A2|apply uT));first|done|fail)|(simp;first|done|omega|fail))[]))
 exact A8 (by congr 1; rw [decide_eq_decide]; omega)
structure FewScr (c : CfgV) (ts : List N5) : Prop where
 small : w7 c = true
 len : ts.length ≤ 7
 ops : ∀ t ∈ ts, U8 (t.2.map (·.1)) 24 = true
theorem FewScr.op {c : CfgV} {ts : List N5} (h : FewScr c ts) {t : N5} (ht : t ∈ ts) : t.2.length ≤ 24 ∧ ∀ o ∈ t.2, o.1.packet.size ≤ 100 ∧ o.1.pool.length ≤ 8 := by
 have := h.ops t ht
 unfold U8 at this
 rw [Bool.and_eq_true, List.all_eq_true] at this
 refine ⟨by have := this.1; simp at this; omega, fun o ho => ?_⟩
 have h2 := this.2 o.1 (List.mem_map_of_mem ho)
 simpa [A3y] using h2
theorem ThRd.form {w : World} {t : N5} (h : ThRd w t) : ∃ a k, t.1 = .slice a t.2.length k := by
 obtain ⟨a, k, e, _⟩ := h.rd.form
 exact ⟨a, k, e⟩
def A0H (c : CfgV) (ts : List N5) (r : Value) : Prop := ∃ b : Bool, r = .bool b ∧ (b = true → FewScr c ts)
theorem A0H.no {c : CfgV} {ts : List N5} : A0H c ts (.bool false) := ⟨false, rfl, by simp⟩
theorem B1V (w : World) (c : CfgV) (tv pv : Value) (ts : List N5) (hr : E9 w tv ts.length (ts.flatMap A11)) (ht : ∀ t ∈ ts, ThRd w t) (hl : ts.length ≤ 9223372036854775807) (hp : ∃ a n k, pv = .slice a n k ∧ n ≤ 9223372036854775807) :
  Fn PR C5 6 #[.agg #[.int .i64 c.wk, .int .i64 c.sh, .int .i64 c.cp, .int .i64 c.idle, .int .i64 c.sl, tv, pv]] w (fun r w' => A0H c ts r ∧ B5 [] w w') := by
 refine Fn.pure (A1M (TW.go (κ := false) (S := []) ?_))
 unfold e9
 obtain ⟨a, k, rfl, hrow0⟩ := hr.form
 obtain ⟨pa, pn, pk, rfl, hpn⟩ := hp
 by_cases c1 : (7 : Int) < ts.length
 ·(have zz:=trivial;repeat((first|clear zz|with_reducible first|refine A3 ?_|refine A5 fun _=>?_|refine A4 fun _=>?_);try simp(disch:=first|omega|assumption|((repeat(first|exact A1|exact uH|apply A2|apply uT));first|done|fail)|(simp;first|done|omega|fail))[c1]))
  exact A8 A0H.no
 by_cases c2 : (400 : Int) < pn
 ·(have zz:=trivial;repeat((first|clear zz|with_reducible first|refine A3 ?_|refine A5 fun _=>?_|refine A4 fun _=>?_);try simp(disch:=first|omega|assumption|((repeat(first|exact A1|exact uH|apply A2|apply uT));first|done|fail)|(simp;first|done|omega|fail))[c1, c2]))
  exact A8 A0H.no
 (have zz:=trivial;repeat((first|clear zz|with_reducible first|refine A3 ?_|refine A5 fun _=>?_|refine A4 fun _=>?_);try simp(disch:=first|omega|assumption|((repeat(first|exact A1|exact uH|apply A2|apply uT));first|done|fail)|(simp;first|done|omega|fail))[c1, c2]))
 rename_i bs
 refine B0d (α := Nat) ts.length (fun _ x => .int .i64 (x : Nat)) (fun _ _ => .bool false) (fun _ _ => [.pt bs (.cells #[.int .i64 c.wk, .int .i64 c.sh, .int .i64 c.cp, .int .i64 c.idle, .int .i64 c.sl, .slice a ts.length k, .slice pa pn pk] 27)]) (fun i x => x ≤ 24 ∧ ∀ j t, j < i → ts[j]? = some t → U8 (t.2.map (·.1)) 24 = true) 0 ⟨by omega, by simp⟩ ?_
 rintro i x hi ⟨hx, hok⟩ L hL
 by_cases hlt : i < ts.length
 ·obtain ⟨b, o, rfl, hrow⟩ := hrow0 (by omega)
  have hy := List.getElem?_eq_getElem hlt
  have h1 := hrow.cellAt (f := A11) (k := 1) (j := 0) (fun _ => rfl) hy rfl
  rw [Nat.mul_one, Nat.add_zero] at h1
  have hth := ht ts[i] (List.getElem_mem hlt)
  generalize ts[i] = t at *
  obtain ⟨ta, tk, hte⟩ := hth.form
  rw [hte] at h1
  have hlen := hth.len
  have hfw : ∀ w', LW false [] w [.pt bs (.cells #[.int .i64 c.wk, .int .i64 c.sh, .int .i64 c.cp, .int .i64 c.idle, .int .i64 c.sl, .slice (some ⟨b, o, none⟩) ts.length k, .slice pa pn pk] 27)] w' → _ := fun w' hw' => B13 w' (.slice ta t.2.length tk) t.2 24 hlen ((hte ▸ hth.rd).ks hw'.ks (by simp)) fun o ho => by obtain ⟨a, k, e, _⟩ := (hth.pool o ho).form; exact ⟨a, k, e⟩
  by_cases hbig : 1000 < t.2.length
  ·by_cases c3 : (24 : Int) < IntKind.i64.wrap ((x : Int) + t.2.length)
   ·(have zz:=trivial;repeat((first|clear zz|with_reducible first|refine A3 ?_|refine A5 fun _=>?_|refine A4 fun _=>?_);try simp(disch:=first|omega|assumption|((repeat(first|exact A1|exact uH|apply A2|apply uT));first|done|fail)|(simp;first|done|omega|fail))[hlt, h1, c3]))
    exact A8 A0H.no
   ·(have zz:=trivial;repeat((first|clear zz|with_reducible first|refine A3 ?_|refine A5 fun _=>?_|refine A4 fun _=>?_);try simp(disch:=first|omega|assumption|((repeat(first|exact A1|exact uH|apply A2|apply uT));first|done|fail)|(simp;first|done|omega|fail))[hlt, h1, c3]))
    refine C7 Z8 hfw ?_
    rw [show U8 (t.2.map (·.1)) 24 = false by unfold U8; rw [Bool.and_eq_false_iff]; left; simp; omega]
    (have zz:=trivial;repeat((first|clear zz|with_reducible first|refine A3 ?_|refine A5 fun _=>?_|refine A4 fun _=>?_);try simp(disch:=first|omega|assumption|((repeat(first|exact A1|exact uH|apply A2|apply uT));first|done|fail)|(simp;first|done|omega|fail))[c3]))
    exact A8 A0H.no
  by_cases c3 : (24 : Int) < (x : Int) + t.2.length
  ·(have zz:=trivial;repeat((first|clear zz|with_reducible first|refine A3 ?_|refine A5 fun _=>?_|refine A4 fun _=>?_);try simp(disch:=first|omega|assumption|((repeat(first|exact A1|exact uH|apply A2|apply uT));first|done|fail)|(simp;first|done|omega|fail))[hlt, h1, c3]))
   exact A8 A0H.no
  ·(have zz:=trivial;repeat((first|clear zz|with_reducible first|refine A3 ?_|refine A5 fun _=>?_|refine A4 fun _=>?_);try simp(disch:=first|omega|assumption|((repeat(first|exact A1|exact uH|apply A2|apply uT));first|done|fail)|(simp;first|done|omega|fail))[hlt, h1, c3]))
   refine C7 Z8 hfw ?_
   have hwr : IntKind.i64.wrap ((x : Int) + t.2.length) = (x : Int) + t.2.length := V8 (by omega) (by omega)
   cases hf : U8 (t.2.map (·.1)) 24 with
   | false =>
    (have zz:=trivial;repeat((first|clear zz|with_reducible first|refine A3 ?_|refine A5 fun _=>?_|refine A4 fun _=>?_);try simp(disch:=first|omega|assumption|((repeat(first|exact A1|exact uH|apply A2|apply uT));first|done|fail)|(simp;first|done|omega|fail))[c3]))
    exact A8 A0H.no
   | true =>
    (have zz:=trivial;repeat((first|clear zz|with_reducible first|refine A3 ?_|refine A5 fun _=>?_|refine A4 fun _=>?_);try simp(disch:=first|omega|assumption|((repeat(first|exact A1|exact uH|apply A2|apply uT));first|done|fail)|(simp;first|done|omega|fail))[c3, hwr]))
    have h := hL hlt (x + t.2.length) ⟨by omega, fun j y hj hy' => by
     by_cases e : j < i
     ·exact hok j y e hy'
     ·obtain rfl : j = i := by omega
      rw [hy] at hy'; injection hy' with hy'; subst hy'; exact hf⟩
    rw [Int.natCast_add] at h
    exact h
 ·obtain rfl : i = ts.length := by omega
  (have zz:=trivial;repeat((first|clear zz|with_reducible first|refine A3 ?_|refine A5 fun _=>?_|refine A4 fun _=>?_);try simp(disch:=first|omega|assumption|((repeat(first|exact A1|exact uH|apply A2|apply uT));first|done|fail)|(simp;first|done|omega|fail))[hlt]))
  refine C7 A0C (fun w' _ => B1l w' c) ?_
  (have zz:=trivial;repeat((first|clear zz|with_reducible first|refine A3 ?_|refine A5 fun _=>?_|refine A4 fun _=>?_);try simp(disch:=first|omega|assumption|((repeat(first|exact A1|exact uH|apply A2|apply uT));first|done|fail)|(simp;first|done|omega|fail))[]))
  refine A8 (show A0H c ts (.bool (w7 c)) from ⟨_, rfl, fun h => ⟨h, by omega, fun t ht' => ?_⟩⟩)
  obtain ⟨j, hj, e⟩ := List.getElem_of_mem ht'
  exact hok j t hj (by rw [List.getElem?_eq_getElem hj, e])
end Go.Proofs.Ytlplkjgcfjdinaa
namespace Go.Proofs.Ytlplkjgcfjdinaa
open Go
theorem A6m (w : World) (v : Value) (l : List RecV) (hl : l.length ≤ 24) (hv : E9 w v l.length (l.flatMap F9)) :
  Fn PR C5 9 #[v] w (Rn [] w (fun r u => u = r) fun r => [.own 58 10 r l.length (l.flatMap F9)]) := by
 refine u7 (TW.go (κ := false) (S := []) ?_)
 unfold V7
 obtain ⟨a, c, rfl, hr⟩ := hv.form
 refine A3E 58 10 ?_
 (have zz:=trivial;repeat((first|clear zz|with_reducible first|refine A3 ?_|refine A5 fun _=>?_|refine A4 fun _=>?_);try simp(disch:=first|omega|assumption|((repeat(first|exact A1|exact uH|apply A2|apply uT));first|done|fail)|(simp;first|done|omega|fail))[]))
 refine q7 l.length (fun i (x : Option Addr × Nat) => .slice x.1 i x.2) (fun i x => [.own 58 10 (.slice x.1 i x.2) i ((l.take i).flatMap F9)]) (fun i x => True) (none, 0) trivial ?_ (by simp)
 rintro i ⟨xa, xc⟩ hi _ L hL
 by_cases hlt : i < l.length
 ·obtain ⟨b, o, rfl, hrow⟩ := hr (by omega)
  have h1 := hrow.at (f := F9) (k := 10) (fun _ => rfl) (List.getElem?_eq_getElem hlt)
  have hst : (l.take (i + 1)).flatMap F9 = (l.take i).flatMap F9 ++ F9 l[i] := by
   rw [List.take_add_one, List.getElem?_eq_getElem hlt, Option.toList_some, List.flatMap_append, List.flatMap_singleton]
  have h := hL hlt
  rw [hst] at h
  generalize l[i] = y at *
  rw [F9] at h1
  (have zz:=trivial;repeat((first|clear zz|with_reducible first|refine A3 ?_|refine A5 fun _=>?_|refine A4 fun _=>?_|refine B9 fun _=>?_|refine C3 (hK:=fun _=>?_)|refine B4 (hK:=fun _=>?_)|refine C0 (hK:=fun _=>?_)|refine C4 (hK:=fun _=>?_)|refine B8 (hK:=fun _=>?_));try simp(disch:=first|omega|assumption|((repeat(first|exact A1|exact uH|apply A2|apply uT));first|done|fail)|(simp;first|done|omega|fail))[hlt, h1]))
  refine A3H (e := 58) (k := 10) (q := i) (r := 1) (xs := (l.take i).flatMap F9) (news := F9 y) (by (repeat constructor)) (M8.own (by (repeat constructor))) (by decide) rfl (by simp [F9]) (by simp only [maxLen]; omega) (by omega) fun a' c' => ?_
  (have zz:=trivial;repeat((first|clear zz|with_reducible first|refine A3 ?_|refine A5 fun _=>?_|refine A4 fun _=>?_);try simp(disch:=first|omega|assumption|((repeat(first|exact A1|exact uH|apply A2|apply uT));first|done|fail)|(simp;first|done|omega|fail))[]))
  exact Sels.tw (by (repeat' constructor)) (h (a', c') trivial)
 ·obtain rfl : i = l.length := by omega
  (have zz:=trivial;repeat((first|clear zz|with_reducible first|refine A3 ?_|refine A5 fun _=>?_|refine A4 fun _=>?_);try simp(disch:=first|omega|assumption|((repeat(first|exact A1|exact uH|apply A2|apply uT));first|done|fail)|(simp;first|done|omega|fail))[]))
  refine G7 (.slice xa l.length xc) rfl ?_
  try rw [List.take_length]
  (repeat' constructor)
structure NearV (c : CfgV) (l : List RecV) : Prop where
 lo : -1000000000 ≤ c.idle
 hi : c.idle ≤ 1000000000
 now : ∀ x ∈ l, -1000000000 ≤ x.nw ∧ x.nw ≤ 1000000000
def u6 (c : CfgV) (l : List RecV) (r : Value) : Prop := ∃ b : Bool, r = .bool b ∧ (b = true → NearV c l)
theorem u6.no {c : CfgV} {l : List RecV} : u6 c l (.bool false) := ⟨false, rfl, by simp⟩
theorem B3B (w : World) (c : CfgV) (lv : Value) (l : List RecV) (hv : E9 w lv l.length (l.flatMap F9)) (hl : l.length ≤ 24) :
  Fn PR C5 8 #[c.val, lv] w (fun r w' => u6 c l r ∧ B5 [] w w') := by
 refine Fn.pure (A09 (TW.go (κ := false) (S := []) ?_))
 unfold Z7
 obtain ⟨la, lc, rfl, hlr⟩ := hv.form
 simp only [CfgV.val]
 by_cases c1 : c.idle < -1000000000
 ·(have zz:=trivial;repeat((first|clear zz|with_reducible first|refine A3 ?_|refine A5 fun _=>?_|refine A4 fun _=>?_);try simp(disch:=first|omega|assumption|((repeat(first|exact A1|exact uH|apply A2|apply uT));first|done|fail)|(simp;first|done|omega|fail))[c1]))
  exact A8 u6.no
 by_cases c2 : 1000000000 < c.idle
 ·(have zz:=trivial;repeat((first|clear zz|with_reducible first|refine A3 ?_|refine A5 fun _=>?_|refine A4 fun _=>?_);try simp(disch:=first|omega|assumption|((repeat(first|exact A1|exact uH|apply A2|apply uT));first|done|fail)|(simp;first|done|omega|fail))[c1, c2]))
  exact A8 u6.no
 (have zz:=trivial;repeat((first|clear zz|with_reducible first|refine A3 ?_|refine A5 fun _=>?_|refine A4 fun _=>?_);try simp(disch:=first|omega|assumption|((repeat(first|exact A1|exact uH|apply A2|apply uT));first|done|fail)|(simp;first|done|omega|fail))[c1, c2]))
 rename_i bc
 refine q7 (α := Unit) l.length (fun _ _ => .bool false) (fun _ _ => [.pt bc (.cells #[.int .i64 c.wk, .int .i64 c.sh, .int .i64 c.cp, .int .i64 c.idle, .int .i64 c.sl] 23)]) (fun i _ => ∀ j x, j < i → l[j]? = some x → -1000000000 ≤ x.nw ∧ x.nw ≤ 1000000000) () (by simp) ?_
 rintro i _ hi hpre L hL
 by_cases hlt : i < l.length
 ·obtain ⟨b, o, rfl, hrow⟩ := hlr (by omega)
  have hx := List.getElem?_eq_getElem hlt
  have h1 := hrow.cellAt (f := F9) (k := 10) (j := 5) (fun _ => rfl) hx rfl
  generalize l[i] = x at *
  by_cases c3 : x.nw < -1000000000
  ·(have zz:=trivial;repeat((first|clear zz|with_reducible first|refine A3 ?_|refine A5 fun _=>?_|refine A4 fun _=>?_);try simp(disch:=first|omega|assumption|((repeat(first|exact A1|exact uH|apply A2|apply uT));first|done|fail)|(simp;first|done|omega|fail))[hlt, h1, c3]))
   exact A8 u6.no
  by_cases c4 : 1000000000 < x.nw
  ·(have zz:=trivial;repeat((first|clear zz|with_reducible first|refine A3 ?_|refine A5 fun _=>?_|refine A4 fun _=>?_);try simp(disch:=first|omega|assumption|((repeat(first|exact A1|exact uH|apply A2|apply uT));first|done|fail)|(simp;first|done|omega|fail))[hlt, h1, c3, c4]))
   exact A8 u6.no
  (have zz:=trivial;repeat((first|clear zz|with_reducible first|refine A3 ?_|refine A5 fun _=>?_|refine A4 fun _=>?_);try simp(disch:=first|omega|assumption|((repeat(first|exact A1|exact uH|apply A2|apply uT));first|done|fail)|(simp;first|done|omega|fail))[hlt, h1, c3, c4]))
  refine Sels.tw (by (repeat' constructor)) (hL hlt () fun j y hj hy => ?_)
  by_cases e : j < i
  ·exact hpre j y e hy
  ·obtain rfl : j = i := by omega
   rw [hx] at hy; injection hy with hy; subst hy; omega
 ·obtain rfl : i = l.length := by omega
  (have zz:=trivial;repeat((first|clear zz|with_reducible first|refine A3 ?_|refine A5 fun _=>?_|refine A4 fun _=>?_);try simp(disch:=first|omega|assumption|((repeat(first|exact A1|exact uH|apply A2|apply uT));first|done|fail)|(simp;first|done|omega|fail))[hlt]))
  refine A8 (show u6 c l (.bool true) from ⟨true, rfl, fun _ => ⟨by omega, by omega, fun x hx => ?_⟩⟩)
  obtain ⟨j, hj, e⟩ := List.getElem_of_mem hx
  exact hpre j x hj (by rw [List.getElem?_eq_getElem hj, e])
theorem B1s {c : CfgV} {ss : List SeenV} {i j : Nat} (hi : i < ss.length) (hj : j < ss.length) : N7 c ss i j = A89 c ss i j := by
 unfold N7
 rw [decide_eq_true (show (0 : Int) ≤ i by omega), decide_eq_true (show (0 : Int) ≤ j by omega), decide_eq_true (show (i : Int) < ss.length by omega), decide_eq_true (show (j : Int) < ss.length by omega)]
 simp
theorem A55 {s : SeenV} (h : M2 s = true) : s.is = true := by
 unfold M2 at h
 simp only [Bool.and_eq_true] at h
 exact h.1.1.1.1
theorem B1x {c : CfgV} {l : List RecV} {ts : List N5} (hn : ∀ x ∈ l, -1000000000 ≤ x.nw ∧ x.nw ≤ 1000000000) (hc : c.idle = -2000000001) : x9 c (F2 ts l) = [] := by
 unfold x9
 rw [List.filter_eq_nil_iff]
 intro p hp
 have hm := A2u hp
 have hnw : ∀ k, k < (F2 ts l).length → -1000000000 ≤ ((F2 ts l).getD k K4).r.nw ∧ ((F2 ts l).getD k K4).r.nw ≤ 1000000000 := fun k hk => by
  rw [List.getD_eq_getElem?_getD, List.getElem?_eq_getElem hk]
  have hs := List.getElem_mem hk
  generalize (F2 ts l)[k] = s at *
  unfold F2 at hs
  obtain ⟨q, hq, e⟩ := List.mem_map.1 hs
  have hql := (A49 hq).1
  have hm : l.getD q s6 ∈ l := by rw [List.getD_eq_getElem?_getD, List.getElem?_eq_getElem hql]; exact List.getElem_mem hql
  have := hn _ hm
  have er : s.r = l.getD q s6 := by
   rw [← e]; unfold N6; split <;> rfl
  simp only [Option.getD_some]
  rw [er]; exact this
 have h1 := hnw p.1 (by omega)
 have h2 := hnw p.2 hm.2.1
 have i1 := A55 hm.2.2.1
 have i2 := A55 hm.2.2.2
 unfold Y8
 rw [B1s (by omega) hm.2.1]
 unfold A89
 rw [i1, i2, hc, V8 (by omega) (by omega), decide_eq_true (show ((F2 ts l).getD p.1 K4).r.nw + -2000000001 < ((F2 ts l).getD p.2 K4).r.nw by omega)]
 simp
end Go.Proofs.Ytlplkjgcfjdinaa
namespace Go.Proofs.Ytlplkjgcfjdinaa
open Go
theorem B2Q {P : Program} {t e : TypeId} {n m m' : Nat} {z z' : Value} (h : TI P t (.array 2 e) n m z) (he : TI P e (.int .i64) 1 m' z') (a b c d : Int) : EqV P 10000 t (.agg #[.int .i64 a, .int .i64 b]) (.agg #[.int .i64 c, .int .i64 d]) (decide (a = c) && decide (b = d)) := by
 intro w
 have p0 : ∀ (x y : Int) (w : World), (part e #[.int .i64 x, .int .i64 y] 0).run P w = .ok (.int .i64 x) w := fun x y w => by simp [part, he.run_agg, H6]
 have p1 : ∀ (x y : Int) (w : World), (part e #[.int .i64 x, .int .i64 y] 1).run P w = .ok (.int .i64 y) w := fun x y w => by simp [part, he.run_agg, H6]
 have q := fun (x y : Int) (w : World) => B28 (P := P) (k := .i64) (q := .i64) (a := x) (b := y) (e := 9998) he w
 rw [show (10000 : Nat) = 9999 + 1 from rfl, Op.equalIn]
 simp only [Sem.run_bind, h.run_und, he.run_size, Result.andThen_ok]
 simp only [Std.Legacy.Range.forIn_eq_forIn_range', Std.Legacy.Range.size, Nat.sub_zero, Nat.add_sub_cancel, Nat.div_one, List.range'_succ, List.range'_zero, List.forIn_cons, List.forIn_nil, Sem.run_bind, Nat.zero_mul, Nat.zero_add, Nat.mul_one, p0, p1, q, Result.andThen_ok]
 by_cases h1 : a = c <;> by_cases h2 : b = d <;> simp [h1, h2, p0, p1, q]
theorem B4n (a b c d : Int) (x y : Operand) (K : Value → WP) : A6 PR (Z1 .eql 39 x y (.agg #[.int .i64 a, .int .i64 b]) (.agg #[.int .i64 c, .int .i64 d])) K = K (.bool (decide (a = c) && decide (b = d))) :=
 funext fun w => B41 (by kernel_rfl) (B2Q A48 H5 a b c d)
end Go.Proofs.Ytlplkjgcfjdinaa
namespace Go.Proofs.Ytlplkjgcfjdinaa
open Go
def A1z : KeyV := ⟨4, ByteArray.mk #[97, 98, 99, 100], ByteArray.mk #[101, 102, 103, 104], 1, 2, 17⟩
def S4 : ByteArray := (V2 A1z 0).1
def A7c : OpV × Value := (⟨0, S4, [], 0⟩, .slice none 0 0)
def S3 (v : Value) : List N5 := [(.slice none 0 0, []), (v, [A7c, A7c])]
def d4 : CfgV := ⟨1, 1, 1, 5, 2⟩
def m5 : RecV := ⟨1, 0, 0, 1, 2, 0, ⟨0, 7, false, 0⟩⟩
def m8 (n : Int) : RecV := ⟨1, 1, 0, 3, 4, n, ⟨0, 8, false, 0⟩⟩
theorem A1k : S4.size = 28 := by kernel_rfl
theorem B0V : A30 A7c.1 = (p9 A1z, true) := by kernel_rfl
theorem A9y : (p9 A1z).size = 38 := by kernel_rfl
theorem A7k (v : Value) : x9 d4 (F2 (S3 v) [m5, m8 0]) = [(0, 1)] := by kernel_rfl
theorem A63 (v : Value) : x9 d4 (F2 (S3 v) [m5, m8 6]) = [] := by kernel_rfl
theorem A7P (v : Value) : x9 d4 (F2 (S3 v) []) = [] := by kernel_rfl
theorem B4N (v : Value) : N7 d4 (F2 (S3 v) [m5, m8 6]) 0 1 = true := by kernel_rfl
theorem B4Z (v : Value) : N7 d4 (F2 (S3 v) [m5, m8 0]) 0 1 = false := by kernel_rfl
theorem A9P (w : World) : Fn PR C5 5 #[] w (fun r w' => r = .bool true ∧ B5 [] w w') := by
 refine Fn.pure (A0M (TW.go (κ := false) (S := []) ?_))
 unfold Y2
 (have zz:=trivial;repeat((first|clear zz|with_reducible first|refine A3 ?_|refine A5 fun _=>?_|refine A4 fun _=>?_|refine B9 fun _=>?_|refine C3 (hK:=fun _=>?_)|refine B4 (hK:=fun _=>?_)|refine C0 (hK:=fun _=>?_)|refine C4 (hK:=fun _=>?_)|refine B8 (hK:=fun _=>?_));try simp(disch:=first|omega|assumption|((repeat(first|exact A1|exact uH|apply A2|apply uT));first|done|fail)|(simp;first|done|omega|fail))[]))
 refine C7 (u := .tuple #[.string S4, .int .i64 (V2 A1z 0).2]) A5Y (fun w' _ => A6v w' A1z 0) ?_
 rw [show (V2 A1z 0).2 = 0 by kernel_rfl]
 (have zz:=trivial;repeat((first|clear zz|with_reducible first|refine A3 ?_|refine A5 fun _=>?_|refine A4 fun _=>?_|refine B9 fun _=>?_|refine C3 (hK:=fun _=>?_)|refine B4 (hK:=fun _=>?_)|refine C0 (hK:=fun _=>?_)|refine C4 (hK:=fun _=>?_)|refine B8 (hK:=fun _=>?_));try simp(disch:=first|omega|assumption|((repeat(first|exact A1|exact uH|apply A2|apply uT));first|done|fail)|(simp;first|done|omega|fail))[]))
 rename_i b1 bo bt b5 b6 b7
 have hops : ∀ v, ∀ t ∈ S3 v, t.2.length ≤ 24 ∧ ∀ o ∈ t.2, o.1.packet.size ≤ 100 ∧ o.1.pool.length ≤ 8 := by
  intro v t ht
  simp only [S3, List.mem_cons, List.not_mem_nil, or_false] at ht
  rcases ht with rfl | rfl
  ·simp
  ·refine ⟨by simp, fun o ho => ?_⟩
   simp only [List.mem_cons, List.not_mem_nil, or_false, or_self] at ho
   subst ho
   have := A1k
   exact ⟨by show S4.size ≤ 100; omega, by simp [A7c]⟩
 have hth : ∀ w', E9 w' (.slice (some ⟨bo, 0, none⟩) 2 2) 2 [.int .i64 0, .string S4, .slice none 0 0, .int .i64 0, .int .i64 0, .string S4, .slice none 0 0, .int .i64 0] → ∀ t ∈ S3 (.slice (some ⟨bo, 0, none⟩) 2 2), ThRd w' t := by
  intro w' h t ht
  simp only [S3, List.mem_cons, List.not_mem_nil, or_false] at ht
  rcases ht with rfl | rfl
  ·exact ⟨Or.inl ⟨rfl, rfl, none, 0, rfl⟩, by simp, by simp⟩
  ·refine ⟨h, fun o ho => ?_, by simp⟩
   simp only [List.mem_cons, List.not_mem_nil, or_false, or_self] at ho
   subst ho
   exact Or.inl ⟨rfl, rfl, none, 0, rfl⟩
 have hB : ∀ (rs : List RecV) (lv : Value) {H : List Res} (w' : World), LW false [] w H w' → Res.own 53 4 (.slice (some ⟨bo, 0, none⟩) 2 2) 2 [.int .i64 0, .string S4, .slice none 0 0, .int .i64 0, .int .i64 0, .string S4, .slice none 0 0, .int .i64 0] ∈ H → Res.own 54 1 (.slice (some ⟨bt, 0, none⟩) 2 2) 2 [.slice none 0 0, .slice (some ⟨bo, 0, none⟩) 2 2] ∈ H → rs.length ≤ 24 → E9 w' lv rs.length (rs.flatMap F9) →
   Fn PR C5 10 #[d4.val, .slice (some ⟨bt, 0, none⟩) 2 2, lv] w' (Rn [] w' (fun r u => u = r) fun r => [.own 39 2 r (x9 d4 (F2 (S3 (.slice (some ⟨bo, 0, none⟩) 2 2)) rs)).length ((x9 d4 (F2 (S3 (.slice (some ⟨bo, 0, none⟩) 2 2)) rs)).flatMap A2e)]) := fun rs lv H w' hw' h1 h2 hl hv =>
  A5n w' d4 (.slice (some ⟨bt, 0, none⟩) 2 2) lv (S3 (.slice (some ⟨bo, 0, none⟩) 2 2)) rs (M8.own (e := 54) (k := 1) h2 w' hw') (hth w' (M8.own (e := 53) (k := 4) h1 w' hw')) (by simp [S3]) (hops _) hl hv
 have hE : ∀ (rs : List RecV) (lv : Value) {H : List Res} (w' : World), LW false [] w H w' → Res.own 53 4 (.slice (some ⟨bo, 0, none⟩) 2 2) 2 [.int .i64 0, .string S4, .slice none 0 0, .int .i64 0, .int .i64 0, .string S4, .slice none 0 0, .int .i64 0] ∈ H → Res.own 54 1 (.slice (some ⟨bt, 0, none⟩) 2 2) 2 [.slice none 0 0, .slice (some ⟨bo, 0, none⟩) 2 2] ∈ H → rs.length ≤ 24 → E9 w' lv rs.length (rs.flatMap F9) →
   Fn PR C5 12 #[d4.val, .slice (some ⟨bt, 0, none⟩) 2 2, lv, .int .i64 0, .int .i64 1] w' (fun u w'' => u = .bool (N7 d4 (F2 (S3 (.slice (some ⟨bo, 0, none⟩) 2 2)) rs) 0 1) ∧ B5 [] w' w'') := fun rs lv H w' hw' h1 h2 hl hv =>
  A43 w' d4 (.slice (some ⟨bt, 0, none⟩) 2 2) lv (S3 (.slice (some ⟨bo, 0, none⟩) 2 2)) rs 0 1 (M8.own (e := 54) (k := 1) h2 w' hw') (hth w' (M8.own (e := 53) (k := 4) h1 w' hw')) (by simp [S3]) (hops _) hl hv
 have cells1 : ∀ n, ([m5, m8 n].flatMap F9) = [.int .i64 1, .int .i64 0, .int .i64 0, .int .i64 1, .int .i64 2, .int .i64 0, .int .i64 0, .int .i64 7, .bool false, .int .i64 0, .int .i64 1, .int .i64 1, .int .i64 0, .int .i64 3, .int .i64 4, .int .i64 n, .int .i64 0, .int .i64 8, .bool false, .int .i64 0] := fun n => rfl
 refine B5j (α := Value × Value × Value) (fun _ => True) (fun z => [.own 39 2 z.1 1 [.int .i64 0, .int .i64 1], .own 39 2 z.2.1 0 [], .own 39 2 z.2.2 0 [], .pt b7 (.cells #[.int .i64 1, .int .i64 1, .int .i64 0, .int .i64 3, .int .i64 4, .int .i64 6, .int .i64 0, .int .i64 8, .bool false, .int .i64 0] 58), .pt b6 (.cells #[.int .i64 1, .int .i64 1, .int .i64 0, .int .i64 3, .int .i64 4, .int .i64 0, .int .i64 0, .int .i64 8, .bool false, .int .i64 0] 58), .pt b5 (.cells #[.int .i64 1, .int .i64 0, .int .i64 0, .int .i64 1, .int .i64 2, .int .i64 0, .int .i64 0, .int .i64 7, .bool false, .int .i64 0] 58),
  .own 54 1 (.slice (some ⟨bt, 0, none⟩) 2 2) 2 [.slice none 0 0, .slice (some ⟨bo, 0, none⟩) 2 2], .own 53 4 (.slice (some ⟨bo, 0, none⟩) 2 2) 2 [.int .i64 0, .string S4, .slice none 0 0, .int .i64 0, .int .i64 0, .string S4, .slice none 0 0, .int .i64 0], .pt b1 (.cells #[.int .i64 1, .int .i64 1, .int .i64 1, .int .i64 5, .int .i64 2] 23)]) (fun z => z.1) (fun z => z.2.1) (fun z => z.2.2) ?_ ?_
 ·rintro ⟨r1, r2, r3⟩ _
  simp only
  refine A3D (e := 39) (k := 2) (v := r2) (q := 0) (xs := []) (by (repeat constructor)) fun ra2 rc2 e => ?_
  subst e
  refine A3D (e := 39) (k := 2) (v := r3) (q := 0) (xs := []) (by (repeat constructor)) fun ra3 rc3 e => ?_
  subst e
  refine A3F (e := 39) (k := 2) (v := r1) (q := 1) (xs := [.int .i64 0, .int .i64 1]) (by (repeat constructor)) (by omega) fun g1 gc1 hg => ?_
  subst hg
  (have zz:=trivial;repeat((first|clear zz|with_reducible first|refine A3 ?_|refine A5 fun _=>?_|refine A4 fun _=>?_);try simp(disch:=first|omega|assumption|((repeat(first|exact A1|exact uH|apply A2|apply uT));first|done|fail)|(simp;first|done|omega|fail))[]))
  refine C7 r8 (fun w' _ => A5L w' A7c.1 none 0 0 (by have := A1k; show S4.size < 2 ^ 40; omega)) ?_
  rw [B0V]
  have hks := A9y
  generalize p9 A1z = kb at *
  (have zz:=trivial;repeat((first|clear zz|with_reducible first|refine A3 ?_|refine A5 fun _=>?_|refine A4 fun _=>?_);try simp(disch:=first|omega|assumption|((repeat(first|exact A1|exact uH|apply A2|apply uT));first|done|fail)|(simp;first|done|omega|fail))[hks]))
  refine C7 r8 (fun w' _ => A5L w' ⟨3, S4, [], 0⟩ none 0 0 (by have := A1k; show S4.size < 2 ^ 40; omega)) ?_
  rw [show A30 ⟨3, S4, [], 0⟩ = (G4, false) from rfl]
  (have zz:=trivial;repeat((first|clear zz|with_reducible first|refine A3 ?_|refine A5 fun _=>?_|refine A4 fun _=>?_);try simp(disch:=first|omega|assumption|((repeat(first|exact A1|exact uH|apply A2|apply uT));first|done|fail)|(simp;first|done|omega|fail))[hks, bd2, B4n]))
  refine B4 (hK := fun ge => ?_)
  (have zz:=trivial;repeat((first|clear zz|with_reducible first|refine A3 ?_|refine A5 fun _=>?_|refine A4 fun _=>?_);try simp(disch:=first|omega|assumption|((repeat(first|exact A1|exact uH|apply A2|apply uT));first|done|fail)|(simp;first|done|omega|fail))[]))
  refine C7 S2 (fun w' hw' => hE [m5, m8 6] (.slice (some ⟨ge, 0, none⟩) 2 2) w' hw' (by (repeat constructor)) (by (repeat constructor)) (by simp) (by rw [cells1]; exact M8.own (e := 58) (k := 10) (by (repeat constructor)) w' hw')) ?_
  rw [B4N]
  (have zz:=trivial;repeat((first|clear zz|with_reducible first|refine A3 ?_|refine A5 fun _=>?_|refine A4 fun _=>?_);try simp(disch:=first|omega|assumption|((repeat(first|exact A1|exact uH|apply A2|apply uT));first|done|fail)|(simp;first|done|omega|fail))[]))
  refine B4 (hK := fun gf => ?_)
  (have zz:=trivial;repeat((first|clear zz|with_reducible first|refine A3 ?_|refine A5 fun _=>?_|refine A4 fun _=>?_);try simp(disch:=first|omega|assumption|((repeat(first|exact A1|exact uH|apply A2|apply uT));first|done|fail)|(simp;first|done|omega|fail))[]))
  refine C7 S2 (fun w' hw' => hE [m5, m8 0] (.slice (some ⟨gf, 0, none⟩) 2 2) w' hw' (by (repeat constructor)) (by (repeat constructor)) (by simp) (by rw [cells1]; exact M8.own (e := 58) (k := 10) (by (repeat constructor)) w' hw')) ?_
  rw [B4Z]
  (have zz:=trivial;repeat((first|clear zz|with_reducible first|refine A3 ?_|refine A5 fun _=>?_|refine A4 fun _=>?_);try simp(disch:=first|omega|assumption|((repeat(first|exact A1|exact uH|apply A2|apply uT));first|done|fail)|(simp;first|done|omega|fail))[]))
  exact A8 rfl
 ·intro C1 hC1
  (have zz:=trivial;repeat((first|clear zz|with_reducible first|refine A3 ?_|refine A5 fun _=>?_|refine A4 fun _=>?_);try simp(disch:=first|omega|assumption|((repeat(first|exact A1|exact uH|apply A2|apply uT));first|done|fail)|(simp;first|done|omega|fail))[]))
  refine ⟨?_, ?_, fun _ _ => trivial⟩
  ·refine B4 (hK := fun g1 => ?_)
   repeat rw [H3 (by (repeat constructor)) (by rfl)]
   (have zz:=trivial;repeat((first|clear zz|with_reducible first|refine A3 ?_|refine A5 fun _=>?_|refine A4 fun _=>?_);try simp(disch:=first|omega|assumption|((repeat(first|exact A1|exact uH|apply A2|apply uT));first|done|fail)|(simp;first|done|omega|fail))[]))
   refine ⟨?_, ?_, fun _ _ => trivial⟩
   ·refine M4 D8 (fun w' hw' => hB [m5, m8 0] (.slice (some ⟨g1, 0, none⟩) 2 2) w' hw' (by (repeat constructor)) (by (repeat constructor)) (by simp) (by rw [cells1]; exact M8.own (e := 58) (k := 10) (by (repeat constructor)) w' hw')) ?_
    intro _ r1 hu
    subst hu
    rw [A7k]
    repeat rw [H3 (by (repeat constructor)) (by rfl)]
    (have zz:=trivial;repeat((first|clear zz|with_reducible first|refine A3 ?_|refine A5 fun _=>?_|refine A4 fun _=>?_);try simp(disch:=first|omega|assumption|((repeat(first|exact A1|exact uH|apply A2|apply uT));first|done|fail)|(simp;first|done|omega|fail))[]))
    refine B4 (hK := fun g2 => ?_)
    repeat rw [H3 (by (repeat constructor)) (by rfl)]
    (have zz:=trivial;repeat((first|clear zz|with_reducible first|refine A3 ?_|refine A5 fun _=>?_|refine A4 fun _=>?_);try simp(disch:=first|omega|assumption|((repeat(first|exact A1|exact uH|apply A2|apply uT));first|done|fail)|(simp;first|done|omega|fail))[]))
    refine M4 D8 (fun w' hw' => hB [m5, m8 6] (.slice (some ⟨g2, 0, none⟩) 2 2) w' hw' (by (repeat constructor)) (by (repeat constructor)) (by simp) (by rw [cells1]; exact M8.own (e := 58) (k := 10) (by (repeat constructor)) w' hw')) ?_
    intro _ r2 hu
    subst hu
    rw [A63]
    repeat rw [H3 (by (repeat constructor)) (by rfl)]
    (have zz:=trivial;repeat((first|clear zz|with_reducible first|refine A3 ?_|refine A5 fun _=>?_|refine A4 fun _=>?_);try simp(disch:=first|omega|assumption|((repeat(first|exact A1|exact uH|apply A2|apply uT));first|done|fail)|(simp;first|done|omega|fail))[]))
    refine M4 D8 (fun w' hw' => hB [] (.slice none 0 0) w' hw' (by (repeat constructor)) (by (repeat constructor)) (by simp) (Or.inl ⟨rfl, rfl, none, 0, rfl⟩)) ?_
    intro _ r3 hu
    subst hu
    rw [A7P]
    refine Sels.tw ?_ (hC1 (r1, r2, r3) trivial)
    simp only [List.length_cons, List.length_nil, List.flatMap_cons, List.flatMap_nil, A2e, List.append_nil]
    (repeat' constructor)
   ·refine B4 (hK := fun g2 => ?_)
    repeat rw [H3 (by (repeat constructor)) (by rfl)]
    (have zz:=trivial;repeat((first|clear zz|with_reducible first|refine A3 ?_|refine A5 fun _=>?_|refine A4 fun _=>?_);try simp(disch:=first|omega|assumption|((repeat(first|exact A1|exact uH|apply A2|apply uT));first|done|fail)|(simp;first|done|omega|fail))[]))
    refine M4 D8 (fun w' hw' => hB [m5, m8 0] (.slice (some ⟨g1, 0, none⟩) 2 2) w' hw' (by (repeat constructor)) (by (repeat constructor)) (by simp) (by rw [cells1]; exact M8.own (e := 58) (k := 10) (by (repeat constructor)) w' hw')) ?_
    intro _ r1 hu
    subst hu
    rw [A7k]
    repeat rw [H3 (by (repeat constructor)) (by rfl)]
    (have zz:=trivial;repeat((first|clear zz|with_reducible first|refine A3 ?_|refine A5 fun _=>?_|refine A4 fun _=>?_);try simp(disch:=first|omega|assumption|((repeat(first|exact A1|exact uH|apply A2|apply uT));first|done|fail)|(simp;first|done|omega|fail))[]))
    refine M4 D8 (fun w' hw' => hB [m5, m8 6] (.slice (some ⟨g2, 0, none⟩) 2 2) w' hw' (by (repeat constructor)) (by (repeat constructor)) (by simp) (by rw [cells1]; exact M8.own (e := 58) (k := 10) (by (repeat constructor)) w' hw')) ?_
    intro _ r2 hu
    subst hu
    rw [A63]
    repeat rw [H3 (by (repeat constructor)) (by rfl)]
    (have zz:=trivial;repeat((first|clear zz|with_reducible first|refine A3 ?_|refine A5 fun _=>?_|refine A4 fun _=>?_);try simp(disch:=first|omega|assumption|((repeat(first|exact A1|exact uH|apply A2|apply uT));first|done|fail)|(simp;first|done|omega|fail))[]))
    refine M4 D8 (fun w' hw' => hB [] (.slice none 0 0) w' hw' (by (repeat constructor)) (by (repeat constructor)) (by simp) (Or.inl ⟨rfl, rfl, none, 0, rfl⟩)) ?_
    intro _ r3 hu
    subst hu
    rw [A7P]
    refine Sels.tw ?_ (hC1 (r1, r2, r3) trivial)
    simp only [List.length_cons, List.length_nil, List.flatMap_cons, List.flatMap_nil, A2e, List.append_nil]
    (repeat' constructor)
  ·refine B4 (hK := fun g2 => ?_)
   repeat rw [H3 (by (repeat constructor)) (by rfl)]
   (have zz:=trivial;repeat((first|clear zz|with_reducible first|refine A3 ?_|refine A5 fun _=>?_|refine A4 fun _=>?_);try simp(disch:=first|omega|assumption|((repeat(first|exact A1|exact uH|apply A2|apply uT));first|done|fail)|(simp;first|done|omega|fail))[]))
   refine B4 (hK := fun g1 => ?_)
   repeat rw [H3 (by (repeat constructor)) (by rfl)]
   (have zz:=trivial;repeat((first|clear zz|with_reducible first|refine A3 ?_|refine A5 fun _=>?_|refine A4 fun _=>?_);try simp(disch:=first|omega|assumption|((repeat(first|exact A1|exact uH|apply A2|apply uT));first|done|fail)|(simp;first|done|omega|fail))[]))
   refine M4 D8 (fun w' hw' => hB [m5, m8 0] (.slice (some ⟨g1, 0, none⟩) 2 2) w' hw' (by (repeat constructor)) (by (repeat constructor)) (by simp) (by rw [cells1]; exact M8.own (e := 58) (k := 10) (by (repeat constructor)) w' hw')) ?_
   intro _ r1 hu
   subst hu
   rw [A7k]
   repeat rw [H3 (by (repeat constructor)) (by rfl)]
   (have zz:=trivial;repeat((first|clear zz|with_reducible first|refine A3 ?_|refine A5 fun _=>?_|refine A4 fun _=>?_);try simp(disch:=first|omega|assumption|((repeat(first|exact A1|exact uH|apply A2|apply uT));first|done|fail)|(simp;first|done|omega|fail))[]))
   refine M4 D8 (fun w' hw' => hB [m5, m8 6] (.slice (some ⟨g2, 0, none⟩) 2 2) w' hw' (by (repeat constructor)) (by (repeat constructor)) (by simp) (by rw [cells1]; exact M8.own (e := 58) (k := 10) (by (repeat constructor)) w' hw')) ?_
   intro _ r2 hu
   subst hu
   rw [A63]
   repeat rw [H3 (by (repeat constructor)) (by rfl)]
   (have zz:=trivial;repeat((first|clear zz|with_reducible first|refine A3 ?_|refine A5 fun _=>?_|refine A4 fun _=>?_);try simp(disch:=first|omega|assumption|((repeat(first|exact A1|exact uH|apply A2|apply uT));first|done|fail)|(simp;first|done|omega|fail))[]))
   refine M4 D8 (fun w' hw' => hB [] (.slice none 0 0) w' hw' (by (repeat constructor)) (by (repeat constructor)) (by simp) (Or.inl ⟨rfl, rfl, none, 0, rfl⟩)) ?_
   intro _ r3 hu
   subst hu
   rw [A7P]
   refine Sels.tw ?_ (hC1 (r1, r2, r3) trivial)
   simp only [List.length_cons, List.length_nil, List.flatMap_cons, List.flatMap_nil, A2e, List.append_nil]
   (repeat' constructor)
end Go.Proofs.Ytlplkjgcfjdinaa
namespace Go.Proofs.Ytlplkjgcfjdinaa
open Go
theorem B21 {ts : List N5} {w : World} (ht : ∀ t ∈ ts, ThRd w t) : ∀ w', KS false [] w w' → ∀ t ∈ ts, ThRd w' t := fun w' hk t ht' => ⟨(ht t ht').rd.ks hk (by simp), fun o ho => ((ht t ht').pool o ho).ks hk (by simp), (ht t ht').len⟩
theorem B1K (w : World) (b : Nat) (a : Option Addr) (n c : Nat) (i : Int) (h : w.cell? ⟨b, 0, none⟩ = some (.slice a n c)) :
  Fn PR C5 13 #[.int .i64 i, .pointer (some ⟨b, 0, none⟩)] w (fun u w' => u = .bool (decide (0 ≤ i) && decide (i < n)) ∧ B5 [] w w') := by
 refine Fn.pure (k6 (TW.go (κ := false) (S := []) ?_))
 unfold P5
 by_cases h0 : 0 ≤ i
 ·by_cases h1 : i < n
  ·(have zz:=trivial;repeat((first|clear zz|with_reducible first|refine A3 ?_|refine A5 fun _=>?_|refine A4 fun _=>?_);try simp(disch:=first|omega|assumption|((repeat(first|exact A1|exact uH|apply A2|apply uT));first|done|fail)|(simp;first|done|omega|fail))[h, h0, h1]))
   exact A8 (by simp [h0, h1])
  ·(have zz:=trivial;repeat((first|clear zz|with_reducible first|refine A3 ?_|refine A5 fun _=>?_|refine A4 fun _=>?_);try simp(disch:=first|omega|assumption|((repeat(first|exact A1|exact uH|apply A2|apply uT));first|done|fail)|(simp;first|done|omega|fail))[h, h0, h1]))
   exact A8 (by simp [h0, h1])
 ·(have zz:=trivial;repeat((first|clear zz|with_reducible first|refine A3 ?_|refine A5 fun _=>?_|refine A4 fun _=>?_);try simp(disch:=first|omega|assumption|((repeat(first|exact A1|exact uH|apply A2|apply uT));first|done|fail)|(simp;first|done|omega|fail))[h, h0]))
  exact A8 (by simp [h0])
set_option maxHeartbeats 1000000 in
theorem A7u (w : World) (c : CfgV) (tv pv : Value) (ts : List N5) (hs : ScrRd w tv pv ts) (lv : Value) (l : List RecV) (hv : E9 w lv l.length (l.flatMap F9)) (hl : l.length ≤ 9223372036854775807) (f t : Int) :
  Fn PR C5 4 #[B2M c tv pv, lv, .int .i64 f, .int .i64 t] w (fun v w' => v = .bool true ∧ B5 [] w w') := by
 refine Fn.pure (p5 (TW.go (κ := false) (S := []) ?_))
 unfold T8
 obtain ⟨hr, ht, hts0, hpk⟩ := hs
 have hth := B21 ht
 obtain ⟨ta, tc, rfl, _⟩ := hr.form
 obtain ⟨pa, pn, pc, rfl, hpn⟩ := hpk
 obtain ⟨la, lc, rfl, _⟩ := hv.form
 simp only [B2M]
 (have zz:=trivial;repeat((first|clear zz|with_reducible first|refine A3 ?_|refine A5 fun _=>?_|refine A4 fun _=>?_);try simp(disch:=first|omega|assumption|((repeat(first|exact A1|exact uH|apply A2|apply uT));first|done|fail)|(simp;first|done|omega|fail))[]))
 rename_i bs
 refine C7 y6 (fun w' _ => A9P w') ?_
 (have zz:=trivial;repeat((first|clear zz|with_reducible first|refine A3 ?_|refine A5 fun _=>?_|refine A4 fun _=>?_);try simp(disch:=first|omega|assumption|((repeat(first|exact A1|exact uH|apply A2|apply uT));first|done|fail)|(simp;first|done|omega|fail))[]))
 refine A6u (φ := A0H c ts) A08 (fun w' hw' => B1V w' c (.slice ta ts.length tc) (.slice pa pn pc) ts (hr.ks hw'.ks (by simp)) (hth w' hw'.ks) hts0 ⟨_, _, _, rfl, hpn⟩) ?_
 rintro _ ⟨b, rfl, hb⟩
 cases b with
 | false =>
  (have zz:=trivial;repeat((first|clear zz|with_reducible first|refine A3 ?_|refine A5 fun _=>?_|refine A4 fun _=>?_);try simp(disch:=first|omega|assumption|((repeat(first|exact A1|exact uH|apply A2|apply uT));first|done|fail)|(simp;first|done|omega|fail))[]))
  exact A8 rfl
 | true =>
 have hfs := hb rfl
 clear hb
 (have zz:=trivial;repeat((first|clear zz|with_reducible first|refine A3 ?_|refine A5 fun _=>?_|refine A4 fun _=>?_);try simp(disch:=first|omega|assumption|((repeat(first|exact A1|exact uH|apply A2|apply uT));first|done|fail)|(simp;first|done|omega|fail))[]))
 refine C7 A01 (fun w' hw' => B1k w' (.slice la l.length lc) l hl (hv.ks hw'.ks (by simp))) ?_
 by_cases h24 : l.length ≤ 24
 case neg =>
  rw [decide_eq_false h24]
  (have zz:=trivial;repeat((first|clear zz|with_reducible first|refine A3 ?_|refine A5 fun _=>?_|refine A4 fun _=>?_);try simp(disch:=first|omega|assumption|((repeat(first|exact A1|exact uH|apply A2|apply uT));first|done|fail)|(simp;first|done|omega|fail))[]))
  exact A8 rfl
 rw [decide_eq_true h24]
 have hops : ∀ t ∈ ts, t.2.length ≤ 24 ∧ ∀ o ∈ t.2, o.1.packet.size ≤ 100 ∧ o.1.pool.length ≤ 8 := fun t ht => hfs.op ht
 have hts := hfs.len
 (have zz:=trivial;repeat((first|clear zz|with_reducible first|refine A3 ?_|refine A5 fun _=>?_|refine A4 fun _=>?_);try simp(disch:=first|omega|assumption|((repeat(first|exact A1|exact uH|apply A2|apply uT));first|done|fail)|(simp;first|done|omega|fail))[]))
 refine A6u (φ := u6 c l) A0P (fun w' hw' => B3B w' c (.slice la l.length lc) l (hv.ks hw'.ks (by simp)) h24) ?_
 rintro _ ⟨b, rfl, hb⟩
 cases b with
 | false =>
  (have zz:=trivial;repeat((first|clear zz|with_reducible first|refine A3 ?_|refine A5 fun _=>?_|refine A4 fun _=>?_);try simp(disch:=first|omega|assumption|((repeat(first|exact A1|exact uH|apply A2|apply uT));first|done|fail)|(simp;first|done|omega|fail))[]))
  exact A8 rfl
 | true =>
 have hnr := hb rfl
 clear hb
 have hlo := hnr.lo
 have hhi := hnr.hi
 (have zz:=trivial;repeat((first|clear zz|with_reducible first|refine A3 ?_|refine A5 fun _=>?_|refine A4 fun _=>?_);try simp(disch:=first|omega|assumption|((repeat(first|exact A1|exact uH|apply A2|apply uT));first|done|fail)|(simp;first|done|omega|fail))[]))
 refine M4 s5 (fun w' hw' => A6m w' (.slice la l.length lc) l h24 (hv.ks hw'.ks (by simp))) ?_
 intro _ r hr1
 subst hr1
 (have zz:=trivial;repeat((first|clear zz|with_reducible first|refine A3 ?_|refine A5 fun _=>?_|refine A4 fun _=>?_);try simp(disch:=first|omega|assumption|((repeat(first|exact A1|exact uH|apply A2|apply uT));first|done|fail)|(simp;first|done|omega|fail))[]))
 rename_i b11
 refine M4 u0 (fun w' hw' => A4k w' r l h24 (M8.own (e := 58) (k := 10) (by (repeat constructor)) w' hw')) ?_
 intro _ r1 hr1
 subst hr1
 have hwlen : (W0 (G1 l) l.length).length = (F2 ts l).length := by unfold F2; rw [List.length_map]
 rw [hwlen]
 generalize W0 (G1 l) l.length = wl at *
 obtain ⟨c', hc'⟩ : ∃ c' : CfgV, c' = { c with idle := -2000000001 } := ⟨_, rfl⟩
 have hbi : x9 c' (F2 ts l) = [] := B1x hnr.now (by rw [hc'])
 have hcv : c'.val = .agg #[.int .i64 c.wk, .int .i64 c.sh, .int .i64 c.cp, .int .i64 (-2000000001), .int .i64 c.sl] := by rw [hc']; rfl
 have hB' := fun w' => A5n w' c' (.slice ta ts.length tc) r ts l
 have hEx := fun w' => A43 w' c' (.slice ta ts.length tc) r ts l f t
 rw [hcv, hbi] at hB'
 simp only [List.length_nil, List.flatMap_nil] at hB'
 rw [hcv] at hEx
 have hex : N7 c' (F2 ts l) f t = true → (0 ≤ f ∧ f < (F2 ts l).length) ∧ (0 ≤ t ∧ t < (F2 ts l).length) := by
  unfold N7
  intro h
  simp only [Bool.and_eq_true, decide_eq_true_eq] at h
  exact ⟨⟨h.1.1.1.1, h.1.1.2⟩, h.1.1.1.2, h.1.2⟩
 have hsl := A3s ts l
 generalize N7 c' (F2 ts l) f t = ex at *
 generalize hss : F2 ts l = ss at *
 refine A3D (e := 3) (k := 1) (v := r1) (q := ss.length) (xs := H8 wl) (by (repeat constructor)) fun ra rc e => ?_
 subst e
 (have zz:=trivial;repeat((first|clear zz|with_reducible first|refine A3 ?_|refine A5 fun _=>?_|refine A4 fun _=>?_);try simp(disch:=first|omega|assumption|((repeat(first|exact A1|exact uH|apply A2|apply uT));first|done|fail)|(simp;first|done|omega|fail))[]))
 rename_i b12
 refine M4 D8 (fun w' hw' => hB' w' (hr.ks hw'.ks (by simp)) (hth w' hw'.ks) (by omega) hops h24 (M8.own (e := 58) (k := 10) (by (repeat constructor)) w' hw')) ?_
 intro _ r2 hu
 subst hu
 refine A3D (e := 39) (k := 2) (v := r2) (q := 0) (xs := []) (by (repeat constructor)) fun ra2 rc2 e => ?_
 subst e
 (have zz:=trivial;repeat((first|clear zz|with_reducible first|refine A3 ?_|refine A5 fun _=>?_|refine A4 fun _=>?_);try simp(disch:=first|omega|assumption|((repeat(first|exact A1|exact uH|apply A2|apply uT));first|done|fail)|(simp;first|done|omega|fail))[]))
 refine C7 P2 (fun w' hw' => B1K w' b12 ra ss.length rc f (hw'.cell1 (by (repeat constructor)))) ?_
 by_cases rf : 0 ≤ f ∧ f < ss.length
 ·rw [decide_eq_true rf.1, decide_eq_true rf.2]
  (have zz:=trivial;repeat((first|clear zz|with_reducible first|refine A3 ?_|refine A5 fun _=>?_|refine A4 fun _=>?_);try simp(disch:=first|omega|assumption|((repeat(first|exact A1|exact uH|apply A2|apply uT));first|done|fail)|(simp;first|done|omega|fail))[]))
  refine C7 P2 (fun w' hw' => B1K w' b12 ra ss.length rc t (hw'.cell1 (by (repeat constructor)))) ?_
  by_cases rt : 0 ≤ t ∧ t < ss.length
  ·rw [decide_eq_true rt.1, decide_eq_true rt.2]
   (have zz:=trivial;repeat((first|clear zz|with_reducible first|refine A3 ?_|refine A5 fun _=>?_|refine A4 fun _=>?_);try simp(disch:=first|omega|assumption|((repeat(first|exact A1|exact uH|apply A2|apply uT));first|done|fail)|(simp;first|done|omega|fail))[]))
   exact A8 rfl
  ·have hx : ex = false := by
    cases ex with
    | false => rfl
    | true => exact absurd (hex rfl).2 rt
   subst hx
   have hq : (decide (0 ≤ t) && decide (t < ss.length)) = false := by simpa using rt
   rw [hq]
   (have zz:=trivial;repeat((first|clear zz|with_reducible first|refine A3 ?_|refine A5 fun _=>?_|refine A4 fun _=>?_);try simp(disch:=first|omega|assumption|((repeat(first|exact A1|exact uH|apply A2|apply uT));first|done|fail)|(simp;first|done|omega|fail))[]))
   refine C7 S2 (fun w' hw' => hEx w' (hr.ks hw'.ks (by simp)) (hth w' hw'.ks) (by omega) hops h24 (M8.own (e := 58) (k := 10) (by (repeat constructor)) w' hw')) ?_
   (have zz:=trivial;repeat((first|clear zz|with_reducible first|refine A3 ?_|refine A5 fun _=>?_|refine A4 fun _=>?_);try simp(disch:=first|omega|assumption|((repeat(first|exact A1|exact uH|apply A2|apply uT));first|done|fail)|(simp;first|done|omega|fail))[]))
   exact A8 rfl
 ·have hx : ex = false := by
   cases ex with
   | false => rfl
   | true => exact absurd (hex rfl).1 rf
  subst hx
  have hq : (decide (0 ≤ f) && decide (f < ss.length)) = false := by simpa using rf
  rw [hq]
  (have zz:=trivial;repeat((first|clear zz|with_reducible first|refine A3 ?_|refine A5 fun _=>?_|refine A4 fun _=>?_);try simp(disch:=first|omega|assumption|((repeat(first|exact A1|exact uH|apply A2|apply uT));first|done|fail)|(simp;first|done|omega|fail))[]))
  refine C7 S2 (fun w' hw' => hEx w' (hr.ks hw'.ks (by simp)) (hth w' hw'.ks) (by omega) hops h24 (M8.own (e := 58) (k := 10) (by (repeat constructor)) w' hw')) ?_
  (have zz:=trivial;repeat((first|clear zz|with_reducible first|refine A3 ?_|refine A5 fun _=>?_|refine A4 fun _=>?_);try simp(disch:=first|omega|assumption|((repeat(first|exact A1|exact uH|apply A2|apply uT));first|done|fail)|(simp;first|done|omega|fail))[]))
  exact A8 rfl
end Go.Proofs.Ytlplkjgcfjdinaa
