/- The proof of a given statement, a part of it (Rf04 Rf07 Rf08 ShR13 Rf13 Rf17b Rf17c Rf17d Rf17e ShL24 ShR24 Bag). No condition but what each lemma says. -/
import Derived.Test.YtpbmephflllolaaGreatA16
set_option linter.unusedVariables false
set_option linter.unusedSimpArgs false
namespace Go.Proofs.YtpbmephflllolaaGreat
open Go
theorem Q7 {x k : Int} (h : 0 ≤ x) : x.tdiv k = x / k := Int.tdiv_eq_ediv_of_nonneg h
theorem r6 {x k : Int} (h : 0 ≤ x) : x.tmod k = x % k := Int.tmod_eq_emod_of_nonneg h
theorem C2M (w : World) (s : ByteArray) (hs : s.size < 2 ^ 40) : Fn PR B3 171 #[.string s] w (fun v w' => v = (P5 s).val ∧ C1 [] w w') := by
 refine Fn.pure (A5P (TW.go (κ := false) (S := []) ?_))
 unfold A0W
 by_cases c1 : s.size < 20
 ·have c1' : (s.size : Int) < 20 := by omega
  have hv : P5 s = .err 2 := by simp [P5, A40, c1]
  rw [hv]
  (have zz:=trivial;repeat((first|clear zz|with_reducible first|refine A3 ?_|refine A4 fun _=>?_|refine A5 fun _=>?_);try simp(disch:=first|omega|assumption|((repeat(first|exact A1|exact uH|apply A2|apply uT));first|done|fail)|(simp;first|done|omega|fail))[c1, c1']))
  exact A9 rfl
 have c1' : ¬ (s.size : Int) < 20 := by omega
 have hx0 := fun K => A4K (s := s) (x := 0) (by omega) (by simp; omega) K
 rw [show (0 : Int).toNat = 0 from rfl] at hx0
 have hl0 := M7 s 0
 have hg : gv s 0 1 = C3 s 0 := A72 (by omega)
 have hg9 : gv s 9 1 = C3 s 9 := A72 (by omega)
 have hL : K6 s = C3 s 0 % 16 * 4 := by unfold K6; rw [hg]
 by_cases c2 : C3 s 0 / 16 = 4
 case neg =>
  have hv : P5 s = .err 3 := by simp [P5, A40, c1, hg, c2]
  rw [hv]
  have c2' : ¬ (C3 s 0 : Int) / 16 = 4 := by omega
  generalize C3 s 0 = b at *
  (have zz:=trivial;repeat((first|clear zz|with_reducible first|refine A3 ?_|refine A4 fun _=>?_|refine A5 fun _=>?_);try simp(disch:=first|omega|assumption|((repeat(first|exact A1|exact uH|apply A2|apply uT));first|done|fail)|(simp;first|done|omega|fail))[c1, c1', hx0, W4, Q7, c2, c2']))
  exact A9 rfl
 have c2' : (C3 s 0 : Int) / 16 = 4 := by omega
 (have zz:=trivial;repeat((first|clear zz|with_reducible first|refine A3 ?_|refine A4 fun _=>?_|refine A5 fun _=>?_);try simp(disch:=first|omega|assumption|((repeat(first|exact A1|exact uH|apply A2|apply uT));first|done|fail)|(simp;first|done|omega|fail))[c1, c1', hx0, W4, Q7, N7, r6, c2, c2']))
 refine B8 H0 (fun w' _ => x9 w' s hs 2 2 rfl) ?_
 have hw2 := f8 s 2
 have hw6 := f8 s 6
 have eL : ((C3 s 0 : Nat) : Int) % 16 * 4 = (K6 s : Nat) := by rw [hL]; omega
 have hLl : K6 s < 100 := by omega
 have hE : A40 s = if K6 s < 20 ∨ s.size < K6 s ∨ gv s 2 2 < K6 s ∨ s.size < gv s 2 2 then 4 else if m7 (s.extract 0 (K6 s)) ≠ 65535 then 5 else if gv s 6 2 % 16384 ≠ 0 then 6 else 0 := by
  unfold A40; rw [if_neg c1, hg, if_neg (by simp [c2])]
 generalize hG : gv s 2 2 = g at *
 generalize hLe : K6 s = m at *
 by_cases c3 : m < 20 ∨ s.size < m ∨ g < m ∨ s.size < g
 ·have hv : P5 s = .err 4 := by rw [if_pos c3] at hE; simp [P5, hE]
  rw [hv]
  by_cases d1 : m < 20
  ·have d1' : (m : Int) < 20 := by omega
   (have zz:=trivial;repeat((first|clear zz|with_reducible first|refine A3 ?_|refine A4 fun _=>?_|refine A5 fun _=>?_);try simp(disch:=first|omega|assumption|((repeat(first|exact A1|exact uH|apply A2|apply uT));first|done|fail)|(simp;first|done|omega|fail))[c1, c1', hx0, W4, Q7, N7, r6, c2, c2', eL, d1, d1']))
   exact A9 rfl
  have d1' : ¬ (m : Int) < 20 := by omega
  by_cases d2 : s.size < m
  ·have d2' : (s.size : Int) < m := by omega
   (have zz:=trivial;repeat((first|clear zz|with_reducible first|refine A3 ?_|refine A4 fun _=>?_|refine A5 fun _=>?_);try simp(disch:=first|omega|assumption|((repeat(first|exact A1|exact uH|apply A2|apply uT));first|done|fail)|(simp;first|done|omega|fail))[c1, c1', hx0, W4, Q7, N7, r6, c2, c2', eL, d1, d1', d2, d2']))
   exact A9 rfl
  have d2' : ¬ (s.size : Int) < m := by omega
  by_cases d3 : g < m
  ·have d3' : (g : Int) < m := by omega
   (have zz:=trivial;repeat((first|clear zz|with_reducible first|refine A3 ?_|refine A4 fun _=>?_|refine A5 fun _=>?_);try simp(disch:=first|omega|assumption|((repeat(first|exact A1|exact uH|apply A2|apply uT));first|done|fail)|(simp;first|done|omega|fail))[c1, c1', hx0, W4, Q7, N7, r6, c2, c2', eL, d1, d1', d2, d2', d3, d3']))
   exact A9 rfl
  have d3' : ¬ (g : Int) < m := by omega
  have d4 : s.size < g := by omega
  have d4' : (s.size : Int) < g := by omega
  (have zz:=trivial;repeat((first|clear zz|with_reducible first|refine A3 ?_|refine A4 fun _=>?_|refine A5 fun _=>?_);try simp(disch:=first|omega|assumption|((repeat(first|exact A1|exact uH|apply A2|apply uT));first|done|fail)|(simp;first|done|omega|fail))[c1, c1', hx0, W4, Q7, N7, r6, c2, c2', eL, d1, d1', d2, d2', d3, d3', d4, d4']))
  exact A9 rfl
 rw [if_neg c3] at hE
 have d1 : ¬ m < 20 := by omega
 have d1' : ¬ (m : Int) < 20 := by omega
 have d2 : ¬ s.size < m := by omega
 have d2' : ¬ (s.size : Int) < m := by omega
 have d3 : ¬ g < m := by omega
 have d3' : ¬ (g : Int) < m := by omega
 have d4 : ¬ s.size < g := by omega
 have d4' : ¬ (s.size : Int) < g := by omega
 (have zz:=trivial;repeat((first|clear zz|with_reducible first|refine A3 ?_|refine A4 fun _=>?_|refine A5 fun _=>?_);try simp(disch:=first|omega|assumption|((repeat(first|exact A1|exact uH|apply A2|apply uT));first|done|fail)|(simp;first|done|omega|fail))[c1, c1', hx0, W4, Q7, N7, r6, c2, c2', eL, d1, d1', d2, d2', d3, d3', d4, d4']))
 refine B8 A5v (fun w' _ => C3p w' (s.extract 0 m) (by simp; omega)) ?_
 by_cases c4 : m7 (s.extract 0 m) = 65535
 case neg =>
  have hv : P5 s = .err 5 := by rw [if_pos c4] at hE; simp [P5, hE]
  rw [hv]
  (have zz:=trivial;repeat((first|clear zz|with_reducible first|refine A3 ?_|refine A4 fun _=>?_|refine A5 fun _=>?_);try simp(disch:=first|omega|assumption|((repeat(first|exact A1|exact uH|apply A2|apply uT));first|done|fail)|(simp;first|done|omega|fail))[c4]))
  exact A9 rfl
 rw [if_neg (by simp [c4])] at hE
 (have zz:=trivial;repeat((first|clear zz|with_reducible first|refine A3 ?_|refine A4 fun _=>?_|refine A5 fun _=>?_);try simp(disch:=first|omega|assumption|((repeat(first|exact A1|exact uH|apply A2|apply uT));first|done|fail)|(simp;first|done|omega|fail))[c4]))
 refine B8 H0 (fun w' _ => x9 w' s hs 6 6 rfl) ?_
 by_cases c5 : gv s 6 2 % 16384 = 0
 case neg =>
  have hv : P5 s = .err 6 := by rw [if_pos c5] at hE; simp [P5, hE]
  rw [hv]
  have c5' : ¬ (gv s 6 2 : Int) % 16384 = 0 := by omega
  generalize gv s 6 2 = z at *
  (have zz:=trivial;repeat((first|clear zz|with_reducible first|refine A3 ?_|refine A4 fun _=>?_|refine A5 fun _=>?_);try simp(disch:=first|omega|assumption|((repeat(first|exact A1|exact uH|apply A2|apply uT));first|done|fail)|(simp;first|done|omega|fail))[N7, r6, c5, c5']))
  exact A9 rfl
 rw [if_neg (by simp [c5])] at hE
 have hv : P5 s = ⟨s.extract 12 16, s.extract 16 20, C3 s 9, s.extract m g, 0⟩ := by unfold P5; rw [if_pos hE, hG, hLe, hg9]
 rw [hv]
 have c5' : (gv s 6 2 : Int) % 16384 = 0 := by omega
 have hx9 := fun K => A4K (s := s) (x := 9) (by omega) (by simp; omega) K
 rw [show (9 : Int).toNat = 9 from rfl] at hx9
 have hl9 := M7 s 9
 generalize gv s 6 2 = z at *
 (have zz:=trivial;repeat((first|clear zz|with_reducible first|refine A3 ?_|refine A4 fun _=>?_|refine A5 fun _=>?_);try simp(disch:=first|omega|assumption|((repeat(first|exact A1|exact uH|apply A2|apply uT));first|done|fail)|(simp;first|done|omega|fail))[N7, r6, c5, c5', hx9]))
 exact A9 (by simp [HeadV.val, eL])
theorem C3G (w : World) (s : ByteArray) (hs : s.size < 2 ^ 40) : Fn PR B3 172 #[.string s] w (fun v w' => v = (Q4 s).val ∧ C1 [] w w') := by
 refine Fn.pure (A5Q (TW.go (κ := false) (S := []) ?_))
 unfold A0Y
 by_cases c1 : s.size < 40
 ·have c1' : (s.size : Int) < 40 := by omega
  have hv : Q4 s = .err 2 := by simp [Q4, A6a, c1]
  rw [hv]
  (have zz:=trivial;repeat((first|clear zz|with_reducible first|refine A3 ?_|refine A4 fun _=>?_|refine A5 fun _=>?_);try simp(disch:=first|omega|assumption|((repeat(first|exact A1|exact uH|apply A2|apply uT));first|done|fail)|(simp;first|done|omega|fail))[c1, c1']))
  exact A9 rfl
 have c1' : ¬ (s.size : Int) < 40 := by omega
 have hx0 := fun K => A4K (s := s) (x := 0) (by omega) (by simp; omega) K
 rw [show (0 : Int).toNat = 0 from rfl] at hx0
 have hl0 := M7 s 0
 have hg : gv s 0 1 = C3 s 0 := A72 (by omega)
 have hg6 : gv s 6 1 = C3 s 6 := A72 (by omega)
 by_cases c2 : C3 s 0 / 16 = 6
 case neg =>
  have hv : Q4 s = .err 3 := by simp [Q4, A6a, c1, hg, c2]
  rw [hv]
  have c2' : ¬ (C3 s 0 : Int) / 16 = 6 := by omega
  generalize C3 s 0 = b at *
  (have zz:=trivial;repeat((first|clear zz|with_reducible first|refine A3 ?_|refine A4 fun _=>?_|refine A5 fun _=>?_);try simp(disch:=first|omega|assumption|((repeat(first|exact A1|exact uH|apply A2|apply uT));first|done|fail)|(simp;first|done|omega|fail))[c1, c1', hx0, W4, Q7, c2, c2']))
  exact A9 rfl
 have c2' : (C3 s 0 : Int) / 16 = 6 := by omega
 (have zz:=trivial;repeat((first|clear zz|with_reducible first|refine A3 ?_|refine A4 fun _=>?_|refine A5 fun _=>?_);try simp(disch:=first|omega|assumption|((repeat(first|exact A1|exact uH|apply A2|apply uT));first|done|fail)|(simp;first|done|omega|fail))[c1, c1', hx0, W4, Q7, N7, r6, c2, c2']))
 refine B8 H0 (fun w' _ => x9 w' s hs 4 4 rfl) ?_
 have hw4 := f8 s 4
 have hE : A6a s = if s.size - 40 < gv s 4 2 then 4 else 0 := by
  unfold A6a; rw [if_neg c1, hg, if_neg (by simp [c2])]
 generalize hG : gv s 4 2 = g at *
 by_cases c3 : s.size - 40 < g
 ·have hv : Q4 s = .err 4 := by rw [if_pos c3] at hE; simp [Q4, hE]
  rw [hv]
  have c3' : (s.size : Int) - 40 < g := by omega
  (have zz:=trivial;repeat((first|clear zz|with_reducible first|refine A3 ?_|refine A4 fun _=>?_|refine A5 fun _=>?_);try simp(disch:=first|omega|assumption|((repeat(first|exact A1|exact uH|apply A2|apply uT));first|done|fail)|(simp;first|done|omega|fail))[c1', c3, c3']))
  exact A9 rfl
 rw [if_neg c3] at hE
 have hv : Q4 s = ⟨s.extract 8 24, s.extract 24 40, C3 s 6, s.extract 40 (40 + g), 0⟩ := by unfold Q4; rw [if_pos hE, hG, hg6]
 rw [hv]
 have c3' : ¬ (s.size : Int) - 40 < g := by omega
 have hx6 := fun K => A4K (s := s) (x := 6) (by omega) (by simp; omega) K
 rw [show (6 : Int).toNat = 6 from rfl] at hx6
 have hl6 := M7 s 6
 have e : (40 + (g : Int)).toNat = 40 + g := by omega
 (have zz:=trivial;repeat((first|clear zz|with_reducible first|refine A3 ?_|refine A4 fun _=>?_|refine A5 fun _=>?_);try simp(disch:=first|omega|assumption|((repeat(first|exact A1|exact uH|apply A2|apply uT));first|done|fail)|(simp;first|done|omega|fail))[c1', c3, c3', hx6]))
 exact A9 (by simp [HeadV.val, e])
theorem C2q (w : World) (s : ByteArray) (hs : s.size < 2 ^ 40) (n : Int) : Fn PR B3 124 #[.int .i64 n, .string s] w (fun v w' => v = L5.val (L5 n s) ∧ C1 [] w w') := by
 refine Fn.pure (A5s (TW.go (κ := false) (S := []) ?_))
 unfold A0s
 by_cases c0 : n = 6 ∨ n = 17
 case neg =>
  have c6 : ¬ n = 6 := by omega
  have c7 : ¬ n = 17 := by omega
  have hv : L5 n s = (0, 0, 0, 7) := by simp [L5, A0F, c6, c7]
  rw [hv]
  (have zz:=trivial;repeat((first|clear zz|with_reducible first|refine A3 ?_|refine A4 fun _=>?_|refine A5 fun _=>?_);try simp(disch:=first|omega|assumption|((repeat(first|exact A1|exact uH|apply A2|apply uT));first|done|fail)|(simp;first|done|omega|fail))[c6, c7]))
  exact A9 rfl
 have hw0 := f8 s 0
 have hw2 := f8 s 2
 by_cases c6 : n = 6
 ·subst c6
  have hp : A0F 6 s = A1l s := rfl
  by_cases c1 : s.size < 20
  ·have c1' : (s.size : Int) < 20 := by omega
   have hv : L5 6 s = (0, 0, 0, 2) := by unfold L5; rw [hp]; simp [A1l, c1]
   rw [hv]
   (have zz:=trivial;repeat((first|clear zz|with_reducible first|refine A3 ?_|refine A4 fun _=>?_|refine A5 fun _=>?_);try simp(disch:=first|omega|assumption|((repeat(first|exact A1|exact uH|apply A2|apply uT));first|done|fail)|(simp;first|done|omega|fail))[c1, c1']))
   exact A9 rfl
  have c1' : ¬ (s.size : Int) < 20 := by omega
  have c2' : ¬ (s.size : Int) < 8 := by omega
  have hx12 := fun K => A4K (s := s) (x := 12) (by omega) (by simp; omega) K
  rw [show (12 : Int).toNat = 12 from rfl] at hx12
  have hl12 := M7 s 12
  have hx13 := fun K => A4K (s := s) (x := 13) (by omega) (by simp; omega) K
  rw [show (13 : Int).toNat = 13 from rfl] at hx13
  have hl13 := M7 s 13
  (have zz:=trivial;repeat((first|clear zz|with_reducible first|refine A3 ?_|refine A4 fun _=>?_|refine A5 fun _=>?_);try simp(disch:=first|omega|assumption|((repeat(first|exact A1|exact uH|apply A2|apply uT));first|done|fail)|(simp;first|done|omega|fail))[c1', c2']))
  refine B8 H0 (fun w' _ => x9 w' s hs 0 0 rfl) ?_
  (have zz:=trivial;repeat((first|clear zz|with_reducible first|refine A3 ?_|refine A4 fun _=>?_|refine A5 fun _=>?_);try simp(disch:=first|omega|assumption|((repeat(first|exact A1|exact uH|apply A2|apply uT));first|done|fail)|(simp;first|done|omega|fail))[]))
  refine B8 H0 (fun w' _ => x9 w' s hs 2 2 rfl) ?_
  have ht : A1l s = if C3 s 12 / 16 * 4 < 20 ∨ s.size < C3 s 12 / 16 * 4 then (0, 8) else (C3 s 13, 0) := by unfold A1l; rw [if_neg c1]
  have hv0 : L5 6 s = if (A1l s).2 ≠ 0 then (0, 0, 0, (A1l s).2) else (gv s 0 2, gv s 2 2, (A1l s).1, 0) := by unfold L5; rw [hp]
  rw [ht] at hv0
  generalize gv s 0 2 = g0 at *
  generalize gv s 2 2 = g2 at *
  generalize C3 s 12 = b at *
  generalize C3 s 13 = f at *
  by_cases c3 : b / 16 * 4 < 20
  ·rw [if_pos (Or.inl c3)] at hv0
   rw [hv0]
   have c3' : (b : Int) / 16 * 4 < 20 := by omega
   (have zz:=trivial;repeat((first|clear zz|with_reducible first|refine A3 ?_|refine A4 fun _=>?_|refine A5 fun _=>?_);try simp(disch:=first|omega|assumption|((repeat(first|exact A1|exact uH|apply A2|apply uT));first|done|fail)|(simp;first|done|omega|fail))[hx12, W4, Q7, c3, c3']))
   exact A9 rfl
  have c3' : ¬ (b : Int) / 16 * 4 < 20 := by omega
  by_cases c4 : s.size < b / 16 * 4
  ·rw [if_pos (Or.inr c4)] at hv0
   rw [hv0]
   have c4' : (s.size : Int) < (b : Int) / 16 * 4 := by omega
   (have zz:=trivial;repeat((first|clear zz|with_reducible first|refine A3 ?_|refine A4 fun _=>?_|refine A5 fun _=>?_);try simp(disch:=first|omega|assumption|((repeat(first|exact A1|exact uH|apply A2|apply uT));first|done|fail)|(simp;first|done|omega|fail))[hx12, W4, Q7, c3, c3', c4, c4']))
   exact A9 rfl
  have c4' : ¬ (s.size : Int) < (b : Int) / 16 * 4 := by omega
  have c5 : ¬ (b / 16 * 4 < 20 ∨ s.size < b / 16 * 4) := by omega
  rw [if_neg c5] at hv0
  rw [hv0]
  (have zz:=trivial;repeat((first|clear zz|with_reducible first|refine A3 ?_|refine A4 fun _=>?_|refine A5 fun _=>?_);try simp(disch:=first|omega|assumption|((repeat(first|exact A1|exact uH|apply A2|apply uT));first|done|fail)|(simp;first|done|omega|fail))[hx12, hx13, W4, Q7, c3, c3', c4, c4']))
  exact A9 (by simp [L5.val])
 ·obtain rfl : n = 17 := by omega
  have hp : A0F 17 s = A1k s := rfl
  by_cases c1 : s.size < 8
  ·have c1' : (s.size : Int) < 8 := by omega
   have hv : L5 17 s = (0, 0, 0, 2) := by unfold L5; rw [hp]; simp [A1k, c1]
   rw [hv]
   (have zz:=trivial;repeat((first|clear zz|with_reducible first|refine A3 ?_|refine A4 fun _=>?_|refine A5 fun _=>?_);try simp(disch:=first|omega|assumption|((repeat(first|exact A1|exact uH|apply A2|apply uT));first|done|fail)|(simp;first|done|omega|fail))[c1, c1']))
   exact A9 rfl
  have c1' : ¬ (s.size : Int) < 8 := by omega
  (have zz:=trivial;repeat((first|clear zz|with_reducible first|refine A3 ?_|refine A4 fun _=>?_|refine A5 fun _=>?_);try simp(disch:=first|omega|assumption|((repeat(first|exact A1|exact uH|apply A2|apply uT));first|done|fail)|(simp;first|done|omega|fail))[c1']))
  refine B8 H0 (fun w' _ => x9 w' s hs 0 0 rfl) ?_
  (have zz:=trivial;repeat((first|clear zz|with_reducible first|refine A3 ?_|refine A4 fun _=>?_|refine A5 fun _=>?_);try simp(disch:=first|omega|assumption|((repeat(first|exact A1|exact uH|apply A2|apply uT));first|done|fail)|(simp;first|done|omega|fail))[]))
  refine B8 H0 (fun w' _ => x9 w' s hs 2 2 rfl) ?_
  (have zz:=trivial;repeat((first|clear zz|with_reducible first|refine A3 ?_|refine A4 fun _=>?_|refine A5 fun _=>?_);try simp(disch:=first|omega|assumption|((repeat(first|exact A1|exact uH|apply A2|apply uT));first|done|fail)|(simp;first|done|omega|fail))[]))
  refine B8 H0 (fun w' _ => x9 w' s hs 4 4 rfl) ?_
  have hw4 := f8 s 4
  have ht : A1k s = if gv s 4 2 < 8 ∨ s.size < gv s 4 2 then (0, 4) else (0, 0) := by unfold A1k; rw [if_neg c1]
  have hv0 : L5 17 s = if (A1k s).2 ≠ 0 then (0, 0, 0, (A1k s).2) else (gv s 0 2, gv s 2 2, (A1k s).1, 0) := by unfold L5; rw [hp]
  rw [ht] at hv0
  generalize gv s 0 2 = g0 at *
  generalize gv s 2 2 = g2 at *
  generalize gv s 4 2 = b at *
  by_cases c3 : b < 8
  ·rw [if_pos (Or.inl c3)] at hv0
   rw [hv0]
   have c3' : (b : Int) < 8 := by omega
   (have zz:=trivial;repeat((first|clear zz|with_reducible first|refine A3 ?_|refine A4 fun _=>?_|refine A5 fun _=>?_);try simp(disch:=first|omega|assumption|((repeat(first|exact A1|exact uH|apply A2|apply uT));first|done|fail)|(simp;first|done|omega|fail))[c3, c3']))
   exact A9 rfl
  have c3' : ¬ (b : Int) < 8 := by omega
  by_cases c4 : s.size < b
  ·rw [if_pos (Or.inr c4)] at hv0
   rw [hv0]
   have c4' : (s.size : Int) < (b : Int) := by omega
   (have zz:=trivial;repeat((first|clear zz|with_reducible first|refine A3 ?_|refine A4 fun _=>?_|refine A5 fun _=>?_);try simp(disch:=first|omega|assumption|((repeat(first|exact A1|exact uH|apply A2|apply uT));first|done|fail)|(simp;first|done|omega|fail))[c3, c3', c4, c4']))
   exact A9 rfl
  have c4' : ¬ (s.size : Int) < (b : Int) := by omega
  have c5 : ¬ (b < 8 ∨ s.size < b) := by omega
  rw [if_neg c5] at hv0
  rw [hv0]
  (have zz:=trivial;repeat((first|clear zz|with_reducible first|refine A3 ?_|refine A4 fun _=>?_|refine A5 fun _=>?_);try simp(disch:=first|omega|assumption|((repeat(first|exact A1|exact uH|apply A2|apply uT));first|done|fail)|(simp;first|done|omega|fail))[c3, c3', c4, c4']))
  exact A9 (by simp [L5.val])
end Go.Proofs.YtpbmephflllolaaGreat
namespace Go.Proofs.YtpbmephflllolaaGreat
open Go
def C43 (x : KeyV × ByteArray × Nat) : Value := .agg #[.string x.1.src, .string x.1.dst, .string x.2.1, .int .i64 x.1.proto, .int .i64 x.2.2]
theorem C34 (w : World) (s : ByteArray) (hs : s.size < 2 ^ 40) (h0 : 0 < s.size) : Fn PR B3 123 #[.string s] w (fun v w' => v = C43 (M1 s) ∧ C1 [] w w') := by
 refine Fn.pure (A68 (TW.go (κ := false) (S := []) ?_))
 unfold A09
 have hx0 := fun K => A4K (s := s) (x := 0) (by omega) (by simp; omega) K
 rw [show (0 : Int).toNat = 0 from rfl] at hx0
 have hl0 := M7 s 0
 have hv : M1 s = if C3 s 0 / 16 = 4 then (⟨4, (P5 s).src, (P5 s).dst, 0, 0, (P5 s).proto⟩, (P5 s).rest, (P5 s).e)
  else if C3 s 0 / 16 = 6 then (⟨6, (Q4 s).src, (Q4 s).dst, 0, 0, (Q4 s).proto⟩, (Q4 s).rest, (Q4 s).e) else (noK, Q8, 3) := by unfold M1; rw [if_neg (by omega)]
 generalize C3 s 0 = b at *
 by_cases c4 : b / 16 = 4
 ·rw [hv, if_pos c4]
  have c4' : (b : Int) / 16 = 4 := by omega
  (have zz:=trivial;repeat((first|clear zz|with_reducible first|refine A3 ?_|refine A4 fun _=>?_|refine A5 fun _=>?_);try simp(disch:=first|omega|assumption|((repeat(first|exact A1|exact uH|apply A2|apply uT));first|done|fail)|(simp;first|done|omega|fail))[hx0, W4, Q7, c4, c4']))
  refine B8 A4g (fun w' _ => C2M w' s hs) ?_
  (have zz:=trivial;repeat((first|clear zz|with_reducible first|refine A3 ?_|refine A4 fun _=>?_|refine A5 fun _=>?_);try simp(disch:=first|omega|assumption|((repeat(first|exact A1|exact uH|apply A2|apply uT));first|done|fail)|(simp;first|done|omega|fail))[HeadV.val]))
  exact A9 rfl
 have c4' : ¬ (b : Int) / 16 = 4 := by omega
 by_cases c6 : b / 16 = 6
 ·rw [hv, if_neg c4, if_pos c6]
  have c6' : (b : Int) / 16 = 6 := by omega
  (have zz:=trivial;repeat((first|clear zz|with_reducible first|refine A3 ?_|refine A4 fun _=>?_|refine A5 fun _=>?_);try simp(disch:=first|omega|assumption|((repeat(first|exact A1|exact uH|apply A2|apply uT));first|done|fail)|(simp;first|done|omega|fail))[hx0, W4, Q7, c4, c4', c6, c6']))
  refine B8 A4j (fun w' _ => C3G w' s hs) ?_
  (have zz:=trivial;repeat((first|clear zz|with_reducible first|refine A3 ?_|refine A4 fun _=>?_|refine A5 fun _=>?_);try simp(disch:=first|omega|assumption|((repeat(first|exact A1|exact uH|apply A2|apply uT));first|done|fail)|(simp;first|done|omega|fail))[HeadV.val]))
  exact A9 rfl
 ·rw [hv, if_neg c4, if_neg c6]
  have c6' : ¬ (b : Int) / 16 = 6 := by omega
  (have zz:=trivial;repeat((first|clear zz|with_reducible first|refine A3 ?_|refine A4 fun _=>?_|refine A5 fun _=>?_);try simp(disch:=first|omega|assumption|((repeat(first|exact A1|exact uH|apply A2|apply uT));first|done|fail)|(simp;first|done|omega|fail))[hx0, W4, Q7, c4, c4', c6, c6']))
  exact A9 rfl
theorem C4H {s : ByteArray} (h0 : 0 < s.size) (he : (M1 s).2.2 = 0) : (M1 s).1.v = (C3 s 0 / 16 : Nat) := by
 unfold M1 at he ⊢
 rw [if_neg (by omega)] at he ⊢
 by_cases c4 : C3 s 0 / 16 = 4
 ·rw [if_pos c4, c4]; rfl
 rw [if_neg c4] at he ⊢
 by_cases c6 : C3 s 0 / 16 = 6
 ·rw [if_pos c6, c6]; rfl
 ·rw [if_neg c6] at he; simp at he
theorem C3C (w : World) (s : ByteArray) (hs : s.size < 2 ^ 40) : Fn PR B3 73 #[.string s] w (fun u w' => u = packet.val (D8 s) ∧ C1 [] w w') := by
 refine Fn.pure (A5r (TW.go (κ := false) (S := []) ?_))
 unfold A0g
 by_cases c0 : s.size = 0
 ·have c0' : (s.size : Int) = 0 := by omega
  have hv : D8 s = (noK, 0, 2) := by unfold D8 M1; rw [if_pos c0]; rfl
  rw [hv]
  (have zz:=trivial;repeat((first|clear zz|with_reducible first|refine A3 ?_|refine A4 fun _=>?_|refine A5 fun _=>?_);try simp(disch:=first|omega|assumption|((repeat(first|exact A1|exact uH|apply A2|apply uT));first|done|fail)|(simp;first|done|omega|fail))[c0, c0']))
  exact A9 rfl
 have c0' : ¬ (s.size : Int) = 0 := by omega
 (have zz:=trivial;repeat((first|clear zz|with_reducible first|refine A3 ?_|refine A4 fun _=>?_|refine A5 fun _=>?_);try simp(disch:=first|omega|assumption|((repeat(first|exact A1|exact uH|apply A2|apply uT));first|done|fail)|(simp;first|done|omega|fail))[c0, c0']))
 refine B8 A5n (fun w' _ => C34 w' s hs (by omega)) ?_
 have hr := B70 s
 by_cases c1 : (M1 s).2.2 = 0
 case neg =>
  have hv : D8 s = (noK, 0, (M1 s).2.2) := by unfold D8; simp only; rw [if_pos c1]
  rw [hv]
  generalize M1 s = x at *
  obtain ⟨⟨v, src, dst, fr, tp, pr⟩, rest, e⟩ := x
  simp only at c1 hr
  (have zz:=trivial;repeat((first|clear zz|with_reducible first|refine A3 ?_|refine A4 fun _=>?_|refine A5 fun _=>?_);try simp(disch:=first|omega|assumption|((repeat(first|exact A1|exact uH|apply A2|apply uT));first|done|fail)|(simp;first|done|omega|fail))[C43, c1]))
  exact A9 rfl
 have hx0 := fun K => A4K (s := s) (x := 0) (by omega) (by simp; omega) K
 rw [show (0 : Int).toNat = 0 from rfl] at hx0
 have hl0 := M7 s 0
 have hvv := C4H (by omega) c1
 have hv : D8 s = let y := L5 (M1 s).1.proto (M1 s).2.1; if y.2.2.2 ≠ 0 then (noK, 0, y.2.2.2) else ({ (M1 s).1 with fr := y.1, tp := y.2.1 }, y.2.2.1, 0) := by unfold D8; simp only; rw [if_neg (by simp [c1])]
 rw [hv]
 generalize M1 s = x at *
 generalize C3 s 0 = b at *
 obtain ⟨⟨v, src, dst, fr, tp, pr⟩, rest, e⟩ := x
 simp only at c1 hr hvv ⊢
 subst c1 hvv
 (have zz:=trivial;repeat((first|clear zz|with_reducible first|refine A3 ?_|refine A4 fun _=>?_|refine A5 fun _=>?_);try simp(disch:=first|omega|assumption|((repeat(first|exact A1|exact uH|apply A2|apply uT));first|done|fail)|(simp;first|done|omega|fail))[C43]))
 refine B8 A4U (fun w' _ => C2q w' rest (by omega) pr) ?_
 generalize L5 pr rest = y
 obtain ⟨y1, y2, y3, y4⟩ := y
 by_cases c2 : y4 = 0
 case neg =>
  simp only [if_pos c2]
  (have zz:=trivial;repeat((first|clear zz|with_reducible first|refine A3 ?_|refine A4 fun _=>?_|refine A5 fun _=>?_);try simp(disch:=first|omega|assumption|((repeat(first|exact A1|exact uH|apply A2|apply uT));first|done|fail)|(simp;first|done|omega|fail))[L5.val, c2]))
  exact A9 rfl
 ·subst c2
  (have zz:=trivial;repeat((first|clear zz|with_reducible first|refine A3 ?_|refine A4 fun _=>?_|refine A5 fun _=>?_);try simp(disch:=first|omega|assumption|((repeat(first|exact A1|exact uH|apply A2|apply uT));first|done|fail)|(simp;first|done|omega|fail))[L5.val, hx0, W4, Q7]))
  exact A9 (by simp [packet.val, S3])
theorem C1L (q c : Nat) (hc : c < 8) : q &&& c = q % 8 &&& c := by
 have h : (q &&& c) % 2 ^ 3 = q % 2 ^ 3 &&& c % 2 ^ 3 := Nat.and_mod_two_pow
 have h1 : q &&& c ≤ c := Nat.and_le_right
 rw [Nat.mod_eq_of_lt (by omega : q &&& c < 2 ^ 3), Nat.mod_eq_of_lt (by omega : c < 2 ^ 3)] at h
 exact h
theorem B72 (w : World) (k : KeyV) (f : Int) : Fn PR B3 76 #[S3 k f] w (fun u w' => u = .bool (S9 k f) ∧ C1 [] w w') := by
 refine Fn.pure (A39 (TW.go (κ := false) (S := []) ?_))
 unfold w8 S3 S9
 by_cases c0 : k.proto = 6
 case neg =>
  (have zz:=trivial;repeat((first|clear zz|with_reducible first|refine A3 ?_|refine A4 fun _=>?_|refine A5 fun _=>?_);try simp(disch:=first|omega|assumption|((repeat(first|exact A1|exact uH|apply A2|apply uT));first|done|fail)|(simp;first|done|omega|fail))[c0]))
  exact A9 (by simp)
 generalize hq : (f % 2 ^ IntKind.i64.bits).toNat = q
 have w0 : ∀ c, c < 8 → IntKind.i64.wrap ((q &&& c % 2 ^ IntKind.i64.bits : Nat) : Int) = (q % 8 &&& c : Nat) := fun c hc => by
  rw [show c % 2 ^ IntKind.i64.bits = c from Nat.mod_eq_of_lt (by show c < 2 ^ 64; omega), C1L q c hc]
  have h1 : q % 8 &&& c ≤ c := Nat.and_le_right
  exact V3 (by omega) (by omega)
 have w1 := w0 1 (by omega)
 have w4 := w0 4 (by omega)
 have w5 := w0 5 (by omega)
 have hall : ∀ r < 8, ((r &&& 1 = 1 ∨ r &&& 4 = 4) ↔ ¬ r &&& 5 = 0) := by decide
 have hr := hall (q % 8) (by omega)
 rw [w5]
 generalize q % 8 &&& 1 = x1 at *
 generalize q % 8 &&& 4 = x4 at *
 generalize q % 8 &&& 5 = x5 at *
 by_cases d1 : x1 = 1
 ·have d1' : (x1 : Int) = 1 := by omega
  have d5 : ¬ (x5 : Int) = 0 := by have := hr.1 (Or.inl d1); omega
  (have zz:=trivial;repeat((first|clear zz|with_reducible first|refine A3 ?_|refine A4 fun _=>?_|refine A5 fun _=>?_);try simp(disch:=first|omega|assumption|((repeat(first|exact A1|exact uH|apply A2|apply uT));first|done|fail)|(simp;first|done|omega|fail))[c0, hq, w1, w4, d1, d1', d5]))
  exact A9 (by simp; omega)
 have d1' : ¬ (x1 : Int) = 1 := by omega
 by_cases d4 : x4 = 4
 ·have d4' : (x4 : Int) = 4 := by omega
  have d5 : ¬ (x5 : Int) = 0 := by have := hr.1 (Or.inr d4); omega
  (have zz:=trivial;repeat((first|clear zz|with_reducible first|refine A3 ?_|refine A4 fun _=>?_|refine A5 fun _=>?_);try simp(disch:=first|omega|assumption|((repeat(first|exact A1|exact uH|apply A2|apply uT));first|done|fail)|(simp;first|done|omega|fail))[c0, hq, w1, w4, d1, d1', d4, d4', d5]))
  exact A9 (by simp; omega)
 have d4' : ¬ (x4 : Int) = 4 := by omega
 have d5 : (x5 : Int) = 0 := by omega
 (have zz:=trivial;repeat((first|clear zz|with_reducible first|refine A3 ?_|refine A4 fun _=>?_|refine A5 fun _=>?_);try simp(disch:=first|omega|assumption|((repeat(first|exact A1|exact uH|apply A2|apply uT));first|done|fail)|(simp;first|done|omega|fail))[c0, hq, w1, w4, d1, d1', d4, d4', d5]))
 exact A9 (by simp [d5])
theorem C0Y (l : List UInt8) (a b : Nat) : Lib.repeatL l (a + b) = Lib.repeatL l a ++ Lib.repeatL l b := by
 induction a with
 | zero => simp [Lib.repeatL]
 | succ a ih => rw [Nat.succ_add]; simp only [Lib.repeatL, ih, List.append_assoc]
theorem B1l (a b : Nat) : Q6 z1 (a + b) = Q6 z1 a ++ Q6 z1 b := by
 apply ByteArray.ext
 rw [ByteArray.data_append]
 simp only [Q6, C0Y]
 simp
theorem C3l : Q6 z1 1 = ByteArray.mk #[0] := rfl
theorem C1j : Q6 z1 0 = Q8 := rfl
def A6Q (s : ByteArray) : ByteArray := s ++ Q6 z1 (16 - s.size)
theorem B7H (w : World) (s : ByteArray) (hs : s.size ≤ 16) : Fn PR B3 127 #[.string s] w (fun u w' => u = .string (A6Q s) ∧ C1 [] w w') := by
 refine Fn.pure (A7F (TW.go (κ := false) (S := []) ?_))
 unfold A1Y
 (have zz:=trivial;repeat((first|clear zz|with_reducible first|refine A3 ?_|refine A4 fun _=>?_|refine A5 fun _=>?_);try simp(disch:=first|omega|assumption|((repeat(first|exact A1|exact uH|apply A2|apply uT));first|done|fail)|(simp;first|done|omega|fail))[]))
 rw [show (Value.string s) = .string (s ++ Q6 z1 0) by rw [C1j, u6]]
 refine C0s (fun _ : Nat => []) (· ≤ 16 - s.size) (fun i => 16 - s.size - i) 0 (fun i => .string (s ++ Q6 z1 i)) (Nat.zero_le _) ?_
 intro i hi L hL
 have hz := T0 i
 by_cases c1 : s.size + i < 16
 ·have c1' : (s.size : Int) + i < 16 := by omega
  have h := hL (i + 1) (by omega) (by omega)
  have hsz : (s ++ Q6 z1 i).size + (ByteArray.mk #[0]).size ≤ maxLen := by
   rw [ByteArray.size_append, hz]; show s.size + i + 1 ≤ maxLen; simp only [maxLen]; omega
  rw [B1l, C3l, ← ByteArray.append_assoc] at h
  (have zz:=trivial;repeat((first|clear zz|with_reducible first|refine A3 ?_|refine A4 fun _=>?_|refine A5 fun _=>?_);try simp(disch:=first|omega|assumption|((repeat(first|exact A1|exact uH|apply A2|apply uT));first|done|fail)|(simp;first|done|omega|fail))[hz, c1, c1', P0 hsz]))
  exact h
 ·have c1' : ¬ (s.size : Int) + i < 16 := by omega
  have e : i = 16 - s.size := by omega
  (have zz:=trivial;repeat((first|clear zz|with_reducible first|refine A3 ?_|refine A4 fun _=>?_|refine A5 fun _=>?_);try simp(disch:=first|omega|assumption|((repeat(first|exact A1|exact uH|apply A2|apply uT));first|done|fail)|(simp;first|done|omega|fail))[hz, c1, c1']))
  exact A9 (by rw [e]; rfl)
theorem A9b (a t : ByteArray) (m : Nat) (h : t.size ≤ m) : Y9 (a ++ Q6 z1 m) a.size t = a ++ t ++ Q6 z1 (m - t.size) := by
 have e : Q6 z1 m = Q6 z1 t.size ++ Q6 z1 (m - t.size) := by rw [← B1l]; congr 1; omega
 have hz := T0 t.size
 have hz2 := T0 (m - t.size)
 rw [e]
 unfold Y9
 apply ByteArray.ext
 apply Array.toList_inj.1
 have h1 : (Q6 z1 t.size).data.toList.length = t.size := hz
 have h2 : (Q6 z1 (m - t.size)).data.toList.length = m - t.size := hz2
 have h3 : a.data.toList.length = a.size := rfl
 simp only [ByteArray.data_append, ByteArray.data_extract, Array.toList_append, Array.toList_extract, ByteArray.size_append]
 rw [hz, hz2]
 generalize Q6 z1 t.size = u at *
 generalize Q6 z1 (m - t.size) = v at *
 have h4 : (a.data ++ (u.data ++ v.data)).toList = a.data.toList ++ (u.data.toList ++ v.data.toList) := by simp
 have h5 : t.size + (m - t.size) = m := by omega
 rw [h4, h5, ← h3, List.extract_eq_take_drop, List.extract_eq_take_drop, List.drop_zero, Nat.sub_zero, List.take_left, List.drop_append, List.drop_eq_nil_of_le (by omega), List.nil_append,
  show a.data.toList.length + t.size - a.data.toList.length = u.data.toList.length by rw [h1]; omega, List.drop_left, List.take_of_length_le (by omega)]
theorem C0q (k : KeyV) (hv : k.v = 4 ∨ k.v = 6) (hs : k.src.size = U0 k.v) (hd : k.dst.size = U0 k.v) (hp : k.proto = 6 ∨ k.proto = 17) :
  A1C k = E4 k.v 1 ++ E4 k.proto 1 ++ (E4 k.fr 2 ++ E4 k.tp 2) ++ A6Q k.src ++ A6Q k.dst := by
 have h2 : E4 (k.v * 256 + k.proto) 2 = E4 k.v 1 ++ E4 k.proto 1 := by
  rcases hv with h | h <;> rcases hp with h' | h' <;> rw [h, h'] <;> rfl
 have hl : U0 k.v ≤ 16 := by rcases hv with h | h <;> rw [h] <;> decide
 unfold A1C A6Q
 rw [h2]
 have hH : (E4 k.v 1 ++ E4 k.proto 1 ++ E4 k.fr 2 ++ E4 k.tp 2).size = 6 := by simp
 generalize hx : E4 k.v 1 ++ E4 k.proto 1 ++ E4 k.fr 2 ++ E4 k.tp 2 = x at *
 have e1 : Y9 z38 0 x = x ++ Q6 z1 32 := by
  have := A9b Q8 x 38 (by omega)
  rw [n5, n5, hH] at this; exact this
 have e2 : Y9 (x ++ Q6 z1 32) 6 k.src = x ++ k.src ++ Q6 z1 (16 - k.src.size) ++ Q6 z1 16 := by
  have := A9b x k.src 32 (by omega)
  rw [hH] at this; rw [this, ByteArray.append_assoc (c := Q6 z1 16), ← B1l]; congr 2; omega
 have e3 : (x ++ k.src ++ Q6 z1 (16 - k.src.size)).size = 22 := by rw [ByteArray.size_append, ByteArray.size_append, T0]; omega
 have e4 := A9b (x ++ k.src ++ Q6 z1 (16 - k.src.size)) k.dst 16 (by omega)
 rw [e3] at e4
 rw [e1, e2, e4, ← hx]
 simp only [ByteArray.append_assoc]
theorem C6U {n x y : Int} : (Y4 n x y 0).2 = 0 ↔ (n = 6 ∨ n = 17) ∧ G5 x y = true := by
 constructor
 ·exact B4T
 ·rintro ⟨h1, h2⟩
  have h3 : (A28 n 0).2 = 0 := by rcases h1 with rfl | rfl <;> rfl
  unfold Y4
  rw [if_neg (by omega), if_neg (by rw [h2, h3]; simp)]
theorem C0A (k : KeyV) : S2 k = (((decide (k.v = 4 ∧ k.src.size = 4 ∧ k.dst.size = 4) || decide (k.v = 6 ∧ k.src.size = 16 ∧ k.dst.size = 16)) && G5 k.fr k.tp) && decide (k.proto = 6 ∨ k.proto = 17)) := by
 unfold S2
 rw [Bool.eq_iff_iff]
 simp only [decide_eq_true_eq, Bool.and_eq_true, Bool.or_eq_true, C6U]
 unfold U0
 by_cases h4 : k.v = 4
 ·rw [if_pos h4, h4]; simp; constructor
  ·rintro ⟨h1, h2, h3, h4⟩; exact ⟨⟨⟨h1, h2⟩, h4⟩, h3⟩
  ·rintro ⟨⟨⟨h1, h2⟩, h4⟩, h3⟩; exact ⟨h1, h2, h3, h4⟩
 rw [if_neg h4]
 by_cases h6 : k.v = 6
 ·rw [if_pos h6, h6]; simp; constructor
  ·rintro ⟨h1, h2, h3, h4⟩; exact ⟨⟨⟨h1, h2⟩, h4⟩, h3⟩
  ·rintro ⟨⟨⟨h1, h2⟩, h4⟩, h3⟩; exact ⟨h1, h2, h3, h4⟩
 rw [if_neg h6]; simp [h4, h6]
def B0x (ba : Nat) (t20 t35 : Value) (R : Value → WP) : WP :=
 A0 PR (Instr.fieldAt 56 (.pointer (some ⟨ba, 0, none⟩)) 3) fun t36 =>
 A6 PR (Instr.loadAt 3 t36) fun t37 =>
 A0 PR (binOp .geq 3 t37 (.int .i64 0)) fun t38 =>
 gj t38 true (fun J => A0 PR (Instr.fieldAt 56 (.pointer (some ⟨ba, 0, none⟩)) 3) J) fun t40 =>
 gj t38 true (fun J => A6 PR (Instr.loadAt 3 t40) J) fun t41 =>
 gj t38 true (fun J => A0 PR (binOp .leq 3 t41 (.int .i64 65535)) J) fun t42 =>
 A0 PR (do pure (if ← asBool t38 then t42 else (.bool false))) fun t43 =>
 gj t43 true (fun J => A0 PR (Instr.fieldAt 56 (.pointer (some ⟨ba, 0, none⟩)) 4) J) fun t45 =>
 gj t43 true (fun J => A6 PR (Instr.loadAt 3 t45) J) fun t46 =>
 gj t43 true (fun J => A0 PR (binOp .geq 3 t46 (.int .i64 0)) J) fun t47 =>
 A0 PR (do pure (if ← asBool t43 then t47 else (.bool false))) fun t48 =>
 gj t48 true (fun J => A0 PR (Instr.fieldAt 56 (.pointer (some ⟨ba, 0, none⟩)) 4) J) fun t50 =>
 gj t48 true (fun J => A6 PR (Instr.loadAt 3 t50) J) fun t51 =>
 gj t48 true (fun J => A0 PR (binOp .leq 3 t51 (.int .i64 65535)) J) fun t52 =>
 A0 PR (do pure (if ← asBool t48 then t52 else (.bool false))) fun t53 =>
 gj t20 false (fun J => J t35) fun t56 =>
 A0 PR (do pure (if ← asBool t20 then (.bool true) else t56)) fun t57 =>
 gj t57 true (fun J => J t53) fun t59 =>
 A0 PR (do pure (if ← asBool t57 then t59 else (.bool false))) fun t60 =>
 gj t60 true (fun J => A0 PR (Instr.fieldAt 56 (.pointer (some ⟨ba, 0, none⟩)) 5) J) fun t62 =>
 gj t60 true (fun J => A6 PR (Instr.loadAt 3 t62) J) fun t63 =>
 gj t60 true (fun J => A0 PR (binOp .eql 3 t63 (.int .i64 6)) J) fun t64 =>
 gj t60 true (fun J => J t64) fun t65 =>
 gj t65 false (fun J => A0 PR (Instr.fieldAt 56 (.pointer (some ⟨ba, 0, none⟩)) 5) J) fun t66 =>
 gj t65 false (fun J => A6 PR (Instr.loadAt 3 t66) J) fun t67 =>
 gj t65 false (fun J => A0 PR (binOp .eql 3 t67 (.int .i64 17)) J) fun t68 =>
 gj t60 true (fun J => A0 PR (do pure (if ← asBool t65 then (.bool true) else t68)) J) fun t69 =>
 A0 PR (do pure (if ← asBool t60 then t69 else (.bool false))) fun t70 =>
 R t70
theorem B8f (w : World) (k : KeyV) (a b : Bool) (ba : Nat) (R : Value → WP) (hR : R = Rv w (fun u => u = .bool (((a || b) && G5 k.fr k.tp) && decide (k.proto = 6 ∨ k.proto = 17)))) :
  TW false [] w [.pt ba (.cells #[.int .i64 k.v, .string k.src, .string k.dst, .int .i64 k.fr, .int .i64 k.tp, .int .i64 k.proto] 56)] (B0x ba (.bool a) (.bool b) R) := by
 unfold B0x
 subst hR
 by_cases p1 : 0 ≤ k.fr
 case neg =>
  have hp : G5 k.fr k.tp = false := by simp [G5]; omega
  rw [hp]
  cases a <;> cases b <;> ((have zz:=trivial;repeat((first|clear zz|with_reducible first|refine A3 ?_|refine A4 fun _=>?_|refine A5 fun _=>?_);try simp(disch:=first|omega|assumption|((repeat(first|exact A1|exact uH|apply A2|apply uT));first|done|fail)|(simp;first|done|omega|fail))[p1])); exact A9 (by simp))
 by_cases p2 : k.fr ≤ 65535
 case neg =>
  have hp : G5 k.fr k.tp = false := by simp [G5]; omega
  rw [hp]
  cases a <;> cases b <;> ((have zz:=trivial;repeat((first|clear zz|with_reducible first|refine A3 ?_|refine A4 fun _=>?_|refine A5 fun _=>?_);try simp(disch:=first|omega|assumption|((repeat(first|exact A1|exact uH|apply A2|apply uT));first|done|fail)|(simp;first|done|omega|fail))[p1, p2])); exact A9 (by simp))
 by_cases p3 : 0 ≤ k.tp
 case neg =>
  have hp : G5 k.fr k.tp = false := by simp [G5]; omega
  rw [hp]
  cases a <;> cases b <;> ((have zz:=trivial;repeat((first|clear zz|with_reducible first|refine A3 ?_|refine A4 fun _=>?_|refine A5 fun _=>?_);try simp(disch:=first|omega|assumption|((repeat(first|exact A1|exact uH|apply A2|apply uT));first|done|fail)|(simp;first|done|omega|fail))[p1, p2, p3])); exact A9 (by simp))
 by_cases p4 : k.tp ≤ 65535
 case neg =>
  have hp : G5 k.fr k.tp = false := by simp [G5]; omega
  rw [hp]
  cases a <;> cases b <;> ((have zz:=trivial;repeat((first|clear zz|with_reducible first|refine A3 ?_|refine A4 fun _=>?_|refine A5 fun _=>?_);try simp(disch:=first|omega|assumption|((repeat(first|exact A1|exact uH|apply A2|apply uT));first|done|fail)|(simp;first|done|omega|fail))[p1, p2, p3, p4])); exact A9 (by simp))
 have hp : G5 k.fr k.tp = true := by simp [G5]; omega
 rw [hp]
 by_cases c6 : k.proto = 6
 ·cases a <;> cases b <;> ((have zz:=trivial;repeat((first|clear zz|with_reducible first|refine A3 ?_|refine A4 fun _=>?_|refine A5 fun _=>?_);try simp(disch:=first|omega|assumption|((repeat(first|exact A1|exact uH|apply A2|apply uT));first|done|fail)|(simp;first|done|omega|fail))[p1, p2, p3, p4, c6])); exact A9 (by simp))
 by_cases c7 : k.proto = 17
 ·cases a <;> cases b <;> ((have zz:=trivial;repeat((first|clear zz|with_reducible first|refine A3 ?_|refine A4 fun _=>?_|refine A5 fun _=>?_);try simp(disch:=first|omega|assumption|((repeat(first|exact A1|exact uH|apply A2|apply uT));first|done|fail)|(simp;first|done|omega|fail))[p1, p2, p3, p4, c6, c7])); exact A9 (by simp))
 ·cases a <;> cases b <;> ((have zz:=trivial;repeat((first|clear zz|with_reducible first|refine A3 ?_|refine A4 fun _=>?_|refine A5 fun _=>?_);try simp(disch:=first|omega|assumption|((repeat(first|exact A1|exact uH|apply A2|apply uT));first|done|fail)|(simp;first|done|omega|fail))[p1, p2, p3, p4, c6, c7])); exact A9 (by simp [c6, c7]))
theorem C2F (w : World) (k : KeyV) : Fn PR B3 125 #[k.val] w (fun u w' => u = .bool (S2 k) ∧ C1 [] w w') := by
 rw [C0A]
 refine Fn.pure (A5p (TW.go (κ := false) (S := []) ?_))
 unfold A0u KeyV.val
 refine A4 fun ba => ?_
 have tail := fun a b => B8f w k a b ba _ rfl
 generalize hF : (fun (a b : Bool) => (Rv w (fun u => u = Value.bool (((a || b) && G5 k.fr k.tp) && decide (k.proto = 6 ∨ k.proto = 17))))) = F
 replace tail : ∀ a b, TW false [] w [.pt ba (.cells #[.int .i64 k.v, .string k.src, .string k.dst, .int .i64 k.fr, .int .i64 k.tp, .int .i64 k.proto] 56)] (B0x ba (.bool a) (.bool b) (F a b)) := by subst hF; exact tail
 have goal : ∀ a b, decide (k.v = 4 ∧ k.src.size = 4 ∧ k.dst.size = 4) = a → decide (k.v = 6 ∧ k.src.size = 16 ∧ k.dst.size = 16) = b → ∀ R, R = F a b → TW false [] w [.pt ba (.cells #[.int .i64 k.v, .string k.src, .string k.dst, .int .i64 k.fr, .int .i64 k.tp, .int .i64 k.proto] 56)] (
 A0 PR (Instr.fieldAt 56 (.pointer (some ⟨ba, 0, none⟩)) 0) fun t6 =>
 A6 PR (Instr.loadAt 3 t6) fun t7 =>
 A0 PR (binOp .eql 3 t7 (.int .i64 4)) fun t8 =>
 gj t8 true (fun J => A0 PR (Instr.fieldAt 56 (.pointer (some ⟨ba, 0, none⟩)) 1) J) fun t10 =>
 gj t8 true (fun J => A6 PR (Instr.loadAt 9 t10) J) fun t11 =>
 gj t8 true (fun J => A0 PR (A7 .len #[9] 0 [t11]) J) fun t12 =>
 gj t8 true (fun J => A0 PR (binOp .eql 3 t12 (.int .i64 4)) J) fun t13 =>
 A0 PR (do pure (if ← asBool t8 then t13 else (.bool false))) fun t14 =>
 gj t14 true (fun J => A0 PR (Instr.fieldAt 56 (.pointer (some ⟨ba, 0, none⟩)) 2) J) fun t16 =>
 gj t14 true (fun J => A6 PR (Instr.loadAt 9 t16) J) fun t17 =>
 gj t14 true (fun J => A0 PR (A7 .len #[9] 0 [t17]) J) fun t18 =>
 gj t14 true (fun J => A0 PR (binOp .eql 3 t18 (.int .i64 4)) J) fun t19 =>
 A0 PR (do pure (if ← asBool t14 then t19 else (.bool false))) fun t20 =>
 A0 PR (Instr.fieldAt 56 (.pointer (some ⟨ba, 0, none⟩)) 0) fun t21 =>
 A6 PR (Instr.loadAt 3 t21) fun t22 =>
 A0 PR (binOp .eql 3 t22 (.int .i64 6)) fun t23 =>
 gj t23 true (fun J => A0 PR (Instr.fieldAt 56 (.pointer (some ⟨ba, 0, none⟩)) 1) J) fun t25 =>
 gj t23 true (fun J => A6 PR (Instr.loadAt 9 t25) J) fun t26 =>
 gj t23 true (fun J => A0 PR (A7 .len #[9] 0 [t26]) J) fun t27 =>
 gj t23 true (fun J => A0 PR (binOp .eql 3 t27 (.int .i64 16)) J) fun t28 =>
 A0 PR (do pure (if ← asBool t23 then t28 else (.bool false))) fun t29 =>
 gj t29 true (fun J => A0 PR (Instr.fieldAt 56 (.pointer (some ⟨ba, 0, none⟩)) 2) J) fun t31 =>
 gj t29 true (fun J => A6 PR (Instr.loadAt 9 t31) J) fun t32 =>
 gj t29 true (fun J => A0 PR (A7 .len #[9] 0 [t32]) J) fun t33 =>
 gj t29 true (fun J => A0 PR (binOp .eql 3 t33 (.int .i64 16)) J) fun t34 =>
 A0 PR (do pure (if ← asBool t29 then t34 else (.bool false))) fun t35 =>
  B0x ba t20 t35 R) := by
  intro a b h4 h6 R hR
  subst hR
  by_cases v4 : k.v = 4
  ·have v6 : ¬ k.v = 6 := by omega
   obtain rfl : b = false := by rw [← h6]; simp [v6]
   by_cases s4 : k.src.size = 4
   case neg =>
    have s4' : ¬ (k.src.size : Int) = 4 := by omega
    obtain rfl : a = false := by rw [← h4]; simp [s4]
    simp(disch:=first|omega|assumption|((repeat(first|exact A1|exact uH|apply A2|apply uT));first|done|fail)|(simp;first|done|omega|fail))[v4, v6, s4, s4']
    rw [← v4]; exact tail false false
   by_cases d4 : k.dst.size = 4
   case neg =>
    have d4' : ¬ (k.dst.size : Int) = 4 := by omega
    obtain rfl : a = false := by rw [← h4]; simp [d4]
    simp(disch:=first|omega|assumption|((repeat(first|exact A1|exact uH|apply A2|apply uT));first|done|fail)|(simp;first|done|omega|fail))[v4, v6, s4, d4, d4']
    rw [← v4]; exact tail false false
   obtain rfl : a = true := by rw [← h4]; simp [v4, s4, d4]
   simp(disch:=first|omega|assumption|((repeat(first|exact A1|exact uH|apply A2|apply uT));first|done|fail)|(simp;first|done|omega|fail))[v4, v6, s4, d4]
   rw [← v4]; exact tail true false
  obtain rfl : a = false := by rw [← h4]; simp [v4]
  by_cases v6 : k.v = 6
  ·by_cases s4 : k.src.size = 16
   case neg =>
    have s4' : ¬ (k.src.size : Int) = 16 := by omega
    obtain rfl : b = false := by rw [← h6]; simp [s4]
    simp(disch:=first|omega|assumption|((repeat(first|exact A1|exact uH|apply A2|apply uT));first|done|fail)|(simp;first|done|omega|fail))[v4, v6, s4, s4']
    rw [← v6]; exact tail false false
   by_cases d4 : k.dst.size = 16
   case neg =>
    have d4' : ¬ (k.dst.size : Int) = 16 := by omega
    obtain rfl : b = false := by rw [← h6]; simp [d4]
    simp(disch:=first|omega|assumption|((repeat(first|exact A1|exact uH|apply A2|apply uT));first|done|fail)|(simp;first|done|omega|fail))[v4, v6, s4, d4, d4']
    rw [← v6]; exact tail false false
   obtain rfl : b = true := by rw [← h6]; simp [v6, s4, d4]
   simp(disch:=first|omega|assumption|((repeat(first|exact A1|exact uH|apply A2|apply uT));first|done|fail)|(simp;first|done|omega|fail))[v4, v6, s4, d4]
   rw [← v6]; exact tail false true
  obtain rfl : b = false := by rw [← h6]; simp [v6]
  simp(disch:=first|omega|assumption|((repeat(first|exact A1|exact uH|apply A2|apply uT));first|done|fail)|(simp;first|done|omega|fail))[v4, v6]
  exact tail false false
 exact goal _ _ rfl rfl _ (by subst hF; rfl)
theorem A8k (w : World) (v n : Int) (h0 : 0 ≤ v) (h1 : v < 2 ^ 64) : Fn PR B3 126 #[.int .u64 v, .int .i64 n] w (fun u w' => u = .string (E4 v n) ∧ C1 [] w w') := by
 obtain ⟨m, rfl⟩ : ∃ m : Nat, v = m := ⟨v.toNat, by omega⟩
 exact B34 w m n (by omega)
theorem C2k (w : World) (k : KeyV) : Fn PR B3 74 #[k.val] w (fun u w' => u = y0 k ∧ C1 [] w w') := by
 refine Fn.pure (A5b (TW.go (κ := false) (S := []) ?_))
 unfold A0a KeyV.val
 (have zz:=trivial;repeat((first|clear zz|with_reducible first|refine A3 ?_|refine A4 fun _=>?_|refine A5 fun _=>?_);try simp(disch:=first|omega|assumption|((repeat(first|exact A1|exact uH|apply A2|apply uT));first|done|fail)|(simp;first|done|omega|fail))[]))
 refine B8 A4f (fun w' _ => C2F w' k) ?_
 cases hb : S2 k with
 | false =>
  (have zz:=trivial;repeat((first|clear zz|with_reducible first|refine A3 ?_|refine A4 fun _=>?_|refine A5 fun _=>?_);try simp(disch:=first|omega|assumption|((repeat(first|exact A1|exact uH|apply A2|apply uT));first|done|fail)|(simp;first|done|omega|fail))[]))
  exact A9 (by simp [y0, hb])
 | true =>
  have hb' := hb
  simp only [S2, decide_eq_true_eq] at hb'
  obtain ⟨b1, b2, b3, b4⟩ := hb'
  obtain ⟨hp, hq⟩ := B4T b4
  simp only [G5, decide_eq_true_eq] at hq
  have hv : k.v = 4 ∨ k.v = 6 := by unfold U0 at b1; split at b1 <;> (try split at b1) <;> omega
  have hval := C0q k hv b2 b3 hp
  have hl : U0 k.v ≤ 16 := by rcases hv with h | h <;> rw [h] <;> decide
  have hw1 : (A6Q k.src).size ≤ 16 := by unfold A6Q; rw [ByteArray.size_append, T0]; omega
  have hw2 : (A6Q k.dst).size ≤ 16 := by unfold A6Q; rw [ByteArray.size_append, T0]; omega
  (have zz:=trivial;repeat((first|clear zz|with_reducible first|refine A3 ?_|refine A4 fun _=>?_|refine A5 fun _=>?_);try simp(disch:=first|omega|assumption|((repeat(first|exact A1|exact uH|apply A2|apply uT));first|done|fail)|(simp;first|done|omega|fail))[]))
  refine B8 N4 (fun w' _ => A8k w' k.v 1 (by omega) (by omega)) ?_
  (have zz:=trivial;repeat((first|clear zz|with_reducible first|refine A3 ?_|refine A4 fun _=>?_|refine A5 fun _=>?_);try simp(disch:=first|omega|assumption|((repeat(first|exact A1|exact uH|apply A2|apply uT));first|done|fail)|(simp;first|done|omega|fail))[]))
  refine B8 N4 (fun w' _ => A8k w' _ 1 (by omega) (by omega)) ?_
  (have zz:=trivial;repeat((first|clear zz|with_reducible first|refine A3 ?_|refine A4 fun _=>?_|refine A5 fun _=>?_);try simp(disch:=first|omega|assumption|((repeat(first|exact A1|exact uH|apply A2|apply uT));first|done|fail)|(simp;first|done|omega|fail))[P0]))
  refine B8 N4 (fun w' _ => A8k w' _ 2 (by omega) (by omega)) ?_
  (have zz:=trivial;repeat((first|clear zz|with_reducible first|refine A3 ?_|refine A4 fun _=>?_|refine A5 fun _=>?_);try simp(disch:=first|omega|assumption|((repeat(first|exact A1|exact uH|apply A2|apply uT));first|done|fail)|(simp;first|done|omega|fail))[]))
  refine B8 N4 (fun w' _ => A8k w' _ 2 (by omega) (by omega)) ?_
  (have zz:=trivial;repeat((first|clear zz|with_reducible first|refine A3 ?_|refine A4 fun _=>?_|refine A5 fun _=>?_);try simp(disch:=first|omega|assumption|((repeat(first|exact A1|exact uH|apply A2|apply uT));first|done|fail)|(simp;first|done|omega|fail))[P0]))
  refine B8 A0U (fun w' _ => B7H w' _ (by omega)) ?_
  (have zz:=trivial;repeat((first|clear zz|with_reducible first|refine A3 ?_|refine A4 fun _=>?_|refine A5 fun _=>?_);try simp(disch:=first|omega|assumption|((repeat(first|exact A1|exact uH|apply A2|apply uT));first|done|fail)|(simp;first|done|omega|fail))[P0]))
  refine B8 A0U (fun w' _ => B7H w' _ (by omega)) ?_
  (have zz:=trivial;repeat((first|clear zz|with_reducible first|refine A3 ?_|refine A4 fun _=>?_|refine A5 fun _=>?_);try simp(disch:=first|omega|assumption|((repeat(first|exact A1|exact uH|apply A2|apply uT));first|done|fail)|(simp;first|done|omega|fail))[P0]))
  exact A9 (by simp [y0, hb, hval])
end Go.Proofs.YtpbmephflllolaaGreat
namespace Go.Proofs.YtpbmephflllolaaGreat
open Go
theorem B8r {l : List G0} {i : Nat} {x : G0} (hx : l[i]? = some x) (h : ∀ j y, j < i → l[j]? = some y → y.1 ≠ x.1) : V0 l x.1 = (i : Nat) := by
 rw [V0, A6N hx (by simp) fun j y hj hy => by simpa using h j y hj hy]
theorem B5D (l : List G0) : u4 l = true ↔ ∀ i x, l[i]? = some x → A2J x = true ∧ V0 l x.1 = (i : Nat) := by
 rw [A3x]
 constructor
 ·rintro ⟨h1, h2⟩ i x hx
  exact ⟨h1 x (List.mem_of_getElem? hx), B8r hx fun j y hj hy => C5L h2 hj hy hx⟩
 ·intro h
  refine ⟨fun b hb => ?_, List.pairwise_iff_getElem.2 fun i j hi hj hij e => ?_⟩
  ·obtain ⟨i, hi⟩ := List.getElem?_of_mem hb
   exact (h i b hi).1
  ·have h1 := (h i _ (List.getElem?_eq_getElem hi)).2
   have h2 := (h j _ (List.getElem?_eq_getElem hj)).2
   rw [e, h2] at h1
   omega
theorem C1x (w : World) (v : Value) (l : List G0) (hn : l.length ≤ 1000000) (hv : E3 w v l.length (l.flatMap E7)) :
  Fn PR B3 43 #[v] w (fun r w' => r = .int .i64 (N8 l) ∧ C1 [] w w') := by
 refine Fn.pure (A5u (TW.go (κ := false) (S := []) ?_))
 unfold A0l
 obtain ⟨a, c, rfl, hr⟩ := hv.form
 by_cases c0 : 32 < l.length
 ·have c0' : (32 : Int) < l.length := by omega
  (have zz:=trivial;repeat((first|clear zz|with_reducible first|refine A3 ?_|refine A4 fun _=>?_|refine A5 fun _=>?_);try simp(disch:=first|omega|assumption|((repeat(first|exact A1|exact uH|apply A2|apply uT));first|done|fail)|(simp;first|done|omega|fail))[c0, c0']))
  exact A9 (by simp [N8]; omega)
 have c0' : ¬ (32 : Int) < l.length := by omega
 (have zz:=trivial;repeat((first|clear zz|with_reducible first|refine A3 ?_|refine A4 fun _=>?_|refine A5 fun _=>?_);try simp(disch:=first|omega|assumption|((repeat(first|exact A1|exact uH|apply A2|apply uT));first|done|fail)|(simp;first|done|omega|fail))[c0, c0']))
 refine K8 (α := Unit) l.length (fun _ _ => .int .i64 0) (fun _ _ => []) (fun i _ => ∀ j x, j < i → l[j]? = some x → A2J x = true ∧ V0 l x.1 = (j : Nat)) () (by intro j x hj; omega) ?_
 rintro i _ hi hpre L hL
 by_cases hlt : i < l.length
 ·obtain ⟨b, o, rfl, hrow⟩ := hr (by omega)
  have hx : l[i]? = some l[i] := List.getElem?_eq_getElem hlt
  generalize l[i] = x at hx
  have h1 := hrow.at (f := E7) (k := 2) (fun _ => rfl) hx
  rw [E7] at h1
  have bad : ¬ (A2J x = true ∧ V0 l x.1 = (i : Nat)) → N8 l = 10 := fun h => by
   have : u4 l = false := by
    rw [← Bool.not_eq_true, B5D]
    exact fun hh => h (hh i x hx)
   simp [N8, this]
  by_cases c1 : x.1 < 1
  ·rw [bad fun h => by have := h.1; simp [A2J] at this; omega]
   (have zz:=trivial;repeat((first|clear zz|with_reducible first|refine A3 ?_|refine A4 fun _=>?_|refine A5 fun _=>?_);try simp(disch:=first|omega|assumption|((repeat(first|exact A1|exact uH|apply A2|apply uT));first|done|fail)|(simp;first|done|omega|fail))[hlt, h1, c1]))
   exact A9 rfl
  by_cases c2 : 65535 < x.1
  ·rw [bad fun h => by have := h.1; simp [A2J] at this; omega]
   (have zz:=trivial;repeat((first|clear zz|with_reducible first|refine A3 ?_|refine A4 fun _=>?_|refine A5 fun _=>?_);try simp(disch:=first|omega|assumption|((repeat(first|exact A1|exact uH|apply A2|apply uT));first|done|fail)|(simp;first|done|omega|fail))[hlt, h1, c1, c2]))
   exact A9 rfl
  by_cases c3 : x.2 < 1
  ·rw [bad fun h => by have := h.1; simp [A2J] at this; omega]
   (have zz:=trivial;repeat((first|clear zz|with_reducible first|refine A3 ?_|refine A4 fun _=>?_|refine A5 fun _=>?_);try simp(disch:=first|omega|assumption|((repeat(first|exact A1|exact uH|apply A2|apply uT));first|done|fail)|(simp;first|done|omega|fail))[hlt, h1, c1, c2, c3]))
   exact A9 rfl
  by_cases c4 : 16 < x.2
  ·rw [bad fun h => by have := h.1; simp [A2J] at this; omega]
   (have zz:=trivial;repeat((first|clear zz|with_reducible first|refine A3 ?_|refine A4 fun _=>?_|refine A5 fun _=>?_);try simp(disch:=first|omega|assumption|((repeat(first|exact A1|exact uH|apply A2|apply uT));first|done|fail)|(simp;first|done|omega|fail))[hlt, h1, c1, c2, c3, c4]))
   exact A9 rfl
  (have zz:=trivial;repeat((first|clear zz|with_reducible first|refine A3 ?_|refine A4 fun _=>?_|refine A5 fun _=>?_);try simp(disch:=first|omega|assumption|((repeat(first|exact A1|exact uH|apply A2|apply uT));first|done|fail)|(simp;first|done|omega|fail))[hlt, h1, c1, c2, c3, c4]))
  refine B8 A0V (fun w' hw' => B5C w' _ l _ hn (hv.ks hw'.ks (by simp))) ?_
  by_cases c5 : V0 l x.1 = (i : Nat)
  case neg =>
   rw [bad fun h => c5 h.2]
   (have zz:=trivial;repeat((first|clear zz|with_reducible first|refine A3 ?_|refine A4 fun _=>?_|refine A5 fun _=>?_);try simp(disch:=first|omega|assumption|((repeat(first|exact A1|exact uH|apply A2|apply uT));first|done|fail)|(simp;first|done|omega|fail))[c5]))
   exact A9 rfl
  ·(have zz:=trivial;repeat((first|clear zz|with_reducible first|refine A3 ?_|refine A4 fun _=>?_|refine A5 fun _=>?_);try simp(disch:=first|omega|assumption|((repeat(first|exact A1|exact uH|apply A2|apply uT));first|done|fail)|(simp;first|done|omega|fail))[c5]))
   refine Sels.tw .nil (hL hlt () ?_)
   intro j y hj hy
   by_cases hji : j = i
   ·subst hji
    rw [hx] at hy
    cases hy
    exact ⟨by simp [A2J]; omega, c5⟩
   ·exact hpre j y (by omega) hy
 ·obtain rfl : i = l.length := by omega
  have hok : u4 l = true := (B5D l).2 fun j x hx => hpre j x (List.getElem?_eq_some_iff.1 hx).1 hx
  have hv : N8 l = 0 := by simp [N8, hok]; omega
  rw [hv]
  (have zz:=trivial;repeat((first|clear zz|with_reducible first|refine A3 ?_|refine A4 fun _=>?_|refine A5 fun _=>?_);try simp(disch:=first|omega|assumption|((repeat(first|exact A1|exact uH|apply A2|apply uT));first|done|fail)|(simp;first|done|omega|fail))[]))
  exact A9 rfl
theorem C3x (w : World) (u v : Value) (l m : List G0) (hn : l.length ≤ 1000000) (hm : m.length ≤ 1000000) (hu : E3 w u l.length (l.flatMap E7)) (hv : E3 w v m.length (m.flatMap E7)) :
  Fn PR B3 18 #[u, v] w (fun r w' => r = .bool (decide (l = m)) ∧ C1 [] w w') := by
 refine Fn.pure (A6Z (TW.go (κ := false) (S := []) ?_))
 unfold A1F
 obtain ⟨a, c, rfl, hr⟩ := hu.form
 obtain ⟨a', c', rfl, hr'⟩ := hv.form
 by_cases hlen : l.length = m.length
 case neg =>
  have hne : ¬ l = m := fun h => hlen (by rw [h])
  have hl' : ¬ ((l.length : Nat) : Int) = m.length := by omega
  (have zz:=trivial;repeat((first|clear zz|with_reducible first|refine A3 ?_|refine A4 fun _=>?_|refine A5 fun _=>?_);try simp(disch:=first|omega|assumption|((repeat(first|exact A1|exact uH|apply A2|apply uT));first|done|fail)|(simp;first|done|omega|fail))[hl', hlen]))
  exact A9 (by simp [hne])
 (have zz:=trivial;repeat((first|clear zz|with_reducible first|refine A3 ?_|refine A4 fun _=>?_|refine A5 fun _=>?_);try simp(disch:=first|omega|assumption|((repeat(first|exact A1|exact uH|apply A2|apply uT));first|done|fail)|(simp;first|done|omega|fail))[hlen]))
 refine K8 (α := Unit) m.length (fun _ _ => .bool false) (fun _ _ => []) (fun i _ => ∀ j, j < i → l[j]? = m[j]?) () (by intro j hj; omega) ?_
 rintro i _ hi hpre L hL
 by_cases hlt : i < m.length
 ·obtain ⟨b, o, rfl, hrow⟩ := hr (by omega)
  obtain ⟨b', o', rfl, hrow'⟩ := hr' (by omega)
  obtain ⟨x, hx⟩ : ∃ x, l[i]? = some x := ⟨_, List.getElem?_eq_getElem (by omega)⟩
  obtain ⟨y, hy⟩ : ∃ y, m[i]? = some y := ⟨_, List.getElem?_eq_getElem hlt⟩
  have h1 := hrow.at (f := E7) (k := 2) (fun _ => rfl) hx
  have h2 := hrow'.at (f := E7) (k := 2) (fun _ => rfl) hy
  rw [E7] at h1 h2
  by_cases he : x = y
  ·subst he
   (have zz:=trivial;repeat((first|clear zz|with_reducible first|refine A3 ?_|refine A4 fun _=>?_|refine A5 fun _=>?_);try simp(disch:=first|omega|assumption|((repeat(first|exact A1|exact uH|apply A2|apply uT));first|done|fail)|(simp;first|done|omega|fail))[hlt, hlen, h1, h2]))
   refine Sels.tw .nil (hL hlt () ?_)
   intro j hj
   by_cases hji : j = i
   ·subst hji; rw [hx, hy]
   ·exact hpre j (by omega)
  ·have hne : ¬ l = m := fun h => he (by rw [h] at hx; rw [hx] at hy; exact Option.some.inj hy)
   have he' : ¬ (x.1 = y.1 ∧ x.2 = y.2) := fun h => he (Prod.ext h.1 h.2)
   (have zz:=trivial;repeat((first|clear zz|with_reducible first|refine A3 ?_|refine A4 fun _=>?_|refine A5 fun _=>?_);try simp(disch:=first|omega|assumption|((repeat(first|exact A1|exact uH|apply A2|apply uT));first|done|fail)|(simp;first|done|omega|fail))[hlt, hlen, h1, h2]))
   refine B6p (fun _ => A9 (by simp [hne])) fun hc => absurd ?_ he'
   exact ⟨Classical.byContradiction fun h => hc (Or.inl h), Classical.byContradiction fun h => hc (Or.inr h)⟩
 ·obtain rfl : i = m.length := by omega
  have : l = m := C7u hlen fun j hj => hpre j (by omega)
  subst this
  (have zz:=trivial;repeat((first|clear zz|with_reducible first|refine A3 ?_|refine A4 fun _=>?_|refine A5 fun _=>?_);try simp(disch:=first|omega|assumption|((repeat(first|exact A1|exact uH|apply A2|apply uT));first|done|fail)|(simp;first|done|omega|fail))[hlen]))
  exact A9 (by simp)
end Go.Proofs.YtpbmephflllolaaGreat
namespace Go.Proofs.YtpbmephflllolaaGreat
open Go
def A08 (X : Nat → Prop) (t0 t1 t2 t3 : Value) (R : Value → WP) : WP :=
 jn (n := 1) (fun t1_1 =>
 A0 PR (A7 .max #[3, 3] 0 [t2, (.int .i64 0)]) fun t23 =>
 A0 PR (A7 .len #[94] 0 [t0]) fun t25 =>
 A0 PR (A7 .min #[3, 3] 0 [t23, t25]) fun t26 =>
 jn (n := 4) (fun t0_1 t12 t1_2 t13 =>
 jn (n := 1) (fun t0_2 =>
 R (.tuple #[t0_2, t1_2, t12])) fun J1 =>
 A0 PR (binOp .gtr 3 t12 (.int .i64 0)) fun t50 =>
 B5 t50 (
 B1 PR X 85 [t0_1] fun t52 =>
 J1 t52) (
 J1 t0_1)) fun J2 =>
 lp (n := 4) (fun L3 t0_3 t12_1 t1_3 t13_1 =>
 jn (n := 0) (
 jn (n := 3) (fun t0_4 t12_2 t1_4 =>
 A0 PR (binOp .add 3 t13_1 (.int .i64 1)) fun t31 =>
 L3 t0_4 t12_2 t1_4 t31) fun J4 =>
 jn (n := 2) (fun t0_5 t12_3 =>
 A0 PR (binOp .add 3 t1_3 (.int .i64 1)) fun t44 =>
 A0 PR (A7 .len #[94] 0 [t0_5]) fun t47 =>
 A0 PR (binOp .eql 3 t44 t47) fun t48 =>
 B5 t48 (
 J4 t0_5 t12_3 (.int .i64 0)) (
 J4 t0_5 t12_3 t44)) fun J5 =>
 A0 PR (Instr.indexAt 94 t0_3 t1_3) fun t34 =>
 A6 PR (Instr.loadAt 160 t34) fun t35 =>
 B1 PR X 83 [t35, t3] fun t37 =>
 B5 t37 (
 B1 PR X 84 [t0_3, t1_3] fun t40 =>
 A0 PR (binOp .add 3 t12_1 (.int .i64 1)) fun t42 =>
 J5 t40 t42) (
 J5 t0_3 t12_1)) fun J6 =>
 A0 PR (binOp .lss 3 t13_1 t26) fun t29 =>
 B5 t29 (
 J6) (
 J2 t0_3 t12_1 t1_3 t13_1)) t0 (.int .i64 0) t1_1 (.int .i64 0)) fun J7 =>
 A0 PR (binOp .lss 3 t1 (.int .i64 0)) fun t15 =>
 gj t15 false (fun J => J t1) fun t17 =>
 gj t15 false (fun J => J t0) fun t18 =>
 gj t15 false (fun J => A0 PR (A7 .len #[94] 0 [t18]) J) fun t19 =>
 gj t15 false (fun J => A0 PR (binOp .geq 3 t17 t19) J) fun t20 =>
 A0 PR (do pure (if ← asBool t15 then (.bool true) else t20)) fun t21 =>
 B5 t21 (
 J7 (.int .i64 0)) (
 J7 t1)
theorem A5W : B0 PR 44 := A8 Tryz.func44 (by kernel_rfl) rfl
theorem A6m {X : Nat → Prop} {t0 t1 t2 t3 : Value} {R : Value → WP} {w : World} (h : A08 X t0 t1 t2 t3 R w) : Fn PR X 44 #[t0, t1, t2, t3] w R := C6 (args := [t0, t1, t2, t3]) mixed Tryz.func44 (by kernel_rfl) h
def A13 (X : Nat → Prop) (t0 t1 : Value) (R : Value → WP) : WP :=
 B2 PR X (Instr.box 160 t0) fun t2 =>
 A0 PR (Instr.fieldAt 160 t2 0) fun t5 =>
 A6 PR (Instr.loadAt 3 t5) fun t6 =>
 A0 PR (binOp .eql 3 t6 (.int .i64 1)) fun t7 =>
 gj t7 true (fun J => A0 PR (Instr.fieldAt 160 t2 3) J) fun t9 =>
 gj t7 true (fun J => A6 PR (Instr.loadAt 3 t9) J) fun t10 =>
 gj t7 true (fun J => J t1) fun t11 =>
 gj t7 true (fun J => A0 PR (binOp .lss 3 t10 t11) J) fun t12 =>
 A0 PR (do pure (if ← asBool t7 then t12 else (.bool false))) fun t13 =>
 R t13
theorem A6z : B0 PR 83 := A8 Tryz.func83 (by kernel_rfl) rfl
theorem A7W {X : Nat → Prop} {t0 t1 : Value} {R : Value → WP} {w : World} (h : A13 X t0 t1 R w) : Fn PR X 83 #[t0, t1] w R := C6 (args := [t0, t1]) mixed Tryz.func83 (by kernel_rfl) h
end Go.Proofs.YtpbmephflllolaaGreat
namespace Go.Proofs.YtpbmephflllolaaGreat
open Go
theorem K3.slice {κ : Bool} {S : List Nat} {w0 : World} {H : List Res} {v : Value} {n : Nat} {xs : List Value} {K0 : WP} (h : K3 κ S w0 H v n xs) (hK : ∀ a c, v = .slice a n c → TW κ S w0 H K0) : TW κ S w0 H K0 := fun w hw => by
 obtain ⟨a, c, e, _⟩ := (h w hw).form
 exact hK a c e w hw
theorem C9H {κ : Bool} {S : List Nat} {w0 : World} {H : List Res} {v : Value} {l : List EnV} {i : Nat} {x : EnV} {K : Value → WP} (h : K3 κ S w0 H v l.length (l.flatMap D9)) (hx : l[i]? = some x) (hK : TW κ S w0 H (K (.agg #[.int .i64 x.st, .string x.key, .int .i64 x.bk, .int .i64 x.dl]))) :
  TW κ S w0 H (A0 PR (Instr.indexAt 94 v (.int .i64 (i : Int))) fun t => A6 PR (Instr.loadAt 160 t) K) := fun w hw => by
 have hi := (List.getElem?_eq_some_iff.1 hx).1
 rcases h w hw with ⟨h0, _⟩ | ⟨b, o, c, rfl, hr⟩
 ·omega
 refine (?_ : TW κ S w0 H _) w hw
 rw [C60 (by omega) (by omega)]
 refine B2g hK fun w' hw' => ?_
 rcases h w' hw' with ⟨h0, _⟩ | ⟨b', o', c', e, hr'⟩
 ·omega
 cases e
 have h1 := hr'.at (f := D9) (k := 4) (fun _ => rfl) hx
 rw [D9] at h1
 simp [h1]
theorem C4D (w : World) (x : EnV) (now : Int) : Fn PR B3 83 #[.agg #[.int .i64 x.st, .string x.key, .int .i64 x.bk, .int .i64 x.dl], .int .i64 now] w (fun r w' => r = .bool (A1m x now) ∧ C1 [] w w') := by
 refine Fn.pure (A7W (TW.go (κ := false) (S := []) ?_))
 unfold A13
 by_cases c1 : x.st = 1
 ·(have zz:=trivial;repeat((first|clear zz|with_reducible first|refine A3 ?_|refine A4 fun _=>?_|refine A5 fun _=>?_);try simp(disch:=first|omega|assumption|((repeat(first|exact A1|exact uH|apply A2|apply uT));first|done|fail)|(simp;first|done|omega|fail))[c1]))
  exact A9 (by simp [A1m, c1])
 ·(have zz:=trivial;repeat((first|clear zz|with_reducible first|refine A3 ?_|refine A4 fun _=>?_|refine A5 fun _=>?_);try simp(disch:=first|omega|assumption|((repeat(first|exact A1|exact uH|apply A2|apply uT));first|done|fail)|(simp;first|done|omega|fail))[c1]))
  exact A9 (by simp [A1m, c1])
theorem B1V (l : List EnV) (f i : Nat) (now : Int) : V7 l f (i + 1) now = Q0 now (V7 l f i now) ((f + i) % l.length) := by
 unfold V7 N5
 rw [List.range_succ, List.map_append, List.foldl_append]; rfl
theorem C0z (l : List EnV) (f i : Nat) (now : Int) : (V7 l f i now).1.length = l.length := A9d now _ (l, 0)
theorem B1b (l : List EnV) (f i : Nat) (now : Int) (h : (V7 l f i now).2 = 0) : (V7 l f i now).1 = l := by
 induction i with
 | zero => rfl
 | succ i ih =>
  rw [B1V] at h ⊢
  unfold Q0 at h ⊢
  split at h
  ·simp at h
  ·rename_i hd
   rw [if_neg hd]; exact ih h
theorem C21 (w : World) (v : Value) (l : List EnV) (f n now : Int) (hks : H6 l) (hn : l.length ≤ 1000000) (hv : E3 w v l.length (l.flatMap D9)) :
  Fn PR B3 44 #[v, .int .i64 f, .int .i64 n, .int .i64 now] w (Rn [] w (fun r u => u = .tuple #[if (E1 l f n now).2.2 = 0 then v else r, .int .i64 ((E1 l f n now).2.1 : Nat), .int .i64 ((E1 l f n now).2.2 : Nat)])
   fun r => if (E1 l f n now).2.2 = 0 then [] else [E6 r (E1 l f n now).1]) := by
 refine A6m (TW.go (κ := false) (S := []) ?_)
 unfold A08
 obtain ⟨a, c, rfl, _⟩ := hv.form
 have hmax : min (max n 0) (l.length : Int) = (Q9 l n : Nat) := by unfold Q9; omega
 have hfl : G2 l f ≤ 1000000 := by unfold G2; split <;> omega
 refine C5Q (Hj := []) (.int .i64 (G2 l f : Nat)) ?_ ?_
 case refine_2 =>
  intro J hJ
  by_cases c1 : f < 0
  ·have e : G2 l f = 0 := by unfold G2; rw [if_pos (Or.inl c1)]
   rw [e] at hJ
   (have zz:=trivial;repeat((first|clear zz|with_reducible first|refine A3 ?_|refine A4 fun _=>?_|refine A5 fun _=>?_);try simp(disch:=first|omega|assumption|((repeat(first|exact A1|exact uH|apply A2|apply uT));first|done|fail)|(simp;first|done|omega|fail))[c1]))
   exact hJ
  by_cases c2 : (l.length : Int) ≤ f
  ·have e : G2 l f = 0 := by unfold G2; rw [if_pos (Or.inr c2)]
   rw [e] at hJ
   (have zz:=trivial;repeat((first|clear zz|with_reducible first|refine A3 ?_|refine A4 fun _=>?_|refine A5 fun _=>?_);try simp(disch:=first|omega|assumption|((repeat(first|exact A1|exact uH|apply A2|apply uT));first|done|fail)|(simp;first|done|omega|fail))[c1, c2]))
   exact hJ
  ·have e : ((G2 l f : Nat) : Int) = f := by unfold G2; rw [if_neg (by omega)]; omega
   rw [e] at hJ
   (have zz:=trivial;repeat((first|clear zz|with_reducible first|refine A3 ?_|refine A4 fun _=>?_|refine A5 fun _=>?_);try simp(disch:=first|omega|assumption|((repeat(first|exact A1|exact uH|apply A2|apply uT));first|done|fail)|(simp;first|done|omega|fail))[c1, c2]))
   exact hJ
 have hml : Q9 l n ≤ l.length := by unfold Q9; omega
 have hf0 : G2 l f = (G2 l f + 0) % l.length := by
  by_cases h0 : l.length = 0
  ·have : G2 l f = 0 := by unfold G2; split <;> omega
   rw [this]; simp
  ·have : G2 l f < l.length := by unfold G2; split <;> omega
   rw [Nat.add_zero, Nat.mod_eq_of_lt this]
 have hsv : E1 l f n now = (if 0 < (V7 l (G2 l f) (Q9 l n) now).2 then H4 (V7 l (G2 l f) (Q9 l n) now).1 else (V7 l (G2 l f) (Q9 l n) now).1, (G2 l f + Q9 l n) % l.length, (V7 l (G2 l f) (Q9 l n) now).2) := by
  have e : (if 0 < l.length then (G2 l f + Q9 l n) % l.length else G2 l f) = (G2 l f + Q9 l n) % l.length := by
   split
   ·rfl
   ·have h1 : Q9 l n = 0 := by omega
    rw [h1]; exact hf0
  unfold E1; rw [e]
 rw [hsv]
 generalize hfv : G2 l f = fv at *
 generalize hmv : Q9 l n = mv at *
 (have zz:=trivial;repeat((first|clear zz|with_reducible first|refine A3 ?_|refine A4 fun _=>?_|refine A5 fun _=>?_);try simp(disch:=first|omega|assumption|((repeat(first|exact A1|exact uH|apply A2|apply uT));first|done|fail)|(simp;first|done|omega|fail))[hmax]))
 rw [hmax]
 refine D0H (fun p : Nat × (List EnV × Nat) × Value × Nat => if p.2.1.2 = 0 then [] else [E6 p.2.2.1 p.2.1.1]) (fun p => p.1 ≤ mv ∧ p.2.1 = V7 l fv p.1 now ∧ p.2.1.2 ≤ p.1 ∧ p.2.2.2 = (fv + p.1) % l.length) (fun p => mv - p.1) (0, (l, 0), .nilIface, fv)
  (fun p => if p.2.1.2 = 0 then .slice a l.length c else p.2.2.1) (fun p => .int .i64 (p.2.1.2 : Nat)) (fun p => .int .i64 (p.2.2.2 : Nat)) (fun p => .int .i64 (p.1 : Nat)) ⟨Nat.zero_le _, rfl, Nat.le_refl _, hf0⟩ ?_
 rintro ⟨i, s, x, q⟩ ⟨hi, hs, hs2, hq⟩ L hL
 simp only at hi hs hs2 hq hL ⊢
 have hsl : s.1.length = l.length := by rw [hs, C0z]
 have hrd : K3 false [] w (if s.2 = 0 then [] else [E6 x s.1]) (if s.2 = 0 then .slice a l.length c else x) s.1.length (s.1.flatMap D9) := by
  by_cases h0 : s.2 = 0
  ·have e : s.1 = l := by rw [hs] at h0 ⊢; exact B1b l fv i now h0
   rw [if_pos h0, if_pos h0, e]
   exact fun w' hw' => hv.ks hw'.ks (by simp)
  ·rw [if_neg h0, if_neg h0]
   exact K3.own (by (repeat constructor))
 have hks2 : H6 s.1 := by rw [hs]; exact B2U now _ (l, 0) hks
 by_cases hlt : i < mv
 ·have hlt' : (i : Int) < mv := by omega
  have hql : q < s.1.length := by rw [hq, hsl]; exact Nat.mod_lt _ (by omega)
  have hx := List.getElem?_eq_getElem hql
  have hnext := B1V l fv i now
  rw [← hs, ← hq] at hnext
  have hgd : s.1.getD q Z3 = s.1[q] := by rw [List.getD_eq_getElem?_getD, hx]; rfl
  have hqn : (fv + (i + 1)) % l.length = if q + 1 = l.length then 0 else q + 1 := by
   have h1 : q < l.length := by omega
   rw [← Nat.add_assoc, Nat.add_mod, ← hq]
   by_cases h2 : l.length = 1
   ·rw [h2] at h1 ⊢; have : q = 0 := by omega
    subst this; simp
   ·rw [Nat.mod_eq_of_lt (show 1 < l.length by omega)]
    split
    ·rename_i h3; rw [h3, Nat.mod_self]
    ·exact Nat.mod_eq_of_lt (by omega)
  unfold Q0 at hnext
  rw [hgd] at hnext
  generalize s.1[q] = y at *
  generalize hT : (if s.2 = 0 then Value.slice a l.length c else x) = tv at *
  generalize hH : (if s.2 = 0 then [] else [E6 x s.1]) = H at *
  (have zz:=trivial;repeat((first|clear zz|with_reducible first|refine A3 ?_|refine A4 fun _=>?_|refine A5 fun _=>?_);try simp(disch:=first|omega|assumption|((repeat(first|exact A1|exact uH|apply A2|apply uT));first|done|fail)|(simp;first|done|omega|fail))[hlt']))
  refine C9H hrd hx ?_
  refine B8 A6z (fun w' _ => C4D w' y now) ?_
  cases hd : A1m y now with
  | true =>
   rw [hd, if_pos rfl] at hnext
   (have zz:=trivial;repeat((first|clear zz|with_reducible first|refine A3 ?_|refine A4 fun _=>?_|refine A5 fun _=>?_);try simp(disch:=first|omega|assumption|((repeat(first|exact A1|exact uH|apply A2|apply uT));first|done|fail)|(simp;first|done|omega|fail))[]))
   refine G3 A0r (fun w' hw' => B4z w' tv s.1 q (by omega) (hrd w' hw')) ?_
   intro _ r hr
   subst hr
   refine S6 (by (repeat constructor)) fun ra rc hr => ?_
   subst hr
   have hsl2 : (s.1.set q P9).length = l.length := by simpa using hsl
   have h := hL (i + 1, (s.1.set q P9, s.2 + 1), .slice ra (s.1.set q P9).length rc, (fv + (i + 1)) % l.length) ⟨by simp only; omega, hnext.symm, by simp only; omega, rfl⟩ (by simp only; omega)
   rw [hqn] at h
   have hz : ¬ s.2 + 1 = 0 := by omega
   simp only [if_neg hz, hsl2] at h ⊢
   by_cases c5 : q + 1 = l.length
   ·have c5' : (q : Int) + 1 = l.length := by omega
    rw [if_pos c5] at h
    (have zz:=trivial;repeat((first|clear zz|with_reducible first|refine A3 ?_|refine A4 fun _=>?_|refine A5 fun _=>?_);try simp(disch:=first|omega|assumption|((repeat(first|exact A1|exact uH|apply A2|apply uT));first|done|fail)|(simp;first|done|omega|fail))[c5, c5']))
    exact Sels.tw (by (repeat' constructor)) h
   ·have c5' : ¬ (q : Int) + 1 = l.length := by omega
    rw [if_neg c5] at h
    (have zz:=trivial;repeat((first|clear zz|with_reducible first|refine A3 ?_|refine A4 fun _=>?_|refine A5 fun _=>?_);try simp(disch:=first|omega|assumption|((repeat(first|exact A1|exact uH|apply A2|apply uT));first|done|fail)|(simp;first|done|omega|fail))[c5, c5']))
    exact Sels.tw (by (repeat' constructor)) h
  | false =>
   rw [hd, if_neg (by simp)] at hnext
   refine hrd.slice fun a' c' e => ?_
   have h := hL (i + 1, s, x, (fv + (i + 1)) % l.length) ⟨by simp only; omega, hnext.symm, by simp only; omega, rfl⟩ (by simp only; omega)
   rw [hqn] at h
   simp only [hT, hH] at h
   subst e
   rw [hsl] at h ⊢
   by_cases c5 : q + 1 = l.length
   ·have c5' : (q : Int) + 1 = l.length := by omega
    rw [if_pos c5] at h
    (have zz:=trivial;repeat((first|clear zz|with_reducible first|refine A3 ?_|refine A4 fun _=>?_|refine A5 fun _=>?_);try simp(disch:=first|omega|assumption|((repeat(first|exact A1|exact uH|apply A2|apply uT));first|done|fail)|(simp;first|done|omega|fail))[c5, c5']))
    exact h
   ·have c5' : ¬ (q : Int) + 1 = l.length := by omega
    rw [if_neg c5] at h
    (have zz:=trivial;repeat((first|clear zz|with_reducible first|refine A3 ?_|refine A4 fun _=>?_|refine A5 fun _=>?_);try simp(disch:=first|omega|assumption|((repeat(first|exact A1|exact uH|apply A2|apply uT));first|done|fail)|(simp;first|done|omega|fail))[c5, c5']))
    exact h
 ·obtain rfl : i = mv := by omega
  rw [← hs]
  by_cases h0 : s.2 = 0
  ·have h0' : ¬ (0 < s.2) := by omega
   simp only [if_pos h0, if_neg h0']
   (have zz:=trivial;repeat((first|clear zz|with_reducible first|refine A3 ?_|refine A4 fun _=>?_|refine A5 fun _=>?_);try simp(disch:=first|omega|assumption|((repeat(first|exact A1|exact uH|apply A2|apply uT));first|done|fail)|(simp;first|done|omega|fail))[h0, h0']))
   exact C0 .nilIface (by simp [hq]) Sels.nil
  ·have h0' : 0 < s.2 := by omega
   have h0i : (0 : Int) < (s.2 : Nat) := by omega
   simp only [if_neg h0, if_pos h0']
   (have zz:=trivial;repeat((first|clear zz|with_reducible first|refine A3 ?_|refine A4 fun _=>?_|refine A5 fun _=>?_);try simp(disch:=first|omega|assumption|((repeat(first|exact A1|exact uH|apply A2|apply uT));first|done|fail)|(simp;first|done|omega|fail))[h0, h0', h0i]))
   refine B2r hks2 (by omega) fun r => ?_
   (have zz:=trivial;repeat((first|clear zz|with_reducible first|refine A3 ?_|refine A4 fun _=>?_|refine A5 fun _=>?_);try simp(disch:=first|omega|assumption|((repeat(first|exact A1|exact uH|apply A2|apply uT));first|done|fail)|(simp;first|done|omega|fail))[]))
   exact C0 r (by simp [hq]) (by (repeat' constructor))
end Go.Proofs.YtpbmephflllolaaGreat
namespace Go.Proofs.YtpbmephflllolaaGreat
open Go
theorem A7l (w : World) (n lo hi : Int) : Fn PR B3 38 #[.int .i64 n, .int .i64 lo, .int .i64 hi] w (fun v w' => v = .bool (Y1 n lo hi) ∧ C1 [] w w') := by
 refine Fn.pure (A8p (TW.go (κ := false) (S := []) ?_))
 unfold A2H
 by_cases c1 : lo ≤ n
 ·by_cases c2 : n ≤ hi
  ·(have zz:=trivial;repeat((first|clear zz|with_reducible first|refine A3 ?_|refine A4 fun _=>?_|refine A5 fun _=>?_);try simp(disch:=first|omega|assumption|((repeat(first|exact A1|exact uH|apply A2|apply uT));first|done|fail)|(simp;first|done|omega|fail))[c1, c2])); exact A9 (by simp [Y1, c1, c2])
  ·(have zz:=trivial;repeat((first|clear zz|with_reducible first|refine A3 ?_|refine A4 fun _=>?_|refine A5 fun _=>?_);try simp(disch:=first|omega|assumption|((repeat(first|exact A1|exact uH|apply A2|apply uT));first|done|fail)|(simp;first|done|omega|fail))[c1, c2])); exact A9 (by simp [Y1, c1, c2])
 ·(have zz:=trivial;repeat((first|clear zz|with_reducible first|refine A3 ?_|refine A4 fun _=>?_|refine A5 fun _=>?_);try simp(disch:=first|omega|assumption|((repeat(first|exact A1|exact uH|apply A2|apply uT));first|done|fail)|(simp;first|done|omega|fail))[c1])); exact A9 (by simp [Y1, c1])
theorem B3e (w : World) (c : CfgV) : Fn PR B3 11 #[c.val] w (fun v w' => v = .int .i64 (if Y2 c then 0 else 1) ∧ C1 [] w w') := by
 refine Fn.pure (A5H (TW.go (κ := false) (S := []) ?_))
 unfold A0Z
 simp only [CfgV.val]
 unfold Y2
 (have zz:=trivial;repeat((first|clear zz|with_reducible first|refine A3 ?_|refine A4 fun _=>?_|refine A5 fun _=>?_);try simp(disch:=first|omega|assumption|((repeat(first|exact A1|exact uH|apply A2|apply uT));first|done|fail)|(simp;first|done|omega|fail))[]))
 refine B8 T4 (fun w' _ => A7l w' _ _ _) ?_
 cases Y1 c.wk 1 64 with
 | false => (have zz:=trivial;repeat((first|clear zz|with_reducible first|refine A3 ?_|refine A4 fun _=>?_|refine A5 fun _=>?_);try simp(disch:=first|omega|assumption|((repeat(first|exact A1|exact uH|apply A2|apply uT));first|done|fail)|(simp;first|done|omega|fail))[])); exact A9 rfl
 | true =>
 (have zz:=trivial;repeat((first|clear zz|with_reducible first|refine A3 ?_|refine A4 fun _=>?_|refine A5 fun _=>?_);try simp(disch:=first|omega|assumption|((repeat(first|exact A1|exact uH|apply A2|apply uT));first|done|fail)|(simp;first|done|omega|fail))[]))
 refine B8 T4 (fun w' _ => A7l w' _ _ _) ?_
 cases Y1 c.sh 1 16 with
 | false => (have zz:=trivial;repeat((first|clear zz|with_reducible first|refine A3 ?_|refine A4 fun _=>?_|refine A5 fun _=>?_);try simp(disch:=first|omega|assumption|((repeat(first|exact A1|exact uH|apply A2|apply uT));first|done|fail)|(simp;first|done|omega|fail))[])); exact A9 rfl
 | true =>
 (have zz:=trivial;repeat((first|clear zz|with_reducible first|refine A3 ?_|refine A4 fun _=>?_|refine A5 fun _=>?_);try simp(disch:=first|omega|assumption|((repeat(first|exact A1|exact uH|apply A2|apply uT));first|done|fail)|(simp;first|done|omega|fail))[]))
 refine B8 T4 (fun w' _ => A7l w' _ _ _) ?_
 cases Y1 c.cp 1 64 with
 | false => (have zz:=trivial;repeat((first|clear zz|with_reducible first|refine A3 ?_|refine A4 fun _=>?_|refine A5 fun _=>?_);try simp(disch:=first|omega|assumption|((repeat(first|exact A1|exact uH|apply A2|apply uT));first|done|fail)|(simp;first|done|omega|fail))[])); exact A9 rfl
 | true =>
 (have zz:=trivial;repeat((first|clear zz|with_reducible first|refine A3 ?_|refine A4 fun _=>?_|refine A5 fun _=>?_);try simp(disch:=first|omega|assumption|((repeat(first|exact A1|exact uH|apply A2|apply uT));first|done|fail)|(simp;first|done|omega|fail))[]))
 refine B8 T4 (fun w' _ => A7l w' _ _ _) ?_
 cases Y1 c.idle 0 1000000 with
 | false => (have zz:=trivial;repeat((first|clear zz|with_reducible first|refine A3 ?_|refine A4 fun _=>?_|refine A5 fun _=>?_);try simp(disch:=first|omega|assumption|((repeat(first|exact A1|exact uH|apply A2|apply uT));first|done|fail)|(simp;first|done|omega|fail))[])); exact A9 rfl
 | true =>
 (have zz:=trivial;repeat((first|clear zz|with_reducible first|refine A3 ?_|refine A4 fun _=>?_|refine A5 fun _=>?_);try simp(disch:=first|omega|assumption|((repeat(first|exact A1|exact uH|apply A2|apply uT));first|done|fail)|(simp;first|done|omega|fail))[]))
 refine B8 T4 (fun w' _ => A7l w' _ _ _) ?_
 cases Y1 c.sl 2 8 with
 | false => (have zz:=trivial;repeat((first|clear zz|with_reducible first|refine A3 ?_|refine A4 fun _=>?_|refine A5 fun _=>?_);try simp(disch:=first|omega|assumption|((repeat(first|exact A1|exact uH|apply A2|apply uT));first|done|fail)|(simp;first|done|omega|fail))[])); exact A9 rfl
 | true => (have zz:=trivial;repeat((first|clear zz|with_reducible first|refine A3 ?_|refine A4 fun _=>?_|refine A5 fun _=>?_);try simp(disch:=first|omega|assumption|((repeat(first|exact A1|exact uH|apply A2|apply uT));first|done|fail)|(simp;first|done|omega|fail))[])); exact A9 rfl
def B0l (s : ByteArray) (n : Int) : Value :=
 if (D8 s).2.2 ≠ 0 then .agg #[.string Q8, .int .i64 0, .bool false, .int .i64 9]
 else .agg #[.string (p5 (D8 s).1), .int .i64 (M6 (p5 (D8 s).1) n : Nat), .bool (S9 (D8 s).1 (D8 s).2.1), .int .i64 0]
theorem B45 (w : World) (s : ByteArray) (n : Int) (hs : s.size < 2 ^ 40) (hn : n < 2 ^ 63) : Fn PR B3 40 #[.string s, .int .i64 n] w (fun v w' => v = B0l s n ∧ C1 [] w w') := by
 refine Fn.pure (A6g (TW.go (κ := false) (S := []) ?_))
 unfold A06
 (have zz:=trivial;repeat((first|clear zz|with_reducible first|refine A3 ?_|refine A4 fun _=>?_|refine A5 fun _=>?_);try simp(disch:=first|omega|assumption|((repeat(first|exact A1|exact uH|apply A2|apply uT));first|done|fail)|(simp;first|done|omega|fail))[]))
 refine B8 A49 (fun w' _ => C3C w' s hs) ?_
 have hk := A6V (D8 s).1
 unfold B0l
 by_cases c1 : (D8 s).2.2 = 0
 case neg =>
  rw [if_pos c1]
  (have zz:=trivial;repeat((first|clear zz|with_reducible first|refine A3 ?_|refine A4 fun _=>?_|refine A5 fun _=>?_);try simp(disch:=first|omega|assumption|((repeat(first|exact A1|exact uH|apply A2|apply uT));first|done|fail)|(simp;first|done|omega|fail))[packet.val, S3, c1]))
  exact A9 rfl
 rw [if_neg (by simp [c1])]
 (have zz:=trivial;repeat((first|clear zz|with_reducible first|refine A3 ?_|refine A4 fun _=>?_|refine A5 fun _=>?_);try simp(disch:=first|omega|assumption|((repeat(first|exact A1|exact uH|apply A2|apply uT));first|done|fail)|(simp;first|done|omega|fail))[packet.val, S3, c1]))
 refine B8 (u := y0 (D8 s).1) A45 (fun w' hw' => C2k w' (D8 s).1) ?_
 (have zz:=trivial;repeat((first|clear zz|with_reducible first|refine A3 ?_|refine A4 fun _=>?_|refine A5 fun _=>?_);try simp(disch:=first|omega|assumption|((repeat(first|exact A1|exact uH|apply A2|apply uT));first|done|fail)|(simp;first|done|omega|fail))[y0]))
 rw [show (if S2 (D8 s).1 = true then A1C (D8 s).1 else Q8) = p5 (D8 s).1 from rfl]
 refine B8 A4J (fun w' hw' => C02 w' _ n hk hn) ?_
 (have zz:=trivial;repeat((first|clear zz|with_reducible first|refine A3 ?_|refine A4 fun _=>?_|refine A5 fun _=>?_);try simp(disch:=first|omega|assumption|((repeat(first|exact A1|exact uH|apply A2|apply uT));first|done|fail)|(simp;first|done|omega|fail))[]))
 rw [V4 (by (repeat constructor)) (by rfl)]
 (have zz:=trivial;repeat((first|clear zz|with_reducible first|refine A3 ?_|refine A4 fun _=>?_|refine A5 fun _=>?_);try simp(disch:=first|omega|assumption|((repeat(first|exact A1|exact uH|apply A2|apply uT));first|done|fail)|(simp;first|done|omega|fail))[]))
 refine B8 (u := .bool (S9 (D8 s).1 (D8 s).2.1)) A3k (fun w' hw' => B72 w' (D8 s).1 (D8 s).2.1) ?_
 (have zz:=trivial;repeat((first|clear zz|with_reducible first|refine A3 ?_|refine A4 fun _=>?_|refine A5 fun _=>?_);try simp(disch:=first|omega|assumption|((repeat(first|exact A1|exact uH|apply A2|apply uT));first|done|fail)|(simp;first|done|omega|fail))[]))
 exact A9 rfl
structure RmH where
 pv : Value
 tv : Value
 lv : Value
 c : CfgV
 pool : List G0
 ts : List (Value × List EnV)
 pl : List Nat
def RmH.cs (r : RmH) : Array Value := #[.int .i64 r.c.wk, .int .i64 r.c.sh, .int .i64 r.c.cp, .int .i64 r.c.idle, .int .i64 r.c.sl, r.pv, r.tv, r.lv]
def g9 (l : List Nat) : List Value := l.map fun n : Nat => .int .i64 (n : Int)
abbrev C9G (w : World) (ts : List (Value × List EnV)) : Prop := ∀ t ∈ ts, E3 w t.1 t.2.length (t.2.flatMap D9)
theorem B4j (w : World) (c : CfgV) (pv tv lv v : Value) (vs : List Value) (i : Nat) (hn : vs.length ≤ 1000) (hp : ∃ a n c, pv = .slice a n c) (hl : ∃ a n c, lv = .slice a n c) (hvf : ∃ a n c, v = .slice a n c) (hvs : ∀ x ∈ vs, ∃ a n c, x = .slice a n c) (ht : E3 w tv vs.length vs) :
  Fn PR B3 42 #[.agg #[.int .i64 c.wk, .int .i64 c.sh, .int .i64 c.cp, .int .i64 c.idle, .int .i64 c.sl, pv, tv, lv], .int .i64 (i : Int), v] w
   (Rn [] w (fun r u => u = .agg #[.int .i64 c.wk, .int .i64 c.sh, .int .i64 c.cp, .int .i64 c.idle, .int .i64 c.sl, pv, r, lv]) fun r => [.own 94 1 r vs.length (vs.set i v)]) := by
 refine A3Q (TW.go (κ := false) (S := []) ?_)
 unfold q8
 obtain ⟨a, cc, rfl, hr⟩ := ht.form
 obtain ⟨va, vn, vc, rfl⟩ := hvf
 obtain ⟨pa, pn, pc, rfl⟩ := hp
 obtain ⟨la, ln, lc, rfl⟩ := hl
 (have zz:=trivial;repeat((first|clear zz|with_reducible first|refine A3 ?_|refine A4 fun _=>?_|refine A5 fun _=>?_);try simp(disch:=first|omega|assumption|((repeat(first|exact A1|exact uH|apply A2|apply uT));first|done|fail)|(simp;first|done|omega|fail))[]))
 rename_i bm bo
 refine Z9 94 1 ?_
 refine K8 vs.length (fun i (y : Option Addr × Nat) => .slice y.1 i y.2) (fun k y => [.own 94 1 (.slice y.1 k y.2) k ((vs.set i (.slice va vn vc)).take k),
  .pt bo (.cells #[.int .i64 0, .int .i64 0, .int .i64 0, .int .i64 0, .int .i64 0, .slice none 0 0, .slice none 0 0, .slice none 0 0] 36),
  .pt bm (.cells #[.int .i64 c.wk, .int .i64 c.sh, .int .i64 c.cp, .int .i64 c.idle, .int .i64 c.sl, .slice pa pn pc, .slice a vs.length cc, .slice la ln lc] 36)]) (fun i y => True) (none, 0) trivial ?_ (by simp)
 rintro k ⟨ya, yc⟩ hi _ L hL
 by_cases hlt : k < vs.length
 ·have hx : vs[k]? = some vs[k] := List.getElem?_eq_getElem hlt
  obtain ⟨b, o, rfl, hrow⟩ := hr (by omega)
  have h1 := hrow.get hx
  have hst : (vs.set i (.slice va vn vc)).take (k + 1) = (vs.set i (.slice va vn vc)).take k ++ [if k = i then .slice va vn vc else vs[k]] := by
   rw [List.take_add_one, List.getElem?_set]
   by_cases e : i = k
   ·subst e; rw [if_pos rfl, if_pos hlt, if_pos rfl]; rfl
   ·rw [if_neg e, if_neg (fun h => e h.symm), hx]; rfl
  obtain ⟨xa, xn, xc, hxv⟩ := hvs vs[k] (List.getElem_mem hlt)
  rw [hxv] at h1 hst
  by_cases c1 : k = i
  ·rw [if_pos c1] at hst
   subst c1
   (have zz:=trivial;repeat((first|clear zz|with_reducible first|refine A3 ?_|refine A4 fun _=>?_|refine A5 fun _=>?_|refine D1 fun _=>?_|refine D0 (hK:=fun _=>?_)|refine D3 (hK:=fun _=>?_)|refine D2 (hK:=fun _=>?_)|refine D4 (hK:=fun _=>?_)|refine C9 (hK:=fun _=>?_));try simp(disch:=first|omega|assumption|((repeat(first|exact A1|exact uH|apply A2|apply uT));first|done|fail)|(simp;first|done|omega|fail))[hlt]))
   refine Y5 (e := 94) (k := 1) (q := k) (r := 1) (xs := (vs.set k (.slice va vn vc)).take k) (news := [.slice va vn vc]) (by (repeat constructor)) (K3.own (by (repeat constructor))) (by decide) rfl (by simp) (by simp only [maxLen]; omega) (by omega) fun a' c' => ?_
   (have zz:=trivial;repeat((first|clear zz|with_reducible first|refine A3 ?_|refine A4 fun _=>?_|refine A5 fun _=>?_);try simp(disch:=first|omega|assumption|((repeat(first|exact A1|exact uH|apply A2|apply uT));first|done|fail)|(simp;first|done|omega|fail))[]))
   have h2 := hL hlt (a', c') trivial
   rw [hst] at h2
   exact Sels.tw (by (repeat' constructor)) h2
  ·rw [if_neg c1] at hst
   have c1' : ¬ (k : Int) = (i : Int) := by omega
   (have zz:=trivial;repeat((first|clear zz|with_reducible first|refine A3 ?_|refine A4 fun _=>?_|refine A5 fun _=>?_|refine D1 fun _=>?_|refine D0 (hK:=fun _=>?_)|refine D3 (hK:=fun _=>?_)|refine D2 (hK:=fun _=>?_)|refine D4 (hK:=fun _=>?_)|refine C9 (hK:=fun _=>?_));try simp(disch:=first|omega|assumption|((repeat(first|exact A1|exact uH|apply A2|apply uT));first|done|fail)|(simp;first|done|omega|fail))[hlt, c1, c1', h1]))
   refine Y5 (e := 94) (k := 1) (q := k) (r := 1) (xs := (vs.set i (.slice va vn vc)).take k) (news := [.slice xa xn xc]) (by (repeat constructor)) (K3.own (by (repeat constructor))) (by decide) rfl (by simp) (by simp only [maxLen]; omega) (by omega) fun a' c' => ?_
   (have zz:=trivial;repeat((first|clear zz|with_reducible first|refine A3 ?_|refine A4 fun _=>?_|refine A5 fun _=>?_);try simp(disch:=first|omega|assumption|((repeat(first|exact A1|exact uH|apply A2|apply uT));first|done|fail)|(simp;first|done|omega|fail))[]))
   have h2 := hL hlt (a', c') trivial
   rw [hst] at h2
   exact Sels.tw (by (repeat' constructor)) h2
 ·obtain rfl : k = vs.length := by omega
  (have zz:=trivial;repeat((first|clear zz|with_reducible first|refine A3 ?_|refine A4 fun _=>?_|refine A5 fun _=>?_);try simp(disch:=first|omega|assumption|((repeat(first|exact A1|exact uH|apply A2|apply uT));first|done|fail)|(simp;first|done|omega|fail))[]))
  refine C0 (.slice ya vs.length yc) rfl ?_
  rw [List.take_of_length_le (by simp)]
  (repeat' constructor)
end Go.Proofs.YtpbmephflllolaaGreat
namespace Go.Proofs.YtpbmephflllolaaGreat
open Go
@[simp] theorem D3C {κ : Bool} {S : List Nat} {w0 : World} {H : List Res} {K : Value → WP} {t t' : TypeId} {n n' : Nat} {z z' : Value} [h : TG t n z] [h' : TG t' n' z'] {b o b' o' : Nat} {c c' : Array Value} {T T' : TypeId} {f f' : Nat × Nat} (hm : Res.pt b (.cells c T f) ∈ H) (hm' : Res.pt b' (.cells c' T' f') ∈ H) :
  TW κ S w0 H (A6 PR (D5 [.c t (.pointer (some ⟨b, o, none⟩)), .c t' (.pointer (some ⟨b', o', none⟩))]) K) = TW κ S w0 H (rdq (T8 c.toList o n) (fun l => rdq (T8 c'.toList o' n') (fun l' => K (.tuple #[.agg l.toArray, .agg l'.toArray])) (A6 PR (D5 [.c t (.pointer (some ⟨b, o, none⟩)), .c t' (.pointer (some ⟨b', o', none⟩))]) K)) (A6 PR (D5 [.c t (.pointer (some ⟨b, o, none⟩)), .c t' (.pointer (some ⟨b', o', none⟩))]) K)) := by
 cases hl : T8 c.toList o n with
 | none => rfl
 | some l =>
 rw [A46]
 cases hl' : T8 c'.toList o' n' with
 | none => rfl
 | some l' =>
   obtain ⟨_, _, h, hd⟩ := h.ti
   obtain ⟨_, _, h', hd'⟩ := h'.ti
   refine TW.congr fun w hw => ?_
   rw [A46]
   have h2 := l8 (A0N hl (L9.bl (hw.pt hm)))
   have h3 := l8 (A0N hl' (L9.bl (hw.pt hm')))
   refine T3 ?_ K
   have e := p9 h hd h2.1 h2.2
   have e' := p9 h' hd' h3.1 h3.2
   simp only [Instr.loadAt, Instr.sureAddr, Sem.run_bind, Sem.run_pure, Result.andThen_ok] at e e'
   simp [D5, A2v, RV.sem, asAddr, e, e', one]
def RmH.val (r : RmH) : Value := .agg r.cs
def RmH.st (r : RmH) : MoS := ⟨r.c, r.pool, (r.ts.map (·.2)).zip r.pl⟩
structure RmOk (w : World) (r : RmH) : Prop where
 tv : E3 w r.tv r.ts.length (r.ts.map (·.1))
 lv : E3 w r.lv r.pl.length (g9 r.pl)
 tab : C9G w r.ts
 pv : E3 w r.pv r.pool.length (r.pool.flatMap E7)
 few : r.ts.length ≤ 1000
 pl : r.pl.length = r.ts.length
 pos : 0 < r.ts.length
 sh : r.c.sh = r.ts.length
 keys : ∀ t ∈ r.ts, H6 t.2
 len : ∀ t ∈ r.ts, t.2.length ≤ 1000000
 pool : r.pool.length ≤ 1000
section
variable (w : World) (r : RmH) (o : OpV) (v : Value) (now : Int)
theorem C16 (hr : RmOk w r) (hv : E3 w v o.pool.length (o.pool.flatMap E7)) (hk : o.kind < 0 ∨ 3 < o.kind) :
  Fn PR B3 14 #[r.val, o.val v, .int .i64 now] w (fun u w' => u = .tuple #[r.val, (j8 r.st o now).2.val] ∧ C1 [] w w') := by
 refine Fn.pure (M8 (TW.go (κ := false) (S := []) ?_))
 unfold L0
 rw [B0v r.st o now hk]
 obtain ⟨pa, pc, e1, _⟩ := hr.pv.form
 obtain ⟨ta, tc, e2, _⟩ := hr.tv.form
 obtain ⟨la, lc, e3, _⟩ := hr.lv.form
 obtain ⟨va, vc, rfl, _⟩ := hv.form
 simp only [RmH.val, RmH.cs, OpV.val, e1, e2, e3]
 have k0 : ¬ o.kind = 0 := by omega
 have k1 : ¬ o.kind = 1 := by omega
 have k2 : ¬ o.kind = 2 := by omega
 have k3 : ¬ o.kind = 3 := by omega
 (have zz:=trivial;repeat((first|clear zz|with_reducible first|refine A3 ?_|refine A4 fun _=>?_|refine A5 fun _=>?_);try simp(disch:=first|omega|assumption|((repeat(first|exact A1|exact uH|apply A2|apply uT));first|done|fail)|(simp;first|done|omega|fail))[k0, k1, k2, k3]))
 exact A9 rfl
theorem C5B (hr : RmOk w r) (hv : E3 w v o.pool.length (o.pool.flatMap E7)) (hvl : o.pool.length ≤ 1000) (hk : o.kind = 1) :
  Fn PR B3 14 #[r.val, o.val v, .int .i64 now] w (fun u w' => u = .tuple #[(if N8 o.pool = 0 then { r with pv := v, pool := o.pool } else r : RmH).val, (j8 r.st o now).2.val] ∧ C1 [] w w') := by
 refine Fn.pure (M8 (TW.go (κ := false) (S := []) ?_))
 unfold L0
 rw [B2e r.st o now hk]
 obtain ⟨pa, pc, e1, _⟩ := hr.pv.form
 obtain ⟨ta, tc, e2, _⟩ := hr.tv.form
 obtain ⟨la, lc, e3, _⟩ := hr.lv.form
 obtain ⟨va, vc, rfl, _⟩ := hv.form
 unfold A4c
 simp only [RmH.val, RmH.cs, OpV.val, e1, e2, e3]
 (have zz:=trivial;repeat((first|clear zz|with_reducible first|refine A3 ?_|refine A4 fun _=>?_|refine A5 fun _=>?_);try simp(disch:=first|omega|assumption|((repeat(first|exact A1|exact uH|apply A2|apply uT));first|done|fail)|(simp;first|done|omega|fail))[hk]))
 refine B8 A4z (fun w' hw' => C1x w' _ o.pool (by omega) (hv.ks hw'.ks (by simp))) ?_
 by_cases c1 : N8 o.pool = 0
 ·(have zz:=trivial;repeat((first|clear zz|with_reducible first|refine A3 ?_|refine A4 fun _=>?_|refine A5 fun _=>?_);try simp(disch:=first|omega|assumption|((repeat(first|exact A1|exact uH|apply A2|apply uT));first|done|fail)|(simp;first|done|omega|fail))[c1]))
  exact A9 (by simp [AnsV.val, e2, e3])
 ·(have zz:=trivial;repeat((first|clear zz|with_reducible first|refine A3 ?_|refine A4 fun _=>?_|refine A5 fun _=>?_);try simp(disch:=first|omega|assumption|((repeat(first|exact A1|exact uH|apply A2|apply uT));first|done|fail)|(simp;first|done|omega|fail))[c1]))
  exact A9 (by simp [AnsV.val, e1, e2, e3])
theorem C3Z (hr : RmOk w r) (hv : E3 w v o.pool.length (o.pool.flatMap E7)) (hpk : o.packet.size < 2 ^ 40) (hk : o.kind = 0) (hb : (D8 o.packet).2.2 ≠ 0) :
  Fn PR B3 14 #[r.val, o.val v, .int .i64 now] w (fun u w' => u = .tuple #[r.val, (j8 r.st o now).2.val] ∧ C1 [] w w') := by
 refine Fn.pure (M8 (TW.go (κ := false) (S := []) ?_))
 unfold L0
 rw [B0p r.st o now hk]
 have e : c8 r.st o.packet now = (r.st, ⟨9, 0, false, 0⟩) := by unfold c8; simp only; rw [if_pos hb]
 rw [e]
 obtain ⟨pa, pc, e1, _⟩ := hr.pv.form
 obtain ⟨ta, tc, e2, _⟩ := hr.tv.form
 obtain ⟨la, lc, e3, _⟩ := hr.lv.form
 obtain ⟨va, vc, rfl, _⟩ := hv.form
 have hsh := hr.sh
 have hfew := hr.few
 have ef : B0l o.packet r.c.sh = .agg #[.string Q8, .int .i64 0, .bool false, .int .i64 9] := by unfold B0l; rw [if_pos hb]
 simp only [RmH.val, RmH.cs, OpV.val, e1, e2, e3]
 (have zz:=trivial;repeat((first|clear zz|with_reducible first|refine A3 ?_|refine A4 fun _=>?_|refine A5 fun _=>?_);try simp(disch:=first|omega|assumption|((repeat(first|exact A1|exact uH|apply A2|apply uT));first|done|fail)|(simp;first|done|omega|fail))[hk]))
 refine B8 A0p (fun w' hw' => B45 w' o.packet r.c.sh hpk (by omega)) ?_
 rw [ef]
 (have zz:=trivial;repeat((first|clear zz|with_reducible first|refine A3 ?_|refine A4 fun _=>?_|refine A5 fun _=>?_);try simp(disch:=first|omega|assumption|((repeat(first|exact A1|exact uH|apply A2|apply uT));first|done|fail)|(simp;first|done|omega|fail))[]))
 exact A9 rfl
theorem C24 (ts : List (Value × List EnV)) (pl : List Nat) (h : pl.length = ts.length) : B0r ((ts.map (·.2)).zip pl) = (ts.map fun t => F3 t.2 1).sum := by
 unfold B0r
 have e : ((ts.map (·.2)).zip pl).map (fun t => F3 t.1 1) = (((ts.map (·.2)).zip pl).map Prod.fst).map fun l => F3 l 1 := by rw [List.map_map]; rfl
 rw [e, List.map_fst_zip (by simp [h]), List.map_map]; rfl
theorem C48 (l : List Nat) (i : Nat) (h : i < l.length) : (l.take (i + 1)).sum = (l.take i).sum + l[i] := by
 rw [List.take_add_one, List.getElem?_eq_getElem h, List.sum_append]; simp
theorem C7s (l : List Nat) (k : Nat) (h : ∀ x ∈ l, x ≤ k) : l.sum ≤ l.length * k := by
 induction l with
 | nil => simp
 | cons x l ih =>
  have h1 := ih fun y hy => h y (List.mem_cons_of_mem _ hy)
  have h2 := h x (List.mem_cons_self ..)
  rw [List.sum_cons, List.length_cons, Nat.add_mul]; omega
theorem C2d (hr : RmOk w r) (hv : E3 w v o.pool.length (o.pool.flatMap E7)) (hk : o.kind = 3) :
  Fn PR B3 14 #[r.val, o.val v, .int .i64 now] w (fun u w' => u = .tuple #[r.val, (j8 r.st o now).2.val] ∧ C1 [] w w') := by
 refine Fn.pure (M8 (TW.go (κ := false) (S := []) ?_))
 unfold L0
 rw [B38 r.st o now hk]
 unfold A8b
 have hlz : B0r r.st.tabs = (r.ts.map fun t => F3 t.2 1).sum := C24 r.ts r.pl hr.pl
 rw [hlz]
 have htab := hr.tab
 have hlen := hr.len
 have hfew := hr.few
 obtain ⟨pa, pc, e1, _⟩ := hr.pv.form
 obtain ⟨ta, tc, e2, htr⟩ := hr.tv.form
 obtain ⟨la, lc, e3, _⟩ := hr.lv.form
 obtain ⟨va, vc, rfl, _⟩ := hv.form
 obtain ⟨tb, tp, rfl, hrow⟩ := htr hr.pos
 simp only [RmH.val, RmH.cs, OpV.val, e1, e2, e3]
 (have zz:=trivial;repeat((first|clear zz|with_reducible first|refine A3 ?_|refine A4 fun _=>?_|refine A5 fun _=>?_);try simp(disch:=first|omega|assumption|((repeat(first|exact A1|exact uH|apply A2|apply uT));first|done|fail)|(simp;first|done|omega|fail))[hk]))
 rename_i b1 b2 b3 b4
 refine K8 (α := Unit) r.ts.length (fun i _ => .int .i64 (((r.ts.map fun t => F3 t.2 1).take i).sum : Nat)) (fun i _ => [.pt b4 (.cells #[.int .i64 0, .int .i64 0, .bool false, .int .i64 0] 39),
  .pt b3 (.cells #[.int .i64 0, .int .i64 0, .int .i64 0, .int .i64 0, .int .i64 0, .slice none 0 0, .slice none 0 0, .slice none 0 0] 36),
  .pt b2 (.cells #[.int .i64 3, .string o.packet, .slice va o.pool.length vc, .int .i64 o.shard] 42),
  .pt b1 (.cells #[.int .i64 r.c.wk, .int .i64 r.c.sh, .int .i64 r.c.cp, .int .i64 r.c.idle, .int .i64 r.c.sl, .slice pa r.pool.length pc, .slice (some ⟨tb, tp, none⟩) r.ts.length tc, .slice la r.pl.length lc] 36)]) (fun _ _ => True) () trivial ?_
 rintro i _ hi _ L hL
 have hle : ((r.ts.map fun t => F3 t.2 1).take i).sum ≤ 1000 * 1000000 := by
  have h1 := C7s ((r.ts.map fun t => F3 t.2 1).take i) 1000000 fun x hx => by
   obtain ⟨t, ht, rfl⟩ := List.mem_map.1 (List.mem_of_mem_take hx)
   have h2 := hlen t ht
   have h3 : F3 t.2 1 ≤ t.2.length := List.countP_le_length
   omega
  have h4 : ((r.ts.map fun t => F3 t.2 1).take i).length ≤ 1000 := by simp; omega
  exact Nat.le_trans h1 (Nat.mul_le_mul_right 1000000 h4)
 by_cases hlt : i < r.ts.length
 ·have hx : r.ts[i]? = some r.ts[i] := List.getElem?_eq_getElem hlt
  have hsum := C48 (r.ts.map fun t => F3 t.2 1) i (by simpa using hlt)
  rw [List.getElem_map] at hsum
  have h1 := hrow.get (i := i) (v := r.ts[i].1) (by rw [List.getElem?_map, hx]; rfl)
  have hmem := List.getElem_mem hlt
  have hxl := hlen _ hmem
  have hxt := htab _ hmem
  have hct : F3 r.ts[i].2 1 ≤ r.ts[i].2.length := List.countP_le_length
  have h := hL hlt () trivial
  rw [hsum] at h
  generalize r.ts[i] = x at *
  generalize ((r.ts.map fun t => F3 t.2 1).take i).sum = q at *
  (have zz:=trivial;repeat((first|clear zz|with_reducible first|refine A3 ?_|refine A4 fun _=>?_|refine A5 fun _=>?_);try simp(disch:=first|omega|assumption|((repeat(first|exact A1|exact uH|apply A2|apply uT));first|done|fail)|(simp;first|done|omega|fail))[hlt, h1]))
  refine B8 z7 (fun w' hw' => B3J w' _ x.2 1 hxl (hxt.ks hw'.ks (by simp))) ?_
  (have zz:=trivial;repeat((first|clear zz|with_reducible first|refine A3 ?_|refine A4 fun _=>?_|refine A5 fun _=>?_);try simp(disch:=first|omega|assumption|((repeat(first|exact A1|exact uH|apply A2|apply uT));first|done|fail)|(simp;first|done|omega|fail))[]))
  rw [show (((q + F3 x.2 1 : Nat)) : Int) = (q : Int) + (F3 x.2 1 : Nat) by omega] at h
  exact Sels.tw (by (repeat' constructor)) h
 ·obtain rfl : i = r.ts.length := by omega
  have e : ((r.ts.map fun t => F3 t.2 1).take r.ts.length).sum = (r.ts.map fun t => F3 t.2 1).sum := by rw [List.take_of_length_le (by simp)]
  rw [e]
  (have zz:=trivial;repeat((first|clear zz|with_reducible first|refine A3 ?_|refine A4 fun _=>?_|refine A5 fun _=>?_);try simp(disch:=first|omega|assumption|((repeat(first|exact A1|exact uH|apply A2|apply uT));first|done|fail)|(simp;first|done|omega|fail))[]))
  exact A9 (by simp [AnsV.val])
theorem C7V (hr : RmOk w r) : r.st.tabs.length = r.ts.length := by have := hr.pl; simp [RmH.st, this]
theorem C5D (hr : RmOk w r) (hv : E3 w v o.pool.length (o.pool.flatMap E7)) (hk : o.kind = 2) (hb : o.shard < 0 ∨ r.c.sh ≤ o.shard) :
  Fn PR B3 14 #[r.val, o.val v, .int .i64 now] w (fun u w' => u = .tuple #[r.val, (j8 r.st o now).2.val] ∧ C1 [] w w') := by
 refine Fn.pure (M8 (TW.go (κ := false) (S := []) ?_))
 unfold L0
 rw [B21 r.st o now hk]
 have e : A0B r.st o.shard now = (r.st, ⟨1, 0, false, 0⟩) := by unfold A0B; rw [if_pos (by rw [C7V w r hr, ← hr.sh]; exact hb)]
 rw [e]
 obtain ⟨pa, pc, e1, _⟩ := hr.pv.form
 obtain ⟨ta, tc, e2, _⟩ := hr.tv.form
 obtain ⟨la, lc, e3, _⟩ := hr.lv.form
 obtain ⟨va, vc, rfl, _⟩ := hv.form
 simp only [RmH.val, RmH.cs, OpV.val, e1, e2, e3]
 by_cases c1 : o.shard < 0
 ·(have zz:=trivial;repeat((first|clear zz|with_reducible first|refine A3 ?_|refine A4 fun _=>?_|refine A5 fun _=>?_);try simp(disch:=first|omega|assumption|((repeat(first|exact A1|exact uH|apply A2|apply uT));first|done|fail)|(simp;first|done|omega|fail))[hk, c1]))
  exact A9 rfl
 ·have c2 : r.c.sh ≤ o.shard := by omega
  (have zz:=trivial;repeat((first|clear zz|with_reducible first|refine A3 ?_|refine A4 fun _=>?_|refine A5 fun _=>?_);try simp(disch:=first|omega|assumption|((repeat(first|exact A1|exact uH|apply A2|apply uT));first|done|fail)|(simp;first|done|omega|fail))[hk, c1, c2]))
  exact A9 rfl
theorem B8G {l : List EnV} {f n now : Int} (h : (E1 l f n now).2.2 = 0) : (E1 l f n now).1 = l := by
 unfold E1 at h ⊢
 simp only at h ⊢
 rw [if_neg (by omega)]
 exact B1b l _ _ now h
theorem C5x {κ : Bool} {S : List Nat} {w0 : World} {H : List Res} {K0 : WP} {c : Prop} [Decidable c] {y x : Value} {l : List EnV} (hx : ∃ a n c, x = Value.slice a n c)
  (h : (∃ a n d, (if c then x else y) = Value.slice a n d) → TW κ S w0 (W1 (if c then [] else [(y, l)]) :: H) K0) : TW κ S w0 ((if c then [] else [E6 y l]) ++ H) K0 := by
 by_cases hc : c
 ·simp only [if_pos hc] at h ⊢
  exact A4w (h hx)
 ·simp only [if_neg hc] at h ⊢
  refine S6 (e := 160) (k := 4) (v := y) (q := l.length) (xs := l.flatMap D9) A1 fun a d e => ?_
  refine A4w ?_
  exact A9c (r := y) (l := l) (ts := []) (Hk := H) (Part.cons (.there .here) (Part.cons .here Part.nil)) (h ⟨a, _, d, e⟩)
theorem C3f (hr : RmOk w r) (hv : E3 w v o.pool.length (o.pool.flatMap E7)) (hk : o.kind = 2) (i : Nat) (hi : o.shard = i) (hb : i < r.ts.length) (x : Value × List EnV) (hx : r.ts[i]? = some x) (pn : Nat) (hpn : r.pl[i]? = some pn) (hsw : (E1 x.2 pn 4 now).2.1 ≤ 1000000) :
  Fn PR B3 14 #[r.val, o.val v, .int .i64 now] w (Rn [] w (fun (y : Value × Value × Value) u => u = .tuple #[RmH.val { r with tv := y.1, lv := y.2.1 }, AnsV.val ⟨0, 0, false, ((E1 x.2 pn 4 now).2.2 : Nat)⟩])
   fun y => [.own 94 1 y.1 r.ts.length ((r.ts.map (·.1)).set i (if (E1 x.2 pn 4 now).2.2 = 0 then x.1 else y.2.2)), .own 3 1 y.2.1 r.pl.length (g9 (r.pl.set i (E1 x.2 pn 4 now).2.1)), W1 (if (E1 x.2 pn 4 now).2.2 = 0 then [] else [(y.2.2, (E1 x.2 pn 4 now).1)])]) := by
 refine M8 (TW.go (κ := false) (S := []) ?_)
 unfold L0
 have hsh := hr.sh
 have hfew := hr.few
 have hpl := hr.pl
 have hmem := List.mem_of_getElem? hx
 have hlv := hr.lv
 have hxt := hr.tab x hmem
 have hxk := hr.keys x hmem
 have hxl := hr.len x hmem
 have htv := hr.tv
 have hforms : ∀ y ∈ r.ts.map (·.1), ∃ a n c, y = Value.slice a n c := fun y hy => by
  obtain ⟨t, ht, rfl⟩ := List.mem_map.1 hy
  obtain ⟨a, c, e, _⟩ := (hr.tab t ht).form
  exact ⟨a, _, c, e⟩
 obtain ⟨pa, pc, e1, _⟩ := hr.pv.form
 obtain ⟨ta, tc, e2, htr⟩ := hr.tv.form
 obtain ⟨la, lc, e3, hlr⟩ := hr.lv.form
 obtain ⟨va, vc, rfl, _⟩ := hv.form
 obtain ⟨tb, tp, rfl, hrow⟩ := htr hr.pos
 obtain ⟨lb, lp, rfl, hrow2⟩ := hlr (by omega)
 have h1 := hrow.get (i := i) (v := x.1) (by rw [List.getElem?_map, hx]; rfl)
 have h2 := hrow2.get (i := i) (v := .int .i64 (pn : Int)) (by unfold g9; rw [List.getElem?_map, hpn]; rfl)
 rw [e2] at htv
 rw [e3] at hlv
 simp only [RmH.val, RmH.cs, OpV.val, e1, e2, e3]
 have c1 : ¬ ((i : Nat) : Int) < 0 := by omega
 have c2 : ¬ r.c.sh ≤ ((i : Nat) : Int) := by omega
 have c3 : i < r.pl.length := by omega
 (have zz:=trivial;repeat((first|clear zz|with_reducible first|refine A3 ?_|refine A4 fun _=>?_|refine A5 fun _=>?_);try simp(disch:=first|omega|assumption|((repeat(first|exact A1|exact uH|apply A2|apply uT));first|done|fail)|(simp;first|done|omega|fail))[hk, hi, c1, c2, h1, h2, hb, c3]))
 rename_i b1 b2 b3 b4
 refine G3 A5W (fun w' hw' => C21 w' x.1 x.2 pn 4 now hxk hxl (hxt.ks hw'.ks (by simp))) ?_
 intro y u hu
 subst hu
 generalize E1 x.2 pn 4 now = sw at *
 obtain ⟨s1, s2, s3⟩ := sw
 simp only at hsw ⊢
 refine C5x (hforms _ (List.mem_map.2 ⟨x, hmem, rfl⟩)) ?_
 generalize hnts : (if s3 = 0 then [] else [(y, s1)]) = nts
 generalize htt : (if s3 = 0 then x.1 else y) = tt
 rintro ⟨a', n', c', rfl⟩
 have hlp0 := hlv
 have hil : (g9 r.pl).length = r.pl.length := by simp [g9]
 have hil2 : (g9 r.pl).all plain = true := by rw [List.all_eq_true]; intro z hz; obtain ⟨q, _, rfl⟩ := List.mem_map.1 hz; rfl
 (have zz:=trivial;repeat((first|clear zz|with_reducible first|refine A3 ?_|refine A4 fun _=>?_|refine A5 fun _=>?_|refine D1 fun _=>?_|refine D0 (hK:=fun _=>?_)|refine D3 (hK:=fun _=>?_)|refine D2 (hK:=fun _=>?_)|refine D4 (hK:=fun _=>?_)|refine C9 (hK:=fun _=>?_));try simp(disch:=first|omega|assumption|((repeat(first|exact A1|exact uH|apply A2|apply uT));first|done|fail)|(simp;first|done|omega|fail))[]))
 refine Y5 (e := 3) (k := 1) (q := 0) (r := r.pl.length) (xs := []) (news := g9 r.pl) (by (repeat constructor)) (fun w' hw' => hlv.ks hw'.ks (by simp)) (by decide) (by rw [hil]; omega) hil2 (by simp only [maxLen]; omega) (by omega) fun na nc => ?_
 rw [Nat.zero_add, List.nil_append]
 refine A2E (e := 3) (k := 1) (v := .slice na r.pl.length nc) (q := r.pl.length) (xs := g9 r.pl) (by (repeat constructor)) (by omega) fun g gc hg => ?_
 cases hg
 (have zz:=trivial;repeat((first|clear zz|with_reducible first|refine A3 ?_|refine A4 fun _=>?_|refine A5 fun _=>?_);try simp(disch:=first|omega|assumption|((repeat(first|exact A1|exact uH|apply A2|apply uT));first|done|fail)|(simp;first|done|omega|fail))[c3]))
 refine A4l (n := 1) (by (repeat constructor)) rfl (by rw [hil]; omega) rfl ?_
 have hset : A5B (g9 r.pl) i [.int .i64 (s2 : Int)] = g9 (r.pl.set i s2) := by
  rw [B6S (by rw [hil]; exact c3), g9, g9, List.map_set]
 have ev : (Value.int IntKind.i64 (s2 : Int)).cells.toList = [.int .i64 (s2 : Int)] := rfl
 rw [ev, hset]
 (have zz:=trivial;repeat((first|clear zz|with_reducible first|refine A3 ?_|refine A4 fun _=>?_|refine A5 fun _=>?_);try simp(disch:=first|omega|assumption|((repeat(first|exact A1|exact uH|apply A2|apply uT));first|done|fail)|(simp;first|done|omega|fail))[]))
 refine G3 m8 (fun w' hw' => B4j w' r.c (.slice pa r.pool.length pc) (.slice (some ⟨tb, tp, none⟩) r.ts.length tc) (.slice (some ⟨g, 0, none⟩) r.pl.length nc) (.slice a' n' c') (r.ts.map (·.1)) i (by simpa using hfew) ⟨_, _, _, rfl⟩ ⟨_, _, _, rfl⟩ ⟨_, _, _, rfl⟩ hforms (by simpa using htv.ks hw'.ks (by simp))) ?_
 intro z u hz
 subst hz
 refine S6 (e := 94) (k := 1) (v := z) (q := (r.ts.map (·.1)).length) (xs := (r.ts.map (·.1)).set i (.slice a' n' c')) (by (repeat constructor)) fun za zc hz => ?_
 subst hz
 (have zz:=trivial;repeat((first|clear zz|with_reducible first|refine A3 ?_|refine A4 fun _=>?_|refine A5 fun _=>?_);try simp(disch:=first|omega|assumption|((repeat(first|exact A1|exact uH|apply A2|apply uT));first|done|fail)|(simp;first|done|omega|fail))[]))
 refine C0 (.slice za (r.ts.map (·.1)).length zc, .slice (some ⟨g, 0, none⟩) r.pl.length nc, y) (by simp [AnsV.val]) ?_
 simp only [hnts, htt, List.length_map]
 (repeat' constructor)
theorem B7D {κ : Bool} {S : List Nat} {w0 : World} {H : List Res} {K0 : WP} {c : Prop} [Decidable c] {y x : Value} {l : List EnV} (hx : ∃ a n c, x = Value.slice a n c)
  (h : (∃ a n d, (if c then y else x) = Value.slice a n d) → TW κ S w0 (W1 (if c then [(y, l)] else []) :: H) K0) : TW κ S w0 ((if c then [E6 y l] else []) ++ H) K0 := by
 by_cases hc : c
 ·simp only [if_pos hc] at h ⊢
  refine S6 (e := 160) (k := 4) (v := y) (q := l.length) (xs := l.flatMap D9) A1 fun a d e => ?_
  refine A4w ?_
  exact A9c (r := y) (l := l) (ts := []) (Hk := H) (Part.cons (.there .here) (Part.cons .here Part.nil)) (h ⟨a, _, d, e⟩)
 ·simp only [if_neg hc] at h ⊢
  exact A4w (h hx)
theorem C6F (hr : RmOk w r) (hv : E3 w v o.pool.length (o.pool.flatMap E7)) (hpk : o.packet.size < 2 ^ 40) (hk : o.kind = 0) (hb : (D8 o.packet).2.2 = 0) (key : ByteArray) (cl : Bool) (hkey : p5 (D8 o.packet).1 = key) (hcl : S9 (D8 o.packet).1 (D8 o.packet).2.1 = cl) (i : Nat) (hi : M6 key r.c.sh = i)
  (x : Value × List EnV) (hx : r.ts[i]? = some x) (dv : List EnV × AnsV × Bool) (hdv : E5 x.2 r.pool key cl now r.c.idle = dv) :
  Fn PR B3 14 #[r.val, o.val v, .int .i64 now] w (Rn [] w (fun (y : Value × Value) u => u = .tuple #[RmH.val { r with tv := y.1 }, dv.2.1.val])
   fun y => [.own 94 1 y.1 r.ts.length ((r.ts.map (·.1)).set i (if dv.2.2 then y.2 else x.1)), W1 (if dv.2.2 then [(y.2, dv.1)] else [])]) := by
 refine M8 (TW.go (κ := false) (S := []) ?_)
 unfold L0
 have hsh := hr.sh
 have hfew := hr.few
 have hmem := List.mem_of_getElem? hx
 have hxt := hr.tab x hmem
 have hxk := hr.keys x hmem
 have hxl := hr.len x hmem
 have htv := hr.tv
 have hpv := hr.pv
 have hpool := hr.pool
 have hkey60 := A6V (D8 o.packet).1
 rw [hkey] at hkey60
 have hil : i < r.ts.length := (List.getElem?_eq_some_iff.1 hx).1
 have hforms : ∀ y ∈ r.ts.map (·.1), ∃ a n c, y = Value.slice a n c := fun y hy => by
  obtain ⟨t, ht, rfl⟩ := List.mem_map.1 hy
  obtain ⟨a, c, e, _⟩ := (hr.tab t ht).form
  exact ⟨a, _, c, e⟩
 obtain ⟨pa, pc, e1, _⟩ := hr.pv.form
 obtain ⟨ta, tc, e2, htr⟩ := hr.tv.form
 obtain ⟨la, lc, e3, hlr⟩ := hr.lv.form
 obtain ⟨va, vc, rfl, _⟩ := hv.form
 obtain ⟨tb, tp, rfl, hrow⟩ := htr hr.pos
 have h1 := hrow.get (i := i) (v := x.1) (by rw [List.getElem?_map, hx]; rfl)
 have hD := fun (w' : World) h1 h2 => B8D w' x.1 (.slice pa r.pool.length pc) x.2 r.pool key cl now r.c.idle hkey60 hxk hxl hpool h1 h2
 rw [hdv] at hD
 obtain ⟨d1, ⟨a1, a2, a3, a4⟩, d3⟩ := dv
 have ef : B0l o.packet r.c.sh = .agg #[.string key, .int .i64 (i : Nat), .bool cl, .int .i64 0] := by unfold B0l; rw [if_neg (by simp [hb]), hkey, hcl, hi]
 rw [e2] at htv
 rw [e1] at hpv
 simp only [RmH.val, RmH.cs, OpV.val, e1, e2, e3]
 (have zz:=trivial;repeat((first|clear zz|with_reducible first|refine A3 ?_|refine A4 fun _=>?_|refine A5 fun _=>?_);try simp(disch:=first|omega|assumption|((repeat(first|exact A1|exact uH|apply A2|apply uT));first|done|fail)|(simp;first|done|omega|fail))[hk]))
 refine B8 A0p (fun w' hw' => B45 w' o.packet r.c.sh hpk (by omega)) ?_
 rw [ef]
 (have zz:=trivial;repeat((first|clear zz|with_reducible first|refine A3 ?_|refine A4 fun _=>?_|refine A5 fun _=>?_);try simp(disch:=first|omega|assumption|((repeat(first|exact A1|exact uH|apply A2|apply uT));first|done|fail)|(simp;first|done|omega|fail))[h1, hil]))
 rename_i b1 b2 b3 b4 b5
 simp only at hD
 have hx1 := hforms _ (List.mem_map.2 ⟨x, hmem, rfl⟩)
 refine C0b (α := Nat × Value) (fun y => ∃ a n c, (if d3 = true then y.2 else x.1) = Value.slice a n c) (fun y => [.pt y.1 (.cells #[.int .i64 a1, .int .i64 a2, .bool a3, .int .i64 a4] 39), W1 (if d3 = true then [(y.2, d1)] else []),
  .pt b5 (.cells #[.string key, .int .i64 (i : Nat), .bool cl, .int .i64 0] 106), .pt b4 (.cells #[.int .i64 0, .int .i64 0, .bool false, .int .i64 0] 39),
  .pt b3 (.cells #[.int .i64 0, .int .i64 0, .int .i64 0, .int .i64 0, .int .i64 0, .slice none 0 0, .slice none 0 0, .slice none 0 0] 36),
  .pt b1 (.cells #[.int .i64 r.c.wk, .int .i64 r.c.sh, .int .i64 r.c.cp, .int .i64 r.c.idle, .int .i64 r.c.sl, .slice pa r.pool.length pc, .slice (some ⟨tb, tp, none⟩) r.ts.length tc, .slice la r.pl.length lc] 36)])
  (fun y => .pointer (some ⟨y.1, 0, none⟩)) (fun y => if d3 = true then y.2 else x.1) ?_ ?_
 ·rintro ⟨ba, y⟩ ⟨ta', tn', tc', hy⟩
  simp only at hy ⊢
  rw [hy]
  (have zz:=trivial;repeat((first|clear zz|with_reducible first|refine A3 ?_|refine A4 fun _=>?_|refine A5 fun _=>?_);try simp(disch:=first|omega|assumption|((repeat(first|exact A1|exact uH|apply A2|apply uT));first|done|fail)|(simp;first|done|omega|fail))[]))
  refine G3 m8 (fun w' hw' => B4j w' r.c (.slice pa r.pool.length pc) (.slice (some ⟨tb, tp, none⟩) r.ts.length tc) (.slice la r.pl.length lc) (.slice ta' tn' tc') (r.ts.map (·.1)) i (by simpa using hfew) ⟨_, _, _, rfl⟩ ⟨_, _, _, rfl⟩ ⟨_, _, _, rfl⟩ hforms (by simpa using htv.ks hw'.ks (by simp))) ?_
  intro z u hz
  subst hz
  refine S6 (e := 94) (k := 1) (v := z) (q := (r.ts.map (·.1)).length) (xs := (r.ts.map (·.1)).set i (.slice ta' tn' tc')) (by (repeat constructor)) fun za zc hz => ?_
  subst hz
  rw [V4 (by (repeat constructor)) (by rfl)]
  (have zz:=trivial;repeat((first|clear zz|with_reducible first|refine A3 ?_|refine A4 fun _=>?_|refine A5 fun _=>?_);try simp(disch:=first|omega|assumption|((repeat(first|exact A1|exact uH|apply A2|apply uT));first|done|fail)|(simp;first|done|omega|fail))[]))
  rw [V4 (by (repeat constructor)) (by rfl)]
  (have zz:=trivial;repeat((first|clear zz|with_reducible first|refine A3 ?_|refine A4 fun _=>?_|refine A5 fun _=>?_);try simp(disch:=first|omega|assumption|((repeat(first|exact A1|exact uH|apply A2|apply uT));first|done|fail)|(simp;first|done|omega|fail))[]))
  refine C0 (.slice za (r.ts.map (·.1)).length zc, y) (by simp [AnsV.val]) ?_
  simp only [hy, List.length_map]
  (repeat' constructor)
 ·intro J hJ
  (have zz:=trivial;repeat((first|clear zz|with_reducible first|refine A3 ?_|refine A4 fun _=>?_|refine A5 fun _=>?_);try simp(disch:=first|omega|assumption|((repeat(first|exact A1|exact uH|apply A2|apply uT));first|done|fail)|(simp;first|done|omega|fail))[h1, hil]))
  refine ⟨?_, ?_⟩
  ·refine G3 x6 (fun w' hw' => hD w' (hxt.ks hw'.ks (by simp)) (hpv.ks hw'.ks (by simp))) ?_
   intro y u hu
   subst hu
   refine B7D hx1 fun hy => ?_
   have hJ' := fun bx => hJ (bx, y) hy
   simp only at hJ'
   generalize (if d3 = true then y else x.1) = tt at *
   generalize (if d3 = true then [(y, d1)] else []) = nts at *
   (have zz:=trivial;repeat((first|clear zz|with_reducible first|refine A3 ?_|refine A4 fun _=>?_|refine A5 fun _=>?_);try simp(disch:=first|omega|assumption|((repeat(first|exact A1|exact uH|apply A2|apply uT));first|done|fail)|(simp;first|done|omega|fail))[AnsV.val]))
   rename_i bx
   exact Sels.tw (by (repeat' constructor)) (hJ' bx)
  ·refine ⟨?_, fun _ _ => trivial⟩
   (have zz:=trivial;repeat((first|clear zz|with_reducible first|refine A3 ?_|refine A4 fun _=>?_|refine A5 fun _=>?_);try simp(disch:=first|omega|assumption|((repeat(first|exact A1|exact uH|apply A2|apply uT));first|done|fail)|(simp;first|done|omega|fail))[h1, hil]))
   rename_i bx
   refine G3 x6 (fun w' hw' => hD w' (hxt.ks hw'.ks (by simp)) (hpv.ks hw'.ks (by simp))) ?_
   intro y u hu
   subst hu
   refine B7D hx1 fun hy => ?_
   have hJ' := hJ (bx, y) hy
   simp only at hJ'
   generalize (if d3 = true then y else x.1) = tt at *
   generalize (if d3 = true then [(y, d1)] else []) = nts at *
   (have zz:=trivial;repeat((first|clear zz|with_reducible first|refine A3 ?_|refine A4 fun _=>?_|refine A5 fun _=>?_);try simp(disch:=first|omega|assumption|((repeat(first|exact A1|exact uH|apply A2|apply uT));first|done|fail)|(simp;first|done|omega|fail))[AnsV.val]))
   exact Sels.tw (by (repeat' constructor)) hJ'
end
end Go.Proofs.YtpbmephflllolaaGreat
namespace Go.Proofs.YtpbmephflllolaaGreat
open Go
def A0y (r : RmH) : List Res := [.own 94 1 r.tv r.ts.length (r.ts.map (·.1)), .own 3 1 r.lv r.pl.length (g9 r.pl), W1 r.ts]
theorem B9H (n : Nat) : (Builtin.zeroCells (Value.int .i64 0).cells n).toList = g9 (List.replicate n 0) := by
 have hz : (Builtin.zeroCells (Value.int .i64 0).cells n).toList.length = n := by simp [size_zeroCells]
 apply List.ext_getElem (by rw [hz]; simp [g9])
 intro i h1 h2
 simp [Builtin.zeroCells, g9, Nat.mod_one]
theorem C3N (w : World) (c : CfgV) (hok : Y2 c = true) : Fn PR B3 12 #[c.val] w (Rn [] w (fun (y : RmH) u => u = y.val ∧ y.c = c ∧ y.pool = [] ∧ y.pv = .slice none 0 0 ∧ y.ts.map (·.2) = List.replicate c.sh.toNat (newE c.cp.toNat) ∧ y.pl = List.replicate c.sh.toNat 0) A0y) := by
 refine A79 (TW.go (κ := false) (S := []) ?_)
 unfold A1u
 simp only [CfgV.val]
 have hb : 1 ≤ c.sh ∧ c.sh ≤ 16 ∧ 1 ≤ c.cp ∧ c.cp ≤ 64 := by
  simp [Y2, Y1] at hok; omega
 obtain ⟨n, hn⟩ : ∃ n : Nat, c.sh = n := ⟨c.sh.toNat, by omega⟩
 obtain ⟨k, hk⟩ : ∃ k : Nat, c.cp = k := ⟨c.cp.toNat, by omega⟩
 rw [hn] at hb
 rw [hk] at hb
 rw [hn, hk]
 (have zz:=trivial;repeat((first|clear zz|with_reducible first|refine A3 ?_|refine A4 fun _=>?_|refine A5 fun _=>?_);try simp(disch:=first|omega|assumption|((repeat(first|exact A1|exact uH|apply A2|apply uT));first|done|fail)|(simp;first|done|omega|fail))[]))
 rename_i b1 b2
 refine C5f (α := Nat × Nat) (fun _ => True) (fun y => [.pt y.1 (.cells #[.int .i64 c.wk, .int .i64 n, .int .i64 k, .int .i64 c.idle, .int .i64 c.sl, .slice none 0 0, .slice none 0 0, .slice (some ⟨y.2, 0, none⟩) n n] 36), .own 3 1 (.slice (some ⟨y.2, 0, none⟩) n n) n (g9 (List.replicate n 0)),
  .pt b2 (.cells #[.int .i64 0, .int .i64 0, .int .i64 0, .int .i64 0, .int .i64 0, .slice none 0 0, .slice none 0 0, .slice none 0 0] 36),
  .pt b1 (.cells #[.int .i64 c.wk, .int .i64 n, .int .i64 k, .int .i64 c.idle, .int .i64 c.sl] 23)]) (fun y => .pointer (some ⟨y.1, 0, none⟩)) ?_ ?_
 ·rintro ⟨bm, bs⟩ _
  simp only
  (have zz:=trivial;repeat((first|clear zz|with_reducible first|refine A3 ?_|refine A4 fun _=>?_|refine A5 fun _=>?_);try simp(disch:=first|omega|assumption|((repeat(first|exact A1|exact uH|apply A2|apply uT));first|done|fail)|(simp;first|done|omega|fail))[]))
  refine A4w ?_
  refine Z9 94 1 ?_
  refine B4G n (fun i (y : List (Value × List EnV) × Option Addr × Nat) => [.own 94 1 (.slice y.2.1 i y.2.2) i (y.1.map (·.1)), W1 y.1,
   .pt bm (.cells #[.int .i64 c.wk, .int .i64 n, .int .i64 k, .int .i64 c.idle, .int .i64 c.sl, .slice none 0 0, .slice y.2.1 i y.2.2, .slice (some ⟨bs, 0, none⟩) n n] 36), .own 3 1 (.slice (some ⟨bs, 0, none⟩) n n) n (g9 (List.replicate n 0)),
   .pt b2 (.cells #[.int .i64 0, .int .i64 0, .int .i64 0, .int .i64 0, .int .i64 0, .slice none 0 0, .slice none 0 0, .slice none 0 0] 36),
   .pt b1 (.cells #[.int .i64 c.wk, .int .i64 n, .int .i64 k, .int .i64 c.idle, .int .i64 c.sl] 23)]) (fun i y => y.1.length = i ∧ y.1.map (·.2) = List.replicate i (newE k)) ([], none, 0) ⟨rfl, rfl⟩ ?_
  rintro i ⟨ts, ya, yc⟩ hi ⟨hlen, hmap⟩ L hL
  simp only at hlen hmap ⊢
  by_cases hlt : i < n
  ·(have zz:=trivial;repeat((first|clear zz|with_reducible first|refine A3 ?_|refine A4 fun _=>?_|refine A5 fun _=>?_);try simp(disch:=first|omega|assumption|((repeat(first|exact A1|exact uH|apply A2|apply uT));first|done|fail)|(simp;first|done|omega|fail))[hlt]))
   refine G3 A1A (fun w' _ => B6A w' k (by omega)) ?_
   intro y u hu
   subst hu
   refine S6 (e := 160) (k := 4) (v := u) (q := (newE k).length) (xs := (newE k).flatMap D9) (by (repeat constructor)) fun ua uc hu => ?_
   subst hu
   (have zz:=trivial;repeat((first|clear zz|with_reducible first|refine A3 ?_|refine A4 fun _=>?_|refine A5 fun _=>?_|refine D1 fun _=>?_|refine D0 (hK:=fun _=>?_)|refine D3 (hK:=fun _=>?_)|refine D2 (hK:=fun _=>?_)|refine D4 (hK:=fun _=>?_)|refine C9 (hK:=fun _=>?_));try simp(disch:=first|omega|assumption|((repeat(first|exact A1|exact uH|apply A2|apply uT));first|done|fail)|(simp;first|done|omega|fail))[hlt]))
   refine Y5 (e := 94) (k := 1) (q := i) (r := 1) (xs := ts.map (·.1)) (news := [.slice ua (newE k).length uc]) (by (repeat constructor)) (K3.own (by (repeat constructor))) (by decide) rfl (by simp) (by simp only [maxLen]; omega) (by omega) fun a' c' => ?_
   (have zz:=trivial;repeat((first|clear zz|with_reducible first|refine A3 ?_|refine A4 fun _=>?_|refine A5 fun _=>?_);try simp(disch:=first|omega|assumption|((repeat(first|exact A1|exact uH|apply A2|apply uT));first|done|fail)|(simp;first|done|omega|fail))[]))
   refine A9c (r := .slice ua (newE k).length uc) (l := newE k) (ts := ts) (by (repeat' constructor)) ?_
   have h := hL hlt (ts ++ [(.slice ua (newE k).length uc, newE k)], a', c') ⟨by simp [hlen], by rw [List.map_append, hmap, List.replicate_succ']; rfl⟩
   simp only [List.map_append, List.map_cons, List.map_nil] at h
   exact Sels.tw (by (repeat' constructor)) h
  ·obtain rfl : i = n := by omega
   (have zz:=trivial;repeat((first|clear zz|with_reducible first|refine A3 ?_|refine A4 fun _=>?_|refine A5 fun _=>?_);try simp(disch:=first|omega|assumption|((repeat(first|exact A1|exact uH|apply A2|apply uT));first|done|fail)|(simp;first|done|omega|fail))[]))
   refine C0 ⟨.slice none 0 0, .slice ya i yc, .slice (some ⟨bs, 0, none⟩) i i, c, [], ts, List.replicate i 0⟩ ⟨by simp [RmH.val, RmH.cs, hn, hk], rfl, rfl, rfl, by simpa using hmap, by simp⟩ ?_
   simp only [A0y, hlen, List.length_replicate]
   (repeat' constructor)
 ·intro J hJ
  (have zz:=trivial;repeat((first|clear zz|with_reducible first|refine A3 ?_|refine A4 fun _=>?_|refine A5 fun _=>?_);try simp(disch:=first|omega|assumption|((repeat(first|exact A1|exact uH|apply A2|apply uT));first|done|fail)|(simp;first|done|omega|fail))[]))
  refine ⟨?_, ?_⟩
  ·refine B7m (by omega) (by omega) (by omega) (by omega) fun bs => ?_
   rw [Int.toNat_natCast, B9H, V4 (by (repeat constructor)) (by rfl)]
   (have zz:=trivial;repeat((first|clear zz|with_reducible first|refine A3 ?_|refine A4 fun _=>?_|refine A5 fun _=>?_);try simp(disch:=first|omega|assumption|((repeat(first|exact A1|exact uH|apply A2|apply uT));first|done|fail)|(simp;first|done|omega|fail))[]))
   rename_i bm
   rw [V4 (by (repeat constructor)) (by rfl)]
   (have zz:=trivial;repeat((first|clear zz|with_reducible first|refine A3 ?_|refine A4 fun _=>?_|refine A5 fun _=>?_);try simp(disch:=first|omega|assumption|((repeat(first|exact A1|exact uH|apply A2|apply uT));first|done|fail)|(simp;first|done|omega|fail))[]))
   exact Sels.tw (by (repeat' constructor)) (hJ (bm, bs) trivial)
  ·refine ⟨?_, fun _ _ => trivial⟩
   (have zz:=trivial;repeat((first|clear zz|with_reducible first|refine A3 ?_|refine A4 fun _=>?_|refine A5 fun _=>?_);try simp(disch:=first|omega|assumption|((repeat(first|exact A1|exact uH|apply A2|apply uT));first|done|fail)|(simp;first|done|omega|fail))[]))
   rename_i bm
   rw [V4 (by (repeat constructor)) (by rfl)]
   (have zz:=trivial;repeat((first|clear zz|with_reducible first|refine A3 ?_|refine A4 fun _=>?_|refine A5 fun _=>?_);try simp(disch:=first|omega|assumption|((repeat(first|exact A1|exact uH|apply A2|apply uT));first|done|fail)|(simp;first|done|omega|fail))[]))
   refine B7m (by omega) (by omega) (by omega) (by omega) fun bs => ?_
   rw [Int.toNat_natCast, B9H, V4 (by (repeat constructor)) (by rfl)]
   (have zz:=trivial;repeat((first|clear zz|with_reducible first|refine A3 ?_|refine A4 fun _=>?_|refine A5 fun _=>?_);try simp(disch:=first|omega|assumption|((repeat(first|exact A1|exact uH|apply A2|apply uT));first|done|fail)|(simp;first|done|omega|fail))[]))
   exact Sels.tw (by (repeat' constructor)) (hJ (bm, bs) trivial)
end Go.Proofs.YtpbmephflllolaaGreat
namespace Go.Proofs.YtpbmephflllolaaGreat
open Go
theorem B9J {α β : Type} (A : List α) : ∀ (B : List β) (i : Nat) (a : α) (b : β), (A.set i a).zip (B.set i b) = (A.zip B).set i (a, b) := by
 induction A with
 | nil => intro B i a b; simp
 | cons x A ih =>
  intro B i a b
  cases B with
  | nil => simp
  | cons y B => cases i with
   | zero => simp
   | succ i => simp [ih]
theorem B7y {α : Type} {l : List α} {i : Nat} {a : α} (h : l[i]? = some a) : l.set i a = l := by
 obtain ⟨h1, rfl⟩ := List.getElem?_eq_some_iff.1 h
 exact List.set_getElem_self h1
theorem C2P {p : List G0} (h : N8 p = 0) : p.length ≤ 1000 := by
 unfold N8 at h
 by_cases hc : p.length ≤ 32
 ·omega
 ·simp [hc] at h
theorem B8Q (l : List EnV) (f n now : Int) (hn : l.length ≤ 1000000) : (E1 l f n now).2.1 ≤ 1000000 := by
 unfold E1
 simp only
 split
 ·have := Nat.mod_lt (G2 l f + Q9 l n) (show l.length > 0 by assumption); omega
 ·unfold G2; split <;> omega
section
variable {w0 : World} {H Hk : List Res} {K : Value → WP} {K0 : WP}
theorem C3V {κ : Bool} {S : List Nat} {ts nts ts' : List (Value × List EnV)} (hp : Part [W1 nts, W1 ts] H Hk) (hs : ∀ t ∈ ts', t ∈ nts ∨ t ∈ ts) (h : TW κ S w0 (W1 ts' :: Hk) K0) : TW κ S w0 H K0 := by
 refine B12 (r := W1 ts') hp (fun w hh => (fun t ht => ?_ : A9Z ts' w)) (fun b hb => ?_) h
 ·rcases hs t ht with ht | ht
  ·exact (hh (W1 nts) (List.mem_cons_self ..) : A9Z nts w) t ht
  ·exact (hh (W1 ts) (List.mem_cons_of_mem _ (List.mem_cons_self ..)) : A9Z ts w) t ht
 ·have hb' : b ∈ A2s ts' := hb
  rw [A2s, List.mem_flatMap] at hb'
  obtain ⟨t, ht, hbt⟩ := hb'
  rcases hs t ht with ht | ht
  ·exact J0.2 ⟨W1 nts, by simp, by show b ∈ A2s nts; rw [A2s, List.mem_flatMap]; exact ⟨t, ht, hbt⟩⟩
  ·exact J0.2 ⟨W1 ts, by simp, by show b ∈ A2s ts; rw [A2s, List.mem_flatMap]; exact ⟨t, ht, hbt⟩⟩
theorem B6P {r : RmH} (hpl : r.pl.length = r.ts.length) {t : Value × List EnV} (ht : t ∈ r.ts) : ∃ n, (t.2, n) ∈ r.st.tabs := by
 obtain ⟨i, hi⟩ := List.getElem?_of_mem ht
 have h1 := (List.getElem?_eq_some_iff.1 hi).1
 have h2 : r.pl[i]? = some r.pl[i] := List.getElem?_eq_getElem (by omega)
 refine ⟨r.pl[i], List.mem_of_getElem? (i := i) ?_⟩
 show ((r.ts.map (·.2)).zip r.pl)[i]? = _
 rw [List.getElem?_zip_eq_some]
 exact ⟨by rw [List.getElem?_map, hi]; rfl, h2⟩
theorem C99 {κ : Bool} {w w1 : World} {c : CfgV} {r : RmH} (hi : Inv c r.st) (hpl : r.pl.length = r.ts.length) (hpv : E3 w r.pv r.pool.length (r.pool.flatMap E7)) (hw : LW κ [] w1 H w) (hm : ∀ x ∈ A0y r, x ∈ H) : RmOk w r := by
 have hsh := hi.sh
 have hb := l0 hi.ok
 have hc : r.c = c := hi.cfg
 have hl : r.st.tabs.length = r.ts.length := by simp [RmH.st, hpl]
 rw [hl] at hsh
 refine ⟨P2.rd (hw.hold _ (hm _ A1)), P2.rd (hw.hold _ (hm _ (A2 A1))), fun t ht => C2w hw (hm _ (A2 (A2 A1))) ht, hpv, by omega, hpl, by omega, by rw [hc]; omega, fun t ht => ?_, fun t ht => ?_, C2P hi.pool⟩
 ·obtain ⟨n, hn⟩ := B6P hpl ht
  exact (hi.tab _ hn).keys
 ·obtain ⟨n, hn⟩ := B6P hpl ht
  have h1 := (hi.tab _ hn).len
  simp only at h1
  omega
theorem B6e {r : RmH} {z v' : Value} {i : Nat} {l' : List EnV} {nts : List (Value × List EnV)} (hp : Part (.own 94 1 z r.ts.length ((r.ts.map (·.1)).set i v') :: W1 nts :: A0y r) H Hk) (hs : ∀ t ∈ r.ts.set i (v', l'), t ∈ nts ∨ t ∈ r.ts)
  (h : TW false [] w0 (A0y { r with tv := z, ts := r.ts.set i (v', l') } ++ Hk) K0) : TW false [] w0 H K0 := by
 refine TW.perm ?_ hp.perm
 simp only [A0y, List.cons_append, List.nil_append]
 refine C3V (nts := nts) (ts := r.ts) (ts' := r.ts.set i (v', l')) (by (repeat' constructor)) hs ?_
 refine C2B (r := .own 94 1 r.tv r.ts.length (r.ts.map (·.1))) (by (repeat constructor)) ?_
 simp only [A0y, List.map_set, List.length_set, List.cons_append, List.nil_append] at h
 exact TW.perm h (show Part [.own 94 1 z r.ts.length ((r.ts.map (·.1)).set i v'), .own 3 1 r.lv r.pl.length (g9 r.pl), W1 (r.ts.set i (v', l'))] _ Hk by (repeat' constructor)).perm
theorem C8E {r : RmH} {o : OpV} {v : Value} {now : Int} {c : CfgV} (hi : Inv c r.st) (hpl : r.pl.length = r.ts.length) (hpv : E3 w0 r.pv r.pool.length (r.pool.flatMap E7)) (hv : E3 w0 v o.pool.length (o.pool.flatMap E7)) (hvl : o.pool.length ≤ 1000) (hpk : o.packet.size < 2 ^ 40) (hp : Part (A0y r) H Hk)
  (hK : ∀ r' : RmH, r'.st = (j8 r.st o now).1 → r'.pl.length = r'.ts.length → E3 w0 r'.pv r'.pool.length (r'.pool.flatMap E7) → TW false [] w0 (A0y r' ++ Hk) (K (.tuple #[r'.val, (j8 r.st o now).2.val]))) :
  TW false [] w0 H (B1 PR B3 14 [r.val, o.val v, .int .i64 now] K) := by
 refine TW.perm ?_ hp.perm
 have hok : ∀ w', LW false [] w0 (A0y r ++ Hk) w' → RmOk w' r := fun w' hw' => C99 hi hpl (hpv.ks hw'.ks (by simp)) hw' fun x hx => List.mem_append_left _ hx
 have hv' : ∀ w', LW false [] w0 (A0y r ++ Hk) w' → E3 w' v o.pool.length (o.pool.flatMap E7) := fun w' hw' => hv.ks hw'.ks (by simp)
 have hl : r.st.tabs.length = r.ts.length := by simp [RmH.st, hpl]
 have hsh := hi.sh
 rw [hl] at hsh
 have hcc : r.c = c := hi.cfg
 have hcs : r.c.sh = c.sh := by rw [hcc]
 have hb := l0 hi.ok
 have hget : ∀ (i : Nat) (x : Value × List EnV) (pn : Nat), r.ts[i]? = some x → r.pl[i]? = some pn → r.st.tabs[i]? = some (x.2, pn) := fun i x pn hx hpn => by
  show ((r.ts.map (·.2)).zip r.pl)[i]? = _
  rw [List.getElem?_zip_eq_some]
  exact ⟨by rw [List.getElem?_map, hx]; rfl, hpn⟩
 by_cases k0 : o.kind < 0 ∨ 3 < o.kind
 ·have e := B0v r.st o now k0
  refine B8 M2 (fun w' hw' => C16 w' r o v now (hok w' hw') (hv' w' hw') k0) ?_
  exact hK r (by rw [e]) hpl hpv
 by_cases k1 : o.kind = 1
 ·have e := B2e r.st o now k1
  refine B8 M2 (fun w' hw' => C5B w' r o v now (hok w' hw') (hv' w' hw') hvl k1) ?_
  by_cases c1 : N8 o.pool = 0
  ·rw [if_pos c1]
   exact hK { r with pv := v, pool := o.pool } (by rw [e]; unfold A4c; rw [if_pos c1]; rfl) hpl hv
  ·rw [if_neg c1]
   exact hK r (by rw [e]; unfold A4c; rw [if_neg c1]) hpl hpv
 by_cases k3 : o.kind = 3
 ·have e := B38 r.st o now k3
  refine B8 M2 (fun w' hw' => C2d w' r o v now (hok w' hw') (hv' w' hw') k3) ?_
  exact hK r (by rw [e]; rfl) hpl hpv
 by_cases k2 : o.kind = 2
 ·have e := B21 r.st o now k2
  by_cases hs : o.shard < 0 ∨ r.c.sh ≤ o.shard
  ·have e2 : A0B r.st o.shard now = (r.st, ⟨1, 0, false, 0⟩) := by unfold A0B; rw [if_pos (by rw [hl]; omega)]
   refine B8 M2 (fun w' hw' => C5D w' r o v now (hok w' hw') (hv' w' hw') k2 hs) ?_
   exact hK r (by rw [e, e2]) hpl hpv
  obtain ⟨i, his⟩ : ∃ i : Nat, o.shard = i := ⟨o.shard.toNat, by omega⟩
  have hil : i < r.ts.length := by omega
  have hx : r.ts[i]? = some r.ts[i] := List.getElem?_eq_getElem hil
  have hpn : r.pl[i]? = some r.pl[i] := List.getElem?_eq_getElem (by omega)
  have hmem := List.getElem_mem hil
  generalize r.ts[i] = x at hx hmem
  generalize r.pl[i] = pn at hpn
  have hat := hget i x pn hx hpn
  have hxl : x.2.length ≤ 1000000 := by
   have := (hi.tab _ (List.mem_of_getElem? hat)).len
   simp only at this; omega
  have e2 : A0B r.st o.shard now = ({ r.st with tabs := r.st.tabs.set i ((E1 x.2 pn 4 now).1, (E1 x.2 pn 4 now).2.1) }, ⟨0, 0, false, ((E1 x.2 pn 4 now).2.2 : Nat)⟩) := by
   unfold A0B
   rw [if_neg (by rw [hl]; omega), his, Int.toNat_natCast, List.getD_eq_getElem?_getD, hat]; rfl
  refine G3 M2 (fun w' hw' => C3f w' r o v now (hok w' hw') (hv' w' hw') k2 i his hil x hx pn hpn (B8Q _ _ _ _ hxl)) ?_
  rintro ⟨z, lv', y⟩ u hu
  subst hu
  simp only
  have hsame : (E1 x.2 pn 4 now).2.2 = 0 → (E1 x.2 pn 4 now).1 = x.2 := B8G
  have hst : RmH.st { r with tv := z, lv := lv', ts := r.ts.set i (if (E1 x.2 pn 4 now).2.2 = 0 then x.1 else y, (E1 x.2 pn 4 now).1), pl := r.pl.set i (E1 x.2 pn 4 now).2.1 } = (j8 r.st o now).1 := by
   rw [e, e2]; unfold RmH.st; simp only [List.map_set, B9J]
  have hK' := hK { r with tv := z, lv := lv', ts := r.ts.set i (if (E1 x.2 pn 4 now).2.2 = 0 then x.1 else y, (E1 x.2 pn 4 now).1), pl := r.pl.set i (E1 x.2 pn 4 now).2.1 } hst (by simpa using hpl) hpv
  rw [show (j8 r.st o now).2 = ⟨0, 0, false, ((E1 x.2 pn 4 now).2.2 : Nat)⟩ by rw [e, e2]] at hK'
  clear hst hK
  generalize E1 x.2 pn 4 now = sw at *
  obtain ⟨s1, s2, s3⟩ := sw
  simp only at hsame hK' ⊢
  simp only [A0y, List.cons_append, List.nil_append]
  refine C2B (r := .own 3 1 r.lv r.pl.length (g9 r.pl)) (by (repeat constructor)) ?_
  refine B6e (r := { r with lv := lv', pl := r.pl.set i s2 }) (z := z) (i := i) (v' := if s3 = 0 then x.1 else y) (l' := s1) (nts := if s3 = 0 then [] else [(y, s1)]) (Hk := Hk) (by simp only [A0y, List.length_set]; (repeat' constructor)) ?_ hK'
  intro t ht
  rcases List.mem_or_eq_of_mem_set ht with ht | rfl
  ·exact Or.inr ht
  ·by_cases h0 : s3 = 0
   ·right; rw [if_pos h0, hsame h0]; exact hmem
   ·left; rw [if_neg h0, if_neg h0]; exact List.mem_singleton.2 rfl
 have k : o.kind = 0 := by omega
 have e := B0p r.st o now k
 by_cases hb0 : (D8 o.packet).2.2 = 0
 case neg =>
  have e2 : c8 r.st o.packet now = (r.st, ⟨9, 0, false, 0⟩) := by unfold c8; simp only; rw [if_pos hb0]
  refine B8 M2 (fun w' hw' => C3Z w' r o v now (hok w' hw') (hv' w' hw') hpk k hb0) ?_
  exact hK r (by rw [e, e2]) hpl hpv
 generalize hkey : p5 (D8 o.packet).1 = key
 generalize hcl : S9 (D8 o.packet).1 (D8 o.packet).2.1 = cl
 generalize hsi : M6 key r.c.sh = i
 have hil : i < r.ts.length := by
  rw [← hsi]; unfold M6; rw [if_neg (by omega)]
  have : r.c.sh.toNat = r.ts.length := by omega
  rw [this]; exact Nat.mod_lt _ (by omega)
 have hx : r.ts[i]? = some r.ts[i] := List.getElem?_eq_getElem hil
 have hpn : r.pl[i]? = some r.pl[i] := List.getElem?_eq_getElem (by omega)
 have hmem := List.getElem_mem hil
 generalize r.ts[i] = x at hx hmem
 generalize r.pl[i] = pn at hpn
 have hat := hget i x pn hx hpn
 generalize hdv : E5 x.2 r.pool key cl now r.c.idle = dv
 have e2 : c8 r.st o.packet now = ({ r.st with tabs := r.st.tabs.set i (dv.1, pn) }, dv.2.1) := by
  have hg : r.st.tabs.getD i ([], 0) = (x.2, pn) := by rw [List.getD_eq_getElem?_getD, hat]; rfl
  unfold c8
  simp only
  rw [if_neg (by rw [hb0]; simp), hkey, hcl, show r.st.c = r.c from rfl, hsi, hg, show r.st.pool = r.pool from rfl, hdv]
 refine G3 M2 (fun w' hw' => C6F w' r o v now (hok w' hw') (hv' w' hw') hpk k hb0 key cl hkey hcl i hsi x hx dv hdv) ?_
 rintro ⟨z, y⟩ u hu
 subst hu
 have hsame : dv.2.2 = false → dv.1 = x.2 := fun h => by rw [← hdv] at h ⊢; exact B7d h
 have hst : RmH.st { r with tv := z, ts := r.ts.set i (if dv.2.2 = true then y else x.1, dv.1) } = (j8 r.st o now).1 := by
  rw [e, e2]; unfold RmH.st; simp only [List.map_set]
  rw [← B9J, B7y hpn]
 have hK' := hK { r with tv := z, ts := r.ts.set i (if dv.2.2 = true then y else x.1, dv.1) } hst (by simpa using hpl) hpv
 rw [show (j8 r.st o now).2 = dv.2.1 by rw [e, e2]] at hK'
 simp only at hK' ⊢
 refine B6e (r := r) (z := z) (i := i) (v' := if dv.2.2 = true then y else x.1) (l' := dv.1) (nts := if dv.2.2 = true then [(y, dv.1)] else []) (Hk := Hk) (by simp only [A0y, List.cons_append, List.nil_append]; (repeat' constructor)) ?_ hK'
 intro t ht
 rcases List.mem_or_eq_of_mem_set ht with ht | rfl
 ·exact Or.inr ht
 ·cases h0 : dv.2.2 with
  | false => right; rw [if_neg (by simp), hsame h0]; exact hmem
  | true => left; rw [if_pos rfl, if_pos rfl]; exact List.mem_singleton.2 rfl
end
structure RmS where
 pa : Option Addr
 pc : Nat
 ta : Option Addr
 tc : Nat
 la : Option Addr
 lc : Nat
 pool : List G0
 ts : List (Value × List EnV)
 pl : List Nat
def RmS.rm (c : CfgV) (x : RmS) : RmH := ⟨.slice x.pa x.pool.length x.pc, .slice x.ta x.ts.length x.tc, .slice x.la x.pl.length x.lc, c, x.pool, x.ts, x.pl⟩
def RmS.cs (c : CfgV) (x : RmS) : Array Value := #[.int .i64 c.wk, .int .i64 c.sh, .int .i64 c.cp, .int .i64 c.idle, .int .i64 c.sl, .slice x.pa x.pool.length x.pc, .slice x.ta x.ts.length x.tc, .slice x.la x.pl.length x.lc]
def T5 (x : RmS) : List Res := [.own 94 1 (.slice x.ta x.ts.length x.tc) x.ts.length (x.ts.map (·.1)), .own 3 1 (.slice x.la x.pl.length x.lc) x.pl.length (g9 x.pl), W1 x.ts]
structure RsOk (w : World) (c : CfgV) (x : RmS) (s : MoS) : Prop where
 st : (x.rm c).st = s
 inv : Inv c s
 pl : x.pl.length = x.ts.length
 pv : E3 w (.slice x.pa x.pool.length x.pc) x.pool.length (x.pool.flatMap E7)
theorem C5j {w0 : World} {Hk : List Res} {K0 : WP} {r : RmH} {c : CfgV} {s : MoS} (hst : r.st = s) (hi : Inv c s) (hpl : r.pl.length = r.ts.length) (hpv : E3 w0 r.pv r.pool.length (r.pool.flatMap E7))
  (hK : ∀ x : RmS, r = x.rm c → RsOk w0 c x s → TW false [] w0 (T5 x ++ Hk) K0) : TW false [] w0 (A0y r ++ Hk) K0 := by
 have hcc : r.c = c := by rw [← hst] at hi; exact hi.cfg
 obtain ⟨pv, tv, lv, rc, pool, ts, pl⟩ := r
 simp only at hcc hpl hpv
 subst hcc
 obtain ⟨pa, pc, rfl, _⟩ := hpv.form
 simp only [A0y, List.cons_append, List.nil_append]
 refine S6 (e := 94) (k := 1) (v := tv) (q := ts.length) (xs := ts.map (·.1)) A1 fun ta tc e => ?_
 subst e
 refine S6 (e := 3) (k := 1) (v := lv) (q := pl.length) (xs := g9 pl) (A2 A1) fun la lc e => ?_
 subst e
 exact hK ⟨pa, pc, ta, tc, la, lc, pool, ts, pl⟩ rfl ⟨hst, hi, hpl, hpv⟩
theorem C6u {w0 : World} {H Hk : List Res} {K : Value → WP} {c : CfgV} {x : RmS} {s : MoS} {o : OpV} {v : Value} {now : Int} (hx : RsOk w0 c x s) (hv : E3 w0 v o.pool.length (o.pool.flatMap E7)) (hvl : o.pool.length ≤ 1000) (hpk : o.packet.size < 2 ^ 40) (hp : Part (T5 x) H Hk)
  (hK : ∀ x' : RmS, RsOk w0 c x' (j8 s o now).1 → TW false [] w0 (T5 x' ++ Hk) (K (.tuple #[.agg (x'.cs c), (j8 s o now).2.val]))) :
  TW false [] w0 H (B1 PR B3 14 [.agg (x.cs c), o.val v, .int .i64 now] K) := by
 obtain ⟨rfl, hi, hpl, hpv⟩ := hx
 refine C8E (r := x.rm c) (c := c) hi hpl hpv hv hvl hpk hp fun r' h1 h2 h3 => ?_
 refine C5j h1 (hi.do' o now) h2 h3 fun x' e hx' => ?_
 subst e
 exact hK x' hx'
end Go.Proofs.YtpbmephflllolaaGreat
namespace Go.Proofs.YtpbmephflllolaaGreat
open Go
def A0v (X : Nat → Prop) (R : Value → WP) : WP :=
 A0 PR (Instr.build 23 #[(0, (.int .i64 1)), (1, (.int .i64 1)), (2, (.int .i64 1)), (3, (.int .i64 5)), (4, (.int .i64 2))]) fun t14 =>
 B1 PR X 10 [t14] fun t15 =>
 A0 PR (Instr.extract t15 0) fun t16 =>
 A0 PR (Instr.extract t15 1) fun t17 =>
 A0 PR (Instr.build 23 #[]) fun t19 =>
 B1 PR X 10 [t19] fun t20 =>
 A0 PR (Instr.extract t20 0) fun t21 =>
 A0 PR (Instr.extract t20 1) fun t22 =>
 jn (n := 1) (fun t0 =>
 A0 PR (Instr.build 56 #[(0, (.int .i64 4)), (1, (.string (ByteArray.mk #[97, 98, 99, 100]))), (2, (.string (ByteArray.mk #[101, 102, 103, 104]))), (3, (.int .i64 1)), (4, (.int .i64 2)), (5, (.int .i64 17))]) fun t30 =>
 A0 PR (Instr.build 58 #[(0, t30)]) fun t31 =>
 B1 PR X 21 [t31] fun t32 =>
 A0 PR (Instr.extract t32 0) fun t33 =>
 A0 PR (Instr.extract t32 1) fun t34 =>
 B1 PR X 24 [t16, t33, (.int .i64 0)] fun t37 =>
 A0 PR (Instr.build 75 #[(0, (.int .i64 7)), (1, (.int .i64 1))]) fun t39 =>
 B2 PR X (Instr.buildSlice 32 1 #[(0, t39)]) fun t40 =>
 B1 PR X 26 [t16, t40] fun t41 =>
 B2 PR X (Instr.alloc 39 true (.tuple #[])) fun t7 =>
 B2 PR X (Instr.alloc 39 true (.tuple #[])) fun t8 =>
 B6 PR X (Instr.storeAt 39 t7 t37) <|
 B6 PR X (Instr.storeAt 39 t8 t41) <|
 B1 PR X 24 [t16, t33, (.int .i64 0)] fun t44 =>
 B1 PR X 20 [t16] fun t46 =>
 B2 PR X (Instr.alloc 39 true (.tuple #[])) fun t9 =>
 B2 PR X (Instr.alloc 39 true (.tuple #[])) fun t10 =>
 B6 PR X (Instr.storeAt 39 t9 t44) <|
 B6 PR X (Instr.storeAt 39 t10 t46) <|
 B1 PR X 27 [t16, (.int .i64 0), (.int .i64 6)] fun t48 =>
 B1 PR X 27 [t16, (.int .i64 1), (.int .i64 6)] fun t50 =>
 B2 PR X (Instr.alloc 39 true (.tuple #[])) fun t11 =>
 B2 PR X (Instr.alloc 39 true (.tuple #[])) fun t12 =>
 B6 PR X (Instr.storeAt 39 t11 t48) <|
 B6 PR X (Instr.storeAt 39 t12 t50) <|
 A0 PR (binOp .eql 28 t17 (.int .i64 0)) fun t52 =>
 gj t52 true (fun J => J t22) fun t54 =>
 gj t52 true (fun J => A0 PR (binOp .eql 28 t54 (.int .i64 1)) J) fun t55 =>
 A0 PR (do pure (if ← asBool t52 then t55 else (.bool false))) fun t56 =>
 gj t56 true (fun J => A6 PR (Instr.loadAt 39 t7) J) fun t58 =>
 gj t56 true (fun J => A0 PR (Instr.build 39 #[(0, (.int .i64 11))]) J) fun t59 =>
 gj t56 true (fun J => A6 PR (N1 .eql 39 (.tmp 58) (.tmp 59) t58 t59) J) fun t60 =>
 A0 PR (do pure (if ← asBool t56 then t60 else (.bool false))) fun t61 =>
 gj t61 true (fun J => A6 PR (Instr.loadAt 39 t8) J) fun t63 =>
 gj t61 true (fun J => A0 PR (Instr.build 39 #[]) J) fun t64 =>
 gj t61 true (fun J => A6 PR (N1 .eql 39 (.tmp 63) (.tmp 64) t63 t64) J) fun t65 =>
 A0 PR (do pure (if ← asBool t61 then t65 else (.bool false))) fun t66 =>
 gj t66 true (fun J => A6 PR (Instr.loadAt 39 t9) J) fun t68 =>
 gj t66 true (fun J => A0 PR (Instr.build 39 #[(1, (.int .i64 7)), (2, (.bool true))]) J) fun t69 =>
 gj t66 true (fun J => A6 PR (N1 .eql 39 (.tmp 68) (.tmp 69) t68 t69) J) fun t70 =>
 A0 PR (do pure (if ← asBool t66 then t70 else (.bool false))) fun t71 =>
 gj t71 true (fun J => A6 PR (Instr.loadAt 39 t10) J) fun t73 =>
 gj t71 true (fun J => A0 PR (Instr.build 39 #[(3, (.int .i64 1))]) J) fun t74 =>
 gj t71 true (fun J => A6 PR (N1 .eql 39 (.tmp 73) (.tmp 74) t73 t74) J) fun t75 =>
 A0 PR (do pure (if ← asBool t71 then t75 else (.bool false))) fun t76 =>
 gj t76 true (fun J => A6 PR (Instr.loadAt 39 t11) J) fun t78 =>
 gj t76 true (fun J => A0 PR (Instr.build 39 #[(3, (.int .i64 1))]) J) fun t79 =>
 gj t76 true (fun J => A6 PR (N1 .eql 39 (.tmp 78) (.tmp 79) t78 t79) J) fun t80 =>
 A0 PR (do pure (if ← asBool t76 then t80 else (.bool false))) fun t81 =>
 gj t81 true (fun J => A6 PR (Instr.loadAt 39 t12) J) fun t83 =>
 gj t81 true (fun J => A0 PR (Instr.build 39 #[(0, (.int .i64 1))]) J) fun t84 =>
 gj t81 true (fun J => A6 PR (N1 .eql 39 (.tmp 83) (.tmp 84) t83 t84) J) fun t85 =>
 A0 PR (do pure (if ← asBool t81 then t85 else (.bool false))) fun t86 =>
 gj t86 true (fun J => J t16) fun t88 =>
 gj t86 true (fun J => B1 PR X 16 [t88] J) fun t89 =>
 gj t86 true (fun J => A0 PR (A7 .len #[48] 0 [t89]) J) fun t90 =>
 gj t86 true (fun J => A0 PR (binOp .eql 3 t90 (.int .i64 0)) J) fun t91 =>
 A0 PR (do pure (if ← asBool t86 then t91 else (.bool false))) fun t92 =>
 gj t92 true (fun J => J t16) fun t94 =>
 gj t92 true (fun J => B1 PR X 19 [t94] J) fun t95 =>
 gj t92 true (fun J => A0 PR (A7 .len #[32] 0 [t95]) J) fun t96 =>
 gj t92 true (fun J => A0 PR (binOp .eql 3 t96 (.int .i64 1)) J) fun t97 =>
 A0 PR (do pure (if ← asBool t92 then t97 else (.bool false))) fun t98 =>
 gj t98 true (fun J => J t16) fun t100 =>
 gj t98 true (fun J => A0 PR (Instr.build 42 #[(0, (.int .i64 9))]) J) fun t101 =>
 gj t98 true (fun J => B1 PR X 13 [t100, t101, (.int .i64 0)] J) fun t102 =>
 gj t98 true (fun J => A0 PR (Instr.field 39 t102 0) J) fun t103 =>
 gj t98 true (fun J => A0 PR (binOp .eql 28 t103 (.int .i64 1)) J) fun t104 =>
 A0 PR (do pure (if ← asBool t98 then t104 else (.bool false))) fun t105 =>
 R t105) fun J1 =>
 A6 PR (N1 .eql 27 (.tmp 23) (.const (.pointer none)) t16 (.pointer none)) fun t24 =>
 gj t24 false (fun J => J t21) fun t26 =>
 gj t24 false (fun J => A6 PR (N1 .neq 27 (.tmp 26) (.const (.pointer none)) t26 (.pointer none)) J) fun t27 =>
 A0 PR (do pure (if ← asBool t24 then (.bool true) else t27)) fun t28 =>
 B5 t28 (
 R (.bool false)) (
 J1 (.bool false))
theorem A4n : B0 PR 8 := A8 Tryz.func8 (by kernel_rfl) rfl
theorem A5d {X : Nat → Prop} {R : Value → WP} {w : World} (h : A0v X R w) : Fn PR X 8 #[] w R := C6 (args := []) mixed Tryz.func8 (by kernel_rfl) h
def A10 (X : Nat → Prop) (t0 t1 : Value) (R : Value → WP) : WP :=
 B2 PR X (Instr.box 23 t0) fun t2 =>
 jn (n := 2) (fun t5 t6 =>
 A6 PR (Instr.loadAt 23 t2) fun t26 =>
 B1 PR X 33 [t26] fun t27 =>
 gj t27 true (fun J => J t5) fun t30 =>
 gj t27 true (fun J => B1 PR X 34 [t30, (.int .i64 12)] J) fun t31 =>
 A0 PR (do pure (if ← asBool t27 then t31 else (.bool false))) fun t32 =>
 R t32) fun J1 =>
 lp (n := 2) (fun L2 t5_1 t6_1 =>
 jn (n := 0) (
 jn (n := 1) (fun t5_2 =>
 A0 PR (binOp .add 3 t6_1 (.int .i64 1)) fun t17 =>
 L2 t5_2 t17) fun J3 =>
 A0 PR (Instr.indexAt 24 t1 t6_1) fun t21 =>
 A0 PR (Instr.fieldAt 44 t21 0) fun t22 =>
 A6 PR (Instr.loadAt 42 t22) fun t23 =>
 B2 PR X (Instr.buildSlice 76 1 #[(0, t23)]) fun t24 =>
 B2 PR X (A7 .append #[76, 76] 76 [t5_1, t24]) fun t25 =>
 J3 t25) fun J4 =>
 A0 PR (A7 .len #[24] 0 [t1]) fun t10 =>
 A0 PR (binOp .lss 3 t6_1 t10) fun t11 =>
 gj t11 true (fun J => J t6_1) fun t13 =>
 gj t11 true (fun J => A0 PR (binOp .leq 3 t13 (.int .i64 12)) J) fun t14 =>
 A0 PR (do pure (if ← asBool t11 then t14 else (.bool false))) fun t15 =>
 B5 t15 (
 J4) (
 J1 t5_1 t6_1)) (.slice none 0 0) (.int .i64 0)
theorem A69 : B0 PR 9 := A8 Tryz.func9 (by kernel_rfl) rfl
theorem A78 {X : Nat → Prop} {t0 t1 : Value} {R : Value → WP} {w : World} (h : A10 X t0 t1 R w) : Fn PR X 9 #[t0, t1] w R := C6 (args := [t0, t1]) mixed Tryz.func9 (by kernel_rfl) h
end Go.Proofs.YtpbmephflllolaaGreat
namespace Go.Proofs.YtpbmephflllolaaGreat
open Go
def A1W (X : Nat → Prop) (t0 : Value) (R : Value → WP) : WP :=
 B2 PR X (Instr.box 36 t0) fun t1 =>
 jn (n := 2) (fun t3 t4 =>
 R t3) fun J1 =>
 lp (n := 2) (fun L2 t3_1 t4_1 =>
 jn (n := 0) (
 jn (n := 1) (fun t3_2 =>
 A0 PR (binOp .add 3 t4_1 (.int .i64 1)) fun t11 =>
 L2 t3_2 t11) fun J3 =>
 A0 PR (Instr.fieldAt 36 t1 2) fun t13 =>
 A6 PR (Instr.loadAt 33 t13) fun t14 =>
 A0 PR (Instr.indexAt 33 t14 t4_1) fun t16 =>
 A6 PR (Instr.loadAt 94 t16) fun t17 =>
 B1 PR X 48 [t17] fun t18 =>
 B2 PR X (A7 .append #[48, 48] 48 [t3_1, t18]) fun t19 =>
 J3 t19) fun J4 =>
 A0 PR (Instr.fieldAt 36 t1 2) fun t6 =>
 A6 PR (Instr.loadAt 33 t6) fun t7 =>
 A0 PR (A7 .len #[33] 0 [t7]) fun t8 =>
 A0 PR (binOp .lss 3 t4_1 t8) fun t9 =>
 B5 t9 (
 J4) (
 J1 t3_1 t4_1)) (.slice none 0 0) (.int .i64 0)
theorem A5T : B0 PR 17 := A8 Tryz.func17 (by kernel_rfl) rfl
theorem A6n {X : Nat → Prop} {t0 : Value} {R : Value → WP} {w : World} (h : A1W X t0 R w) : Fn PR X 17 #[t0] w R := C6 (args := [t0]) mixed Tryz.func17 (by kernel_rfl) h
end Go.Proofs.YtpbmephflllolaaGreat
namespace Go.Proofs.YtpbmephflllolaaGreat
open Go
def C3q (L : List Res) (w : World) : Prop := (∀ r ∈ L, r.holds w) ∧ L.Pairwise fun r s => ∀ b ∈ r.foot, b ∉ s.foot
def A8T (L : List Res) : Res := .ab (C7 L) (C3q L) fun w w' hk h =>
 ⟨fun r hr => Res.stable (fun b hb => hk b (J0.2 ⟨r, hr, hb⟩)) (h.1 r hr), h.2⟩
section
variable {κ : Bool} {S : List Nat} {w0 w : World} {H Hk L L' : List Res} {K0 : WP}
theorem LW.open (h : LW κ S w0 (A8T L :: H) w) : LW κ S w0 (L ++ H) w := by
 have hb : C3q L w := h.hold _ (List.mem_cons_self ..)
 have hd := List.pairwise_cons.1 h.dis
 refine ⟨h.ks, fun r hr => ?_, fun r hr b hbb => ?_, List.pairwise_append.2 ⟨hb.2, hd.2, fun r hr s hs b hbr => ?_⟩⟩
 ·rcases List.mem_append.1 hr with hr | hr
  ·exact hb.1 r hr
  ·exact h.hold r (List.mem_cons_of_mem _ hr)
 ·rcases List.mem_append.1 hr with hr | hr
  ·exact h.own (A8T L) (List.mem_cons_self ..) b (J0.2 ⟨r, hr, hbb⟩)
  ·exact h.own r (List.mem_cons_of_mem _ hr) b hbb
 ·exact hd.1 s hs b (J0.2 ⟨r, hr, hbr⟩)
theorem LW.close (h : LW κ S w0 (L ++ H) w) : LW κ S w0 (A8T L :: H) w := by
 have hd := List.pairwise_append.1 h.dis
 refine ⟨h.ks, fun r hr => ?_, fun r hr b hbb => ?_, List.pairwise_cons.2 ⟨fun s hs b hbr => ?_, hd.2.1⟩⟩
 ·rcases List.mem_cons.1 hr with rfl | hr
  ·exact (⟨fun r hr => h.hold r (List.mem_append_left _ hr), hd.1⟩ : C3q L w)
  ·exact h.hold r (List.mem_append_right _ hr)
 ·rcases List.mem_cons.1 hr with rfl | hr
  ·obtain ⟨q, hq, hbq⟩ := J0.1 (show b ∈ C7 L from hbb)
   exact h.own q (List.mem_append_left _ hq) b hbq
  ·exact h.own r (List.mem_append_right _ hr) b hbb
 ·obtain ⟨q, hq, hbq⟩ := J0.1 (show b ∈ C7 L from hbr)
  exact hd.2.2 q hq s hs b hbq
theorem C1s (h : TW κ S w0 (L ++ H) K0) : TW κ S w0 (A8T L :: H) K0 := fun w hw => h w hw.open
theorem C0j (h : TW κ S w0 (A8T L :: H) K0) : TW κ S w0 (L ++ H) K0 := fun w hw => h w hw.close
theorem LW.bagPerm (h : LW κ S w0 (A8T L :: H) w) (hp : L.Perm L') : LW κ S w0 (A8T L' :: H) w := (h.open.perm (hp.append_right H)).close
def G7 {α : Type} (f : α → List Res) (ls : List α) : Res := A8T (ls.flatMap f)
variable {α : Type} {f : α → List Res} {ls : List α} {i : Nat} {x y : α}
theorem B7U (A B C : List Res) : (A ++ (B ++ C)).Perm (B ++ (A ++ C)) := by
 rw [← List.append_assoc, ← List.append_assoc]
 exact List.perm_append_comm.append_right C
theorem C57 (hx : ls[i]? = some x) : (ls.flatMap f).Perm (f x ++ (ls.eraseIdx i).flatMap f) := by
 obtain ⟨hi, rfl⟩ := List.getElem?_eq_some_iff.1 hx
 have e : ls = ls.take i ++ ls[i] :: ls.drop (i + 1) := by rw [List.getElem_cons_drop]; exact (List.take_append_drop i ls).symm
 rw [List.eraseIdx_eq_take_drop_succ]
 conv => lhs; rw [e]
 rw [List.flatMap_append, List.flatMap_append, List.flatMap_cons]
 exact B7U _ _ _
theorem C5E (hi : i < ls.length) (y : α) : ((ls.set i y).flatMap f).Perm (f y ++ (ls.eraseIdx i).flatMap f) := by
 rw [List.set_eq_take_append_cons_drop, if_pos hi, List.eraseIdx_eq_take_drop_succ, List.flatMap_append, List.flatMap_append, List.flatMap_cons]
 exact B7U _ _ _
theorem LW.pick (h : LW κ S w0 (G7 f ls :: H) w) (hx : ls[i]? = some x) : LW κ S w0 (f x ++ G7 f (ls.eraseIdx i) :: H) w := by
 have h1 := (LW.bagPerm h (C57 hx)).open
 rw [List.append_assoc] at h1
 have h2 := (h1.perm List.perm_append_comm)
 rw [List.append_assoc] at h2
 have h3 := LW.close h2
 exact h3.perm (List.perm_append_comm (l₁ := A8T ((ls.eraseIdx i).flatMap f) :: H) (l₂ := f x))
theorem LW.put (h : LW κ S w0 (f y ++ G7 f (ls.eraseIdx i) :: H) w) (hi : i < ls.length) : LW κ S w0 (G7 f (ls.set i y) :: H) w := by
 have h1 := (h.perm (List.perm_append_comm (l₁ := f y) (l₂ := G7 f (ls.eraseIdx i) :: H)))
 have h2 := LW.open (L := (ls.eraseIdx i).flatMap f) (H := H ++ f y) h1
 have h3 : LW κ S w0 ((f y ++ (ls.eraseIdx i).flatMap f) ++ H) w := h2.perm (by
  rw [← List.append_assoc]; exact (List.perm_append_comm).trans (by rw [List.append_assoc]))
 exact LW.bagPerm h3.close (C5E hi y).symm
theorem C7g (hx : ls[i]? = some x) (h : TW κ S w0 (f x ++ G7 f (ls.eraseIdx i) :: H) K0) : TW κ S w0 (G7 f ls :: H) K0 := fun w hw => h w (hw.pick hx)
theorem C9B (hi : i < ls.length) (h : TW κ S w0 (G7 f (ls.set i y) :: H) K0) : TW κ S w0 (f y ++ G7 f (ls.eraseIdx i) :: H) K0 := fun w hw => h w (hw.put hi)
theorem C7J (h : TW κ S w0 (G7 f (ls ++ [y]) :: H) K0) : TW κ S w0 (f y ++ G7 f ls :: H) K0 := fun w hw => h w <| by
 have h1 := hw.perm (List.perm_append_comm (l₁ := f y) (l₂ := G7 f ls :: H))
 have h2 := LW.open (L := ls.flatMap f) (H := H ++ f y) h1
 refine LW.close (L := (ls ++ [y]).flatMap f) ?_
 rw [List.flatMap_append, List.flatMap_singleton, List.append_assoc]
 exact h2.perm (List.Perm.append_left _ List.perm_append_comm)
theorem C7Z (h : TW κ S w0 (G7 f [] :: H) K0) : TW κ S w0 H K0 := fun w hw => h w (LW.close (L := []) hw)
theorem A70 (hp : Part [G7 f ls] H Hk) (hx : ls[i]? = some x) (h : TW κ S w0 (f x ++ G7 f (ls.eraseIdx i) :: Hk) K0) : TW κ S w0 H K0 := TW.perm (C7g hx h) hp.perm
theorem A9f (hp : Part (f y ++ [G7 f (ls.eraseIdx i)]) H Hk) (hi : i < ls.length) (h : TW κ S w0 (G7 f (ls.set i y) :: Hk) K0) : TW κ S w0 H K0 :=
 TW.perm (H' := f y ++ G7 f (ls.eraseIdx i) :: Hk) (C9B hi h) (hp.perm.trans (by simp))
theorem C58 (hp : Part (f y ++ [G7 f ls]) H Hk) (h : TW κ S w0 (G7 f (ls ++ [y]) :: Hk) K0) : TW κ S w0 H K0 :=
 TW.perm (H' := f y ++ G7 f ls :: Hk) (C7J h) (hp.perm.trans (by simp))
theorem B00 (hp : Part (f x) H Hk) (h : TW κ S w0 (G7 f [x] :: Hk) K0) : TW κ S w0 H K0 :=
 TW.perm (H' := f x ++ Hk) (C0j (L := f x) (by rw [G7, List.flatMap_singleton] at h; exact h)) hp.perm
theorem A8Z (hp : Part [G7 f [x]] H Hk) (h : TW κ S w0 (f x ++ Hk) K0) : TW κ S w0 H K0 :=
 TW.perm (H' := G7 f [x] :: Hk) (by rw [G7, List.flatMap_singleton]; exact C1s h) hp.perm
def mix {α : Type} (f g : α → α) (i : Nat) (l : List α) : List α := (l.take i).map f ++ (l.drop i).map g
section
variable {α : Type} {f g : α → α} {l : List α} {i : Nat} {x : α}
theorem B32 (f g : α → α) (i : Nat) (l : List α) : (mix f g i l).length = l.length := by simp [mix]; omega
theorem C5M (f g : α → α) (l : List α) : mix f g 0 l = l.map g := by simp [mix]
theorem C5N (f g : α → α) (l : List α) : mix f g l.length l = l.map f := by simp [mix]
theorem B9E (hx : l[i]? = some x) : (mix f g i l)[i]? = some (g x) := by
 obtain ⟨hi, rfl⟩ := List.getElem?_eq_some_iff.1 hx
 rw [mix, List.getElem?_append_right (by simp; omega)]
 simp [List.getElem?_drop, show i - min i l.length = 0 by omega, List.getElem?_eq_getElem hi]
theorem B7a (hx : l[i]? = some x) : (mix f g (i + 1) l)[i]? = some (f x) := by
 obtain ⟨hi, rfl⟩ := List.getElem?_eq_some_iff.1 hx
 rw [mix, List.getElem?_append_left (by simp; omega)]
 simp [hi]
theorem B9G (hx : l[i]? = some x) : (mix f g i l).set i (f x) = mix f g (i + 1) l := by
 obtain ⟨hi, rfl⟩ := List.getElem?_eq_some_iff.1 hx
 apply List.ext_getElem?
 intro j
 by_cases hj : i = j
 ·subst hj
  rw [B7a (List.getElem?_eq_getElem hi), List.getElem?_set_self (by rw [B32]; exact hi)]
 ·rw [List.getElem?_set_ne hj]
  unfold mix
  by_cases h1 : j < i
  ·rw [List.getElem?_append_left (by simp; omega), List.getElem?_append_left (by simp; omega)]
   simp [List.getElem?_take, h1, show j < i + 1 by omega]
  ·rw [List.getElem?_append_right (by simp; omega), List.getElem?_append_right (by simp; omega)]
   simp only [List.length_map, List.length_take, List.getElem?_map, List.getElem?_drop]
   rw [show i + (j - min i l.length) = i + 1 + (j - min (i + 1) l.length) by omega]
theorem C4P (hx : l[i]? = some x) : (mix f g (i + 1) l).set i (g x) = mix f g i l := by
 obtain ⟨hi, rfl⟩ := List.getElem?_eq_some_iff.1 hx
 rw [← B9G (f := f) (g := g) (List.getElem?_eq_getElem hi), List.set_set]
 have h := B9E (f := f) (g := g) (List.getElem?_eq_getElem hi)
 obtain ⟨h1, h2⟩ := List.getElem?_eq_some_iff.1 h
 rw [← h2]; exact List.set_getElem_self h1
end
end
attribute [irreducible] G7
end Go.Proofs.YtpbmephflllolaaGreat
