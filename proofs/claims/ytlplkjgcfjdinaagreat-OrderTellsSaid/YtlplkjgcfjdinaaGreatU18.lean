/- The proof of a given statement, a part of it (Rf13 Rf17b Rf17c Rf17d Rf17e Rf17s Exp22 Leg22 TellsW). No condition but what each lemma says. -/
import Derived.Test.YtlplkjgcfjdinaaGreatU17
set_option linter.unusedVariables false
set_option linter.unusedSimpArgs false
namespace Go.Proofs.YtlplkjgcfjdinaaGreat
open Go
theorem G0.slice {κ : Bool} {S : List Nat} {w0 : World} {H : List Res} {v : Value} {n : Nat} {xs : List Value} {K0 : WP} (h : G0 κ S w0 H v n xs) (hK : ∀ a c, v = .slice a n c → TW κ S w0 H K0) : TW κ S w0 H K0 := fun w hw => by
 obtain ⟨a, c, e, _⟩ := (h w hw).form
 exact hK a c e w hw
theorem C9l {κ : Bool} {S : List Nat} {w0 : World} {H : List Res} {v : Value} {l : List EnV} {i : Nat} {x : EnV} {K : Value → WP} (h : G0 κ S w0 H v l.length (l.flatMap D5)) (hx : l[i]? = some x) (hK : TW κ S w0 H (K (.agg #[.int .i64 x.st, .string x.key, .int .i64 x.bk, .int .i64 x.dl]))) :
  TW κ S w0 H (A0 PR (Instr.indexAt 79 v (.int .i64 (i : Int))) fun t => A6 PR (Instr.loadAt 119 t) K) := fun w hw => by
 have hi := (List.getElem?_eq_some_iff.1 hx).1
 rcases h w hw with ⟨h0, _⟩ | ⟨b, o, c, rfl, hr⟩
 ·omega
 refine (?_ : TW κ S w0 H _) w hw
 rw [C5b (by omega) (by omega)]
 refine C1B hK fun w' hw' => ?_
 rcases h w' hw' with ⟨h0, _⟩ | ⟨b', o', c', e, hr'⟩
 ·omega
 cases e
 have h1 := hr'.at (f := D5) (k := 4) (fun _ => rfl) hx
 rw [D5] at h1
 simp [h1]
theorem C47 (w : World) (x : EnV) (now : Int) : Fn PR B7 66 #[.agg #[.int .i64 x.st, .string x.key, .int .i64 x.bk, .int .i64 x.dl], .int .i64 now] w (fun r w' => r = .bool (A1x x now) ∧ C6 [] w w') := by
 refine Fn.pure (A8F (TW.go (κ := false) (S := []) ?_))
 unfold A2M
 by_cases c1 : x.st = 1
 ·(have zz:=trivial;repeat((first|clear zz|with_reducible first|refine A3 ?_|refine A4 fun _=>?_|refine A5 fun _=>?_);try simp(disch:=first|omega|assumption|((repeat(first|exact A1|exact uH|apply A2|apply uT));first|done|fail)|(simp;first|done|omega|fail))[c1]))
  exact A9 (by simp [A1x, c1])
 ·(have zz:=trivial;repeat((first|clear zz|with_reducible first|refine A3 ?_|refine A4 fun _=>?_|refine A5 fun _=>?_);try simp(disch:=first|omega|assumption|((repeat(first|exact A1|exact uH|apply A2|apply uT));first|done|fail)|(simp;first|done|omega|fail))[c1]))
  exact A9 (by simp [A1x, c1])
theorem B1k (l : List EnV) (f i : Nat) (now : Int) : W0 l f (i + 1) now = P7 now (W0 l f i now) ((f + i) % l.length) := by
 unfold W0 N3
 rw [List.range_succ, List.map_append, List.foldl_append]; rfl
theorem C0s (l : List EnV) (f i : Nat) (now : Int) : (W0 l f i now).1.length = l.length := B0w now _ (l, 0)
theorem B1r (l : List EnV) (f i : Nat) (now : Int) (h : (W0 l f i now).2 = 0) : (W0 l f i now).1 = l := by
 induction i with
 | zero => rfl
 | succ i ih =>
  rw [B1k] at h ⊢
  unfold P7 at h ⊢
  split at h
  ·simp at h
  ·rename_i hd
   rw [if_neg hd]; exact ih h
theorem C2e (w : World) (v : Value) (l : List EnV) (f n now : Int) (hks : H7 l) (hn : l.length ≤ 1000000) (hv : D4 w v l.length (l.flatMap D5)) :
  Fn PR B7 49 #[v, .int .i64 f, .int .i64 n, .int .i64 now] w (Rn [] w (fun r u => u = .tuple #[if (D9 l f n now).2.2 = 0 then v else r, .int .i64 ((D9 l f n now).2.1 : Nat), .int .i64 ((D9 l f n now).2.2 : Nat)])
   fun r => if (D9 l f n now).2.2 = 0 then [] else [E8 r (D9 l f n now).1]) := by
 refine A7Z (TW.go (κ := false) (S := []) ?_)
 unfold A1T
 obtain ⟨a, c, rfl, _⟩ := hv.form
 have hmax : min (max n 0) (l.length : Int) = (Q6 l n : Nat) := by unfold Q6; omega
 have hfl : F8 l f ≤ 1000000 := by unfold F8; split <;> omega
 refine C5P (Hj := []) (.int .i64 (F8 l f : Nat)) ?_ ?_
 case refine_2 =>
  intro J hJ
  by_cases c1 : f < 0
  ·have e : F8 l f = 0 := by unfold F8; rw [if_pos (Or.inl c1)]
   rw [e] at hJ
   (have zz:=trivial;repeat((first|clear zz|with_reducible first|refine A3 ?_|refine A4 fun _=>?_|refine A5 fun _=>?_);try simp(disch:=first|omega|assumption|((repeat(first|exact A1|exact uH|apply A2|apply uT));first|done|fail)|(simp;first|done|omega|fail))[c1]))
   exact hJ
  by_cases c2 : (l.length : Int) ≤ f
  ·have e : F8 l f = 0 := by unfold F8; rw [if_pos (Or.inr c2)]
   rw [e] at hJ
   (have zz:=trivial;repeat((first|clear zz|with_reducible first|refine A3 ?_|refine A4 fun _=>?_|refine A5 fun _=>?_);try simp(disch:=first|omega|assumption|((repeat(first|exact A1|exact uH|apply A2|apply uT));first|done|fail)|(simp;first|done|omega|fail))[c1, c2]))
   exact hJ
  ·have e : ((F8 l f : Nat) : Int) = f := by unfold F8; rw [if_neg (by omega)]; omega
   rw [e] at hJ
   (have zz:=trivial;repeat((first|clear zz|with_reducible first|refine A3 ?_|refine A4 fun _=>?_|refine A5 fun _=>?_);try simp(disch:=first|omega|assumption|((repeat(first|exact A1|exact uH|apply A2|apply uT));first|done|fail)|(simp;first|done|omega|fail))[c1, c2]))
   exact hJ
 have hml : Q6 l n ≤ l.length := by unfold Q6; omega
 have hf0 : F8 l f = (F8 l f + 0) % l.length := by
  by_cases h0 : l.length = 0
  ·have : F8 l f = 0 := by unfold F8; split <;> omega
   rw [this]; simp
  ·have : F8 l f < l.length := by unfold F8; split <;> omega
   rw [Nat.add_zero, Nat.mod_eq_of_lt this]
 have hsv : D9 l f n now = (if 0 < (W0 l (F8 l f) (Q6 l n) now).2 then H0 (W0 l (F8 l f) (Q6 l n) now).1 else (W0 l (F8 l f) (Q6 l n) now).1, (F8 l f + Q6 l n) % l.length, (W0 l (F8 l f) (Q6 l n) now).2) := by
  have e : (if 0 < l.length then (F8 l f + Q6 l n) % l.length else F8 l f) = (F8 l f + Q6 l n) % l.length := by
   split
   ·rfl
   ·have h1 : Q6 l n = 0 := by omega
    rw [h1]; exact hf0
  unfold D9; rw [e]
 rw [hsv]
 generalize hfv : F8 l f = fv at *
 generalize hmv : Q6 l n = mv at *
 (have zz:=trivial;repeat((first|clear zz|with_reducible first|refine A3 ?_|refine A4 fun _=>?_|refine A5 fun _=>?_);try simp(disch:=first|omega|assumption|((repeat(first|exact A1|exact uH|apply A2|apply uT));first|done|fail)|(simp;first|done|omega|fail))[hmax]))
 rw [hmax]
 refine C9u (fun p : Nat × (List EnV × Nat) × Value × Nat => if p.2.1.2 = 0 then [] else [E8 p.2.2.1 p.2.1.1]) (fun p => p.1 ≤ mv ∧ p.2.1 = W0 l fv p.1 now ∧ p.2.1.2 ≤ p.1 ∧ p.2.2.2 = (fv + p.1) % l.length) (fun p => mv - p.1) (0, (l, 0), .nilIface, fv)
  (fun p => if p.2.1.2 = 0 then .slice a l.length c else p.2.2.1) (fun p => .int .i64 (p.2.1.2 : Nat)) (fun p => .int .i64 (p.2.2.2 : Nat)) (fun p => .int .i64 (p.1 : Nat)) ⟨Nat.zero_le _, rfl, Nat.le_refl _, hf0⟩ ?_
 rintro ⟨i, s, x, q⟩ ⟨hi, hs, hs2, hq⟩ L hL
 simp only at hi hs hs2 hq hL ⊢
 have hsl : s.1.length = l.length := by rw [hs, C0s]
 have hrd : G0 false [] w (if s.2 = 0 then [] else [E8 x s.1]) (if s.2 = 0 then .slice a l.length c else x) s.1.length (s.1.flatMap D5) := by
  by_cases h0 : s.2 = 0
  ·have e : s.1 = l := by rw [hs] at h0 ⊢; exact B1r l fv i now h0
   rw [if_pos h0, if_pos h0, e]
   exact fun w' hw' => hv.ks hw'.ks (by simp)
  ·rw [if_neg h0, if_neg h0]
   exact G0.own (by (repeat constructor))
 have hks2 : H7 s.1 := by rw [hs]; exact B3C now _ (l, 0) hks
 by_cases hlt : i < mv
 ·have hlt' : (i : Int) < mv := by omega
  have hql : q < s.1.length := by rw [hq, hsl]; exact Nat.mod_lt _ (by omega)
  have hx := List.getElem?_eq_getElem hql
  have hnext := B1k l fv i now
  rw [← hs, ← hq] at hnext
  have hgd : s.1.getD q p5 = s.1[q] := by rw [List.getD_eq_getElem?_getD, hx]; rfl
  have hqn : (fv + (i + 1)) % l.length = if q + 1 = l.length then 0 else q + 1 := by
   have h1 : q < l.length := by omega
   rw [← Nat.add_assoc, Nat.add_mod, ← hq]
   by_cases h2 : l.length = 1
   ·rw [h2] at h1 ⊢; have : q = 0 := by omega
    subst this; simp
   ·rw [Nat.mod_eq_of_lt (show 1 < l.length by omega)]
    split
    ·rename_i h3; rw [h3, Nat.mod_self]
    ·exact Nat.mod_eq_of_lt (by omega)
  unfold P7 at hnext
  rw [hgd] at hnext
  generalize s.1[q] = y at *
  generalize hT : (if s.2 = 0 then Value.slice a l.length c else x) = tv at *
  generalize hH : (if s.2 = 0 then [] else [E8 x s.1]) = H at *
  (have zz:=trivial;repeat((first|clear zz|with_reducible first|refine A3 ?_|refine A4 fun _=>?_|refine A5 fun _=>?_);try simp(disch:=first|omega|assumption|((repeat(first|exact A1|exact uH|apply A2|apply uT));first|done|fail)|(simp;first|done|omega|fail))[hlt']))
  refine C9l hrd hx ?_
  refine B8 A6y (fun w' _ => C47 w' y now) ?_
  cases hd : A1x y now with
  | true =>
   rw [hd, if_pos rfl] at hnext
   (have zz:=trivial;repeat((first|clear zz|with_reducible first|refine A3 ?_|refine A4 fun _=>?_|refine A5 fun _=>?_);try simp(disch:=first|omega|assumption|((repeat(first|exact A1|exact uH|apply A2|apply uT));first|done|fail)|(simp;first|done|omega|fail))[]))
   refine F3 A01 (fun w' hw' => B5j w' tv s.1 q (by omega) (hrd w' hw')) ?_
   intro _ r hr
   subst hr
   refine Y3 (by (repeat constructor)) fun ra rc hr => ?_
   subst hr
   have hsl2 : (s.1.set q P3).length = l.length := by simpa using hsl
   have h := hL (i + 1, (s.1.set q P3, s.2 + 1), .slice ra (s.1.set q P3).length rc, (fv + (i + 1)) % l.length) ⟨by simp only; omega, hnext.symm, by simp only; omega, rfl⟩ (by simp only; omega)
   rw [hqn] at h
   have hz : ¬ s.2 + 1 = 0 := by omega
   simp only [if_neg hz, hsl2] at h ⊢
   by_cases c5 : q + 1 = l.length
   ·have c5' : (q : Int) + 1 = l.length := by omega
    rw [if_pos c5] at h
    (have zz:=trivial;repeat((first|clear zz|with_reducible first|refine A3 ?_|refine A4 fun _=>?_|refine A5 fun _=>?_);try simp(disch:=first|omega|assumption|((repeat(first|exact A1|exact uH|apply A2|apply uT));first|done|fail)|(simp;first|done|omega|fail))[c5, c5']))
    exact Sels.tw (by (repeat' constructor)) h
   ·have c5' : ¬ (q : Int) + 1 = l.length := by omega
    rw [if_neg c5] at h
    (have zz:=trivial;repeat((first|clear zz|with_reducible first|refine A3 ?_|refine A4 fun _=>?_|refine A5 fun _=>?_);try simp(disch:=first|omega|assumption|((repeat(first|exact A1|exact uH|apply A2|apply uT));first|done|fail)|(simp;first|done|omega|fail))[c5, c5']))
    exact Sels.tw (by (repeat' constructor)) h
  | false =>
   rw [hd, if_neg (by simp)] at hnext
   refine hrd.slice fun a' c' e => ?_
   have h := hL (i + 1, s, x, (fv + (i + 1)) % l.length) ⟨by simp only; omega, hnext.symm, by simp only; omega, rfl⟩ (by simp only; omega)
   rw [hqn] at h
   simp only [hT, hH] at h
   subst e
   rw [hsl] at h ⊢
   by_cases c5 : q + 1 = l.length
   ·have c5' : (q : Int) + 1 = l.length := by omega
    rw [if_pos c5] at h
    (have zz:=trivial;repeat((first|clear zz|with_reducible first|refine A3 ?_|refine A4 fun _=>?_|refine A5 fun _=>?_);try simp(disch:=first|omega|assumption|((repeat(first|exact A1|exact uH|apply A2|apply uT));first|done|fail)|(simp;first|done|omega|fail))[c5, c5']))
    exact h
   ·have c5' : ¬ (q : Int) + 1 = l.length := by omega
    rw [if_neg c5] at h
    (have zz:=trivial;repeat((first|clear zz|with_reducible first|refine A3 ?_|refine A4 fun _=>?_|refine A5 fun _=>?_);try simp(disch:=first|omega|assumption|((repeat(first|exact A1|exact uH|apply A2|apply uT));first|done|fail)|(simp;first|done|omega|fail))[c5, c5']))
    exact h
 ·obtain rfl : i = mv := by omega
  rw [← hs]
  by_cases h0 : s.2 = 0
  ·have h0' : ¬ (0 < s.2) := by omega
   simp only [if_pos h0, if_neg h0']
   (have zz:=trivial;repeat((first|clear zz|with_reducible first|refine A3 ?_|refine A4 fun _=>?_|refine A5 fun _=>?_);try simp(disch:=first|omega|assumption|((repeat(first|exact A1|exact uH|apply A2|apply uT));first|done|fail)|(simp;first|done|omega|fail))[h0, h0']))
   exact C0 .nilIface (by simp [hq]) Sels.nil
  ·have h0' : 0 < s.2 := by omega
   have h0i : (0 : Int) < (s.2 : Nat) := by omega
   simp only [if_neg h0, if_pos h0']
   (have zz:=trivial;repeat((first|clear zz|with_reducible first|refine A3 ?_|refine A4 fun _=>?_|refine A5 fun _=>?_);try simp(disch:=first|omega|assumption|((repeat(first|exact A1|exact uH|apply A2|apply uT));first|done|fail)|(simp;first|done|omega|fail))[h0, h0', h0i]))
   refine B22 hks2 (by omega) fun r => ?_
   (have zz:=trivial;repeat((first|clear zz|with_reducible first|refine A3 ?_|refine A4 fun _=>?_|refine A5 fun _=>?_);try simp(disch:=first|omega|assumption|((repeat(first|exact A1|exact uH|apply A2|apply uT));first|done|fail)|(simp;first|done|omega|fail))[]))
   exact C0 r (by simp [hq]) (by (repeat' constructor))
end Go.Proofs.YtlplkjgcfjdinaaGreat
namespace Go.Proofs.YtlplkjgcfjdinaaGreat
open Go
theorem A7j (w : World) (n lo hi : Int) : Fn PR B7 37 #[.int .i64 n, .int .i64 lo, .int .i64 hi] w (fun v w' => v = .bool (W6 n lo hi) ∧ C6 [] w w') := by
 refine Fn.pure (A8s (TW.go (κ := false) (S := []) ?_))
 unfold A2m
 by_cases c1 : lo ≤ n
 ·by_cases c2 : n ≤ hi
  ·(have zz:=trivial;repeat((first|clear zz|with_reducible first|refine A3 ?_|refine A4 fun _=>?_|refine A5 fun _=>?_);try simp(disch:=first|omega|assumption|((repeat(first|exact A1|exact uH|apply A2|apply uT));first|done|fail)|(simp;first|done|omega|fail))[c1, c2])); exact A9 (by simp [W6, c1, c2])
  ·(have zz:=trivial;repeat((first|clear zz|with_reducible first|refine A3 ?_|refine A4 fun _=>?_|refine A5 fun _=>?_);try simp(disch:=first|omega|assumption|((repeat(first|exact A1|exact uH|apply A2|apply uT));first|done|fail)|(simp;first|done|omega|fail))[c1, c2])); exact A9 (by simp [W6, c1, c2])
 ·(have zz:=trivial;repeat((first|clear zz|with_reducible first|refine A3 ?_|refine A4 fun _=>?_|refine A5 fun _=>?_);try simp(disch:=first|omega|assumption|((repeat(first|exact A1|exact uH|apply A2|apply uT));first|done|fail)|(simp;first|done|omega|fail))[c1])); exact A9 (by simp [W6, c1])
theorem C0G (w : World) (c : CfgV) : Fn PR B7 26 #[c.val] w (fun v w' => v = .int .i64 (if W9 c then 0 else 1) ∧ C6 [] w w') := by
 refine Fn.pure (A5f (TW.go (κ := false) (S := []) ?_))
 unfold A02
 simp only [CfgV.val]
 unfold W9
 (have zz:=trivial;repeat((first|clear zz|with_reducible first|refine A3 ?_|refine A4 fun _=>?_|refine A5 fun _=>?_);try simp(disch:=first|omega|assumption|((repeat(first|exact A1|exact uH|apply A2|apply uT));first|done|fail)|(simp;first|done|omega|fail))[]))
 refine B8 S8 (fun w' _ => A7j w' _ _ _) ?_
 cases W6 c.wk 1 64 with
 | false => (have zz:=trivial;repeat((first|clear zz|with_reducible first|refine A3 ?_|refine A4 fun _=>?_|refine A5 fun _=>?_);try simp(disch:=first|omega|assumption|((repeat(first|exact A1|exact uH|apply A2|apply uT));first|done|fail)|(simp;first|done|omega|fail))[])); exact A9 rfl
 | true =>
 (have zz:=trivial;repeat((first|clear zz|with_reducible first|refine A3 ?_|refine A4 fun _=>?_|refine A5 fun _=>?_);try simp(disch:=first|omega|assumption|((repeat(first|exact A1|exact uH|apply A2|apply uT));first|done|fail)|(simp;first|done|omega|fail))[]))
 refine B8 S8 (fun w' _ => A7j w' _ _ _) ?_
 cases W6 c.sh 1 16 with
 | false => (have zz:=trivial;repeat((first|clear zz|with_reducible first|refine A3 ?_|refine A4 fun _=>?_|refine A5 fun _=>?_);try simp(disch:=first|omega|assumption|((repeat(first|exact A1|exact uH|apply A2|apply uT));first|done|fail)|(simp;first|done|omega|fail))[])); exact A9 rfl
 | true =>
 (have zz:=trivial;repeat((first|clear zz|with_reducible first|refine A3 ?_|refine A4 fun _=>?_|refine A5 fun _=>?_);try simp(disch:=first|omega|assumption|((repeat(first|exact A1|exact uH|apply A2|apply uT));first|done|fail)|(simp;first|done|omega|fail))[]))
 refine B8 S8 (fun w' _ => A7j w' _ _ _) ?_
 cases W6 c.cp 1 64 with
 | false => (have zz:=trivial;repeat((first|clear zz|with_reducible first|refine A3 ?_|refine A4 fun _=>?_|refine A5 fun _=>?_);try simp(disch:=first|omega|assumption|((repeat(first|exact A1|exact uH|apply A2|apply uT));first|done|fail)|(simp;first|done|omega|fail))[])); exact A9 rfl
 | true =>
 (have zz:=trivial;repeat((first|clear zz|with_reducible first|refine A3 ?_|refine A4 fun _=>?_|refine A5 fun _=>?_);try simp(disch:=first|omega|assumption|((repeat(first|exact A1|exact uH|apply A2|apply uT));first|done|fail)|(simp;first|done|omega|fail))[]))
 refine B8 S8 (fun w' _ => A7j w' _ _ _) ?_
 cases W6 c.idle 0 1000000 with
 | false => (have zz:=trivial;repeat((first|clear zz|with_reducible first|refine A3 ?_|refine A4 fun _=>?_|refine A5 fun _=>?_);try simp(disch:=first|omega|assumption|((repeat(first|exact A1|exact uH|apply A2|apply uT));first|done|fail)|(simp;first|done|omega|fail))[])); exact A9 rfl
 | true =>
 (have zz:=trivial;repeat((first|clear zz|with_reducible first|refine A3 ?_|refine A4 fun _=>?_|refine A5 fun _=>?_);try simp(disch:=first|omega|assumption|((repeat(first|exact A1|exact uH|apply A2|apply uT));first|done|fail)|(simp;first|done|omega|fail))[]))
 refine B8 S8 (fun w' _ => A7j w' _ _ _) ?_
 cases W6 c.sl 2 8 with
 | false => (have zz:=trivial;repeat((first|clear zz|with_reducible first|refine A3 ?_|refine A4 fun _=>?_|refine A5 fun _=>?_);try simp(disch:=first|omega|assumption|((repeat(first|exact A1|exact uH|apply A2|apply uT));first|done|fail)|(simp;first|done|omega|fail))[])); exact A9 rfl
 | true => (have zz:=trivial;repeat((first|clear zz|with_reducible first|refine A3 ?_|refine A4 fun _=>?_|refine A5 fun _=>?_);try simp(disch:=first|omega|assumption|((repeat(first|exact A1|exact uH|apply A2|apply uT));first|done|fail)|(simp;first|done|omega|fail))[])); exact A9 rfl
def B1H (s : ByteArray) (n : Int) : Value :=
 if (C9 s).2.2 ≠ 0 then .agg #[.string W2, .int .i64 0, .bool false, .int .i64 9]
 else .agg #[.string (A32 (C9 s).1), .int .i64 (N6 (A32 (C9 s).1) n : Nat), .bool (T8 (C9 s).1 (C9 s).2.1), .int .i64 0]
theorem B49 (w : World) (s : ByteArray) (n : Int) (hs : s.size < 2 ^ 40) (hn : n < 2 ^ 63) : Fn PR B7 45 #[.string s, .int .i64 n] w (fun v w' => v = B1H s n ∧ C6 [] w w') := by
 refine Fn.pure (A7K (TW.go (κ := false) (S := []) ?_))
 unfold A1m
 (have zz:=trivial;repeat((first|clear zz|with_reducible first|refine A3 ?_|refine A4 fun _=>?_|refine A5 fun _=>?_);try simp(disch:=first|omega|assumption|((repeat(first|exact A1|exact uH|apply A2|apply uT));first|done|fail)|(simp;first|done|omega|fail))[]))
 refine B8 A4v (fun w' _ => C1G w' s hs) ?_
 have hk := A6k (C9 s).1
 unfold B1H
 by_cases c1 : (C9 s).2.2 = 0
 case neg =>
  rw [if_pos c1]
  (have zz:=trivial;repeat((first|clear zz|with_reducible first|refine A3 ?_|refine A4 fun _=>?_|refine A5 fun _=>?_);try simp(disch:=first|omega|assumption|((repeat(first|exact A1|exact uH|apply A2|apply uT));first|done|fail)|(simp;first|done|omega|fail))[packet.val, U3, c1]))
  exact A9 rfl
 rw [if_neg (by simp [c1])]
 (have zz:=trivial;repeat((first|clear zz|with_reducible first|refine A3 ?_|refine A4 fun _=>?_|refine A5 fun _=>?_);try simp(disch:=first|omega|assumption|((repeat(first|exact A1|exact uH|apply A2|apply uT));first|done|fail)|(simp;first|done|omega|fail))[packet.val, U3, c1]))
 refine B8 (u := z8 (C9 s).1) A5F (fun w' hw' => C1c w' (C9 s).1) ?_
 (have zz:=trivial;repeat((first|clear zz|with_reducible first|refine A3 ?_|refine A4 fun _=>?_|refine A5 fun _=>?_);try simp(disch:=first|omega|assumption|((repeat(first|exact A1|exact uH|apply A2|apply uT));first|done|fail)|(simp;first|done|omega|fail))[z8]))
 rw [show (if Q8 (C9 s).1 = true then A1S (C9 s).1 else W2) = A32 (C9 s).1 from rfl]
 refine B8 A42 (fun w' hw' => C0j w' _ n hk hn) ?_
 (have zz:=trivial;repeat((first|clear zz|with_reducible first|refine A3 ?_|refine A4 fun _=>?_|refine A5 fun _=>?_);try simp(disch:=first|omega|assumption|((repeat(first|exact A1|exact uH|apply A2|apply uT));first|done|fail)|(simp;first|done|omega|fail))[]))
 rw [M1 (by (repeat constructor)) (by rfl)]
 (have zz:=trivial;repeat((first|clear zz|with_reducible first|refine A3 ?_|refine A4 fun _=>?_|refine A5 fun _=>?_);try simp(disch:=first|omega|assumption|((repeat(first|exact A1|exact uH|apply A2|apply uT));first|done|fail)|(simp;first|done|omega|fail))[]))
 refine B8 (u := .bool (T8 (C9 s).1 (C9 s).2.1)) A3z (fun w' hw' => B8u w' (C9 s).1 (C9 s).2.1) ?_
 (have zz:=trivial;repeat((first|clear zz|with_reducible first|refine A3 ?_|refine A4 fun _=>?_|refine A5 fun _=>?_);try simp(disch:=first|omega|assumption|((repeat(first|exact A1|exact uH|apply A2|apply uT));first|done|fail)|(simp;first|done|omega|fail))[]))
 exact A9 rfl
structure RmH where
 pv : Value
 tv : Value
 lv : Value
 c : CfgV
 pool : List G2
 ts : List (Value × List EnV)
 pl : List Nat
def RmH.cs (r : RmH) : Array Value := #[.int .i64 r.c.wk, .int .i64 r.c.sh, .int .i64 r.c.cp, .int .i64 r.c.idle, .int .i64 r.c.sl, r.pv, r.tv, r.lv]
def g5 (l : List Nat) : List Value := l.map fun n : Nat => .int .i64 (n : Int)
abbrev C9J (w : World) (ts : List (Value × List EnV)) : Prop := ∀ t ∈ ts, D4 w t.1 t.2.length (t.2.flatMap D5)
theorem B5D (w : World) (c : CfgV) (pv tv lv v : Value) (vs : List Value) (i : Nat) (hn : vs.length ≤ 1000) (hp : ∃ a n c, pv = .slice a n c) (hl : ∃ a n c, lv = .slice a n c) (hvf : ∃ a n c, v = .slice a n c) (hvs : ∀ x ∈ vs, ∃ a n c, x = .slice a n c) (ht : D4 w tv vs.length vs) :
  Fn PR B7 47 #[.agg #[.int .i64 c.wk, .int .i64 c.sh, .int .i64 c.cp, .int .i64 c.idle, .int .i64 c.sl, pv, tv, lv], .int .i64 (i : Int), v] w
   (Rn [] w (fun r u => u = .agg #[.int .i64 c.wk, .int .i64 c.sh, .int .i64 c.cp, .int .i64 c.idle, .int .i64 c.sl, pv, r, lv]) fun r => [.own 79 1 r vs.length (vs.set i v)]) := by
 refine A3n (TW.go (κ := false) (S := []) ?_)
 unfold q5
 obtain ⟨a, cc, rfl, hr⟩ := ht.form
 obtain ⟨va, vn, vc, rfl⟩ := hvf
 obtain ⟨pa, pn, pc, rfl⟩ := hp
 obtain ⟨la, ln, lc, rfl⟩ := hl
 (have zz:=trivial;repeat((first|clear zz|with_reducible first|refine A3 ?_|refine A4 fun _=>?_|refine A5 fun _=>?_);try simp(disch:=first|omega|assumption|((repeat(first|exact A1|exact uH|apply A2|apply uT));first|done|fail)|(simp;first|done|omega|fail))[]))
 rename_i bm bo
 refine r4 79 1 ?_
 refine H4 vs.length (fun i (y : Option Addr × Nat) => .slice y.1 i y.2) (fun k y => [.own 79 1 (.slice y.1 k y.2) k ((vs.set i (.slice va vn vc)).take k),
  .pt bo (.cells #[.int .i64 0, .int .i64 0, .int .i64 0, .int .i64 0, .int .i64 0, .slice none 0 0, .slice none 0 0, .slice none 0 0] 68),
  .pt bm (.cells #[.int .i64 c.wk, .int .i64 c.sh, .int .i64 c.cp, .int .i64 c.idle, .int .i64 c.sl, .slice pa pn pc, .slice a vs.length cc, .slice la ln lc] 68)]) (fun i y => True) (none, 0) trivial ?_ (by simp)
 rintro k ⟨ya, yc⟩ hi _ L hL
 by_cases hlt : k < vs.length
 ·have hx : vs[k]? = some vs[k] := List.getElem?_eq_getElem hlt
  obtain ⟨b, o, rfl, hrow⟩ := hr (by omega)
  have h1 := hrow.get hx
  have hst : (vs.set i (.slice va vn vc)).take (k + 1) = (vs.set i (.slice va vn vc)).take k ++ [if k = i then .slice va vn vc else vs[k]] := by
   rw [List.take_add_one, List.getElem?_set]
   by_cases e : i = k
   ·subst e; rw [if_pos rfl, if_pos hlt, if_pos rfl]; rfl
   ·rw [if_neg e, if_neg (fun h => e h.symm), hx]; rfl
  obtain ⟨xa, xn, xc, hxv⟩ := hvs vs[k] (List.getElem_mem hlt)
  rw [hxv] at h1 hst
  by_cases c1 : k = i
  ·rw [if_pos c1] at hst
   subst c1
   (have zz:=trivial;repeat((first|clear zz|with_reducible first|refine A3 ?_|refine A4 fun _=>?_|refine A5 fun _=>?_|refine E2 fun _=>?_|refine E5 (hK:=fun _=>?_)|refine E6 (hK:=fun _=>?_)|refine E3 (hK:=fun _=>?_)|refine E1 (hK:=fun _=>?_)|refine E4 (hK:=fun _=>?_));try simp(disch:=first|omega|assumption|((repeat(first|exact A1|exact uH|apply A2|apply uT));first|done|fail)|(simp;first|done|omega|fail))[hlt]))
   refine V6 (e := 79) (k := 1) (q := k) (r := 1) (xs := (vs.set k (.slice va vn vc)).take k) (news := [.slice va vn vc]) (by (repeat constructor)) (G0.own (by (repeat constructor))) (by decide) rfl (by simp) (by simp only [maxLen]; omega) (by omega) fun a' c' => ?_
   (have zz:=trivial;repeat((first|clear zz|with_reducible first|refine A3 ?_|refine A4 fun _=>?_|refine A5 fun _=>?_);try simp(disch:=first|omega|assumption|((repeat(first|exact A1|exact uH|apply A2|apply uT));first|done|fail)|(simp;first|done|omega|fail))[]))
   have h2 := hL hlt (a', c') trivial
   rw [hst] at h2
   exact Sels.tw (by (repeat' constructor)) h2
  ·rw [if_neg c1] at hst
   have c1' : ¬ (k : Int) = (i : Int) := by omega
   (have zz:=trivial;repeat((first|clear zz|with_reducible first|refine A3 ?_|refine A4 fun _=>?_|refine A5 fun _=>?_|refine E2 fun _=>?_|refine E5 (hK:=fun _=>?_)|refine E6 (hK:=fun _=>?_)|refine E3 (hK:=fun _=>?_)|refine E1 (hK:=fun _=>?_)|refine E4 (hK:=fun _=>?_));try simp(disch:=first|omega|assumption|((repeat(first|exact A1|exact uH|apply A2|apply uT));first|done|fail)|(simp;first|done|omega|fail))[hlt, c1, c1', h1]))
   refine V6 (e := 79) (k := 1) (q := k) (r := 1) (xs := (vs.set i (.slice va vn vc)).take k) (news := [.slice xa xn xc]) (by (repeat constructor)) (G0.own (by (repeat constructor))) (by decide) rfl (by simp) (by simp only [maxLen]; omega) (by omega) fun a' c' => ?_
   (have zz:=trivial;repeat((first|clear zz|with_reducible first|refine A3 ?_|refine A4 fun _=>?_|refine A5 fun _=>?_);try simp(disch:=first|omega|assumption|((repeat(first|exact A1|exact uH|apply A2|apply uT));first|done|fail)|(simp;first|done|omega|fail))[]))
   have h2 := hL hlt (a', c') trivial
   rw [hst] at h2
   exact Sels.tw (by (repeat' constructor)) h2
 ·obtain rfl : k = vs.length := by omega
  (have zz:=trivial;repeat((first|clear zz|with_reducible first|refine A3 ?_|refine A4 fun _=>?_|refine A5 fun _=>?_);try simp(disch:=first|omega|assumption|((repeat(first|exact A1|exact uH|apply A2|apply uT));first|done|fail)|(simp;first|done|omega|fail))[]))
  refine C0 (.slice ya vs.length yc) rfl ?_
  rw [List.take_of_length_le (by simp)]
  (repeat' constructor)
end Go.Proofs.YtlplkjgcfjdinaaGreat
namespace Go.Proofs.YtlplkjgcfjdinaaGreat
open Go
@[simp] theorem D3K {κ : Bool} {S : List Nat} {w0 : World} {H : List Res} {K : Value → WP} {t t' : TypeId} {n n' : Nat} {z z' : Value} [h : TG t n z] [h' : TG t' n' z'] {b o b' o' : Nat} {c c' : Array Value} {T T' : TypeId} {f f' : Nat × Nat} (hm : Res.pt b (.cells c T f) ∈ H) (hm' : Res.pt b' (.cells c' T' f') ∈ H) :
  TW κ S w0 H (A6 PR (D0 [.c t (.pointer (some ⟨b, o, none⟩)), .c t' (.pointer (some ⟨b', o', none⟩))]) K) = TW κ S w0 H (rdq (Q0 c.toList o n) (fun l => rdq (Q0 c'.toList o' n') (fun l' => K (.tuple #[.agg l.toArray, .agg l'.toArray])) (A6 PR (D0 [.c t (.pointer (some ⟨b, o, none⟩)), .c t' (.pointer (some ⟨b', o', none⟩))]) K)) (A6 PR (D0 [.c t (.pointer (some ⟨b, o, none⟩)), .c t' (.pointer (some ⟨b', o', none⟩))]) K)) := by
 cases hl : Q0 c.toList o n with
 | none => rfl
 | some l =>
 rw [A5G]
 cases hl' : Q0 c'.toList o' n' with
 | none => rfl
 | some l' =>
   obtain ⟨_, _, h, hd⟩ := h.ti
   obtain ⟨_, _, h', hd'⟩ := h'.ti
   refine TW.congr fun w hw => ?_
   rw [A5G]
   have h2 := Y7 (v8 hl (L6.bl (hw.pt hm)))
   have h3 := Y7 (v8 hl' (L6.bl (hw.pt hm')))
   refine d8 ?_ K
   have e := Z6 h hd h2.1 h2.2
   have e' := Z6 h' hd' h3.1 h3.2
   simp only [Instr.loadAt, Instr.sureAddr, Sem.run_bind, Sem.run_pure, Result.andThen_ok] at e e'
   simp [D0, A3B, RV.sem, asAddr, e, e', one]
def RmH.val (r : RmH) : Value := .agg r.cs
def RmH.st (r : RmH) : MoS := ⟨r.c, r.pool, (r.ts.map (·.2)).zip r.pl⟩
structure RmOk (w : World) (r : RmH) : Prop where
 tv : D4 w r.tv r.ts.length (r.ts.map (·.1))
 lv : D4 w r.lv r.pl.length (g5 r.pl)
 tab : C9J w r.ts
 pv : D4 w r.pv r.pool.length (r.pool.flatMap E7)
 few : r.ts.length ≤ 1000
 pl : r.pl.length = r.ts.length
 pos : 0 < r.ts.length
 sh : r.c.sh = r.ts.length
 keys : ∀ t ∈ r.ts, H7 t.2
 len : ∀ t ∈ r.ts, t.2.length ≤ 1000000
 pool : r.pool.length ≤ 1000
section
variable (w : World) (r : RmH) (o : OpV) (v : Value) (now : Int)
theorem C2P (hr : RmOk w r) (hv : D4 w v o.pool.length (o.pool.flatMap E7)) (hk : o.kind < 0 ∨ 3 < o.kind) :
  Fn PR B7 39 #[r.val, o.val v, .int .i64 now] w (fun u w' => u = .tuple #[r.val, (M2 r.st o now).2.val] ∧ C6 [] w w') := by
 refine Fn.pure (M7 (TW.go (κ := false) (S := []) ?_))
 unfold K1
 rw [B9Z r.st o now hk]
 obtain ⟨pa, pc, e1, _⟩ := hr.pv.form
 obtain ⟨ta, tc, e2, _⟩ := hr.tv.form
 obtain ⟨la, lc, e3, _⟩ := hr.lv.form
 obtain ⟨va, vc, rfl, _⟩ := hv.form
 simp only [RmH.val, RmH.cs, OpV.val, e1, e2, e3]
 have k0 : ¬ o.kind = 0 := by omega
 have k1 : ¬ o.kind = 1 := by omega
 have k2 : ¬ o.kind = 2 := by omega
 have k3 : ¬ o.kind = 3 := by omega
 (have zz:=trivial;repeat((first|clear zz|with_reducible first|refine A3 ?_|refine A4 fun _=>?_|refine A5 fun _=>?_);try simp(disch:=first|omega|assumption|((repeat(first|exact A1|exact uH|apply A2|apply uT));first|done|fail)|(simp;first|done|omega|fail))[k0, k1, k2, k3]))
 exact A9 rfl
theorem C3M (hr : RmOk w r) (hv : D4 w v o.pool.length (o.pool.flatMap E7)) (hvl : o.pool.length ≤ 1000) (hk : o.kind = 1) :
  Fn PR B7 39 #[r.val, o.val v, .int .i64 now] w (fun u w' => u = .tuple #[(if N8 o.pool = 0 then { r with pv := v, pool := o.pool } else r : RmH).val, (M2 r.st o now).2.val] ∧ C6 [] w w') := by
 refine Fn.pure (M7 (TW.go (κ := false) (S := []) ?_))
 unfold K1
 rw [C2v r.st o now hk]
 obtain ⟨pa, pc, e1, _⟩ := hr.pv.form
 obtain ⟨ta, tc, e2, _⟩ := hr.tv.form
 obtain ⟨la, lc, e3, _⟩ := hr.lv.form
 obtain ⟨va, vc, rfl, _⟩ := hv.form
 unfold A7Y
 simp only [RmH.val, RmH.cs, OpV.val, e1, e2, e3]
 (have zz:=trivial;repeat((first|clear zz|with_reducible first|refine A3 ?_|refine A4 fun _=>?_|refine A5 fun _=>?_);try simp(disch:=first|omega|assumption|((repeat(first|exact A1|exact uH|apply A2|apply uT));first|done|fail)|(simp;first|done|omega|fail))[hk]))
 refine B8 A4u (fun w' hw' => C2w w' _ o.pool (by omega) (hv.ks hw'.ks (by simp))) ?_
 by_cases c1 : N8 o.pool = 0
 ·(have zz:=trivial;repeat((first|clear zz|with_reducible first|refine A3 ?_|refine A4 fun _=>?_|refine A5 fun _=>?_);try simp(disch:=first|omega|assumption|((repeat(first|exact A1|exact uH|apply A2|apply uT));first|done|fail)|(simp;first|done|omega|fail))[c1]))
  exact A9 (by simp [AnsV.val, e2, e3])
 ·(have zz:=trivial;repeat((first|clear zz|with_reducible first|refine A3 ?_|refine A4 fun _=>?_|refine A5 fun _=>?_);try simp(disch:=first|omega|assumption|((repeat(first|exact A1|exact uH|apply A2|apply uT));first|done|fail)|(simp;first|done|omega|fail))[c1]))
  exact A9 (by simp [AnsV.val, e1, e2, e3])
theorem C37 (hr : RmOk w r) (hv : D4 w v o.pool.length (o.pool.flatMap E7)) (hpk : o.packet.size < 2 ^ 40) (hk : o.kind = 0) (hb : (C9 o.packet).2.2 ≠ 0) :
  Fn PR B7 39 #[r.val, o.val v, .int .i64 now] w (fun u w' => u = .tuple #[r.val, (M2 r.st o now).2.val] ∧ C6 [] w w') := by
 refine Fn.pure (M7 (TW.go (κ := false) (S := []) ?_))
 unfold K1
 rw [B9j r.st o now hk]
 have e : r6 r.st o.packet now = (r.st, ⟨9, 0, false, 0⟩) := by unfold r6; simp only; rw [if_pos hb]
 rw [e]
 obtain ⟨pa, pc, e1, _⟩ := hr.pv.form
 obtain ⟨ta, tc, e2, _⟩ := hr.tv.form
 obtain ⟨la, lc, e3, _⟩ := hr.lv.form
 obtain ⟨va, vc, rfl, _⟩ := hv.form
 have hsh := hr.sh
 have hfew := hr.few
 have ef : B1H o.packet r.c.sh = .agg #[.string W2, .int .i64 0, .bool false, .int .i64 9] := by unfold B1H; rw [if_pos hb]
 simp only [RmH.val, RmH.cs, OpV.val, e1, e2, e3]
 (have zz:=trivial;repeat((first|clear zz|with_reducible first|refine A3 ?_|refine A4 fun _=>?_|refine A5 fun _=>?_);try simp(disch:=first|omega|assumption|((repeat(first|exact A1|exact uH|apply A2|apply uT));first|done|fail)|(simp;first|done|omega|fail))[hk]))
 refine B8 A0f (fun w' hw' => B49 w' o.packet r.c.sh hpk (by omega)) ?_
 rw [ef]
 (have zz:=trivial;repeat((first|clear zz|with_reducible first|refine A3 ?_|refine A4 fun _=>?_|refine A5 fun _=>?_);try simp(disch:=first|omega|assumption|((repeat(first|exact A1|exact uH|apply A2|apply uT));first|done|fail)|(simp;first|done|omega|fail))[]))
 exact A9 rfl
theorem C17 (ts : List (Value × List EnV)) (pl : List Nat) (h : pl.length = ts.length) : y8 ((ts.map (·.2)).zip pl) = (ts.map fun t => E9 t.2 1).sum := by
 unfold y8
 have e : ((ts.map (·.2)).zip pl).map (fun t => E9 t.1 1) = (((ts.map (·.2)).zip pl).map Prod.fst).map fun l => E9 l 1 := by rw [List.map_map]; rfl
 rw [e, List.map_fst_zip (by simp [h]), List.map_map]; rfl
theorem C45 (l : List Nat) (i : Nat) (h : i < l.length) : (l.take (i + 1)).sum = (l.take i).sum + l[i] := by
 rw [List.take_add_one, List.getElem?_eq_getElem h, List.sum_append]; simp
theorem C7N (l : List Nat) (k : Nat) (h : ∀ x ∈ l, x ≤ k) : l.sum ≤ l.length * k := by
 induction l with
 | nil => simp
 | cons x l ih =>
  have h1 := ih fun y hy => h y (List.mem_cons_of_mem _ hy)
  have h2 := h x (List.mem_cons_self ..)
  rw [List.sum_cons, List.length_cons, Nat.add_mul]; omega
theorem C3F (hr : RmOk w r) (hv : D4 w v o.pool.length (o.pool.flatMap E7)) (hk : o.kind = 3) :
  Fn PR B7 39 #[r.val, o.val v, .int .i64 now] w (fun u w' => u = .tuple #[r.val, (M2 r.st o now).2.val] ∧ C6 [] w w') := by
 refine Fn.pure (M7 (TW.go (κ := false) (S := []) ?_))
 unfold K1
 rw [B9n r.st o now hk]
 unfold B1B
 have hlz : y8 r.st.tabs = (r.ts.map fun t => E9 t.2 1).sum := C17 r.ts r.pl hr.pl
 rw [hlz]
 have htab := hr.tab
 have hlen := hr.len
 have hfew := hr.few
 obtain ⟨pa, pc, e1, _⟩ := hr.pv.form
 obtain ⟨ta, tc, e2, htr⟩ := hr.tv.form
 obtain ⟨la, lc, e3, _⟩ := hr.lv.form
 obtain ⟨va, vc, rfl, _⟩ := hv.form
 obtain ⟨tb, tp, rfl, hrow⟩ := htr hr.pos
 simp only [RmH.val, RmH.cs, OpV.val, e1, e2, e3]
 (have zz:=trivial;repeat((first|clear zz|with_reducible first|refine A3 ?_|refine A4 fun _=>?_|refine A5 fun _=>?_);try simp(disch:=first|omega|assumption|((repeat(first|exact A1|exact uH|apply A2|apply uT));first|done|fail)|(simp;first|done|omega|fail))[hk]))
 rename_i b1 b2 b3 b4
 refine H4 (α := Unit) r.ts.length (fun i _ => .int .i64 (((r.ts.map fun t => E9 t.2 1).take i).sum : Nat)) (fun i _ => [.pt b4 (.cells #[.int .i64 0, .int .i64 0, .bool false, .int .i64 0] 44),
  .pt b3 (.cells #[.int .i64 0, .int .i64 0, .int .i64 0, .int .i64 0, .int .i64 0, .slice none 0 0, .slice none 0 0, .slice none 0 0] 68),
  .pt b2 (.cells #[.int .i64 3, .string o.packet, .slice va o.pool.length vc, .int .i64 o.shard] 52),
  .pt b1 (.cells #[.int .i64 r.c.wk, .int .i64 r.c.sh, .int .i64 r.c.cp, .int .i64 r.c.idle, .int .i64 r.c.sl, .slice pa r.pool.length pc, .slice (some ⟨tb, tp, none⟩) r.ts.length tc, .slice la r.pl.length lc] 68)]) (fun _ _ => True) () trivial ?_
 rintro i _ hi _ L hL
 have hle : ((r.ts.map fun t => E9 t.2 1).take i).sum ≤ 1000 * 1000000 := by
  have h1 := C7N ((r.ts.map fun t => E9 t.2 1).take i) 1000000 fun x hx => by
   obtain ⟨t, ht, rfl⟩ := List.mem_map.1 (List.mem_of_mem_take hx)
   have h2 := hlen t ht
   have h3 : E9 t.2 1 ≤ t.2.length := List.countP_le_length
   omega
  have h4 : ((r.ts.map fun t => E9 t.2 1).take i).length ≤ 1000 := by simp; omega
  exact Nat.le_trans h1 (Nat.mul_le_mul_right 1000000 h4)
 by_cases hlt : i < r.ts.length
 ·have hx : r.ts[i]? = some r.ts[i] := List.getElem?_eq_getElem hlt
  have hsum := C45 (r.ts.map fun t => E9 t.2 1) i (by simpa using hlt)
  rw [List.getElem_map] at hsum
  have h1 := hrow.get (i := i) (v := r.ts[i].1) (by rw [List.getElem?_map, hx]; rfl)
  have hmem := List.getElem_mem hlt
  have hxl := hlen _ hmem
  have hxt := htab _ hmem
  have hct : E9 r.ts[i].2 1 ≤ r.ts[i].2.length := List.countP_le_length
  have h := hL hlt () trivial
  rw [hsum] at h
  generalize r.ts[i] = x at *
  generalize ((r.ts.map fun t => E9 t.2 1).take i).sum = q at *
  (have zz:=trivial;repeat((first|clear zz|with_reducible first|refine A3 ?_|refine A4 fun _=>?_|refine A5 fun _=>?_);try simp(disch:=first|omega|assumption|((repeat(first|exact A1|exact uH|apply A2|apply uT));first|done|fail)|(simp;first|done|omega|fail))[hlt, h1]))
  refine B8 A0D (fun w' hw' => B3Y w' _ x.2 1 hxl (hxt.ks hw'.ks (by simp))) ?_
  (have zz:=trivial;repeat((first|clear zz|with_reducible first|refine A3 ?_|refine A4 fun _=>?_|refine A5 fun _=>?_);try simp(disch:=first|omega|assumption|((repeat(first|exact A1|exact uH|apply A2|apply uT));first|done|fail)|(simp;first|done|omega|fail))[]))
  rw [show (((q + E9 x.2 1 : Nat)) : Int) = (q : Int) + (E9 x.2 1 : Nat) by omega] at h
  exact Sels.tw (by (repeat' constructor)) h
 ·obtain rfl : i = r.ts.length := by omega
  have e : ((r.ts.map fun t => E9 t.2 1).take r.ts.length).sum = (r.ts.map fun t => E9 t.2 1).sum := by rw [List.take_of_length_le (by simp)]
  rw [e]
  (have zz:=trivial;repeat((first|clear zz|with_reducible first|refine A3 ?_|refine A4 fun _=>?_|refine A5 fun _=>?_);try simp(disch:=first|omega|assumption|((repeat(first|exact A1|exact uH|apply A2|apply uT));first|done|fail)|(simp;first|done|omega|fail))[]))
  exact A9 (by simp [AnsV.val])
theorem C7x (hr : RmOk w r) : r.st.tabs.length = r.ts.length := by have := hr.pl; simp [RmH.st, this]
theorem C4V (hr : RmOk w r) (hv : D4 w v o.pool.length (o.pool.flatMap E7)) (hk : o.kind = 2) (hb : o.shard < 0 ∨ r.c.sh ≤ o.shard) :
  Fn PR B7 39 #[r.val, o.val v, .int .i64 now] w (fun u w' => u = .tuple #[r.val, (M2 r.st o now).2.val] ∧ C6 [] w w') := by
 refine Fn.pure (M7 (TW.go (κ := false) (S := []) ?_))
 unfold K1
 rw [C26 r.st o now hk]
 have e : A11 r.st o.shard now = (r.st, ⟨1, 0, false, 0⟩) := by unfold A11; rw [if_pos (by rw [C7x w r hr, ← hr.sh]; exact hb)]
 rw [e]
 obtain ⟨pa, pc, e1, _⟩ := hr.pv.form
 obtain ⟨ta, tc, e2, _⟩ := hr.tv.form
 obtain ⟨la, lc, e3, _⟩ := hr.lv.form
 obtain ⟨va, vc, rfl, _⟩ := hv.form
 simp only [RmH.val, RmH.cs, OpV.val, e1, e2, e3]
 by_cases c1 : o.shard < 0
 ·(have zz:=trivial;repeat((first|clear zz|with_reducible first|refine A3 ?_|refine A4 fun _=>?_|refine A5 fun _=>?_);try simp(disch:=first|omega|assumption|((repeat(first|exact A1|exact uH|apply A2|apply uT));first|done|fail)|(simp;first|done|omega|fail))[hk, c1]))
  exact A9 rfl
 ·have c2 : r.c.sh ≤ o.shard := by omega
  (have zz:=trivial;repeat((first|clear zz|with_reducible first|refine A3 ?_|refine A4 fun _=>?_|refine A5 fun _=>?_);try simp(disch:=first|omega|assumption|((repeat(first|exact A1|exact uH|apply A2|apply uT));first|done|fail)|(simp;first|done|omega|fail))[hk, c1, c2]))
  exact A9 rfl
theorem B8N {l : List EnV} {f n now : Int} (h : (D9 l f n now).2.2 = 0) : (D9 l f n now).1 = l := by
 unfold D9 at h ⊢
 simp only at h ⊢
 rw [if_neg (by omega)]
 exact B1r l _ _ now h
theorem C53 {κ : Bool} {S : List Nat} {w0 : World} {H : List Res} {K0 : WP} {c : Prop} [Decidable c] {y x : Value} {l : List EnV} (hx : ∃ a n c, x = Value.slice a n c)
  (h : (∃ a n d, (if c then x else y) = Value.slice a n d) → TW κ S w0 (P1 (if c then [] else [(y, l)]) :: H) K0) : TW κ S w0 ((if c then [] else [E8 y l]) ++ H) K0 := by
 by_cases hc : c
 ·simp only [if_pos hc] at h ⊢
  exact A28 (h hx)
 ·simp only [if_neg hc] at h ⊢
  refine Y3 (e := 119) (k := 4) (v := y) (q := l.length) (xs := l.flatMap D5) A1 fun a d e => ?_
  refine A28 ?_
  exact A6H (r := y) (l := l) (ts := []) (Hk := H) (Part.cons (.there .here) (Part.cons .here Part.nil)) (h ⟨a, _, d, e⟩)
theorem C3z (hr : RmOk w r) (hv : D4 w v o.pool.length (o.pool.flatMap E7)) (hk : o.kind = 2) (i : Nat) (hi : o.shard = i) (hb : i < r.ts.length) (x : Value × List EnV) (hx : r.ts[i]? = some x) (pn : Nat) (hpn : r.pl[i]? = some pn) (hsw : (D9 x.2 pn 4 now).2.1 ≤ 1000000) :
  Fn PR B7 39 #[r.val, o.val v, .int .i64 now] w (Rn [] w (fun (y : Value × Value × Value) u => u = .tuple #[RmH.val { r with tv := y.1, lv := y.2.1 }, AnsV.val ⟨0, 0, false, ((D9 x.2 pn 4 now).2.2 : Nat)⟩])
   fun y => [.own 79 1 y.1 r.ts.length ((r.ts.map (·.1)).set i (if (D9 x.2 pn 4 now).2.2 = 0 then x.1 else y.2.2)), .own 3 1 y.2.1 r.pl.length (g5 (r.pl.set i (D9 x.2 pn 4 now).2.1)), P1 (if (D9 x.2 pn 4 now).2.2 = 0 then [] else [(y.2.2, (D9 x.2 pn 4 now).1)])]) := by
 refine M7 (TW.go (κ := false) (S := []) ?_)
 unfold K1
 have hsh := hr.sh
 have hfew := hr.few
 have hpl := hr.pl
 have hmem := List.mem_of_getElem? hx
 have hlv := hr.lv
 have hxt := hr.tab x hmem
 have hxk := hr.keys x hmem
 have hxl := hr.len x hmem
 have htv := hr.tv
 have hforms : ∀ y ∈ r.ts.map (·.1), ∃ a n c, y = Value.slice a n c := fun y hy => by
  obtain ⟨t, ht, rfl⟩ := List.mem_map.1 hy
  obtain ⟨a, c, e, _⟩ := (hr.tab t ht).form
  exact ⟨a, _, c, e⟩
 obtain ⟨pa, pc, e1, _⟩ := hr.pv.form
 obtain ⟨ta, tc, e2, htr⟩ := hr.tv.form
 obtain ⟨la, lc, e3, hlr⟩ := hr.lv.form
 obtain ⟨va, vc, rfl, _⟩ := hv.form
 obtain ⟨tb, tp, rfl, hrow⟩ := htr hr.pos
 obtain ⟨lb, lp, rfl, hrow2⟩ := hlr (by omega)
 have h1 := hrow.get (i := i) (v := x.1) (by rw [List.getElem?_map, hx]; rfl)
 have h2 := hrow2.get (i := i) (v := .int .i64 (pn : Int)) (by unfold g5; rw [List.getElem?_map, hpn]; rfl)
 rw [e2] at htv
 rw [e3] at hlv
 simp only [RmH.val, RmH.cs, OpV.val, e1, e2, e3]
 have c1 : ¬ ((i : Nat) : Int) < 0 := by omega
 have c2 : ¬ r.c.sh ≤ ((i : Nat) : Int) := by omega
 have c3 : i < r.pl.length := by omega
 (have zz:=trivial;repeat((first|clear zz|with_reducible first|refine A3 ?_|refine A4 fun _=>?_|refine A5 fun _=>?_);try simp(disch:=first|omega|assumption|((repeat(first|exact A1|exact uH|apply A2|apply uT));first|done|fail)|(simp;first|done|omega|fail))[hk, hi, c1, c2, h1, h2, hb, c3]))
 rename_i b1 b2 b3 b4
 refine F3 A5k (fun w' hw' => C2e w' x.1 x.2 pn 4 now hxk hxl (hxt.ks hw'.ks (by simp))) ?_
 intro y u hu
 subst hu
 generalize D9 x.2 pn 4 now = sw at *
 obtain ⟨s1, s2, s3⟩ := sw
 simp only at hsw ⊢
 refine C53 (hforms _ (List.mem_map.2 ⟨x, hmem, rfl⟩)) ?_
 generalize hnts : (if s3 = 0 then [] else [(y, s1)]) = nts
 generalize htt : (if s3 = 0 then x.1 else y) = tt
 rintro ⟨a', n', c', rfl⟩
 have hlp0 := hlv
 have hil : (g5 r.pl).length = r.pl.length := by simp [g5]
 have hil2 : (g5 r.pl).all plain = true := by rw [List.all_eq_true]; intro z hz; obtain ⟨q, _, rfl⟩ := List.mem_map.1 hz; rfl
 (have zz:=trivial;repeat((first|clear zz|with_reducible first|refine A3 ?_|refine A4 fun _=>?_|refine A5 fun _=>?_|refine E2 fun _=>?_|refine E5 (hK:=fun _=>?_)|refine E6 (hK:=fun _=>?_)|refine E3 (hK:=fun _=>?_)|refine E1 (hK:=fun _=>?_)|refine E4 (hK:=fun _=>?_));try simp(disch:=first|omega|assumption|((repeat(first|exact A1|exact uH|apply A2|apply uT));first|done|fail)|(simp;first|done|omega|fail))[]))
 refine V6 (e := 3) (k := 1) (q := 0) (r := r.pl.length) (xs := []) (news := g5 r.pl) (by (repeat constructor)) (fun w' hw' => hlv.ks hw'.ks (by simp)) (by decide) (by rw [hil]; omega) hil2 (by simp only [maxLen]; omega) (by omega) fun na nc => ?_
 rw [Nat.zero_add, List.nil_append]
 refine A1n (e := 3) (k := 1) (v := .slice na r.pl.length nc) (q := r.pl.length) (xs := g5 r.pl) (by (repeat constructor)) (by omega) fun g gc hg => ?_
 cases hg
 (have zz:=trivial;repeat((first|clear zz|with_reducible first|refine A3 ?_|refine A4 fun _=>?_|refine A5 fun _=>?_);try simp(disch:=first|omega|assumption|((repeat(first|exact A1|exact uH|apply A2|apply uT));first|done|fail)|(simp;first|done|omega|fail))[c3]))
 refine d9 (n := 1) (by (repeat constructor)) rfl (by rw [hil]; omega) rfl ?_
 have hset : A0H (g5 r.pl) i [.int .i64 (s2 : Int)] = g5 (r.pl.set i s2) := by
  rw [B2L (by rw [hil]; exact c3), g5, g5, List.map_set]
 have ev : (Value.int IntKind.i64 (s2 : Int)).cells.toList = [.int .i64 (s2 : Int)] := rfl
 rw [ev, hset]
 (have zz:=trivial;repeat((first|clear zz|with_reducible first|refine A3 ?_|refine A4 fun _=>?_|refine A5 fun _=>?_);try simp(disch:=first|omega|assumption|((repeat(first|exact A1|exact uH|apply A2|apply uT));first|done|fail)|(simp;first|done|omega|fail))[]))
 refine F3 m4 (fun w' hw' => B5D w' r.c (.slice pa r.pool.length pc) (.slice (some ⟨tb, tp, none⟩) r.ts.length tc) (.slice (some ⟨g, 0, none⟩) r.pl.length nc) (.slice a' n' c') (r.ts.map (·.1)) i (by simpa using hfew) ⟨_, _, _, rfl⟩ ⟨_, _, _, rfl⟩ ⟨_, _, _, rfl⟩ hforms (by simpa using htv.ks hw'.ks (by simp))) ?_
 intro z u hz
 subst hz
 refine Y3 (e := 79) (k := 1) (v := z) (q := (r.ts.map (·.1)).length) (xs := (r.ts.map (·.1)).set i (.slice a' n' c')) (by (repeat constructor)) fun za zc hz => ?_
 subst hz
 (have zz:=trivial;repeat((first|clear zz|with_reducible first|refine A3 ?_|refine A4 fun _=>?_|refine A5 fun _=>?_);try simp(disch:=first|omega|assumption|((repeat(first|exact A1|exact uH|apply A2|apply uT));first|done|fail)|(simp;first|done|omega|fail))[]))
 refine C0 (.slice za (r.ts.map (·.1)).length zc, .slice (some ⟨g, 0, none⟩) r.pl.length nc, y) (by simp [AnsV.val]) ?_
 simp only [hnts, htt, List.length_map]
 (repeat' constructor)
theorem B6j {κ : Bool} {S : List Nat} {w0 : World} {H : List Res} {K0 : WP} {c : Prop} [Decidable c] {y x : Value} {l : List EnV} (hx : ∃ a n c, x = Value.slice a n c)
  (h : (∃ a n d, (if c then y else x) = Value.slice a n d) → TW κ S w0 (P1 (if c then [(y, l)] else []) :: H) K0) : TW κ S w0 ((if c then [E8 y l] else []) ++ H) K0 := by
 by_cases hc : c
 ·simp only [if_pos hc] at h ⊢
  refine Y3 (e := 119) (k := 4) (v := y) (q := l.length) (xs := l.flatMap D5) A1 fun a d e => ?_
  refine A28 ?_
  exact A6H (r := y) (l := l) (ts := []) (Hk := H) (Part.cons (.there .here) (Part.cons .here Part.nil)) (h ⟨a, _, d, e⟩)
 ·simp only [if_neg hc] at h ⊢
  exact A28 (h hx)
theorem C6Q (hr : RmOk w r) (hv : D4 w v o.pool.length (o.pool.flatMap E7)) (hpk : o.packet.size < 2 ^ 40) (hk : o.kind = 0) (hb : (C9 o.packet).2.2 = 0) (key : ByteArray) (cl : Bool) (hkey : A32 (C9 o.packet).1 = key) (hcl : T8 (C9 o.packet).1 (C9 o.packet).2.1 = cl) (i : Nat) (hi : N6 key r.c.sh = i)
  (x : Value × List EnV) (hx : r.ts[i]? = some x) (dv : List EnV × AnsV × Bool) (hdv : D6 x.2 r.pool key cl now r.c.idle = dv) :
  Fn PR B7 39 #[r.val, o.val v, .int .i64 now] w (Rn [] w (fun (y : Value × Value) u => u = .tuple #[RmH.val { r with tv := y.1 }, dv.2.1.val])
   fun y => [.own 79 1 y.1 r.ts.length ((r.ts.map (·.1)).set i (if dv.2.2 then y.2 else x.1)), P1 (if dv.2.2 then [(y.2, dv.1)] else [])]) := by
 refine M7 (TW.go (κ := false) (S := []) ?_)
 unfold K1
 have hsh := hr.sh
 have hfew := hr.few
 have hmem := List.mem_of_getElem? hx
 have hxt := hr.tab x hmem
 have hxk := hr.keys x hmem
 have hxl := hr.len x hmem
 have htv := hr.tv
 have hpv := hr.pv
 have hpool := hr.pool
 have hkey60 := A6k (C9 o.packet).1
 rw [hkey] at hkey60
 have hil : i < r.ts.length := (List.getElem?_eq_some_iff.1 hx).1
 have hforms : ∀ y ∈ r.ts.map (·.1), ∃ a n c, y = Value.slice a n c := fun y hy => by
  obtain ⟨t, ht, rfl⟩ := List.mem_map.1 hy
  obtain ⟨a, c, e, _⟩ := (hr.tab t ht).form
  exact ⟨a, _, c, e⟩
 obtain ⟨pa, pc, e1, _⟩ := hr.pv.form
 obtain ⟨ta, tc, e2, htr⟩ := hr.tv.form
 obtain ⟨la, lc, e3, hlr⟩ := hr.lv.form
 obtain ⟨va, vc, rfl, _⟩ := hv.form
 obtain ⟨tb, tp, rfl, hrow⟩ := htr hr.pos
 have h1 := hrow.get (i := i) (v := x.1) (by rw [List.getElem?_map, hx]; rfl)
 have hD := fun (w' : World) h1 h2 => B84 w' x.1 (.slice pa r.pool.length pc) x.2 r.pool key cl now r.c.idle hkey60 hxk hxl hpool h1 h2
 rw [hdv] at hD
 obtain ⟨d1, ⟨a1, a2, a3, a4⟩, d3⟩ := dv
 have ef : B1H o.packet r.c.sh = .agg #[.string key, .int .i64 (i : Nat), .bool cl, .int .i64 0] := by unfold B1H; rw [if_neg (by simp [hb]), hkey, hcl, hi]
 rw [e2] at htv
 rw [e1] at hpv
 simp only [RmH.val, RmH.cs, OpV.val, e1, e2, e3]
 (have zz:=trivial;repeat((first|clear zz|with_reducible first|refine A3 ?_|refine A4 fun _=>?_|refine A5 fun _=>?_);try simp(disch:=first|omega|assumption|((repeat(first|exact A1|exact uH|apply A2|apply uT));first|done|fail)|(simp;first|done|omega|fail))[hk]))
 refine B8 A0f (fun w' hw' => B49 w' o.packet r.c.sh hpk (by omega)) ?_
 rw [ef]
 (have zz:=trivial;repeat((first|clear zz|with_reducible first|refine A3 ?_|refine A4 fun _=>?_|refine A5 fun _=>?_);try simp(disch:=first|omega|assumption|((repeat(first|exact A1|exact uH|apply A2|apply uT));first|done|fail)|(simp;first|done|omega|fail))[h1, hil]))
 rename_i b1 b2 b3 b4 b5
 simp only at hD
 have hx1 := hforms _ (List.mem_map.2 ⟨x, hmem, rfl⟩)
 refine B3s (α := Nat × Value) (fun y => ∃ a n c, (if d3 = true then y.2 else x.1) = Value.slice a n c) (fun y => [.pt y.1 (.cells #[.int .i64 a1, .int .i64 a2, .bool a3, .int .i64 a4] 44), P1 (if d3 = true then [(y.2, d1)] else []),
  .pt b5 (.cells #[.string key, .int .i64 (i : Nat), .bool cl, .int .i64 0] 95), .pt b4 (.cells #[.int .i64 0, .int .i64 0, .bool false, .int .i64 0] 44),
  .pt b3 (.cells #[.int .i64 0, .int .i64 0, .int .i64 0, .int .i64 0, .int .i64 0, .slice none 0 0, .slice none 0 0, .slice none 0 0] 68),
  .pt b1 (.cells #[.int .i64 r.c.wk, .int .i64 r.c.sh, .int .i64 r.c.cp, .int .i64 r.c.idle, .int .i64 r.c.sl, .slice pa r.pool.length pc, .slice (some ⟨tb, tp, none⟩) r.ts.length tc, .slice la r.pl.length lc] 68)])
  (fun y => .pointer (some ⟨y.1, 0, none⟩)) (fun y => if d3 = true then y.2 else x.1) ?_ ?_
 ·rintro ⟨ba, y⟩ ⟨ta', tn', tc', hy⟩
  simp only at hy ⊢
  rw [hy]
  (have zz:=trivial;repeat((first|clear zz|with_reducible first|refine A3 ?_|refine A4 fun _=>?_|refine A5 fun _=>?_);try simp(disch:=first|omega|assumption|((repeat(first|exact A1|exact uH|apply A2|apply uT));first|done|fail)|(simp;first|done|omega|fail))[]))
  refine F3 m4 (fun w' hw' => B5D w' r.c (.slice pa r.pool.length pc) (.slice (some ⟨tb, tp, none⟩) r.ts.length tc) (.slice la r.pl.length lc) (.slice ta' tn' tc') (r.ts.map (·.1)) i (by simpa using hfew) ⟨_, _, _, rfl⟩ ⟨_, _, _, rfl⟩ ⟨_, _, _, rfl⟩ hforms (by simpa using htv.ks hw'.ks (by simp))) ?_
  intro z u hz
  subst hz
  refine Y3 (e := 79) (k := 1) (v := z) (q := (r.ts.map (·.1)).length) (xs := (r.ts.map (·.1)).set i (.slice ta' tn' tc')) (by (repeat constructor)) fun za zc hz => ?_
  subst hz
  rw [M1 (by (repeat constructor)) (by rfl)]
  (have zz:=trivial;repeat((first|clear zz|with_reducible first|refine A3 ?_|refine A4 fun _=>?_|refine A5 fun _=>?_);try simp(disch:=first|omega|assumption|((repeat(first|exact A1|exact uH|apply A2|apply uT));first|done|fail)|(simp;first|done|omega|fail))[]))
  rw [M1 (by (repeat constructor)) (by rfl)]
  (have zz:=trivial;repeat((first|clear zz|with_reducible first|refine A3 ?_|refine A4 fun _=>?_|refine A5 fun _=>?_);try simp(disch:=first|omega|assumption|((repeat(first|exact A1|exact uH|apply A2|apply uT));first|done|fail)|(simp;first|done|omega|fail))[]))
  refine C0 (.slice za (r.ts.map (·.1)).length zc, y) (by simp [AnsV.val]) ?_
  simp only [hy, List.length_map]
  (repeat' constructor)
 ·intro J hJ
  (have zz:=trivial;repeat((first|clear zz|with_reducible first|refine A3 ?_|refine A4 fun _=>?_|refine A5 fun _=>?_);try simp(disch:=first|omega|assumption|((repeat(first|exact A1|exact uH|apply A2|apply uT));first|done|fail)|(simp;first|done|omega|fail))[h1, hil]))
  refine ⟨?_, ?_⟩
  ·refine F3 x7 (fun w' hw' => hD w' (hxt.ks hw'.ks (by simp)) (hpv.ks hw'.ks (by simp))) ?_
   intro y u hu
   subst hu
   refine B6j hx1 fun hy => ?_
   have hJ' := fun bx => hJ (bx, y) hy
   simp only at hJ'
   generalize (if d3 = true then y else x.1) = tt at *
   generalize (if d3 = true then [(y, d1)] else []) = nts at *
   (have zz:=trivial;repeat((first|clear zz|with_reducible first|refine A3 ?_|refine A4 fun _=>?_|refine A5 fun _=>?_);try simp(disch:=first|omega|assumption|((repeat(first|exact A1|exact uH|apply A2|apply uT));first|done|fail)|(simp;first|done|omega|fail))[AnsV.val]))
   rename_i bx
   exact Sels.tw (by (repeat' constructor)) (hJ' bx)
  ·refine ⟨?_, fun _ _ => trivial⟩
   (have zz:=trivial;repeat((first|clear zz|with_reducible first|refine A3 ?_|refine A4 fun _=>?_|refine A5 fun _=>?_);try simp(disch:=first|omega|assumption|((repeat(first|exact A1|exact uH|apply A2|apply uT));first|done|fail)|(simp;first|done|omega|fail))[h1, hil]))
   rename_i bx
   refine F3 x7 (fun w' hw' => hD w' (hxt.ks hw'.ks (by simp)) (hpv.ks hw'.ks (by simp))) ?_
   intro y u hu
   subst hu
   refine B6j hx1 fun hy => ?_
   have hJ' := hJ (bx, y) hy
   simp only at hJ'
   generalize (if d3 = true then y else x.1) = tt at *
   generalize (if d3 = true then [(y, d1)] else []) = nts at *
   (have zz:=trivial;repeat((first|clear zz|with_reducible first|refine A3 ?_|refine A4 fun _=>?_|refine A5 fun _=>?_);try simp(disch:=first|omega|assumption|((repeat(first|exact A1|exact uH|apply A2|apply uT));first|done|fail)|(simp;first|done|omega|fail))[AnsV.val]))
   exact Sels.tw (by (repeat' constructor)) hJ'
end
end Go.Proofs.YtlplkjgcfjdinaaGreat
namespace Go.Proofs.YtlplkjgcfjdinaaGreat
open Go
def A05 (r : RmH) : List Res := [.own 79 1 r.tv r.ts.length (r.ts.map (·.1)), .own 3 1 r.lv r.pl.length (g5 r.pl), P1 r.ts]
theorem B9e (n : Nat) : (Builtin.zeroCells (Value.int .i64 0).cells n).toList = g5 (List.replicate n 0) := by
 have hz : (Builtin.zeroCells (Value.int .i64 0).cells n).toList.length = n := by simp [size_zeroCells]
 apply List.ext_getElem (by rw [hz]; simp [g5])
 intro i h1 h2
 simp [Builtin.zeroCells, g5, Nat.mod_one]
theorem C4d (w : World) (c : CfgV) (hok : W9 c = true) : Fn PR B7 27 #[c.val] w (Rn [] w (fun (y : RmH) u => u = y.val ∧ y.c = c ∧ y.pool = [] ∧ y.pv = .slice none 0 0 ∧ y.ts.map (·.2) = List.replicate c.sh.toNat (newE c.cp.toNat) ∧ y.pl = List.replicate c.sh.toNat 0) A05) := by
 refine A7w (TW.go (κ := false) (S := []) ?_)
 unfold A18
 simp only [CfgV.val]
 have hb : 1 ≤ c.sh ∧ c.sh ≤ 16 ∧ 1 ≤ c.cp ∧ c.cp ≤ 64 := by
  simp [W9, W6] at hok; omega
 obtain ⟨n, hn⟩ : ∃ n : Nat, c.sh = n := ⟨c.sh.toNat, by omega⟩
 obtain ⟨k, hk⟩ : ∃ k : Nat, c.cp = k := ⟨c.cp.toNat, by omega⟩
 rw [hn] at hb
 rw [hk] at hb
 rw [hn, hk]
 (have zz:=trivial;repeat((first|clear zz|with_reducible first|refine A3 ?_|refine A4 fun _=>?_|refine A5 fun _=>?_);try simp(disch:=first|omega|assumption|((repeat(first|exact A1|exact uH|apply A2|apply uT));first|done|fail)|(simp;first|done|omega|fail))[]))
 rename_i b1 b2
 refine C5Z (α := Nat × Nat) (fun _ => True) (fun y => [.pt y.1 (.cells #[.int .i64 c.wk, .int .i64 n, .int .i64 k, .int .i64 c.idle, .int .i64 c.sl, .slice none 0 0, .slice none 0 0, .slice (some ⟨y.2, 0, none⟩) n n] 68), .own 3 1 (.slice (some ⟨y.2, 0, none⟩) n n) n (g5 (List.replicate n 0)),
  .pt b2 (.cells #[.int .i64 0, .int .i64 0, .int .i64 0, .int .i64 0, .int .i64 0, .slice none 0 0, .slice none 0 0, .slice none 0 0] 68),
  .pt b1 (.cells #[.int .i64 c.wk, .int .i64 n, .int .i64 k, .int .i64 c.idle, .int .i64 c.sl] 23)]) (fun y => .pointer (some ⟨y.1, 0, none⟩)) ?_ ?_
 ·rintro ⟨bm, bs⟩ _
  simp only
  (have zz:=trivial;repeat((first|clear zz|with_reducible first|refine A3 ?_|refine A4 fun _=>?_|refine A5 fun _=>?_);try simp(disch:=first|omega|assumption|((repeat(first|exact A1|exact uH|apply A2|apply uT));first|done|fail)|(simp;first|done|omega|fail))[]))
  refine A28 ?_
  refine r4 79 1 ?_
  refine B4H n (fun i (y : List (Value × List EnV) × Option Addr × Nat) => [.own 79 1 (.slice y.2.1 i y.2.2) i (y.1.map (·.1)), P1 y.1,
   .pt bm (.cells #[.int .i64 c.wk, .int .i64 n, .int .i64 k, .int .i64 c.idle, .int .i64 c.sl, .slice none 0 0, .slice y.2.1 i y.2.2, .slice (some ⟨bs, 0, none⟩) n n] 68), .own 3 1 (.slice (some ⟨bs, 0, none⟩) n n) n (g5 (List.replicate n 0)),
   .pt b2 (.cells #[.int .i64 0, .int .i64 0, .int .i64 0, .int .i64 0, .int .i64 0, .slice none 0 0, .slice none 0 0, .slice none 0 0] 68),
   .pt b1 (.cells #[.int .i64 c.wk, .int .i64 n, .int .i64 k, .int .i64 c.idle, .int .i64 c.sl] 23)]) (fun i y => y.1.length = i ∧ y.1.map (·.2) = List.replicate i (newE k)) ([], none, 0) ⟨rfl, rfl⟩ ?_
  rintro i ⟨ts, ya, yc⟩ hi ⟨hlen, hmap⟩ L hL
  simp only at hlen hmap ⊢
  by_cases hlt : i < n
  ·(have zz:=trivial;repeat((first|clear zz|with_reducible first|refine A3 ?_|refine A4 fun _=>?_|refine A5 fun _=>?_);try simp(disch:=first|omega|assumption|((repeat(first|exact A1|exact uH|apply A2|apply uT));first|done|fail)|(simp;first|done|omega|fail))[hlt]))
   refine F3 A1U (fun w' _ => B7T w' k (by omega)) ?_
   intro y u hu
   subst hu
   refine Y3 (e := 119) (k := 4) (v := u) (q := (newE k).length) (xs := (newE k).flatMap D5) (by (repeat constructor)) fun ua uc hu => ?_
   subst hu
   (have zz:=trivial;repeat((first|clear zz|with_reducible first|refine A3 ?_|refine A4 fun _=>?_|refine A5 fun _=>?_|refine E2 fun _=>?_|refine E5 (hK:=fun _=>?_)|refine E6 (hK:=fun _=>?_)|refine E3 (hK:=fun _=>?_)|refine E1 (hK:=fun _=>?_)|refine E4 (hK:=fun _=>?_));try simp(disch:=first|omega|assumption|((repeat(first|exact A1|exact uH|apply A2|apply uT));first|done|fail)|(simp;first|done|omega|fail))[hlt]))
   refine V6 (e := 79) (k := 1) (q := i) (r := 1) (xs := ts.map (·.1)) (news := [.slice ua (newE k).length uc]) (by (repeat constructor)) (G0.own (by (repeat constructor))) (by decide) rfl (by simp) (by simp only [maxLen]; omega) (by omega) fun a' c' => ?_
   (have zz:=trivial;repeat((first|clear zz|with_reducible first|refine A3 ?_|refine A4 fun _=>?_|refine A5 fun _=>?_);try simp(disch:=first|omega|assumption|((repeat(first|exact A1|exact uH|apply A2|apply uT));first|done|fail)|(simp;first|done|omega|fail))[]))
   refine A6H (r := .slice ua (newE k).length uc) (l := newE k) (ts := ts) (by (repeat' constructor)) ?_
   have h := hL hlt (ts ++ [(.slice ua (newE k).length uc, newE k)], a', c') ⟨by simp [hlen], by rw [List.map_append, hmap, List.replicate_succ']; rfl⟩
   simp only [List.map_append, List.map_cons, List.map_nil] at h
   exact Sels.tw (by (repeat' constructor)) h
  ·obtain rfl : i = n := by omega
   (have zz:=trivial;repeat((first|clear zz|with_reducible first|refine A3 ?_|refine A4 fun _=>?_|refine A5 fun _=>?_);try simp(disch:=first|omega|assumption|((repeat(first|exact A1|exact uH|apply A2|apply uT));first|done|fail)|(simp;first|done|omega|fail))[]))
   refine C0 ⟨.slice none 0 0, .slice ya i yc, .slice (some ⟨bs, 0, none⟩) i i, c, [], ts, List.replicate i 0⟩ ⟨by simp [RmH.val, RmH.cs, hn, hk], rfl, rfl, rfl, by simpa using hmap, by simp⟩ ?_
   simp only [A05, hlen, List.length_replicate]
   (repeat' constructor)
 ·intro J hJ
  (have zz:=trivial;repeat((first|clear zz|with_reducible first|refine A3 ?_|refine A4 fun _=>?_|refine A5 fun _=>?_);try simp(disch:=first|omega|assumption|((repeat(first|exact A1|exact uH|apply A2|apply uT));first|done|fail)|(simp;first|done|omega|fail))[]))
  refine ⟨?_, ?_⟩
  ·refine B4F (by omega) (by omega) (by omega) (by omega) fun bs => ?_
   rw [Int.toNat_natCast, B9e, M1 (by (repeat constructor)) (by rfl)]
   (have zz:=trivial;repeat((first|clear zz|with_reducible first|refine A3 ?_|refine A4 fun _=>?_|refine A5 fun _=>?_);try simp(disch:=first|omega|assumption|((repeat(first|exact A1|exact uH|apply A2|apply uT));first|done|fail)|(simp;first|done|omega|fail))[]))
   rename_i bm
   rw [M1 (by (repeat constructor)) (by rfl)]
   (have zz:=trivial;repeat((first|clear zz|with_reducible first|refine A3 ?_|refine A4 fun _=>?_|refine A5 fun _=>?_);try simp(disch:=first|omega|assumption|((repeat(first|exact A1|exact uH|apply A2|apply uT));first|done|fail)|(simp;first|done|omega|fail))[]))
   exact Sels.tw (by (repeat' constructor)) (hJ (bm, bs) trivial)
  ·refine ⟨?_, fun _ _ => trivial⟩
   (have zz:=trivial;repeat((first|clear zz|with_reducible first|refine A3 ?_|refine A4 fun _=>?_|refine A5 fun _=>?_);try simp(disch:=first|omega|assumption|((repeat(first|exact A1|exact uH|apply A2|apply uT));first|done|fail)|(simp;first|done|omega|fail))[]))
   rename_i bm
   rw [M1 (by (repeat constructor)) (by rfl)]
   (have zz:=trivial;repeat((first|clear zz|with_reducible first|refine A3 ?_|refine A4 fun _=>?_|refine A5 fun _=>?_);try simp(disch:=first|omega|assumption|((repeat(first|exact A1|exact uH|apply A2|apply uT));first|done|fail)|(simp;first|done|omega|fail))[]))
   refine B4F (by omega) (by omega) (by omega) (by omega) fun bs => ?_
   rw [Int.toNat_natCast, B9e, M1 (by (repeat constructor)) (by rfl)]
   (have zz:=trivial;repeat((first|clear zz|with_reducible first|refine A3 ?_|refine A4 fun _=>?_|refine A5 fun _=>?_);try simp(disch:=first|omega|assumption|((repeat(first|exact A1|exact uH|apply A2|apply uT));first|done|fail)|(simp;first|done|omega|fail))[]))
   exact Sels.tw (by (repeat' constructor)) (hJ (bm, bs) trivial)
end Go.Proofs.YtlplkjgcfjdinaaGreat
namespace Go.Proofs.YtlplkjgcfjdinaaGreat
open Go
theorem B9Q {α β : Type} (A : List α) : ∀ (B : List β) (i : Nat) (a : α) (b : β), (A.set i a).zip (B.set i b) = (A.zip B).set i (a, b) := by
 induction A with
 | nil => intro B i a b; simp
 | cons x A ih =>
  intro B i a b
  cases B with
  | nil => simp
  | cons y B => cases i with
   | zero => simp
   | succ i => simp [ih]
theorem B8Q {α : Type} {l : List α} {i : Nat} {a : α} (h : l[i]? = some a) : l.set i a = l := by
 obtain ⟨h1, rfl⟩ := List.getElem?_eq_some_iff.1 h
 exact List.set_getElem_self h1
theorem C2y {p : List G2} (h : N8 p = 0) : p.length ≤ 1000 := by
 unfold N8 at h
 by_cases hc : p.length ≤ 32
 ·omega
 ·simp [hc] at h
theorem B8f (l : List EnV) (f n now : Int) (hn : l.length ≤ 1000000) : (D9 l f n now).2.1 ≤ 1000000 := by
 unfold D9
 simp only
 split
 ·have := Nat.mod_lt (F8 l f + Q6 l n) (show l.length > 0 by assumption); omega
 ·unfold F8; split <;> omega
section
variable {w0 : World} {H Hk : List Res} {K : Value → WP} {K0 : WP}
theorem C4c {κ : Bool} {S : List Nat} {ts nts ts' : List (Value × List EnV)} (hp : Part [P1 nts, P1 ts] H Hk) (hs : ∀ t ∈ ts', t ∈ nts ∨ t ∈ ts) (h : TW κ S w0 (P1 ts' :: Hk) K0) : TW κ S w0 H K0 := by
 refine A8u (r := P1 ts') hp (fun w hh => (fun t ht => ?_ : A5H ts' w)) (fun b hb => ?_) h
 ·rcases hs t ht with ht | ht
  ·exact (hh (P1 nts) (List.mem_cons_self ..) : A5H nts w) t ht
  ·exact (hh (P1 ts) (List.mem_cons_of_mem _ (List.mem_cons_self ..)) : A5H ts w) t ht
 ·have hb' : b ∈ A0F ts' := hb
  rw [A0F, List.mem_flatMap] at hb'
  obtain ⟨t, ht, hbt⟩ := hb'
  rcases hs t ht with ht | ht
  ·exact N5.2 ⟨P1 nts, by simp, by show b ∈ A0F nts; rw [A0F, List.mem_flatMap]; exact ⟨t, ht, hbt⟩⟩
  ·exact N5.2 ⟨P1 ts, by simp, by show b ∈ A0F ts; rw [A0F, List.mem_flatMap]; exact ⟨t, ht, hbt⟩⟩
theorem C10 {r : RmH} (hpl : r.pl.length = r.ts.length) {t : Value × List EnV} (ht : t ∈ r.ts) : ∃ n, (t.2, n) ∈ r.st.tabs := by
 obtain ⟨i, hi⟩ := List.getElem?_of_mem ht
 have h1 := (List.getElem?_eq_some_iff.1 hi).1
 have h2 : r.pl[i]? = some r.pl[i] := List.getElem?_eq_getElem (by omega)
 refine ⟨r.pl[i], List.mem_of_getElem? (i := i) ?_⟩
 show ((r.ts.map (·.2)).zip r.pl)[i]? = _
 rw [List.getElem?_zip_eq_some]
 exact ⟨by rw [List.getElem?_map, hi]; rfl, h2⟩
end
structure RmS where
 pa : Option Addr
 pc : Nat
 ta : Option Addr
 tc : Nat
 la : Option Addr
 lc : Nat
 pool : List G2
 ts : List (Value × List EnV)
 pl : List Nat
def RmS.rm (c : CfgV) (x : RmS) : RmH := ⟨.slice x.pa x.pool.length x.pc, .slice x.ta x.ts.length x.tc, .slice x.la x.pl.length x.lc, c, x.pool, x.ts, x.pl⟩
def RmS.cs (c : CfgV) (x : RmS) : Array Value := #[.int .i64 c.wk, .int .i64 c.sh, .int .i64 c.cp, .int .i64 c.idle, .int .i64 c.sl, .slice x.pa x.pool.length x.pc, .slice x.ta x.ts.length x.tc, .slice x.la x.pl.length x.lc]
def F5 (x : RmS) : List Res := [.own 79 1 (.slice x.ta x.ts.length x.tc) x.ts.length (x.ts.map (·.1)), .own 3 1 (.slice x.la x.pl.length x.lc) x.pl.length (g5 x.pl), P1 x.ts]
end Go.Proofs.YtlplkjgcfjdinaaGreat
namespace Go.Proofs.YtlplkjgcfjdinaaGreat
open Go
section
variable {w0 : World} {H Hk : List Res} {K : Value → WP} {K0 : WP}
theorem C70 {κ : Bool} {S : List Nat} {w w1 : World} {c : CfgV} {r : RmH} (hi : Inv c r.st) (hpl : r.pl.length = r.ts.length) (hpv : D4 w r.pv r.pool.length (r.pool.flatMap E7)) (hw : LW κ S w1 H w) (hm : ∀ x ∈ A05 r, x ∈ H) : RmOk w r := by
 have hsh := hi.sh
 have hb := A2S hi.ok
 have hc : r.c = c := hi.cfg
 have hl : r.st.tabs.length = r.ts.length := by simp [RmH.st, hpl]
 rw [hl] at hsh
 refine ⟨V9.rd (hw.hold _ (hm _ A1)), V9.rd (hw.hold _ (hm _ (A2 A1))), fun t ht => A2b hw (hm _ (A2 (A2 A1))) ht, hpv, by omega, hpl, by omega, by rw [hc]; omega, fun t ht => ?_, fun t ht => ?_, C2y hi.pool⟩
 ·obtain ⟨n, hn⟩ := C10 hpl ht
  exact (hi.tab _ hn).keys
 ·obtain ⟨n, hn⟩ := C10 hpl ht
  have h1 := (hi.tab _ hn).len
  simp only at h1
  omega
theorem B5l {S : List Nat} {r : RmH} {z v' : Value} {i : Nat} {l' : List EnV} {nts : List (Value × List EnV)} (hp : Part (.own 79 1 z r.ts.length ((r.ts.map (·.1)).set i v') :: P1 nts :: A05 r) H Hk) (hs : ∀ t ∈ r.ts.set i (v', l'), t ∈ nts ∨ t ∈ r.ts)
  (h : TW false S w0 (A05 { r with tv := z, ts := r.ts.set i (v', l') } ++ Hk) K0) : TW false S w0 H K0 := by
 refine TW.perm ?_ hp.perm
 simp only [A05, List.cons_append, List.nil_append]
 refine C4c (nts := nts) (ts := r.ts) (ts' := r.ts.set i (v', l')) (by (repeat' constructor)) hs ?_
 refine C2u (r := .own 79 1 r.tv r.ts.length (r.ts.map (·.1))) (by (repeat constructor)) ?_
 simp only [A05, List.map_set, List.length_set, List.cons_append, List.nil_append] at h
 exact TW.perm h (show Part [.own 79 1 z r.ts.length ((r.ts.map (·.1)).set i v'), .own 3 1 r.lv r.pl.length (g5 r.pl), P1 (r.ts.set i (v', l'))] _ Hk by (repeat' constructor)).perm
theorem C56 {S : List Nat} {P : Value → List G2 → Prop} (hrd : ∀ w', KS false S w0 w' → ∀ u p, P u p → D4 w' u p.length (p.flatMap E7)) {r : RmH} {o : OpV} {v : Value} {now : Int} {c : CfgV} (hi : Inv c r.st) (hpl : r.pl.length = r.ts.length) (hpv : P r.pv r.pool) (hv : P v o.pool) (hvl : o.pool.length ≤ 1000) (hpk : o.packet.size < 2 ^ 40) (hp : Part (A05 r) H Hk)
  (hK : ∀ r' : RmH, r'.st = (M2 r.st o now).1 → r'.pl.length = r'.ts.length → P r'.pv r'.pool → TW false S w0 (A05 r' ++ Hk) (K (.tuple #[r'.val, (M2 r.st o now).2.val]))) :
  TW false S w0 H (B2 PR B7 39 [r.val, o.val v, .int .i64 now] K) := by
 refine TW.perm ?_ hp.perm
 have hok : ∀ w', LW false S w0 (A05 r ++ Hk) w' → RmOk w' r := fun w' hw' => C70 hi hpl (hrd w' hw'.ks _ _ hpv) hw' fun x hx => List.mem_append_left _ hx
 have hv' : ∀ w', LW false S w0 (A05 r ++ Hk) w' → D4 w' v o.pool.length (o.pool.flatMap E7) := fun w' hw' => hrd w' hw'.ks _ _ hv
 have hl : r.st.tabs.length = r.ts.length := by simp [RmH.st, hpl]
 have hsh := hi.sh
 rw [hl] at hsh
 have hcc : r.c = c := hi.cfg
 have hcs : r.c.sh = c.sh := by rw [hcc]
 have hb := A2S hi.ok
 have hget : ∀ (i : Nat) (x : Value × List EnV) (pn : Nat), r.ts[i]? = some x → r.pl[i]? = some pn → r.st.tabs[i]? = some (x.2, pn) := fun i x pn hx hpn => by
  show ((r.ts.map (·.2)).zip r.pl)[i]? = _
  rw [List.getElem?_zip_eq_some]
  exact ⟨by rw [List.getElem?_map, hx]; rfl, hpn⟩
 by_cases k0 : o.kind < 0 ∨ 3 < o.kind
 ·have e := B9Z r.st o now k0
  refine B8 L0 (fun w' hw' => C2P w' r o v now (hok w' hw') (hv' w' hw') k0) ?_
  exact hK r (by rw [e]) hpl hpv
 by_cases k1 : o.kind = 1
 ·have e := C2v r.st o now k1
  refine B8 L0 (fun w' hw' => C3M w' r o v now (hok w' hw') (hv' w' hw') hvl k1) ?_
  by_cases c1 : N8 o.pool = 0
  ·rw [if_pos c1]
   exact hK { r with pv := v, pool := o.pool } (by rw [e]; unfold A7Y; rw [if_pos c1]; rfl) hpl hv
  ·rw [if_neg c1]
   exact hK r (by rw [e]; unfold A7Y; rw [if_neg c1]) hpl hpv
 by_cases k3 : o.kind = 3
 ·have e := B9n r.st o now k3
  refine B8 L0 (fun w' hw' => C3F w' r o v now (hok w' hw') (hv' w' hw') k3) ?_
  exact hK r (by rw [e]; rfl) hpl hpv
 by_cases k2 : o.kind = 2
 ·have e := C26 r.st o now k2
  by_cases hs : o.shard < 0 ∨ r.c.sh ≤ o.shard
  ·have e2 : A11 r.st o.shard now = (r.st, ⟨1, 0, false, 0⟩) := by unfold A11; rw [if_pos (by rw [hl]; omega)]
   refine B8 L0 (fun w' hw' => C4V w' r o v now (hok w' hw') (hv' w' hw') k2 hs) ?_
   exact hK r (by rw [e, e2]) hpl hpv
  obtain ⟨i, his⟩ : ∃ i : Nat, o.shard = i := ⟨o.shard.toNat, by omega⟩
  have hil : i < r.ts.length := by omega
  have hx : r.ts[i]? = some r.ts[i] := List.getElem?_eq_getElem hil
  have hpn : r.pl[i]? = some r.pl[i] := List.getElem?_eq_getElem (by omega)
  have hmem := List.getElem_mem hil
  generalize r.ts[i] = x at hx hmem
  generalize r.pl[i] = pn at hpn
  have hat := hget i x pn hx hpn
  have hxl : x.2.length ≤ 1000000 := by
   have := (hi.tab _ (List.mem_of_getElem? hat)).len
   simp only at this; omega
  have e2 : A11 r.st o.shard now = ({ r.st with tabs := r.st.tabs.set i ((D9 x.2 pn 4 now).1, (D9 x.2 pn 4 now).2.1) }, ⟨0, 0, false, ((D9 x.2 pn 4 now).2.2 : Nat)⟩) := by
   unfold A11
   rw [if_neg (by rw [hl]; omega), his, Int.toNat_natCast, List.getD_eq_getElem?_getD, hat]; rfl
  refine F3 L0 (fun w' hw' => C3z w' r o v now (hok w' hw') (hv' w' hw') k2 i his hil x hx pn hpn (B8f _ _ _ _ hxl)) ?_
  rintro ⟨z, lv', y⟩ u hu
  subst hu
  simp only
  have hsame : (D9 x.2 pn 4 now).2.2 = 0 → (D9 x.2 pn 4 now).1 = x.2 := B8N
  have hst : RmH.st { r with tv := z, lv := lv', ts := r.ts.set i (if (D9 x.2 pn 4 now).2.2 = 0 then x.1 else y, (D9 x.2 pn 4 now).1), pl := r.pl.set i (D9 x.2 pn 4 now).2.1 } = (M2 r.st o now).1 := by
   rw [e, e2]; unfold RmH.st; simp only [List.map_set, B9Q]
  have hK' := hK { r with tv := z, lv := lv', ts := r.ts.set i (if (D9 x.2 pn 4 now).2.2 = 0 then x.1 else y, (D9 x.2 pn 4 now).1), pl := r.pl.set i (D9 x.2 pn 4 now).2.1 } hst (by simpa using hpl) hpv
  rw [show (M2 r.st o now).2 = ⟨0, 0, false, ((D9 x.2 pn 4 now).2.2 : Nat)⟩ by rw [e, e2]] at hK'
  clear hst hK
  generalize D9 x.2 pn 4 now = sw at *
  obtain ⟨s1, s2, s3⟩ := sw
  simp only at hsame hK' ⊢
  simp only [A05, List.cons_append, List.nil_append]
  refine C2u (r := .own 3 1 r.lv r.pl.length (g5 r.pl)) (by (repeat constructor)) ?_
  refine B5l (r := { r with lv := lv', pl := r.pl.set i s2 }) (z := z) (i := i) (v' := if s3 = 0 then x.1 else y) (l' := s1) (nts := if s3 = 0 then [] else [(y, s1)]) (Hk := Hk) (by simp only [A05, List.length_set]; (repeat' constructor)) ?_ hK'
  intro t ht
  rcases List.mem_or_eq_of_mem_set ht with ht | rfl
  ·exact Or.inr ht
  ·by_cases h0 : s3 = 0
   ·right; rw [if_pos h0, hsame h0]; exact hmem
   ·left; rw [if_neg h0, if_neg h0]; exact List.mem_singleton.2 rfl
 have k : o.kind = 0 := by omega
 have e := B9j r.st o now k
 by_cases hb0 : (C9 o.packet).2.2 = 0
 case neg =>
  have e2 : r6 r.st o.packet now = (r.st, ⟨9, 0, false, 0⟩) := by unfold r6; simp only; rw [if_pos hb0]
  refine B8 L0 (fun w' hw' => C37 w' r o v now (hok w' hw') (hv' w' hw') hpk k hb0) ?_
  exact hK r (by rw [e, e2]) hpl hpv
 generalize hkey : A32 (C9 o.packet).1 = key
 generalize hcl : T8 (C9 o.packet).1 (C9 o.packet).2.1 = cl
 generalize hsi : N6 key r.c.sh = i
 have hil : i < r.ts.length := by
  rw [← hsi]; unfold N6; rw [if_neg (by omega)]
  have : r.c.sh.toNat = r.ts.length := by omega
  rw [this]; exact Nat.mod_lt _ (by omega)
 have hx : r.ts[i]? = some r.ts[i] := List.getElem?_eq_getElem hil
 have hpn : r.pl[i]? = some r.pl[i] := List.getElem?_eq_getElem (by omega)
 have hmem := List.getElem_mem hil
 generalize r.ts[i] = x at hx hmem
 generalize r.pl[i] = pn at hpn
 have hat := hget i x pn hx hpn
 generalize hdv : D6 x.2 r.pool key cl now r.c.idle = dv
 have e2 : r6 r.st o.packet now = ({ r.st with tabs := r.st.tabs.set i (dv.1, pn) }, dv.2.1) := by
  have hg : r.st.tabs.getD i ([], 0) = (x.2, pn) := by rw [List.getD_eq_getElem?_getD, hat]; rfl
  unfold r6
  simp only
  rw [if_neg (by rw [hb0]; simp), hkey, hcl, show r.st.c = r.c from rfl, hsi, hg, show r.st.pool = r.pool from rfl, hdv]
 refine F3 L0 (fun w' hw' => C6Q w' r o v now (hok w' hw') (hv' w' hw') hpk k hb0 key cl hkey hcl i hsi x hx dv hdv) ?_
 rintro ⟨z, y⟩ u hu
 subst hu
 have hsame : dv.2.2 = false → dv.1 = x.2 := fun h => by rw [← hdv] at h ⊢; exact A90 h
 have hst : RmH.st { r with tv := z, ts := r.ts.set i (if dv.2.2 = true then y else x.1, dv.1) } = (M2 r.st o now).1 := by
  rw [e, e2]; unfold RmH.st; simp only [List.map_set]
  rw [← B9Q, B8Q hpn]
 have hK' := hK { r with tv := z, ts := r.ts.set i (if dv.2.2 = true then y else x.1, dv.1) } hst (by simpa using hpl) hpv
 rw [show (M2 r.st o now).2 = dv.2.1 by rw [e, e2]] at hK'
 simp only at hK' ⊢
 refine B5l (r := r) (z := z) (i := i) (v' := if dv.2.2 = true then y else x.1) (l' := dv.1) (nts := if dv.2.2 = true then [(y, dv.1)] else []) (Hk := Hk) (by simp only [A05, List.cons_append, List.nil_append]; (repeat' constructor)) ?_ hK'
 intro t ht
 rcases List.mem_or_eq_of_mem_set ht with ht | rfl
 ·exact Or.inr ht
 ·cases h0 : dv.2.2 with
  | false => right; rw [if_neg (by simp), hsame h0]; exact hmem
  | true => left; rw [if_pos rfl, if_pos rfl]; exact List.mem_singleton.2 rfl
end
structure RsN (P : Value → List G2 → Prop) (c : CfgV) (x : RmS) (s : MoS) : Prop where
 st : (x.rm c).st = s
 inv : Inv c s
 pl : x.pl.length = x.ts.length
 pv : P (.slice x.pa x.pool.length x.pc) x.pool
theorem RsN.mono {P P' : Value → List G2 → Prop} {c : CfgV} {x : RmS} {s : MoS} (h : RsN P c x s) (hp : ∀ u p, P u p → P' u p) : RsN P' c x s := ⟨h.st, h.inv, h.pl, hp _ _ h.pv⟩
theorem C2z {S : List Nat} {P : Value → List G2 → Prop} {w0 : World} (hrd : ∀ w', KS false S w0 w' → ∀ u p, P u p → D4 w' u p.length (p.flatMap E7)) {Hk : List Res} {K0 : WP} {r : RmH} {c : CfgV} {s : MoS} (hst : r.st = s) (hi : Inv c s) (hpl : r.pl.length = r.ts.length) (hpv : P r.pv r.pool)
  (hK : ∀ x : RmS, r = x.rm c → RsN P c x s → TW false S w0 (F5 x ++ Hk) K0) : TW false S w0 (A05 r ++ Hk) K0 := by
 have hcc : r.c = c := by rw [← hst] at hi; exact hi.cfg
 obtain ⟨pv, tv, lv, rc, pool, ts, pl⟩ := r
 simp only at hcc hpl hpv
 subst hcc
 obtain ⟨pa, pc, rfl, _⟩ := (hrd w0 (KS.refl _ _) _ _ hpv).form
 simp only [A05, List.cons_append, List.nil_append]
 refine Y3 (e := 79) (k := 1) (v := tv) (q := ts.length) (xs := ts.map (·.1)) A1 fun ta tc e => ?_
 subst e
 refine Y3 (e := 3) (k := 1) (v := lv) (q := pl.length) (xs := g5 pl) (A2 A1) fun la lc e => ?_
 subst e
 exact hK ⟨pa, pc, ta, tc, la, lc, pool, ts, pl⟩ rfl ⟨hst, hi, hpl, hpv⟩
theorem C3b {S : List Nat} {P : Value → List G2 → Prop} {w0 : World} (hrd : ∀ w', KS false S w0 w' → ∀ u p, P u p → D4 w' u p.length (p.flatMap E7)) {H Hk : List Res} {K : Value → WP} {c : CfgV} {x : RmS} {s : MoS} {o : OpV} {v : Value} {now : Int} (hx : RsN P c x s) (hv : P v o.pool) (hvl : o.pool.length ≤ 1000) (hpk : o.packet.size < 2 ^ 40) (hp : Part (F5 x) H Hk)
  (hK : ∀ x' : RmS, RsN P c x' (M2 s o now).1 → TW false S w0 (F5 x' ++ Hk) (K (.tuple #[.agg (x'.cs c), (M2 s o now).2.val]))) :
  TW false S w0 H (B2 PR B7 39 [.agg (x.cs c), o.val v, .int .i64 now] K) := by
 obtain ⟨rfl, hi, hpl, hpv⟩ := hx
 refine C56 hrd (r := x.rm c) (c := c) hi hpl hpv hv hvl hpk hp fun r' h1 h2 h3 => ?_
 refine C2z hrd h1 (hi.do' o now) h2 h3 fun x' e hx' => ?_
 subst e
 exact hK x' hx'
end Go.Proofs.YtlplkjgcfjdinaaGreat
namespace Go.Proofs.YtlplkjgcfjdinaaGreat
open Go
def Two (u1 : Value) (p1 : List G2) (u2 : Value) (p2 : List G2) (u : Value) (p : List G2) : Prop := (u = u1 ∧ p = p1) ∨ (u = u2 ∧ p = p2)
theorem B5z (w : World) (c : CfgV) (x : RmS) (s : MoS) (o : OpV) (va : Option Addr) (vc : Nat) (r : RecV) {P : Value → List G2 → Prop} (hx : RsN P c x s) (hv : P (.slice va o.pool.length vc) o.pool) (hvl : o.pool.length ≤ 1000) (hpk : o.packet.size < 2 ^ 40)
  (hrd : ∀ u p, P u p → RdN (C3 (F5 x)) w u p.length (p.flatMap E7)) (hw : LW false (C3 (F5 x)) w (F5 x) w) :
  Fn PR B7 29 #[.agg (x.cs c), o.val (.slice va o.pool.length vc), .agg r.cs] w (Rn (C3 (F5 x)) w (fun (x' : RmS) u => u = .tuple #[.agg (x'.cs c), (K3 s o r).2.val] ∧ RsN P c x' (K3 s o r).1) F5) := by
 refine A31 (TW.goH (κ := false) (S := C3 (F5 x)) ?_ hw)
 unfold v7
 have hrd' : ∀ w', KS false (C3 (F5 x)) w w' → ∀ u p, P u p → D4 w' u p.length (p.flatMap E7) := fun w' hk u p hp => ((hrd u p hp).ks hk (fun _ h => h)).rd
 have hdo : ∀ {H Hk : List Res} {K : Value → WP}, Part (F5 x) H Hk → (∀ x' : RmS, RsN P c x' (M2 s o r.nw).1 → TW false (C3 (F5 x)) w (F5 x' ++ Hk) (K (.tuple #[.agg (x'.cs c), (M2 s o r.nw).2.val]))) → TW false (C3 (F5 x)) w H (B2 PR B7 39 [.agg (x.cs c), o.val (.slice va o.pool.length vc), .int .i64 r.nw] K) := fun hp hK => C3b hrd' hx hv hvl hpk hp hK
 simp only [OpV.val, RecV.cs, RmS.cs] at hdo ⊢
 generalize hS : C3 (F5 x) = S at *
 have hxl := hx.pl
 by_cases k0 : o.kind = 0
 ·have k1 : ¬ o.kind = 1 := by omega
  by_cases t0 : r.th = 0
  ·have hx0 : K3 s o r = (s, ⟨1, 0, false, 0⟩) := by unfold K3; rw [if_pos (Or.inl ⟨k0, t0⟩)]
   simp only [F5]
   (have zz:=trivial;repeat((first|clear zz|with_reducible first|refine A3 ?_|refine A4 fun _=>?_|refine A5 fun _=>?_);try simp(disch:=first|omega|assumption|((repeat(first|exact A1|exact uH|apply A2|apply uT));first|done|fail)|(simp;first|done|omega|fail))[k0, k1, t0]))
   refine C0 x ⟨by rw [hx0]; rfl, ?_⟩ ?_
   ·rw [hx0]; exact hx
   ·simp only [F5]
    (repeat' constructor)
  ·have hx0 : K3 s o r = M2 s o r.nw := by unfold K3; rw [if_neg (by rintro (⟨_, h⟩ | ⟨h, _⟩); exact t0 h; exact k1 h), if_neg (by rintro ⟨h, _⟩; exact k1 h)]
   rw [k0] at hdo
   simp only [F5]
   (have zz:=trivial;repeat((first|clear zz|with_reducible first|refine A3 ?_|refine A4 fun _=>?_|refine A5 fun _=>?_);try simp(disch:=first|omega|assumption|((repeat(first|exact A1|exact uH|apply A2|apply uT));first|done|fail)|(simp;first|done|omega|fail))[k0, k1, t0]))
   refine hdo (by simp only [F5]; (repeat' constructor)) fun x' hx' => ?_
   rw [hx0]
   generalize M2 s o r.nw = dv at *
   simp only [F5, AnsV.val, List.cons_append, List.nil_append]
   (have zz:=trivial;repeat((first|clear zz|with_reducible first|refine A3 ?_|refine A4 fun _=>?_|refine A5 fun _=>?_);try simp(disch:=first|omega|assumption|((repeat(first|exact A1|exact uH|apply A2|apply uT));first|done|fail)|(simp;first|done|omega|fail))[]))
   refine C0 x' ⟨rfl, hx'⟩ ?_
   simp only [F5]
   (repeat' constructor)
 by_cases k1 : o.kind = 1
 case neg =>
  have hx0 : K3 s o r = M2 s o r.nw := by unfold K3; rw [if_neg (by rintro (⟨h, _⟩ | ⟨h, _⟩); exact k0 h; exact k1 h), if_neg (by rintro ⟨h, _⟩; exact k1 h)]
  simp only [F5]
  (have zz:=trivial;repeat((first|clear zz|with_reducible first|refine A3 ?_|refine A4 fun _=>?_|refine A5 fun _=>?_);try simp(disch:=first|omega|assumption|((repeat(first|exact A1|exact uH|apply A2|apply uT));first|done|fail)|(simp;first|done|omega|fail))[k0, k1]))
  refine hdo (by simp only [F5]; (repeat' constructor)) fun x' hx' => ?_
  rw [hx0]
  generalize M2 s o r.nw = dv at *
  simp only [F5, AnsV.val, List.cons_append, List.nil_append]
  (have zz:=trivial;repeat((first|clear zz|with_reducible first|refine A3 ?_|refine A4 fun _=>?_|refine A5 fun _=>?_);try simp(disch:=first|omega|assumption|((repeat(first|exact A1|exact uH|apply A2|apply uT));first|done|fail)|(simp;first|done|omega|fail))[]))
  refine C0 x' ⟨rfl, hx'⟩ ?_
  simp only [F5]
  (repeat' constructor)
 by_cases t0 : r.th = 0
 case neg =>
  have hx0 : K3 s o r = (s, ⟨1, 0, false, 0⟩) := by unfold K3; rw [if_pos (Or.inr ⟨k1, t0⟩)]
  simp only [F5]
  (have zz:=trivial;repeat((first|clear zz|with_reducible first|refine A3 ?_|refine A4 fun _=>?_|refine A5 fun _=>?_);try simp(disch:=first|omega|assumption|((repeat(first|exact A1|exact uH|apply A2|apply uT));first|done|fail)|(simp;first|done|omega|fail))[k0, k1, t0]))
  refine C0 x ⟨by rw [hx0]; rfl, ?_⟩ ?_
  ·rw [hx0]; exact hx
  ·simp only [F5]
   (repeat' constructor)
 have hn1 : ¬ ((o.kind = 0 ∧ r.th = 0) ∨ (o.kind = 1 ∧ r.th ≠ 0)) := by rintro (⟨h, _⟩ | ⟨_, h⟩); exact k0 h; exact h t0
 rw [k1] at hdo
 by_cases e0 : 0 ≤ r.en
 case neg =>
  have hx0 : K3 s o r = M2 s o r.nw := by unfold K3; rw [if_neg hn1, if_neg (by rintro ⟨_, h, _⟩; exact e0 h)]
  simp only [F5]
  (have zz:=trivial;repeat((first|clear zz|with_reducible first|refine A3 ?_|refine A4 fun _=>?_|refine A5 fun _=>?_);try simp(disch:=first|omega|assumption|((repeat(first|exact A1|exact uH|apply A2|apply uT));first|done|fail)|(simp;first|done|omega|fail))[k0, k1, t0, e0]))
  refine hdo (by simp only [F5]; (repeat' constructor)) fun x' hx' => ?_
  rw [hx0]
  generalize M2 s o r.nw = dv at *
  simp only [F5, AnsV.val, List.cons_append, List.nil_append]
  (have zz:=trivial;repeat((first|clear zz|with_reducible first|refine A3 ?_|refine A4 fun _=>?_|refine A5 fun _=>?_);try simp(disch:=first|omega|assumption|((repeat(first|exact A1|exact uH|apply A2|apply uT));first|done|fail)|(simp;first|done|omega|fail))[]))
  refine C0 x' ⟨rfl, hx'⟩ ?_
  simp only [F5]
  (repeat' constructor)
 by_cases hb : r.an = ⟨13, 0, false, 0⟩
 ·have hx0 : K3 s o r = (s, ⟨13, 0, false, 0⟩) := by unfold K3; rw [if_neg hn1, if_pos ⟨k1, e0, hb⟩]
  have a1 : r.an.err = 13 := by rw [hb]
  have a2 : r.an.bk = 0 := by rw [hb]
  have a3 : r.an.made = false := by rw [hb]
  have a4 : r.an.count = 0 := by rw [hb]
  simp only [F5]
  (have zz:=trivial;repeat((first|clear zz|with_reducible first|refine A3 ?_|refine A4 fun _=>?_|refine A5 fun _=>?_);try simp(disch:=first|omega|assumption|((repeat(first|exact A1|exact uH|apply A2|apply uT));first|done|fail)|(simp;first|done|omega|fail))[k0, k1, t0, e0, a1, a2, a3, a4]))
  rw [M1 (by (repeat constructor)) (by rfl)]
  (have zz:=trivial;repeat((first|clear zz|with_reducible first|refine A3 ?_|refine A4 fun _=>?_|refine A5 fun _=>?_);try simp(disch:=first|omega|assumption|((repeat(first|exact A1|exact uH|apply A2|apply uT));first|done|fail)|(simp;first|done|omega|fail))[]))
  refine C0 x ⟨by rw [hx0]; rfl, ?_⟩ ?_
  ·rw [hx0]; exact hx
  ·simp only [F5]
   (repeat' constructor)
 ·have hx0 : K3 s o r = M2 s o r.nw := by unfold K3; rw [if_neg hn1, if_neg (by rintro ⟨_, _, h⟩; exact hb h)]
  have hb' : ¬ (r.an.err = 13 ∧ r.an.bk = 0 ∧ r.an.made = false ∧ r.an.count = 0) := by
   rintro ⟨h1, h2, h3, h4⟩
   apply hb
   obtain ⟨_, _, _, _, _, _, ⟨q1, q2, q3, q4⟩⟩ := r
   simp only at h1 h2 h3 h4
   rw [h1, h2, h3, h4]
  simp only [F5]
  (have zz:=trivial;repeat((first|clear zz|with_reducible first|refine A3 ?_|refine A4 fun _=>?_|refine A5 fun _=>?_);try simp(disch:=first|omega|assumption|((repeat(first|exact A1|exact uH|apply A2|apply uT));first|done|fail)|(simp;first|done|omega|fail))[k0, k1, t0, e0, hb']))
  refine hdo (by simp only [F5]; (repeat' constructor)) fun x' hx' => ?_
  rw [hx0]
  generalize M2 s o r.nw = dv at *
  simp only [F5, AnsV.val, List.cons_append, List.nil_append]
  (have zz:=trivial;repeat((first|clear zz|with_reducible first|refine A3 ?_|refine A4 fun _=>?_|refine A5 fun _=>?_);try simp(disch:=first|omega|assumption|((repeat(first|exact A1|exact uH|apply A2|apply uT));first|done|fail)|(simp;first|done|omega|fail))[]))
  refine C0 x' ⟨rfl, hx'⟩ ?_
  simp only [F5]
  (repeat' constructor)
end Go.Proofs.YtlplkjgcfjdinaaGreat
namespace Go.Proofs.YtlplkjgcfjdinaaGreat
open Go
theorem C6c {w : World} {c : CfgV} {x : RmS} {s : MoS} {o : OpV} {va : Option Addr} {vc : Nat} {r : RecV} {H Hk : List Res} {K : Value → WP} (hx : RsN (fun u p => D4 w u p.length (p.flatMap E7)) c x s) (hv : D4 w (.slice va o.pool.length vc) o.pool.length (o.pool.flatMap E7)) (hvl : o.pool.length ≤ 1000) (hpk : o.packet.size < 2 ^ 40) (hp : Part (F5 x) H Hk)
  (hK : ∀ x' : RmS, RsN (fun u p => D4 w u p.length (p.flatMap E7)) c x' (K3 s o r).1 → TW false [] w (F5 x' ++ Hk) (K (.tuple #[.agg (x'.cs c), (K3 s o r).2.val]))) :
  TW false [] w H (B2 PR B7 29 [.agg (x.cs c), o.val (.slice va o.pool.length vc), .agg r.cs] K) := by
 have hpw : ∀ u p, Two (.slice x.pa x.pool.length x.pc) x.pool (.slice va o.pool.length vc) o.pool u p → D4 w u p.length (p.flatMap E7) := fun u p h => by
  rcases h with ⟨rfl, rfl⟩ | ⟨rfl, rfl⟩
  ·exact hx.pv
  ·exact hv
 refine F9 (Hc := F5 x) A3k (fun w' hw hs => B5z w' c x s o va vc r (P := Two (.slice x.pa x.pool.length x.pc) x.pool (.slice va o.pool.length vc) o.pool) ⟨hx.st, hx.inv, hx.pl, Or.inl ⟨rfl, rfl⟩⟩ (Or.inr ⟨rfl, rfl⟩) hvl hpk (fun u p h => A8V (hw.perm List.perm_append_comm) (hpw u p h) (fun h0 => by rw [L5 (k := 2) fun _ => rfl]; omega) (fun e => by rw [List.length_eq_zero_iff.1 e]; rfl)) hs) hp ?_
 rintro x' _ ⟨rfl, hx'⟩
 exact hK x' (hx'.mono hpw)
theorem C1a (a b : AnsV) : (¬ a.err = b.err ∨ ¬ a.bk = b.bk ∨ ¬ a.made = b.made ∨ ¬ a.count = b.count) ↔ ¬ a = b := by
 obtain ⟨a1, a2, a3, a4⟩ := a
 obtain ⟨b1, b2, b3, b4⟩ := b
 simp only [AnsV.mk.injEq, Classical.not_and_iff_not_or_not]
set_option maxHeartbeats 1000000 in
theorem B9u (w : World) (c : CfgV) (tv lv : Value) (ts : List T5) (l : List RecV) (hr : D4 w tv ts.length (ts.flatMap A1s)) (ht : ∀ t ∈ ts, ThRd w t) (hts : ts.length ≤ 1000) (hops : ∀ t ∈ ts, t.2.length ≤ 24 ∧ ∀ o ∈ t.2, o.1.packet.size ≤ 100 ∧ o.1.pool.length ≤ 8) (hl : l.length ≤ 24) (hv : D4 w lv l.length (l.flatMap H6)) :
  Fn PR B7 16 #[c.val, tv, lv] w (fun r w' => r = .int .i64 (s5 c ts l) ∧ C6 [] w w') := by
 refine Fn.pure (A5y (TW.go (κ := false) (S := []) ?_))
 unfold A0y
 have hr0 := hr
 have hv0 := hv
 obtain ⟨ta, tc, rfl, htr⟩ := hr.form
 obtain ⟨la, lc, rfl, hlr⟩ := hv.form
 simp only [CfgV.val]
 (have zz:=trivial;repeat((first|clear zz|with_reducible first|refine A3 ?_|refine A4 fun _=>?_|refine A5 fun _=>?_);try simp(disch:=first|omega|assumption|((repeat(first|exact A1|exact uH|apply A2|apply uT));first|done|fail)|(simp;first|done|omega|fail))[]))
 rename_i bc
 refine B8 A5P (fun w' _ => C0G w' c) ?_
 cases hok : W9 c with
 | false =>
  (have zz:=trivial;repeat((first|clear zz|with_reducible first|refine A3 ?_|refine A4 fun _=>?_|refine A5 fun _=>?_);try simp(disch:=first|omega|assumption|((repeat(first|exact A1|exact uH|apply A2|apply uT));first|done|fail)|(simp;first|done|omega|fail))[hok]))
  exact A9 (by unfold s5; rw [hok]; rfl)
 | true =>
 (have zz:=trivial;repeat((first|clear zz|with_reducible first|refine A3 ?_|refine A4 fun _=>?_|refine A5 fun _=>?_);try simp(disch:=first|omega|assumption|((repeat(first|exact A1|exact uH|apply A2|apply uT));first|done|fail)|(simp;first|done|omega|fail))[hok]))
 refine F3 A69 (fun w' _ => C4d w' c hok) ?_
 rintro r u ⟨rfl, hrc, hrp, hrv, hrt, hrl⟩
 have hst0 : r.st = ⟨c, [], x6 c⟩ := by
  unfold RmH.st x6
  rw [hrc, hrp, hrt, hrl]
  congr 1
  generalize c.sh.toNat = q
  induction q with
  | zero => rfl
  | succ q ih => rw [List.replicate_succ, List.replicate_succ, List.replicate_succ, List.zip_cons_cons, ih]
 have hrpl : r.pl.length = r.ts.length := by
  have := congrArg List.length hrt
  simp only [List.length_map, List.length_replicate] at this
  rw [hrl, List.length_replicate, this]
 refine C2z (P := fun u p => D4 w u p.length (p.flatMap E7)) (fun w' hk u p h => h.ks hk (by simp)) hst0 (Inv.new hok) hrpl (by rw [hrv, hrp]; exact Or.inl ⟨rfl, rfl, none, 0, rfl⟩) fun x hrx hx => ?_
 subst hrx
 have hleg : s5 c ts l = A1B (okL ts ⟨c, [], x6 c⟩ (A0W l)) 0 := by unfold s5; rw [if_pos hok]
 rw [hleg]
 rw [show (x.rm c).val = .agg (x.cs c) from rfl]
 simp only [F5, RmS.cs, List.cons_append, List.nil_append]
 (have zz:=trivial;repeat((first|clear zz|with_reducible first|refine A3 ?_|refine A4 fun _=>?_|refine A5 fun _=>?_);try simp(disch:=first|omega|assumption|((repeat(first|exact A1|exact uH|apply A2|apply uT));first|done|fail)|(simp;first|done|omega|fail))[]))
 rename_i b7
 refine F3 u3 (fun w' hw' => B0B w' (.slice la l.length lc) l hl (hv0.ks hw'.ks (by simp))) ?_
 intro _ rw' hrw
 subst hrw
 have hwl := B1E (G1 l) l.length
 have hwlt : ∀ y ∈ T4 (G1 l) l.length, y < l.length := fun y hy => (B1K hy).1
 have hrl : (A0W l).length = (T4 (G1 l) l.length).length := B5A l
 have hrat := fun i => B7M (l := l) (i := i)
 generalize T4 (G1 l) l.length = wl at *
 generalize A0W l = rl at *
 generalize hs0 : (⟨c, [], x6 c⟩ : MoS) = s0 at *
 refine Y3 (e := 3) (k := 1) (v := rw') (q := wl.length) (xs := G7 wl) (by (repeat constructor)) fun ra rc e => ?_
 subst e
 (have zz:=trivial;repeat((first|clear zz|with_reducible first|refine A3 ?_|refine A4 fun _=>?_|refine A5 fun _=>?_);try simp(disch:=first|omega|assumption|((repeat(first|exact A1|exact uH|apply A2|apply uT));first|done|fail)|(simp;first|done|omega|fail))[]))
 refine H4 wl.length (fun _ _ => .int .i64 0) (fun i (x : RmS) => .own 3 1 (.slice ra wl.length rc) wl.length (G7 wl) :: .pt b7 (.cells (x.cs c) 68) :: (F5 x ++ [.pt bc (.cells #[.int .i64 c.wk, .int .i64 c.sh, .int .i64 c.cp, .int .i64 c.idle, .int .i64 c.sl] 23)]))
  (fun i x => RsN (fun u p => D4 w u p.length (p.flatMap E7)) c x (stL ts s0 (rl.take i)) ∧ ∀ j, j < i → (okL ts s0 rl)[j]? = some true) x ⟨hx, by simp⟩ ?_
 rintro i x1 hil ⟨hx1, hpre⟩ L hL
 clear hx hst0 hrpl hrt hrv hrp hrc
 simp only [F5, RmS.cs, List.cons_append, List.nil_append] at hL ⊢
 by_cases hlt : i < wl.length
 case neg =>
  obtain rfl : i = wl.length := by omega
  (have zz:=trivial;repeat((first|clear zz|with_reducible first|refine A3 ?_|refine A4 fun _=>?_|refine A5 fun _=>?_);try simp(disch:=first|omega|assumption|((repeat(first|exact A1|exact uH|apply A2|apply uT));first|done|fail)|(simp;first|done|omega|fail))[]))
  refine A9 ?_
  rw [B3Q fun b hb => ?_]
  obtain ⟨j, hj, e⟩ := List.getElem_of_mem hb
  rw [A4e, hrl] at hj
  have := hpre j hj
  rw [List.getElem?_eq_getElem (by rw [A4e, hrl]; exact hj), e] at this
  exact Option.some.inj this
 refine A1n (e := 3) (k := 1) (v := .slice ra wl.length rc) (q := wl.length) (xs := G7 wl) A1 (by omega) fun g gc hg => ?_
 cases hg
 have hrx := hrat i hlt
 have hkl := hwlt _ (A8c hlt)
 have g1 := P4 hlt
 have hbi := C3A ts s0 hrx
 have hst' := B7g ts s0 hrx
 have hL' := hL hlt
 generalize ix wl i = k at *
 have hyr : l[k]? = some (l.getD k A7V) := by rw [List.getD_eq_getElem?_getD, List.getElem?_eq_getElem hkl]; rfl
 obtain ⟨lb, lo, rfl, hlrow⟩ := hlr (by omega)
 have h1 := hlrow.at (f := H6) (k := 10) (fun _ => rfl) hyr
 rw [H6] at h1
 generalize l.getD k A7V = y at *
 rw [hst'] at hL'
 generalize hs1 : stL ts s0 (rl.take i) = s1 at *
 have hno : (stepL ts s1 y).2 = false → (i : Int) = A1B (okL ts s0 rl) 0 := fun h => by
  rw [h] at hbi
  rw [B5L 0 hbi hpre, Int.zero_add]
 have hyes : (stepL ts s1 y).2 = true → ∀ j, j < i + 1 → (okL ts s0 rl)[j]? = some true := fun h j hj => by
  by_cases e : j < i
  ·exact hpre j e
  ·obtain rfl : j = i := by omega
   rw [hbi, h]
 clear hL hbi hst'
 (have zz:=trivial;repeat((first|clear zz|with_reducible first|refine A3 ?_|refine A4 fun _=>?_|refine A5 fun _=>?_);try simp(disch:=first|omega|assumption|((repeat(first|exact A1|exact uH|apply A2|apply uT));first|done|fail)|(simp;first|done|omega|fail))[-x9, hlt, g1, hkl, h1]))
 rw [x9]
 (have zz:=trivial;repeat((first|clear zz|with_reducible first|refine A3 ?_|refine A4 fun _=>?_|refine A5 fun _=>?_);try simp(disch:=first|omega|assumption|((repeat(first|exact A1|exact uH|apply A2|apply uT));first|done|fail)|(simp;first|done|omega|fail))[-x9, hlt, g1, hkl, h1]))
 rw [x9]
 (have zz:=trivial;repeat((first|clear zz|with_reducible first|refine A3 ?_|refine A4 fun _=>?_|refine A5 fun _=>?_);try simp(disch:=first|omega|assumption|((repeat(first|exact A1|exact uH|apply A2|apply uT));first|done|fail)|(simp;first|done|omega|fail))[-x9, hlt, g1, hkl, h1]))
 rw [x9]
 (have zz:=trivial;repeat((first|clear zz|with_reducible first|refine A3 ?_|refine A4 fun _=>?_|refine A5 fun _=>?_);try simp(disch:=first|omega|assumption|((repeat(first|exact A1|exact uH|apply A2|apply uT));first|done|fail)|(simp;first|done|omega|fail))[-x9, hlt, g1, hkl, h1]))
 rename_i b10
 refine B8 (u := .bool (A2k ts y)) A8U (fun w' hw' => C52 w' (.slice ta ts.length tc) ts y (hr0.ks hw'.ks (by simp)) (fun t ht' => ⟨(ht t ht').rd.ks hw'.ks (by simp), fun o ho => ((ht t ht').pool o ho).ks hw'.ks (by simp), (ht t ht').len⟩) hts) ?_
 cases hop : A2k ts y with
 | false =>
  have hstep : stepL ts s1 y = (s1, false) := by unfold stepL; rw [if_neg (by rw [hop]; simp)]
  (have zz:=trivial;repeat((first|clear zz|with_reducible first|refine A3 ?_|refine A4 fun _=>?_|refine A5 fun _=>?_);try simp(disch:=first|omega|assumption|((repeat(first|exact A1|exact uH|apply A2|apply uT));first|done|fail)|(simp;first|done|omega|fail))[]))
  exact A9 (by rw [hno (by rw [hstep])])
 | true =>
 obtain ⟨n, q, t, o, hn, hq, htt, ho, hat⟩ := B8G hop
 have hstep : stepL ts s1 y = ((K3 s1 o.1 y).1, decide (y.en < 0) || decide (y.an = (K3 s1 o.1 y).2)) := by unfold stepL; rw [if_pos hop, hat]
 rw [hstep] at hL' hno hyes
 simp only at hL' hno hyes
 have htm := List.mem_of_getElem? htt
 have hom := List.mem_of_getElem? ho
 have hnl := (List.getElem?_eq_some_iff.1 htt).1
 have hql := (List.getElem?_eq_some_iff.1 ho).1
 obtain ⟨tb, tof, rfl, htrow⟩ := htr (by omega)
 have ht1 := htrow.cellAt (f := A1s) (k := 1) (j := 0) (fun _ => rfl) htt rfl
 rw [Nat.mul_one, Nat.add_zero] at ht1
 obtain ⟨oa, oc, hte, hor⟩ := (ht t htm).rd.form
 obtain ⟨ob, oo, rfl, horow⟩ := hor (by omega)
 rw [hte] at ht1
 have ho1 := horow.at (f := A43) (k := 4) (fun _ => rfl) ho
 have hpo := (ht t htm).pool o hom
 obtain ⟨pa, pc, hoe, _⟩ := hpo.form
 have hop2 := (hops t htm).2 o hom
 have hop1 := (hops t htm).1
 rw [A43, hoe] at ho1
 rw [hoe] at hpo
 have n0 : 0 ≤ y.th := by omega
 have n1 : y.th < (ts.length : Nat) := by omega
 have n2 : y.th.toNat = n := by omega
 have q0 : 0 ≤ y.op := by omega
 have q1 : y.op < (t.2.length : Nat) := by omega
 have q2 : y.op.toNat = q := by omega
 have hE : ∀ {H Hk : List Res} {K : Value → WP}, Part (F5 x1) H Hk → (∀ x2 : RmS, RsN (fun u p => D4 w u p.length (p.flatMap E7)) c x2 (K3 s1 o.1 y).1 → TW false [] w (F5 x2 ++ Hk) (K (.tuple #[.agg (x2.cs c), (K3 s1 o.1 y).2.val]))) → TW false [] w H (B2 PR B7 29 [.agg (x1.cs c), o.1.val (.slice pa o.1.pool.length pc), .agg y.cs] K) := fun hp hK => C6c hx1 hpo (by omega) (by omega) hp hK
 simp only [OpV.val, RecV.cs] at hE
 generalize hxp : K3 s1 o.1 y = xp at *
 obtain ⟨s2, an⟩ := xp
 simp only at hL' hno hyes hE
 have hx1l := hx1.pl
 simp only [RmS.cs] at hE
 (have zz:=trivial;repeat((first|clear zz|with_reducible first|refine A3 ?_|refine A4 fun _=>?_|refine A5 fun _=>?_);try simp(disch:=first|omega|assumption|((repeat(first|exact A1|exact uH|apply A2|apply uT));first|done|fail)|(simp;first|done|omega|fail))[]))
 (have zz:=trivial;repeat((first|clear zz|with_reducible first|refine A3 ?_|refine A4 fun _=>?_|refine A5 fun _=>?_);try simp(disch:=first|omega|assumption|((repeat(first|exact A1|exact uH|apply A2|apply uT));first|done|fail)|(simp;first|done|omega|fail))[n0, n1, n2, q0, q1, q2, hnl, hql, ht1, ho1]))
 refine B3s (α := Nat × Nat × RmS) (fun z => RsN (fun u p => D4 w u p.length (p.flatMap E7)) c z.2.2 s2) (fun z => .pt z.1 (.cells (z.2.2.cs c) 68) :: .pt z.2.1 (.cells #[.int .i64 an.err, .int .i64 an.bk, .bool an.made, .int .i64 an.count] 44) :: .pt b10 (.cells #[.int .i64 y.th, .int .i64 y.op, .int .i64 y.st, .int .i64 y.tk, .int .i64 y.en, .int .i64 y.nw, .int .i64 y.an.err, .int .i64 y.an.bk, .bool y.an.made, .int .i64 y.an.count] 46) :: .own 3 1 (.slice (some ⟨g, 0, none⟩) wl.length rc) wl.length (G7 wl) :: .pt b7 (.cells (x1.cs c) 68) :: (F5 z.2.2 ++ [.pt bc (.cells #[.int .i64 c.wk, .int .i64 c.sh, .int .i64 c.cp, .int .i64 c.idle, .int .i64 c.sl] 23)])) (fun z => .pointer (some ⟨z.1, 0, none⟩)) (fun z => .pointer (some ⟨z.2.1, 0, none⟩)) ?_ ?_
 ·rintro ⟨b11, b12, x2⟩ hx2
  simp only at hx2 ⊢
  have h := hL' x2
  simp only [F5, RmS.cs, List.cons_append, List.nil_append] at h ⊢
  by_cases e0 : y.en < 0
  ·have e1 : ¬ 0 ≤ y.en := by omega
   have h := h ⟨hx2, hyes (by rw [decide_eq_true e0, Bool.true_or])⟩
   (have zz:=trivial;repeat((first|clear zz|with_reducible first|refine A3 ?_|refine A4 fun _=>?_|refine A5 fun _=>?_);try simp(disch:=first|omega|assumption|((repeat(first|exact A1|exact uH|apply A2|apply uT));first|done|fail)|(simp;first|done|omega|fail))[e0, e1]))
   exact Sels.tw (by (repeat' constructor)) h
  ·have e1 : 0 ≤ y.en := by omega
   (have zz:=trivial;repeat((first|clear zz|with_reducible first|refine A3 ?_|refine A4 fun _=>?_|refine A5 fun _=>?_);try simp(disch:=first|omega|assumption|((repeat(first|exact A1|exact uH|apply A2|apply uT));first|done|fail)|(simp;first|done|omega|fail))[e0, e1]))
   refine B65 (fun hc => ?_) (fun hc => ?_)
   ·exact A9 (by rw [← hno (by rw [decide_eq_false e0, decide_eq_false ((C1a y.an an).1 hc)]; rfl)])
   ·have he : y.an = an := Classical.byContradiction fun h => hc ((C1a y.an an).2 h)
    have h := h ⟨hx2, hyes (by rw [decide_eq_true he, Bool.or_true])⟩
    exact Sels.tw (by (repeat' constructor)) h
 ·intro J4 hJ4
  (have zz:=trivial;repeat((first|clear zz|with_reducible first|refine A3 ?_|refine A4 fun _=>?_|refine A5 fun _=>?_);try simp(disch:=first|omega|assumption|((repeat(first|exact A1|exact uH|apply A2|apply uT));first|done|fail)|(simp;first|done|omega|fail))[n0, n1, n2, q0, q1, q2, hnl, hql, ht1, ho1]))
  refine ⟨?_, ?_, ?_, fun _ _ => trivial⟩
  ·refine hE (by simp only [F5]; (repeat' constructor)) fun x2 hx2 => ?_
   simp only [F5, RmS.cs, List.cons_append, List.nil_append]
   (have zz:=trivial;repeat((first|clear zz|with_reducible first|refine A3 ?_|refine A4 fun _=>?_|refine A5 fun _=>?_);try simp(disch:=first|omega|assumption|((repeat(first|exact A1|exact uH|apply A2|apply uT));first|done|fail)|(simp;first|done|omega|fail))[AnsV.val]))
   refine ⟨?_, ?_, fun _ _ => trivial⟩
   ·(have zz:=trivial;repeat((first|clear zz|with_reducible first|refine A3 ?_|refine A4 fun _=>?_|refine A5 fun _=>?_);try simp(disch:=first|omega|assumption|((repeat(first|exact A1|exact uH|apply A2|apply uT));first|done|fail)|(simp;first|done|omega|fail))[AnsV.val]))
    rename_i b11 b12
    refine Sels.tw ?_ (hJ4 (b11, b12, x2) hx2)
    simp only [F5, RmS.cs, List.cons_append, List.nil_append]
    (repeat' constructor)
   ·(have zz:=trivial;repeat((first|clear zz|with_reducible first|refine A3 ?_|refine A4 fun _=>?_|refine A5 fun _=>?_);try simp(disch:=first|omega|assumption|((repeat(first|exact A1|exact uH|apply A2|apply uT));first|done|fail)|(simp;first|done|omega|fail))[AnsV.val]))
    rename_i b12 b11
    refine Sels.tw ?_ (hJ4 (b11, b12, x2) hx2)
    simp only [F5, RmS.cs, List.cons_append, List.nil_append]
    (repeat' constructor)
  ·(have zz:=trivial;repeat((first|clear zz|with_reducible first|refine A3 ?_|refine A4 fun _=>?_|refine A5 fun _=>?_);try simp(disch:=first|omega|assumption|((repeat(first|exact A1|exact uH|apply A2|apply uT));first|done|fail)|(simp;first|done|omega|fail))[n0, n1, n2, q0, q1, q2, hnl, hql, ht1, ho1]))
   rename_i b11
   rw [M1 (by (repeat constructor)) (by rfl), A0C (by simpa using ho1) (by simp)]
   (have zz:=trivial;repeat((first|clear zz|with_reducible first|refine A3 ?_|refine A4 fun _=>?_|refine A5 fun _=>?_);try simp(disch:=first|omega|assumption|((repeat(first|exact A1|exact uH|apply A2|apply uT));first|done|fail)|(simp;first|done|omega|fail))[n0, n1, n2, q0, q1, q2, hnl, hql, ht1, ho1]))
   rw [M1 (by (repeat constructor)) (by rfl)]
   (have zz:=trivial;repeat((first|clear zz|with_reducible first|refine A3 ?_|refine A4 fun _=>?_|refine A5 fun _=>?_);try simp(disch:=first|omega|assumption|((repeat(first|exact A1|exact uH|apply A2|apply uT));first|done|fail)|(simp;first|done|omega|fail))[n0, n1, n2, q0, q1, q2, hnl, hql, ht1, ho1]))
   refine ⟨?_, ?_, fun _ _ => trivial⟩
   ·refine hE (by simp only [F5]; (repeat' constructor)) fun x2 hx2 => ?_
    simp only [F5, RmS.cs, List.cons_append, List.nil_append]
    (have zz:=trivial;repeat((first|clear zz|with_reducible first|refine A3 ?_|refine A4 fun _=>?_|refine A5 fun _=>?_);try simp(disch:=first|omega|assumption|((repeat(first|exact A1|exact uH|apply A2|apply uT));first|done|fail)|(simp;first|done|omega|fail))[AnsV.val]))
    rename_i b12
    refine Sels.tw ?_ (hJ4 (b11, b12, x2) hx2)
    simp only [F5, RmS.cs, List.cons_append, List.nil_append]
    (repeat' constructor)
   ·(have zz:=trivial;repeat((first|clear zz|with_reducible first|refine A3 ?_|refine A4 fun _=>?_|refine A5 fun _=>?_);try simp(disch:=first|omega|assumption|((repeat(first|exact A1|exact uH|apply A2|apply uT));first|done|fail)|(simp;first|done|omega|fail))[n0, n1, n2, q0, q1, q2, hnl, hql, ht1, ho1]))
    rename_i b12
    rw [M1 (by (repeat constructor)) (by rfl), A0C (by simpa using ho1) (by simp)]
    (have zz:=trivial;repeat((first|clear zz|with_reducible first|refine A3 ?_|refine A4 fun _=>?_|refine A5 fun _=>?_);try simp(disch:=first|omega|assumption|((repeat(first|exact A1|exact uH|apply A2|apply uT));first|done|fail)|(simp;first|done|omega|fail))[n0, n1, n2, q0, q1, q2, hnl, hql, ht1, ho1]))
    rw [M1 (by (repeat constructor)) (by rfl)]
    (have zz:=trivial;repeat((first|clear zz|with_reducible first|refine A3 ?_|refine A4 fun _=>?_|refine A5 fun _=>?_);try simp(disch:=first|omega|assumption|((repeat(first|exact A1|exact uH|apply A2|apply uT));first|done|fail)|(simp;first|done|omega|fail))[n0, n1, n2, q0, q1, q2, hnl, hql, ht1, ho1]))
    refine hE (by simp only [F5]; (repeat' constructor)) fun x2 hx2 => ?_
    simp only [F5, RmS.cs, List.cons_append, List.nil_append]
    (have zz:=trivial;repeat((first|clear zz|with_reducible first|refine A3 ?_|refine A4 fun _=>?_|refine A5 fun _=>?_);try simp(disch:=first|omega|assumption|((repeat(first|exact A1|exact uH|apply A2|apply uT));first|done|fail)|(simp;first|done|omega|fail))[AnsV.val]))
    refine Sels.tw ?_ (hJ4 (b11, b12, x2) hx2)
    simp only [F5, RmS.cs, List.cons_append, List.nil_append]
    (repeat' constructor)
  ·(have zz:=trivial;repeat((first|clear zz|with_reducible first|refine A3 ?_|refine A4 fun _=>?_|refine A5 fun _=>?_);try simp(disch:=first|omega|assumption|((repeat(first|exact A1|exact uH|apply A2|apply uT));first|done|fail)|(simp;first|done|omega|fail))[n0, n1, n2, q0, q1, q2, hnl, hql, ht1, ho1]))
   rename_i b12
   rw [M1 (by (repeat constructor)) (by rfl), A0C (by simpa using ho1) (by simp)]
   (have zz:=trivial;repeat((first|clear zz|with_reducible first|refine A3 ?_|refine A4 fun _=>?_|refine A5 fun _=>?_);try simp(disch:=first|omega|assumption|((repeat(first|exact A1|exact uH|apply A2|apply uT));first|done|fail)|(simp;first|done|omega|fail))[n0, n1, n2, q0, q1, q2, hnl, hql, ht1, ho1]))
   rw [M1 (by (repeat constructor)) (by rfl)]
   (have zz:=trivial;repeat((first|clear zz|with_reducible first|refine A3 ?_|refine A4 fun _=>?_|refine A5 fun _=>?_);try simp(disch:=first|omega|assumption|((repeat(first|exact A1|exact uH|apply A2|apply uT));first|done|fail)|(simp;first|done|omega|fail))[n0, n1, n2, q0, q1, q2, hnl, hql, ht1, ho1]))
   refine ⟨?_, ?_, fun _ _ => trivial⟩
   ·refine hE (by simp only [F5]; (repeat' constructor)) fun x2 hx2 => ?_
    simp only [F5, RmS.cs, List.cons_append, List.nil_append]
    (have zz:=trivial;repeat((first|clear zz|with_reducible first|refine A3 ?_|refine A4 fun _=>?_|refine A5 fun _=>?_);try simp(disch:=first|omega|assumption|((repeat(first|exact A1|exact uH|apply A2|apply uT));first|done|fail)|(simp;first|done|omega|fail))[AnsV.val]))
    rename_i b11
    refine Sels.tw ?_ (hJ4 (b11, b12, x2) hx2)
    simp only [F5, RmS.cs, List.cons_append, List.nil_append]
    (repeat' constructor)
   ·(have zz:=trivial;repeat((first|clear zz|with_reducible first|refine A3 ?_|refine A4 fun _=>?_|refine A5 fun _=>?_);try simp(disch:=first|omega|assumption|((repeat(first|exact A1|exact uH|apply A2|apply uT));first|done|fail)|(simp;first|done|omega|fail))[n0, n1, n2, q0, q1, q2, hnl, hql, ht1, ho1]))
    rename_i b11
    rw [M1 (by (repeat constructor)) (by rfl), A0C (by simpa using ho1) (by simp)]
    (have zz:=trivial;repeat((first|clear zz|with_reducible first|refine A3 ?_|refine A4 fun _=>?_|refine A5 fun _=>?_);try simp(disch:=first|omega|assumption|((repeat(first|exact A1|exact uH|apply A2|apply uT));first|done|fail)|(simp;first|done|omega|fail))[n0, n1, n2, q0, q1, q2, hnl, hql, ht1, ho1]))
    rw [M1 (by (repeat constructor)) (by rfl)]
    (have zz:=trivial;repeat((first|clear zz|with_reducible first|refine A3 ?_|refine A4 fun _=>?_|refine A5 fun _=>?_);try simp(disch:=first|omega|assumption|((repeat(first|exact A1|exact uH|apply A2|apply uT));first|done|fail)|(simp;first|done|omega|fail))[n0, n1, n2, q0, q1, q2, hnl, hql, ht1, ho1]))
    refine hE (by simp only [F5]; (repeat' constructor)) fun x2 hx2 => ?_
    simp only [F5, RmS.cs, List.cons_append, List.nil_append]
    (have zz:=trivial;repeat((first|clear zz|with_reducible first|refine A3 ?_|refine A4 fun _=>?_|refine A5 fun _=>?_);try simp(disch:=first|omega|assumption|((repeat(first|exact A1|exact uH|apply A2|apply uT));first|done|fail)|(simp;first|done|omega|fail))[AnsV.val]))
    refine Sels.tw ?_ (hJ4 (b11, b12, x2) hx2)
    simp only [F5, RmS.cs, List.cons_append, List.nil_append]
    (repeat' constructor)
end Go.Proofs.YtlplkjgcfjdinaaGreat
namespace Go.Proofs.YtlplkjgcfjdinaaGreat
open Go
theorem FewScr.all {c : CfgV} {ts : List T5} (h : FewScr c ts) : ∀ t ∈ ts, t.2.length ≤ 24 ∧ ∀ o ∈ t.2, o.1.packet.size ≤ 100 ∧ o.1.pool.length ≤ 8 := fun t ht => h.op ht
theorem C7A {K : Value → WP} (a b : Bool) : A0 PR (binOp .eql 4 (.bool a) (.bool b)) K = K (.bool (a == b)) := F2 (fun w => by
 have h : (Op.equal 4 (.bool a) (.bool b)).run PR w = .ok (a == b) w := B2F (e := 9999) ty4 w
 simp [binOp, h]) K
theorem B6F (w : World) (c : CfgV) (tv pv : Value) (ts : List T5) (hs : ScrRd w tv pv ts) (lv : Value) (l : List RecV) (hv : D4 w lv l.length (l.flatMap H6)) (hl : l.length ≤ 9223372036854775807) :
  Fn PR B7 3 #[C4P c tv pv, lv] w (fun v w' => v = .bool true ∧ C6 [] w w') := by
 refine Fn.pure (A3K (TW.go (κ := false) (S := []) ?_))
 unfold m8
 obtain ⟨hr, ht, hts0, hpk⟩ := hs
 obtain ⟨ta, tc, rfl, _⟩ := hr.form
 obtain ⟨pa, pn, pc, rfl, hpn⟩ := hpk
 obtain ⟨la, lc, rfl, _⟩ := hv.form
 simp only [C4P]
 (have zz:=trivial;repeat((first|clear zz|with_reducible first|refine A3 ?_|refine A4 fun _=>?_|refine A5 fun _=>?_);try simp(disch:=first|omega|assumption|((repeat(first|exact A1|exact uH|apply A2|apply uT));first|done|fail)|(simp;first|done|omega|fail))[]))
 rename_i bs
 refine B8 A5S (fun w' _ => C0e w') ?_
 (have zz:=trivial;repeat((first|clear zz|with_reducible first|refine A3 ?_|refine A4 fun _=>?_|refine A5 fun _=>?_);try simp(disch:=first|omega|assumption|((repeat(first|exact A1|exact uH|apply A2|apply uT));first|done|fail)|(simp;first|done|omega|fail))[]))
 refine B2B (φ := A5N c ts) A7a (fun w' hw' => C4G w' c (.slice ta ts.length tc) (.slice pa pn pc) ts (hr.ks hw'.ks (by simp)) (fun t ht' => ⟨(ht t ht').rd.ks hw'.ks (by simp), fun o ho => ((ht t ht').pool o ho).ks hw'.ks (by simp), (ht t ht').len⟩) hts0 ⟨_, _, _, rfl, hpn⟩) ?_
 rintro _ ⟨b, rfl, hb⟩
 cases b with
 | false =>
  (have zz:=trivial;repeat((first|clear zz|with_reducible first|refine A3 ?_|refine A4 fun _=>?_|refine A5 fun _=>?_);try simp(disch:=first|omega|assumption|((repeat(first|exact A1|exact uH|apply A2|apply uT));first|done|fail)|(simp;first|done|omega|fail))[]))
  exact A9 rfl
 | true =>
 have hfs := hb rfl
 (have zz:=trivial;repeat((first|clear zz|with_reducible first|refine A3 ?_|refine A4 fun _=>?_|refine A5 fun _=>?_);try simp(disch:=first|omega|assumption|((repeat(first|exact A1|exact uH|apply A2|apply uT));first|done|fail)|(simp;first|done|omega|fail))[]))
 refine B8 A7B (fun w' hw' => C4r w' (.slice la l.length lc) l hl (hv.ks hw'.ks (by simp))) ?_
 by_cases h24 : l.length ≤ 24
 case neg =>
  rw [decide_eq_false h24]
  (have zz:=trivial;repeat((first|clear zz|with_reducible first|refine A3 ?_|refine A4 fun _=>?_|refine A5 fun _=>?_);try simp(disch:=first|omega|assumption|((repeat(first|exact A1|exact uH|apply A2|apply uT));first|done|fail)|(simp;first|done|omega|fail))[]))
  exact A9 rfl
 rw [decide_eq_true h24]
 have hops := hfs.all
 have hts := hfs.len
 (have zz:=trivial;repeat((first|clear zz|with_reducible first|refine A3 ?_|refine A4 fun _=>?_|refine A5 fun _=>?_);try simp(disch:=first|omega|assumption|((repeat(first|exact A1|exact uH|apply A2|apply uT));first|done|fail)|(simp;first|done|omega|fail))[]))
 refine F3 A34 (fun w' hw' => B97 w' (.slice la l.length lc) l h24 (hv.ks hw'.ks (by simp))) ?_
 intro _ r hr1
 subst hr1
 (have zz:=trivial;repeat((first|clear zz|with_reducible first|refine A3 ?_|refine A4 fun _=>?_|refine A5 fun _=>?_);try simp(disch:=first|omega|assumption|((repeat(first|exact A1|exact uH|apply A2|apply uT));first|done|fail)|(simp;first|done|omega|fail))[]))
 refine F3 A08 (fun w' hw' => A83 w' r l h24 (G0.own (e := 47) (k := 10) (by (repeat constructor)) w' hw')) ?_
 intro _ r1 hr1
 subst hr1
 (have zz:=trivial;repeat((first|clear zz|with_reducible first|refine A3 ?_|refine A4 fun _=>?_|refine A5 fun _=>?_);try simp(disch:=first|omega|assumption|((repeat(first|exact A1|exact uH|apply A2|apply uT));first|done|fail)|(simp;first|done|omega|fail))[]))
 refine F3 u3 (fun w' hw' => B0B w' (.slice la l.length lc) l h24 (hv.ks hw'.ks (by simp))) ?_
 intro _ r2 hr1
 subst hr1
 have hwl := B1E (G1 l) l.length
 generalize T4 (G1 l) l.length = wl at *
 (have zz:=trivial;repeat((first|clear zz|with_reducible first|refine A3 ?_|refine A4 fun _=>?_|refine A5 fun _=>?_);try simp(disch:=first|omega|assumption|((repeat(first|exact A1|exact uH|apply A2|apply uT));first|done|fail)|(simp;first|done|omega|fail))[]))
 refine B8 A54 (fun w' hw' => C58 w' r1 r2 wl wl (by omega) (by omega) (G0.own (e := 3) (k := 1) (by (repeat constructor)) w' hw') (G0.own (e := 3) (k := 1) (by (repeat constructor)) w' hw')) ?_
 rw [decide_eq_true (rfl : wl = wl)]
 (have zz:=trivial;repeat((first|clear zz|with_reducible first|refine A3 ?_|refine A4 fun _=>?_|refine A5 fun _=>?_);try simp(disch:=first|omega|assumption|((repeat(first|exact A1|exact uH|apply A2|apply uT));first|done|fail)|(simp;first|done|omega|fail))[]))
 obtain ⟨rb, hrb⟩ : ∃ rb, A0Y l = rb := ⟨_, rfl⟩
 refine B8 (u := .bool rb) A5r (fun w' hw' => by rw [← hrb]; exact C2m w' (.slice la l.length lc) l (by omega) (hv.ks hw'.ks (by simp))) ?_
 (have zz:=trivial;repeat((first|clear zz|with_reducible first|refine A3 ?_|refine A4 fun _=>?_|refine A5 fun _=>?_);try simp(disch:=first|omega|assumption|((repeat(first|exact A1|exact uH|apply A2|apply uT));first|done|fail)|(simp;first|done|omega|fail))[]))
 refine B8 (u := .bool rb) A3J (fun w' hw' => by rw [← hrb]; exact B4s w' r l (by omega) (G0.own (e := 47) (k := 10) (by (repeat constructor)) w' hw')) ?_
 have hth : ∀ w', KS false [] w w' → ∀ t ∈ ts, ThRd w' t := fun w' hk t ht' => ⟨(ht t ht').rd.ks hk (by simp), fun o ho => ((ht t ht').pool o ho).ks hk (by simp), (ht t ht').len⟩
 (have zz:=trivial;repeat((first|clear zz|with_reducible first|refine A3 ?_|refine A4 fun _=>?_|refine A5 fun _=>?_);try simp(disch:=first|omega|assumption|((repeat(first|exact A1|exact uH|apply A2|apply uT));first|done|fail)|(simp;first|done|omega|fail))[C7A]))
 obtain ⟨z, hz⟩ : ∃ z, s5 c ts l = z := ⟨_, rfl⟩
 refine B8 (u := .int .i64 z) Y0 (fun w' hw' => by rw [← hz]; exact A3E w' c (.slice ta ts.length tc) r ts l (hr.ks hw'.ks (by simp)) (hth w' hw'.ks) (by omega) hops h24 (G0.own (e := 47) (k := 10) (by (repeat constructor)) w' hw')) ?_
 (have zz:=trivial;repeat((first|clear zz|with_reducible first|refine A3 ?_|refine A4 fun _=>?_|refine A5 fun _=>?_);try simp(disch:=first|omega|assumption|((repeat(first|exact A1|exact uH|apply A2|apply uT));first|done|fail)|(simp;first|done|omega|fail))[]))
 rw [C1L (by (repeat constructor)) (by rfl)]
 (have zz:=trivial;repeat((first|clear zz|with_reducible first|refine A3 ?_|refine A4 fun _=>?_|refine A5 fun _=>?_);try simp(disch:=first|omega|assumption|((repeat(first|exact A1|exact uH|apply A2|apply uT));first|done|fail)|(simp;first|done|omega|fail))[]))
 refine B8 (u := .int .i64 z) A45 (fun w' hw' => by rw [← hz]; exact B9u w' c (.slice ta ts.length tc) (.slice la l.length lc) ts l (hr.ks hw'.ks (by simp)) (hth w' hw'.ks) (by omega) hops h24 (hv.ks hw'.ks (by simp))) ?_
 (have zz:=trivial;repeat((first|clear zz|with_reducible first|refine A3 ?_|refine A4 fun _=>?_|refine A5 fun _=>?_);try simp(disch:=first|omega|assumption|((repeat(first|exact A1|exact uH|apply A2|apply uT));first|done|fail)|(simp;first|done|omega|fail))[]))
 exact A9 rfl
end Go.Proofs.YtlplkjgcfjdinaaGreat
