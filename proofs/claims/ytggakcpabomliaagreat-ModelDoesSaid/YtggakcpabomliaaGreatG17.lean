/- The proof of a given statement, a part of it (Rf09 Makes Rf17a ShR07 ShR05 ShR06 ShR03 ShR04 Rf03 Rf04 Rf07 Rf08 ShR13 Rf13 Rf17b Rf17c Rf17d Rf17e DoesMW). No condition but what each lemma says. -/
import Derived.Test.YtggakcpabomliaaGreatG16
set_option linter.unusedVariables false
set_option linter.unusedSimpArgs false
namespace Go.Proofs.YtggakcpabomliaaGreat
open Go
theorem B7B {a b : ByteArray} {i : Nat} (h : i < a.size) : C4 (a ++ b) i = C4 a i := by
 unfold C4
 rw [ByteArray.data_append]
 simp only [Array.getD_eq_getD_getElem?]
 rw [Array.getElem?_append_left (by exact h)]
theorem B5m {a b : ByteArray} {i : Nat} : C4 (a ++ b) (a.size + i) = C4 b i := by
 unfold C4
 rw [ByteArray.data_append]
 simp only [Array.getD_eq_getD_getElem?]
 rw [Array.getElem?_append_right (by show a.size ≤ a.size + i; omega)]
 have : a.size + i - a.data.size = i := by show a.size + i - a.size = i; omega
 rw [this]
theorem C0S (h : Nat) (a b : ByteArray) : ∀ i, i ≤ a.size → A0G h (a ++ b) i = A0G h a i := by
 intro i
 induction i with
 | zero => intro _; rfl
 | succ i ih => intro hi; simp only [A0G]; rw [ih (by omega), B7B (by omega)]
theorem B76 (h : Nat) (a b : ByteArray) : ∀ i, A0G h (a ++ b) (a.size + i) = A0G (A0G h a a.size) b i := by
 intro i
 induction i with
 | zero => exact C0S h a b _ (Nat.le_refl _)
 | succ i ih =>
  show A3q (A0G h (a ++ b) (a.size + i)) (C4 (a ++ b) (a.size + i)) = A3q (A0G (A0G h a a.size) b i) (C4 b i)
  rw [ih, B5m]
theorem B0W (h : Nat) (a b : ByteArray) : A7p h (a ++ b) = A7p (A7p h a) b := by
 unfold A7p
 rw [ByteArray.size_append]
 exact B76 h a b _
theorem C1C (w : World) (id : Int) (n : Nat) (hn : n < 2 ^ 60) : Fn PR B5 165 #[.int .i64 id, .int .i64 (n : Int)] w (fun v w' => v = .int .u64 (A3D id n : Nat) ∧ C0 [] w w') := by
 refine Fn.pure (A5S (TW.go (κ := false) (S := []) ?_))
 unfold A0d
 obtain ⟨q, hq⟩ : ∃ q : Nat, IntKind.u64.wrap id = q := ⟨(IntKind.u64.wrap id).toNat, by simp only [IntKind.wrap, IntKind.bits, IntKind.signed]; simp; omega⟩
 have hql : q < 2 ^ 64 := by
  have : IntKind.u64.wrap id < 2 ^ 64 := by simp only [IntKind.wrap, IntKind.bits, IntKind.signed]; simp; omega
  omega
 (have hQq := trivial; repeat ((first | clear hQq | (with_reducible first | refine A3 ?_ | refine A4 fun _ => ?_ | refine A5 fun _ => ?_)); (try simp (disch := first | omega | assumption | ((repeat (first | exact A0 | exact Up.here | apply A1 | apply Up.there)); first | done | fail) | (simp; first | done | omega | fail)) [hq])))
 refine B7 N1 (fun w' hw' => B22 w' q 4 hql) ?_
 (have hQq := trivial; repeat ((first | clear hQq | (with_reducible first | refine A3 ?_ | refine A4 fun _ => ?_ | refine A5 fun _ => ?_)); (try simp (disch := first | omega | assumption | ((repeat (first | exact A0 | exact Up.here | apply A1 | apply Up.there)); first | done | fail) | (simp; first | done | omega | fail)) [])))
 refine B7 N1 (fun w' hw' => B22 w' n 2 (by omega)) ?_
 (have hQq := trivial; repeat ((first | clear hQq | (with_reducible first | refine A3 ?_ | refine A4 fun _ => ?_ | refine A5 fun _ => ?_)); (try simp (disch := first | omega | assumption | ((repeat (first | exact A0 | exact Up.here | apply A1 | apply Up.there)); first | done | fail) | (simp; first | done | omega | fail)) [P1])))
 refine B7 U5 (fun w' _ => A9a w' _ (by simp)) ?_
 refine A9 ?_
 unfold A3D Q6
 rw [hq, B0W, B0W, B0W]
 rfl
theorem B9Q (w : World) (x y : Nat × Int) : Fn PR B5 216 #[.agg #[.int .u64 (x.1 : Nat), .int .i64 x.2], .agg #[.int .u64 (y.1 : Nat), .int .i64 y.2]] w (fun r w' => r = .bool (!Q7 y x) ∧ C0 [] w w') := by
 refine Fn.pure (A5W (TW.go (κ := false) (S := []) ?_))
 unfold A0q
 by_cases c1 : x.1 < y.1
 ·have c1' : (x.1 : Int) < (y.1 : Int) := by omega
  have e : Q7 y x = false := by unfold Q7; rw [decide_eq_false_iff_not]; omega
  (have hQq := trivial; repeat ((first | clear hQq | (with_reducible first | refine A3 ?_ | refine A4 fun _ => ?_ | refine A5 fun _ => ?_)); (try simp (disch := first | omega | assumption | ((repeat (first | exact A0 | exact Up.here | apply A1 | apply Up.there)); first | done | fail) | (simp; first | done | omega | fail)) [c1, c1'])))
  exact A9 (by rw [e]; rfl)
 have c1' : ¬ (x.1 : Int) < (y.1 : Int) := by omega
 by_cases c2 : x.1 = y.1
 ·by_cases c3 : x.2 < y.2
  ·have e : Q7 y x = false := by unfold Q7; rw [decide_eq_false_iff_not]; omega
   (have hQq := trivial; repeat ((first | clear hQq | (with_reducible first | refine A3 ?_ | refine A4 fun _ => ?_ | refine A5 fun _ => ?_)); (try simp (disch := first | omega | assumption | ((repeat (first | exact A0 | exact Up.here | apply A1 | apply Up.there)); first | done | fail) | (simp; first | done | omega | fail)) [c1, c1', c2, c3])))
   exact A9 (by rw [e]; rfl)
  ·have e : Q7 y x = true := by unfold Q7; rw [decide_eq_true_eq]; omega
   (have hQq := trivial; repeat ((first | clear hQq | (with_reducible first | refine A3 ?_ | refine A4 fun _ => ?_ | refine A5 fun _ => ?_)); (try simp (disch := first | omega | assumption | ((repeat (first | exact A0 | exact Up.here | apply A1 | apply Up.there)); first | done | fail) | (simp; first | done | omega | fail)) [c1, c1', c2, c3])))
   exact A9 (by rw [e]; rfl)
 ·have c2' : ¬ (x.1 : Int) = (y.1 : Int) := by omega
  have e : Q7 y x = true := by unfold Q7; rw [decide_eq_true_eq]; omega
  (have hQq := trivial; repeat ((first | clear hQq | (with_reducible first | refine A3 ?_ | refine A4 fun _ => ?_ | refine A5 fun _ => ?_)); (try simp (disch := first | omega | assumption | ((repeat (first | exact A0 | exact Up.here | apply A1 | apply Up.there)); first | done | fail) | (simp; first | done | omega | fail)) [c1, c1', c2, c2'])))
  exact A9 (by rw [e]; rfl)
abbrev A16 (v : Value) (l : List (Nat × Int)) : Res := .own 199 2 v l.length (l.flatMap E9)
theorem K6.mono {κ : Bool} {S : List Nat} {w0 : World} {H H' : List Res} {v : Value} {n : Nat} {xs : List Value} (h : K6 κ S w0 H v n xs) (hs : H.Sublist H') : K6 κ S w0 H' v n xs := fun w hw => h w (hw.sub hs)
theorem B6V {a b : List (Nat × Int)} {i k : Nat} {x : Nat × Int} (hx : a[i]? = some x) (h : b.length ≤ k ∨ ∃ y, b[k]? = some y ∧ Q7 x y = true) : (a.drop i).merge (b.drop k) Q7 = x :: (a.drop (i + 1)).merge (b.drop k) Q7 := by
 obtain ⟨hi, e⟩ := List.getElem?_eq_some_iff.1 hx
 rw [List.drop_eq_getElem_cons hi, e]
 rcases h with h | ⟨y, hy, hle⟩
 ·rw [List.drop_of_length_le h]; simp
 ·obtain ⟨hk, e2⟩ := List.getElem?_eq_some_iff.1 hy
  rw [List.drop_eq_getElem_cons hk, e2, List.cons_merge_cons, if_pos hle]
theorem B6r {a b : List (Nat × Int)} {i k : Nat} {y : Nat × Int} (hy : b[k]? = some y) (h : a.length ≤ i ∨ ∃ x, a[i]? = some x ∧ ¬ Q7 x y = true) : (a.drop i).merge (b.drop k) Q7 = y :: (a.drop i).merge (b.drop (k + 1)) Q7 := by
 obtain ⟨hk, e⟩ := List.getElem?_eq_some_iff.1 hy
 rw [List.drop_eq_getElem_cons hk, e]
 rcases h with h | ⟨x, hx, hle⟩
 ·rw [List.drop_of_length_le h]; simp
 ·obtain ⟨hi, e2⟩ := List.getElem?_eq_some_iff.1 hx
  rw [List.drop_eq_getElem_cons hi, e2, List.cons_merge_cons, if_neg hle]
theorem B74 (w : World) (u v : Value) (a b : List (Nat × Int)) (ha : a.length ≤ 1000000) (hb : b.length ≤ 1000000) (hu : E3 w u a.length (a.flatMap E9)) (hv : E3 w v b.length (b.flatMap E9)) :
  Fn PR B5 196 #[u, v] w (Rn [] w (fun r x => x = r) fun r => [A16 r (a.merge b Q7)]) := by
 refine A4Y (TW.go (κ := false) (S := []) ?_)
 unfold z6
 obtain ⟨ua, uc, rfl, hur⟩ := hu.form
 obtain ⟨va, vc, rfl, hvr⟩ := hv.form
 have hel : ∀ x : Nat × Int, (E9 x).length = 2 := fun _ => rfl
 have hml : (a.merge b Q7).length = a.length + b.length := List.length_merge ..
 (have hQq := trivial; repeat ((first | clear hQq | (with_reducible first | refine A3 ?_ | refine A4 fun _ => ?_ | refine A5 fun _ => ?_)); (try simp (disch := first | omega | assumption | ((repeat (first | exact A0 | exact Up.here | apply A1 | apply Up.there)); first | done | fail) | (simp; first | done | omega | fail)) [])))
 refine l6 199 2 ?_
 refine C3M (α := Nat × Nat × List (Nat × Int) × Value) (fun s => [A16 s.2.2.2 s.2.2.1]) (fun s => s.1 ≤ a.length ∧ s.2.1 ≤ b.length ∧ s.2.2.1.length = s.1 + s.2.1 ∧ s.2.2.1 ++ (a.drop s.1).merge (b.drop s.2.1) Q7 = a.merge b Q7) (fun s => a.length + b.length - (s.1 + s.2.1)) (0, 0, [], .slice none 0 0)
  (fun s => .int .i64 (s.1 : Nat)) (fun s => s.2.2.2) (fun s => .int .i64 (s.2.1 : Nat)) ⟨by simp, by simp, rfl, by simp⟩ ?_
 rintro ⟨i, k, out, r⟩ ⟨h1, h2, h3, h4⟩ L hL
 simp only at h1 h2 h3 h4 hL ⊢
 have hwi : IntKind.i64.wrap ((i : Int) + 1) = (i : Int) + 1 := U1 (by omega) (by omega)
 have hwk : IntKind.i64.wrap ((k : Int) + 1) = (k : Int) + 1 := U1 (by omega) (by omega)
 refine V5 (by ((repeat (first | exact A0 | exact Up.here | exact Sel.here | apply A1 | apply Up.there | apply Sel.there)); first | done | fail)) fun ra rc hr => ?_
 subst hr
 have pushA : ∀ x, a[i]? = some x → (b.length ≤ k ∨ ∃ y, b[k]? = some y ∧ Q7 x y = true) → ∀ a' c', TW false [] w [A16 (.slice a' (out.length + 1) c') (out ++ [x])] (L (.int .i64 ((i + 1 : Nat) : Int)) (.slice a' (out.length + 1) c') (.int .i64 (k : Nat))) := fun x hx hc a' c' => by
  have hi := (List.getElem?_eq_some_iff.1 hx).1
  have := hL (i + 1, k, out ++ [x], .slice a' (out.length + 1) c') ⟨by simp only; omega, h2, by simp only [List.length_append, List.length_singleton]; omega, by simp only; rw [List.append_assoc, List.singleton_append, ← B6V hx hc, h4]⟩ (by simp only; omega)
  exact this
 have pushB : ∀ y, b[k]? = some y → (a.length ≤ i ∨ ∃ x, a[i]? = some x ∧ ¬ Q7 x y = true) → ∀ a' c', TW false [] w [A16 (.slice a' (out.length + 1) c') (out ++ [y])] (L (.int .i64 (i : Nat)) (.slice a' (out.length + 1) c') (.int .i64 ((k + 1 : Nat) : Int))) := fun y hy hc a' c' => by
  have hk := (List.getElem?_eq_some_iff.1 hy).1
  have := hL (i, k + 1, out ++ [y], .slice a' (out.length + 1) c') ⟨h1, by simp only; omega, by simp only [List.length_append, List.length_singleton]; omega, by simp only; rw [List.append_assoc, List.singleton_append, ← B6r hy hc, h4]⟩ (by simp only; omega)
  exact this
 have doA : ∀ (g : Nat) (x : Nat × Int) (K : Value → WP), (∀ a' c', TW false [] w [A16 (.slice a' (out.length + 1) c') (out ++ [x])] (K (.slice a' (out.length + 1) c'))) → TW false [] w [.own 199 2 (.slice (some ⟨g, 0, none⟩) 1 1) 1 (E9 x), A16 (.slice ra out.length rc) out]
   (B1 PR B5 (A7 .append #[146, 146] 146 [.slice ra out.length rc, .slice (some ⟨g, 0, none⟩) 1 1]) K) := fun g x K hK => by
  refine l0 (e := 199) (k := 2) (q := out.length) (r := 1) (xs := out.flatMap E9) (news := E9 x) (by ((repeat (first | exact A0 | exact Up.here | exact Sel.here | apply A1 | apply Up.there | apply Sel.there)); first | done | fail)) (K6.own (by ((repeat (first | exact A0 | exact Up.here | exact Sel.here | apply A1 | apply Up.there | apply Sel.there)); first | done | fail))) (by decide) rfl (by simp [E9]) (by simp only [maxLen]; omega) (by omega) fun a' c' => ?_
  have h := hK a' c'
  simp only [A16, List.length_append, List.length_singleton, List.flatMap_append, show [x].flatMap E9 = E9 x by simp] at h
  exact Sels.tw (by ((repeat (first | exact Sels.nil | (apply Sels.cons; · ((repeat (first | exact A0 | exact Up.here | exact Sel.here | apply A1 | apply Up.there | apply Sel.there)); first | done | fail)))); first | done | fail)) h
 by_cases ci : i < a.length
 ·have hx := List.getElem?_eq_getElem ci
  obtain ⟨ub, uo, rfl, hurow⟩ := hur (by omega)
  have hra := hurow.at (f := E9) (k := 2) hel hx
  by_cases ck : k < b.length
  ·have hy := List.getElem?_eq_getElem ck
   obtain ⟨vb, vo, rfl, hvrow⟩ := hvr (by omega)
   have hrb := hvrow.at (f := E9) (k := 2) hel hy
   generalize a[i] = x at *
   generalize b[k] = y at *
   rw [E9] at hra hrb
   have ck' : ¬ (b.length : Int) ≤ (k : Int) := by omega
   have ckN : ¬ b.length ≤ k := by omega
   have ci' : (i : Int) < (a.length : Int) := by omega
   (have hQq := trivial; repeat ((first | clear hQq | (with_reducible first | refine A3 ?_ | refine A4 fun _ => ?_ | refine A5 fun _ => ?_)); (try simp (disch := first | omega | assumption | ((repeat (first | exact A0 | exact Up.here | apply A1 | apply Up.there)); first | done | fail) | (simp; first | done | omega | fail)) [ci, ci', ck, ck', ckN, hra, hrb])))
   refine B7 A4C (fun w' _ => B9Q w' y x) ?_
   cases hle : Q7 x y with
   | true =>
    (have hQq := trivial; repeat ((first | clear hQq | (with_reducible first | refine A3 ?_ | refine A4 fun _ => ?_ | refine A5 fun _ => ?_ | refine D4 fun _ => ?_ | refine D3 (hK := fun _ => ?_) | refine D1 (hK := fun _ => ?_) | refine D2 (hK := fun _ => ?_) | refine D6 (hK := fun _ => ?_) | refine D5 (hK := fun _ => ?_))); (try simp (disch := first | omega | assumption | ((repeat (first | exact A0 | exact Up.here | apply A1 | apply Up.there)); first | done | fail) | (simp; first | done | omega | fail)) [ci, ci', ck, ck', ckN, hra])))
    refine doA _ x _ fun a' c' => ?_
    (have hQq := trivial; repeat ((first | clear hQq | (with_reducible first | refine A3 ?_ | refine A4 fun _ => ?_ | refine A5 fun _ => ?_)); (try simp (disch := first | omega | assumption | ((repeat (first | exact A0 | exact Up.here | apply A1 | apply Up.there)); first | done | fail) | (simp; first | done | omega | fail)) [hwi])))
    exact pushA x hx (Or.inr ⟨y, hy, hle⟩) a' c'
   | false =>
    (have hQq := trivial; repeat ((first | clear hQq | (with_reducible first | refine A3 ?_ | refine A4 fun _ => ?_ | refine A5 fun _ => ?_ | refine D4 fun _ => ?_ | refine D3 (hK := fun _ => ?_) | refine D1 (hK := fun _ => ?_) | refine D2 (hK := fun _ => ?_) | refine D6 (hK := fun _ => ?_) | refine D5 (hK := fun _ => ?_))); (try simp (disch := first | omega | assumption | ((repeat (first | exact A0 | exact Up.here | apply A1 | apply Up.there)); first | done | fail) | (simp; first | done | omega | fail)) [ci, ci', ck, ck', ckN, hrb])))
    refine doA _ y _ fun a' c' => ?_
    (have hQq := trivial; repeat ((first | clear hQq | (with_reducible first | refine A3 ?_ | refine A4 fun _ => ?_ | refine A5 fun _ => ?_)); (try simp (disch := first | omega | assumption | ((repeat (first | exact A0 | exact Up.here | apply A1 | apply Up.there)); first | done | fail) | (simp; first | done | omega | fail)) [hwk])))
    exact pushB y hy (Or.inr ⟨x, hx, by rw [hle]; simp⟩) a' c'
  ·generalize a[i] = x at *
   rw [E9] at hra
   have ck' : (b.length : Int) ≤ (k : Int) := by omega
   have ckN : b.length ≤ k := by omega
   have ci' : (i : Int) < (a.length : Int) := by omega
   (have hQq := trivial; repeat ((first | clear hQq | (with_reducible first | refine A3 ?_ | refine A4 fun _ => ?_ | refine A5 fun _ => ?_ | refine D4 fun _ => ?_ | refine D3 (hK := fun _ => ?_) | refine D1 (hK := fun _ => ?_) | refine D2 (hK := fun _ => ?_) | refine D6 (hK := fun _ => ?_) | refine D5 (hK := fun _ => ?_))); (try simp (disch := first | omega | assumption | ((repeat (first | exact A0 | exact Up.here | apply A1 | apply Up.there)); first | done | fail) | (simp; first | done | omega | fail)) [ci, ci', ck, ck', ckN, hra])))
   refine doA _ x _ fun a' c' => ?_
   (have hQq := trivial; repeat ((first | clear hQq | (with_reducible first | refine A3 ?_ | refine A4 fun _ => ?_ | refine A5 fun _ => ?_)); (try simp (disch := first | omega | assumption | ((repeat (first | exact A0 | exact Up.here | apply A1 | apply Up.there)); first | done | fail) | (simp; first | done | omega | fail)) [hwi])))
   exact pushA x hx (Or.inl (by omega)) a' c'
 ·by_cases ck : k < b.length
  ·have hy := List.getElem?_eq_getElem ck
   obtain ⟨vb, vo, rfl, hvrow⟩ := hvr (by omega)
   have hrb := hvrow.at (f := E9) (k := 2) hel hy
   generalize b[k] = y at *
   rw [E9] at hrb
   have ck' : ¬ (b.length : Int) ≤ (k : Int) := by omega
   have ci' : ¬ (i : Int) < (a.length : Int) := by omega
   have ck2 : (k : Int) < (b.length : Int) := by omega
   have ckN : ¬ b.length ≤ k := by omega
   (have hQq := trivial; repeat ((first | clear hQq | (with_reducible first | refine A3 ?_ | refine A4 fun _ => ?_ | refine A5 fun _ => ?_ | refine D4 fun _ => ?_ | refine D3 (hK := fun _ => ?_) | refine D1 (hK := fun _ => ?_) | refine D2 (hK := fun _ => ?_) | refine D6 (hK := fun _ => ?_) | refine D5 (hK := fun _ => ?_))); (try simp (disch := first | omega | assumption | ((repeat (first | exact A0 | exact Up.here | apply A1 | apply Up.there)); first | done | fail) | (simp; first | done | omega | fail)) [ci, ci', ck, ck', ckN, ck2, hrb])))
   refine doA _ y _ fun a' c' => ?_
   (have hQq := trivial; repeat ((first | clear hQq | (with_reducible first | refine A3 ?_ | refine A4 fun _ => ?_ | refine A5 fun _ => ?_)); (try simp (disch := first | omega | assumption | ((repeat (first | exact A0 | exact Up.here | apply A1 | apply Up.there)); first | done | fail) | (simp; first | done | omega | fail)) [hwk])))
   exact pushB y hy (Or.inl (by omega)) a' c'
  ·have ci' : ¬ (i : Int) < (a.length : Int) := by omega
   have ck2 : ¬ (k : Int) < (b.length : Int) := by omega
   have he : out = a.merge b Q7 := by
    rw [← h4, List.drop_of_length_le (by omega), List.drop_of_length_le (by omega)]; simp
   (have hQq := trivial; repeat ((first | clear hQq | (with_reducible first | refine A3 ?_ | refine A4 fun _ => ?_ | refine A5 fun _ => ?_)); (try simp (disch := first | omega | assumption | ((repeat (first | exact A0 | exact Up.here | apply A1 | apply Up.there)); first | done | fail) | (simp; first | done | omega | fail)) [ci, ci', ck, ck2])))
   rw [← he]
   exact C6 _ rfl (by ((repeat (first | exact Sels.nil | (apply Sels.cons; · ((repeat (first | exact A0 | exact Up.here | exact Sel.here | apply A1 | apply Up.there | apply Sel.there)); first | done | fail)))); first | done | fail))
theorem B3K (x y z : Nat × Int) (h1 : Q7 x y = true) (h2 : Q7 y z = true) : Q7 x z = true := by unfold Q7 at *; rw [decide_eq_true_eq] at *; omega
theorem B3Q (x y : Nat × Int) : (Q7 x y || Q7 y x) = true := by
 unfold Q7; rw [Bool.or_eq_true, decide_eq_true_eq, decide_eq_true_eq]; omega
theorem C16 (x y : Nat × Int) (h1 : Q7 x y = true) (h2 : Q7 y x = true) : x = y := by
 unfold Q7 at *; rw [decide_eq_true_eq] at *
 exact Prod.ext (by omega) (by omega)
theorem A1Z (l : List (Nat × Int)) : (H5 l).Pairwise fun a b => Q7 a b = true := List.pairwise_mergeSort B3K B3Q l
theorem A7n (l : List (Nat × Int)) : (H5 l).Perm l := List.mergeSort_perm l Q7
theorem B6K (l m : List (Nat × Int)) : (H5 l).merge (H5 m) Q7 = H5 (l ++ m) := by
 refine List.Perm.eq_of_pairwise (fun a b _ _ h1 h2 => C16 a b h1 h2) (List.pairwise_merge B3K B3Q _ _ (A1Z l) (A1Z m)) (A1Z _) ?_
 exact (List.merge_perm_append Q7).trans (((A7n l).append (A7n m)).trans (A7n _).symm)
theorem A9y {l : List (Nat × Int)} (h : l.length < 2) : H5 l = l := by
 match l, h with
 | [], _ => simp [H5]
 | [a], _ => simp [H5]
theorem C0P {w : World} {b o : Nat} {xs ys : List Value} (h : M4 w b o (xs ++ ys)) : M4 w b o xs ∧ M4 w b (o + xs.length) ys := by
 refine ⟨fun i hi => ?_, fun i hi => ?_⟩
 ·rw [h i (by simp; omega), List.getElem?_append_left hi]
 ·rw [Nat.add_assoc, h (xs.length + i) (by simp; omega), List.getElem?_append_right (by omega)]; congr 1; omega
def RdC (w : World) (v : Value) (l : List (Nat × Int)) : Prop := E3 w v l.length (l.flatMap E9) ∧ ∃ a c, v = .slice a l.length c ∧ l.length ≤ c
theorem RdC.ks {w w' : World} {v : Value} {l : List (Nat × Int)} (h : RdC w v l) (hk : KS false [] w w') : RdC w' v l := ⟨h.1.ks hk (by simp), h.2⟩
theorem C0W {w : World} {H : List Res} {K : Value → WP} {v : Value} {l : List (Nat × Int)}
  (hf : ∀ w', LW false [] w H w' → Fn PR B5 166 #[v] w' (Rn [] w' (fun r u => u = if l.length < 2 then v else r) fun r => if l.length < 2 then [] else [A16 r (H5 l)]))
  (hv : ∀ w', LW false [] w H w' → E3 w' v l.length (l.flatMap E9)) (hK : ∀ u H', H.Sublist H' → K6 false [] w H' u (H5 l).length ((H5 l).flatMap E9) → TW false [] w H' (K u)) : TW false [] w H (B2 PR B5 166 [v] K) := by
 refine F8 v8 (fun w' hw' => hf w' hw') ?_
 rintro r _ rfl
 by_cases c : l.length < 2
 ·rw [if_pos c, if_pos c]
  exact hK v H (List.Sublist.refl _) (by rw [A9y c]; exact hv)
 ·rw [if_neg c, if_neg c]
  exact hK r _ (List.sublist_append_right _ _) (K6.own A0)
theorem C0d : ∀ (n : Nat) (w : World) (v : Value) (l : List (Nat × Int)), l.length ≤ n → n ≤ 1000000 → RdC w v l →
  Fn PR B5 166 #[v] w (Rn [] w (fun r u => u = if l.length < 2 then v else r) fun r => if l.length < 2 then [] else [A16 r (H5 l)]) := by
 intro n
 induction n with
 | zero =>
  intro w v l hl hn hv
  obtain ⟨h1, a, c, rfl, hc⟩ := hv
  refine A0g (TW.go (κ := false) (S := []) ?_)
  unfold d9
  have c1 : (l.length : Int) < 2 := by omega
  have c1n : l.length < 2 := by omega
  (have hQq := trivial; repeat ((first | clear hQq | (with_reducible first | refine A3 ?_ | refine A4 fun _ => ?_ | refine A5 fun _ => ?_)); (try simp (disch := first | omega | assumption | ((repeat (first | exact A0 | exact Up.here | apply A1 | apply Up.there)); first | done | fail) | (simp; first | done | omega | fail)) [c1, c1n])))
  exact C6 .nilIface (by simp [c1n]) Sels.nil
 | succ n ih =>
  intro w v l hl hn hv
  obtain ⟨h1, a, c, rfl, hc⟩ := hv
  refine A0g (TW.go (κ := false) (S := []) ?_)
  unfold d9
  by_cases c1n : l.length < 2
  ·have c1 : (l.length : Int) < 2 := by omega
   (have hQq := trivial; repeat ((first | clear hQq | (with_reducible first | refine A3 ?_ | refine A4 fun _ => ?_ | refine A5 fun _ => ?_)); (try simp (disch := first | omega | assumption | ((repeat (first | exact A0 | exact Up.here | apply A1 | apply Up.there)); first | done | fail) | (simp; first | done | omega | fail)) [c1, c1n])))
   exact C6 .nilIface (by simp [c1n]) Sels.nil
  have c1 : ¬ (l.length : Int) < 2 := by omega
  obtain ⟨h, hh⟩ : ∃ h, h = l.length / 2 := ⟨_, rfl⟩
  have e1 : IntKind.i64.wrap ((l.length : Int).tdiv 2) = (h : Nat) := by rw [Int.tdiv_eq_ediv_of_nonneg (by omega), U1 (by omega) (by omega)]; omega
  have hrow := h1.form
  obtain ⟨a', c', hve, hr⟩ := hrow
  cases hve
  obtain ⟨b, o, rfl, hrow⟩ := hr (by omega)
  have hlt : (l.take h).length = h := by rw [List.length_take]; omega
  have hld : (l.drop h).length = l.length - h := by rw [List.length_drop]
  have hsp : l.flatMap E9 = (l.take h).flatMap E9 ++ (l.drop h).flatMap E9 := by rw [← List.flatMap_append, List.take_append_drop]
  rw [hsp] at hrow
  obtain ⟨r1, r2⟩ := C0P hrow
  have hl1 : ((l.take h).flatMap E9).length = h * 2 := by rw [L0 (k := 2) fun _ => rfl, hlt]
  rw [hl1] at r2
  have rd1 : RdC w (.slice (some ⟨b, o, none⟩) h c) (l.take h) := ⟨Or.inr ⟨b, o, c, by rw [hlt], r1⟩, some ⟨b, o, none⟩, c, by rw [hlt], by omega⟩
  have rd2 : RdC w (.slice (some ⟨b, o + h * 2, none⟩) (l.length - h) (c - h)) (l.drop h) := ⟨Or.inr ⟨b, o + h * 2, c - h, by rw [hld], r2⟩, some ⟨b, o + h * 2, none⟩, c - h, by rw [hld], by omega⟩
  have e2 : ¬ c = h := by omega
  have e3 : ¬ c = 0 := by omega
  have e4 : (h : Int) ≤ (c : Int) := by omega
  have e5 : (h : Int) ≤ (l.length : Int) := by omega
  have e6 : ((l.length : Int) / 2).toNat = h := by omega
  have e7 : slc (some ⟨b, o, none⟩) h l.length c 2 = .slice (some ⟨b, o + h * 2, none⟩) (l.length - h) (c - h) := by simp [slc, e2, W6]
  have e8 : slc (some ⟨b, o, none⟩) 0 h c 2 = .slice (some ⟨b, o, none⟩) h c := by simp [slc, e3, W6]
  (have hQq := trivial; repeat ((first | clear hQq | (with_reducible first | refine A3 ?_ | refine A4 fun _ => ?_ | refine A5 fun _ => ?_)); (try simp (disch := first | omega | assumption | ((repeat (first | exact A0 | exact Up.here | apply A1 | apply Up.there)); first | done | fail) | (simp; first | done | omega | fail)) [c1, W0])))
  simp only [e6, e7, e8]
  refine C0W (l := l.take h) (fun w' hw' => ih w' _ _ (by rw [hlt]; omega) (by omega) (rd1.ks hw'.ks)) (fun w' hw' => (rd1.ks hw'.ks).1) fun u1 H1 hs1 hu1 => ?_
  refine C0W (l := l.drop h) (fun w' hw' => ih w' _ _ (by rw [hld]; omega) (by omega) (rd2.ks hw'.ks)) (fun w' hw' => (rd2.ks hw'.ks).1) fun u2 H2 hs2 hu2 => ?_
  refine F8 A3z (fun w' hw' => B74 w' u1 u2 (H5 (l.take h)) (H5 (l.drop h)) (by rw [Y6]; omega) (by rw [Y6]; omega) (hu1.mono hs2 w' hw') (hu2 w' hw')) ?_
  intro _ r hr
  subst hr
  rw [B6K, List.take_append_drop]
  refine C6 r (by simp [c1n]) ?_
  simp only [c1n, if_false]
  exact Sels.cons Sel.here Sels.nil
theorem B9c {p : List G5} {i : Nat} {b : G5} (h : p[i]? = some b) : F9 (p.take (i + 1)) = F9 (p.take i) ++ n9 b := by
 unfold F9; rw [List.take_add_one, h]; simp [List.flatMap_append]
theorem C0v {b : G5} {j : Nat} (h : j < k5 b) : (n9 b).take (j + 1) = (n9 b).take j ++ [(A3D b.1 j, b.1)] := by
 unfold n9
 rw [List.take_add_one, List.getElem?_map, List.getElem?_range h]; rfl
theorem B7l (b : G5) : k5 b ≤ 128 := by unfold k5; omega
theorem B0L (b : G5) : (n9 b).length = k5 b := by simp [n9]
theorem B0N (p : List G5) : (F9 p).length ≤ p.length * 128 := by
 induction p with
 | nil => simp [F9]
 | cons b p ih =>
  unfold F9 at *
  have := B7l b
  rw [List.flatMap_cons, List.length_append, B0L, List.length_cons]; omega
theorem C4S (w : World) (v : Value) (p : List G5) (hn : p.length ≤ 1000) (hv : E3 w v p.length (p.flatMap E8)) :
  Fn PR B5 122 #[v] w (Rn [] w (fun r u => u = r) fun r => [A16 r (H5 (F9 p))]) := by
 refine A7m (TW.go (κ := false) (S := []) ?_)
 unfold A1d
 obtain ⟨a, c, rfl, hr⟩ := hv.form
 (have hQq := trivial; repeat ((first | clear hQq | (with_reducible first | refine A3 ?_ | refine A4 fun _ => ?_ | refine A5 fun _ => ?_)); (try simp (disch := first | omega | assumption | ((repeat (first | exact A0 | exact Up.here | apply A1 | apply Up.there)); first | done | fail) | (simp; first | done | omega | fail)) [])))
 refine l6 199 2 ?_
 refine K3 p.length (fun i (r : Value) => r) (fun i r => [A16 r (F9 (p.take i))]) (fun i r => True) (.slice none 0 0) trivial ?_ (by simp [F9])
 rintro i r hi _ L hL
 by_cases hlt : i < p.length
 ·have hx : p[i]? = some p[i] := List.getElem?_eq_getElem hlt
  obtain ⟨b, o, rfl, hrow⟩ := hr (by omega)
  have h1 := hrow.cellAt (f := E8) (k := 2) (j := 0) (fun _ => rfl) hx rfl
  have h2 := hrow.cellAt (f := E8) (k := 2) (j := 1) (fun _ => rfl) hx rfl
  have hnx := B9c hx
  have hle := B0N (p.take i)
  rw [List.length_take] at hle
  rw [hnx] at hL
  generalize p[i] = y at *
  have hwl := B7l y
  have e1 : IntKind.i64.wrap (8 * max 0 (min y.2 16)) = (k5 y : Int) := by unfold k5; rw [U1 (by omega) (by omega)]; omega
  (have hQq := trivial; repeat ((first | clear hQq | (with_reducible first | refine A3 ?_ | refine A4 fun _ => ?_ | refine A5 fun _ => ?_)); (try simp (disch := first | omega | assumption | ((repeat (first | exact A0 | exact Up.here | apply A1 | apply Up.there)); first | done | fail) | (simp; first | done | omega | fail)) [hlt])))
  refine K3 (k5 y) (fun j (r : Value) => r) (fun j r => [A16 r (F9 (p.take i) ++ (n9 y).take j)]) (fun j r => True) r trivial ?_ (by simp)
  rintro j r2 hj _ L2 hL2
  by_cases hjl : j < k5 y
  ·have hjl' : (j : Int) < (k5 y : Int) := by omega
   have hbn := C0v hjl
   have hlj : ((n9 y).take j).length = j := by rw [List.length_take, B0L]; omega
   rw [hbn, ← List.append_assoc] at hL2
   refine V5 (by ((repeat (first | exact A0 | exact Up.here | exact Sel.here | apply A1 | apply Up.there | apply Sel.there)); first | done | fail)) fun ra rc hra => ?_
   subst hra
   generalize hacc : F9 (p.take i) ++ (n9 y).take j = acc at *
   have hal : acc.length ≤ 200000 := by rw [← hacc, List.length_append, hlj]; omega
   (have hQq := trivial; repeat ((first | clear hQq | (with_reducible first | refine A3 ?_ | refine A4 fun _ => ?_ | refine A5 fun _ => ?_)); (try simp (disch := first | omega | assumption | ((repeat (first | exact A0 | exact Up.here | apply A1 | apply Up.there)); first | done | fail) | (simp; first | done | omega | fail)) [hlt, h1, h2, e1, hjl'])))
   refine B7 A4V (fun w' _ => C1C w' y.1 j (by omega)) ?_
   (have hQq := trivial; repeat ((first | clear hQq | (with_reducible first | refine A3 ?_ | refine A4 fun _ => ?_ | refine A5 fun _ => ?_ | refine D4 fun _ => ?_ | refine D3 (hK := fun _ => ?_) | refine D1 (hK := fun _ => ?_) | refine D2 (hK := fun _ => ?_) | refine D6 (hK := fun _ => ?_) | refine D5 (hK := fun _ => ?_))); (try simp (disch := first | omega | assumption | ((repeat (first | exact A0 | exact Up.here | apply A1 | apply Up.there)); first | done | fail) | (simp; first | done | omega | fail)) [hlt, h1, h2])))
   refine l0 (e := 199) (k := 2) (q := acc.length) (r := 1) (xs := acc.flatMap E9) (news := E9 (A3D y.1 j, y.1)) (by ((repeat (first | exact A0 | exact Up.here | exact Sel.here | apply A1 | apply Up.there | apply Sel.there)); first | done | fail)) (K6.own (by ((repeat (first | exact A0 | exact Up.here | exact Sel.here | apply A1 | apply Up.there | apply Sel.there)); first | done | fail))) (by decide) rfl (by simp [E9]) (by simp only [maxLen]; omega) (by omega) fun a' c' => ?_
   (have hQq := trivial; repeat ((first | clear hQq | (with_reducible first | refine A3 ?_ | refine A4 fun _ => ?_ | refine A5 fun _ => ?_)); (try simp (disch := first | omega | assumption | ((repeat (first | exact A0 | exact Up.here | apply A1 | apply Up.there)); first | done | fail) | (simp; first | done | omega | fail)) [])))
   have h := hL2 hjl (.slice a' (acc.length + 1) c') trivial
   simp only [A16, List.length_append, List.length_singleton, List.flatMap_append, show [(A3D y.1 j, y.1)].flatMap E9 = E9 (A3D y.1 j, y.1) by simp] at h
   exact Sels.tw (by ((repeat (first | exact Sels.nil | (apply Sels.cons; · ((repeat (first | exact A0 | exact Up.here | exact Sel.here | apply A1 | apply Up.there | apply Sel.there)); first | done | fail)))); first | done | fail)) h
  ·obtain rfl : j = k5 y := by omega
   have hjl' : ¬ ((k5 y : Nat) : Int) < (k5 y : Int) := by omega
   have htk : (n9 y).take (k5 y) = n9 y := List.take_of_length_le (by rw [B0L]; omega)
   rw [htk]
   (have hQq := trivial; repeat ((first | clear hQq | (with_reducible first | refine A3 ?_ | refine A4 fun _ => ?_ | refine A5 fun _ => ?_)); (try simp (disch := first | omega | assumption | ((repeat (first | exact A0 | exact Up.here | apply A1 | apply Up.there)); first | done | fail) | (simp; first | done | omega | fail)) [hlt, h1, h2, e1, hjl'])))
   exact Sels.tw (by ((repeat (first | exact Sels.nil | (apply Sels.cons; · ((repeat (first | exact A0 | exact Up.here | exact Sel.here | apply A1 | apply Up.there | apply Sel.there)); first | done | fail)))); first | done | fail)) (hL hlt r2 trivial)
 ·obtain rfl : i = p.length := by omega
  rw [List.take_length]
  have hle := B0N p
  refine V5 (by ((repeat (first | exact A0 | exact Up.here | exact Sel.here | apply A1 | apply Up.there | apply Sel.there)); first | done | fail)) fun ra rc hra => ?_
  subst hra
  refine C7v (by ((repeat (first | exact A0 | exact Up.here | exact Sel.here | apply A1 | apply Up.there | apply Sel.there)); first | done | fail)) fun hcap => ?_
  (have hQq := trivial; repeat ((first | clear hQq | (with_reducible first | refine A3 ?_ | refine A4 fun _ => ?_ | refine A5 fun _ => ?_)); (try simp (disch := first | omega | assumption | ((repeat (first | exact A0 | exact Up.here | apply A1 | apply Up.there)); first | done | fail) | (simp; first | done | omega | fail)) [])))
  refine F8 v8 (fun w' hw' => C0d (F9 p).length w' _ (F9 p) (Nat.le_refl _) (by omega) ⟨K6.own A0 w' hw', _, _, rfl, hcap⟩) ?_
  rintro r2 _ rfl
  by_cases c1 : (F9 p).length < 2
  ·simp only [c1, if_true]
   rw [A9y c1]
   exact C6 _ rfl (Sels.cons Sel.here Sels.nil)
  ·simp only [c1, if_false]
   exact C6 r2 rfl (Sels.cons Sel.here Sels.nil)
theorem A7y {f : Nat → Bool} {i j r : Nat} (h0 : i ≤ r) (h1 : r ≤ j) (h2 : ∀ q, i ≤ q → q < r → f q = false) (h3 : ∀ q, r ≤ q → q < j → f q = true) : H3 f i j = r := by
 induction i, j using H3.induct f with
 | case1 i j hij hf ih =>
  rw [H3, if_pos hij, if_pos hf]
  have : r ≤ (i + j) / 2 := by
   apply Classical.byContradiction
   intro hc
   have := h2 ((i + j) / 2) (by omega) (by omega)
   rw [hf] at this; cases this
  exact ih h0 this h2 fun q hq hq2 => h3 q hq (by omega)
 | case2 i j hij hf ih =>
  rw [H3, if_pos hij, if_neg hf]
  have : (i + j) / 2 < r := by
   apply Classical.byContradiction
   intro hc
   exact hf (h3 ((i + j) / 2) (by omega) (by omega))
  exact ih (by omega) h1 (fun q hq hq2 => h2 q (by omega) hq2) h3
 | case3 i j hij => rw [H3, if_neg hij]; omega
theorem B3j {l : List (Nat × Int)} {h q : Nat} (hq : q < l.length) : geP l h q = false ↔ l[q].1 < h := by
 unfold geP
 rw [decide_eq_false_iff_not, List.getD_eq_getElem?_getD, List.getElem?_eq_getElem hq]
 simp
theorem C10 {l : List (Nat × Int)} {h q : Nat} (hq : q < l.length) : geP l h q = true ↔ h ≤ l[q].1 := by
 unfold geP
 rw [decide_eq_true_eq, List.getD_eq_getElem?_getD, List.getElem?_eq_getElem hq]
 simp
theorem C1L {l : List (Nat × Int)} {h i : Nat} (hs : l.Pairwise fun a b => Q7 a b = true) (hi : i < l.length) (hh : h ≤ l[i].1) (hp : ∀ j (hj : j < i), (l[j]'(by omega)).1 < h) : A0v l h = l[i].2 := by
 have e : H3 (geP l h) 0 l.length = i := by
  refine A7y (by omega) (by omega) (fun q _ hq => (B3j (by omega)).2 (hp q hq)) fun q hq hql => (C10 hql).2 ?_
  by_cases c : i = q
  ·subst c; exact hh
  ·have := List.pairwise_iff_getElem.1 hs i q hi hql (by omega)
   unfold Q7 at this
   rw [decide_eq_true_eq] at this
   omega
 unfold A0v
 rw [if_neg (by omega), e, Nat.mod_eq_of_lt hi, List.getD_eq_getElem?_getD, List.getElem?_eq_getElem hi]; rfl
theorem B8x {l : List (Nat × Int)} {h : Nat} (h0 : 0 < l.length) (hp : ∀ j (hj : j < l.length), l[j].1 < h) : A0v l h = l[0].2 := by
 have e : H3 (geP l h) 0 l.length = l.length := A7y (by omega) (Nat.le_refl _) (fun q _ hq => (B3j hq).2 (hp q hq)) fun q hq hql => by omega
 unfold A0v
 rw [if_neg (by omega), e, Nat.mod_self, List.getD_eq_getElem?_getD, List.getElem?_eq_getElem h0]; rfl
theorem C0n (w : World) (v : Value) (l : List (Nat × Int)) (h : Nat) (hs : l.Pairwise fun a b => Q7 a b = true) (hn : l.length ≤ 1000000) (hv : E3 w v l.length (l.flatMap E9)) :
  Fn PR B5 121 #[v, .int .u64 (h : Int)] w (fun r w' => r = .int .i64 (A0v l h) ∧ C0 [] w w') := by
 refine Fn.pure (A5P (TW.go (κ := false) (S := []) ?_))
 unfold A0r
 obtain ⟨a, c, rfl, hr⟩ := hv.form
 (have hQq := trivial; repeat ((first | clear hQq | (with_reducible first | refine A3 ?_ | refine A4 fun _ => ?_ | refine A5 fun _ => ?_)); (try simp (disch := first | omega | assumption | ((repeat (first | exact A0 | exact Up.here | apply A1 | apply Up.there)); first | done | fail) | (simp; first | done | omega | fail)) [])))
 refine K3 (α := Unit) l.length (fun _ _ => .int .i64 0) (fun _ _ => []) (fun i _ => ∀ j (hj : j < l.length), j < i → l[j].1 < h) () (by intros; omega) ?_
 rintro i _ hi hpre L hL
 by_cases hlt : i < l.length
 ·have hx : l[i]? = some l[i] := List.getElem?_eq_getElem hlt
  obtain ⟨b, o, rfl, hrow⟩ := hr (by omega)
  have h1 := hrow.cellAt (f := E9) (k := 2) (j := 0) (fun _ => rfl) hx rfl
  have h2 := hrow.cellAt (f := E9) (k := 2) (j := 1) (fun _ => rfl) hx rfl
  by_cases c1 : h ≤ l[i].1
  ·have c1' : (h : Int) ≤ (l[i].1 : Int) := by omega
   (have hQq := trivial; repeat ((first | clear hQq | (with_reducible first | refine A3 ?_ | refine A4 fun _ => ?_ | refine A5 fun _ => ?_)); (try simp (disch := first | omega | assumption | ((repeat (first | exact A0 | exact Up.here | apply A1 | apply Up.there)); first | done | fail) | (simp; first | done | omega | fail)) [hlt, h1, h2, c1, c1'])))
   exact A9 (by rw [C1L hs hlt c1 fun j hj => hpre j (by omega) hj])
  ·have c1' : ¬ (h : Int) ≤ (l[i].1 : Int) := by omega
   (have hQq := trivial; repeat ((first | clear hQq | (with_reducible first | refine A3 ?_ | refine A4 fun _ => ?_ | refine A5 fun _ => ?_)); (try simp (disch := first | omega | assumption | ((repeat (first | exact A0 | exact Up.here | apply A1 | apply Up.there)); first | done | fail) | (simp; first | done | omega | fail)) [hlt, h1, h2, c1, c1'])))
   refine hL hlt () fun j hj hji => ?_
   by_cases e : j = i
   ·subst e; omega
   ·exact hpre j hj (by omega)
 ·obtain rfl : i = l.length := by omega
  by_cases h0 : l.length = 0
  ·(have hQq := trivial; repeat ((first | clear hQq | (with_reducible first | refine A3 ?_ | refine A4 fun _ => ?_ | refine A5 fun _ => ?_)); (try simp (disch := first | omega | assumption | ((repeat (first | exact A0 | exact Up.here | apply A1 | apply Up.there)); first | done | fail) | (simp; first | done | omega | fail)) [h0])))
   exact A9 (by unfold A0v; rw [if_pos h0])
  ·have hx : l[0]? = some (l[0]'(by omega)) := List.getElem?_eq_getElem (by omega)
   obtain ⟨b, o, rfl, hrow⟩ := hr (by omega)
   have h2 := hrow.cellAt (f := E9) (k := 2) (j := 1) (fun _ => rfl) hx rfl
   simp only [Nat.zero_mul, Nat.add_zero] at h2
   have h0' : (0 : Int) < (l.length : Int) := by omega
   have h0'' : ¬ (l.length : Int) = 0 := by omega
   (have hQq := trivial; repeat ((first | clear hQq | (with_reducible first | refine A3 ?_ | refine A4 fun _ => ?_ | refine A5 fun _ => ?_)); (try simp (disch := first | omega | assumption | ((repeat (first | exact A0 | exact Up.here | apply A1 | apply Up.there)); first | done | fail) | (simp; first | done | omega | fail)) [h0, h0', h0'', h2])))
   exact A9 (by rw [B8x (by omega) fun j hj => hpre j hj hj])
theorem B9f (w : World) (v : Value) (p : List G5) (h : Nat) (hn : p.length ≤ 1000) (hv : E3 w v p.length (p.flatMap E8)) :
  Fn PR B5 77 #[v, .int .u64 (h : Int)] w (fun r w' => r = .int .i64 (A7T p h) ∧ C0 [] w w') := by
 refine Fn.pure (A52 (TW.go (κ := false) (S := []) ?_))
 unfold A0Y
 refine F8 A6Q (fun w' hw' => C4S w' v p hn (hv.ks hw'.ks (by simp))) ?_
 intro _ r hr
 subst hr
 have hle := B0N p
 (have hQq := trivial; repeat ((first | clear hQq | (with_reducible first | refine A3 ?_ | refine A4 fun _ => ?_ | refine A5 fun _ => ?_)); (try simp (disch := first | omega | assumption | ((repeat (first | exact A0 | exact Up.here | apply A1 | apply Up.there)); first | done | fail) | (simp; first | done | omega | fail)) [])))
 refine B7 A4A (fun w' hw' => C0n w' r (H5 (F9 p)) h (A1Z _) (by rw [Y6]; omega) (K6.own A0 w' hw')) ?_
 exact A9 rfl
end Go.Proofs.YtggakcpabomliaaGreat
namespace Go.Proofs.YtggakcpabomliaaGreat
open Go
theorem B7q {l : List EnV} {p : List G5} {key : ByteArray} {now : Int} (h : (G1 l p key now).2 = true) : 0 ≤ D9 l key ∧ now ≤ (W7 l key).dl ∧ 0 ≤ V6 p (W7 l key).bk ∧ (G1 l p key now).1 = (W7 l key).bk := by
 unfold G1 at *
 split at h
 ·cases h
 ·rename_i c
  rw [if_neg c]
  refine ⟨by omega, by omega, by omega, rfl⟩
theorem B55 (l : List EnV) (p : List G5) (key : ByteArray) (closing : Bool) (now idle : Int) :
  ((G1 l p key now).2 = false ∧ p = [] ∧ D7 l p key closing now idle = (l, ⟨11, 0, false, 0⟩, false)) ∨
  (¬ ((G1 l p key now).2 = false ∧ p = []) ∧ closing = true ∧ D7 l p key closing now idle = (A03 l key, ⟨0, M6 l p key now, false, 0⟩, (T8 l key).isSome)) ∨
  (¬ ((G1 l p key now).2 = false ∧ p = []) ∧ closing = false ∧ D9 l key < 0 ∧ D7 l p key closing now idle = (l, ⟨12, 0, false, 0⟩, false)) ∨
  (¬ ((G1 l p key now).2 = false ∧ p = []) ∧ closing = false ∧ ∃ u, F6 l (A2s l p key now idle) = some u ∧ D7 l p key closing now idle = (u, ⟨0, M6 l p key now, !(G1 l p key now).2, 0⟩, true)) := by
 unfold D7
 by_cases h : (G1 l p key now).2 = false ∧ p = []
 ·left; exact ⟨h.1, h.2, if_pos h⟩
 right
 rw [if_neg h]
 cases closing with
 | true => left; exact ⟨h, rfl, rfl⟩
 | false =>
  right
  cases hp : F6 l (A2s l p key now idle) with
  | none => left; exact ⟨h, rfl, C0G hp, rfl⟩
  | some u => right; exact ⟨h, rfl, u, rfl, rfl⟩
end Go.Proofs.YtggakcpabomliaaGreat
namespace Go.Proofs.YtggakcpabomliaaGreat
open Go
theorem B3q (w : World) (v : Value) (l : List G5) (id : Int) (hn : l.length ≤ 1000000) (hv : E3 w v l.length (l.flatMap E8)) :
  Fn PR B5 76 #[v, .int .i64 id] w (fun r w' => r = .int .i64 (V6 l id) ∧ C0 [] w w') := by
 refine Fn.pure (A5r (TW.go (κ := false) (S := []) ?_))
 unfold A0u
 obtain ⟨a, c, rfl, hr⟩ := hv.form
 (have hQq := trivial; repeat ((first | clear hQq | (with_reducible first | refine A3 ?_ | refine A4 fun _ => ?_ | refine A5 fun _ => ?_)); (try simp (disch := first | omega | assumption | ((repeat (first | exact A0 | exact Up.here | apply A1 | apply Up.there)); first | done | fail) | (simp; first | done | omega | fail)) [])))
 refine K3 (α := Unit) l.length (fun _ _ => .int .i64 0) (fun _ _ => []) (fun i _ => ∀ j y, j < i → l[j]? = some y → decide (y.1 = id) = false) () (by intro j _ hj; omega) ?_
 rintro i _ hi hpre L hL
 by_cases hlt : i < l.length
 ·obtain ⟨b, o, rfl, hrow⟩ := hr (by omega)
  have hx : l[i]? = some l[i] := List.getElem?_eq_getElem hlt
  have h1 := hrow.cellAt (f := E8) (k := 2) (j := 0) (fun _ => rfl) hx rfl
  by_cases c1 : l[i].1 = id
  ·(have hQq := trivial; repeat ((first | clear hQq | (with_reducible first | refine A3 ?_ | refine A4 fun _ => ?_ | refine A5 fun _ => ?_)); (try simp (disch := first | omega | assumption | ((repeat (first | exact A0 | exact Up.here | apply A1 | apply Up.there)); first | done | fail) | (simp; first | done | omega | fail)) [hlt, h1, c1])))
   exact A9 (by rw [V6, A42 hx (by simpa using c1) hpre])
  ·(have hQq := trivial; repeat ((first | clear hQq | (with_reducible first | refine A3 ?_ | refine A4 fun _ => ?_ | refine A5 fun _ => ?_)); (try simp (disch := first | omega | assumption | ((repeat (first | exact A0 | exact Up.here | apply A1 | apply Up.there)); first | done | fail) | (simp; first | done | omega | fail)) [hlt, h1, c1])))
   refine hL hlt () fun j y hj hy => ?_
   by_cases hji : j = i
   ·subst hji; rw [hx] at hy; cases hy; simpa using c1
   ·exact hpre j y (by omega) hy
 ·obtain rfl : i = l.length := by omega
  (have hQq := trivial; repeat ((first | clear hQq | (with_reducible first | refine A3 ?_ | refine A4 fun _ => ?_ | refine A5 fun _ => ?_)); (try simp (disch := first | omega | assumption | ((repeat (first | exact A0 | exact Up.here | apply A1 | apply Up.there)); first | done | fail) | (simp; first | done | omega | fail)) [])))
  exact A9 (by rw [V6, A8a fun j y hy => hpre j y (List.getElem?_eq_some_iff.1 hy).1 hy])
theorem B8l (w : World) (key : ByteArray) (n : Int) (hk : key.size < 2 ^ 60) (hn : n < 2 ^ 63) : Fn PR B5 30 #[.string key, .int .i64 n] w (fun v w' => v = .int .i64 (M0 key n : Nat) ∧ C0 [] w w') := by
 refine Fn.pure (A4c (TW.go (κ := false) (S := []) ?_))
 unfold w9
 by_cases c1 : n < 1
 ·(have hQq := trivial; repeat ((first | clear hQq | (with_reducible first | refine A3 ?_ | refine A4 fun _ => ?_ | refine A5 fun _ => ?_)); (try simp (disch := first | omega | assumption | ((repeat (first | exact A0 | exact Up.here | apply A1 | apply Up.there)); first | done | fail) | (simp; first | done | omega | fail)) [c1])))
  exact A9 (by simp [M0, c1])
 (have hQq := trivial; repeat ((first | clear hQq | (with_reducible first | refine A3 ?_ | refine A4 fun _ => ?_ | refine A5 fun _ => ?_)); (try simp (disch := first | omega | assumption | ((repeat (first | exact A0 | exact Up.here | apply A1 | apply Up.there)); first | done | fail) | (simp; first | done | omega | fail)) [c1])))
 refine B7 U5 (fun w' _ => A9a w' key hk) ?_
 obtain ⟨m, rfl⟩ : ∃ m : Nat, n = m := ⟨n.toNat, by omega⟩
 have hl := A6F key
 have hm : Q6 key / 4294967296 % m < m := Nat.mod_lt _ (by omega)
 have e0 : ((Q6 key : Nat) : Int).tdiv 4294967296 = (Q6 key / 4294967296 : Nat) := by rw [Int.tdiv_eq_ediv_of_nonneg (by omega)]; omega
 have e1 : ((Q6 key / 4294967296 : Nat) : Int).tmod m = (Q6 key / 4294967296 % m : Nat) := by rw [Int.tmod_eq_emod_of_nonneg (by omega), Int.natCast_emod]
 have e2 : M0 key m = Q6 key / 4294967296 % m := by simp only [M0, if_neg c1, Int.toNat_natCast]
 have hnz : ¬ (m : Int) = 0 := by omega
 rw [e2]
 (have hQq := trivial; repeat ((first | clear hQq | (with_reducible first | refine A3 ?_ | refine A4 fun _ => ?_ | refine A5 fun _ => ?_)); (try simp (disch := first | omega | assumption | ((repeat (first | exact A0 | exact Up.here | apply A1 | apply Up.there)); first | done | fail) | (simp; first | done | omega | fail)) [hnz, e0, W0, N3])))
 have e3 : (((Q6 key : Nat) : Int) / 4294967296).tmod m = (Q6 key / 4294967296 % m : Nat) := by rw [← e1]; congr 1
 rw [e3, U1 (n := ((Q6 key / 4294967296 % m : Nat) : Int)) (by omega) (by omega)]
 exact A9 (by simp)
abbrev B1e (w : World) (v : Value) (l : List EnV) (p : List G5) (key : ByteArray) (closing : Bool) (now idle : Int) : Value → WP :=
 Rn [] w (fun r x => x = .tuple #[if (D7 l p key closing now idle).2.2 then r else v, (D7 l p key closing now idle).2.1.val]) fun r => if (D7 l p key closing now idle).2.2 then [F2 r (D7 l p key closing now idle).1] else []
theorem B36 (w : World) (v u : Value) (l : List EnV) (p : List G5) (key : ByteArray) (closing : Bool) (now idle : Int) (ba : Nat) (kn : Bool) (hkn : (G1 l p key now).2 = kn) (hk : key.size < 2 ^ 60) (hks : H6 l) (hn : l.length ≤ 1000000) (hp : p.length ≤ 1000) (hv : E3 w v l.length (l.flatMap E1)) (hu : E3 w u p.length (p.flatMap E8)) (R : Value → WP) (hR : R = B1e w v l p key closing now idle) :
  TW false [] w [.pt ba (.cells #[.int .i64 0, .int .i64 0, .bool false, .int .i64 0] 39)] (
  B2 PR B5 78 [(.string key)] fun t49 =>
  B2 PR B5 77 [u, t49] fun t50 =>
  jn (n := 2) (fun t16 t12 =>
  jn (n := 1) (fun t12_1 =>
  A2 PR (binOp .add 3 (.int .i64 now) (.int .i64 idle)) fun t78 =>
  B2 PR B5 80 [v, (.string key), t16, t78] fun t79 =>
  A2 PR (Instr.extract t79 0) fun t80 =>
  A2 PR (Instr.extract t79 1) fun t81 =>
  jn (n := 1) (fun t12_2 =>
  A2 PR (Op.unary .not (.bool kn)) fun t90 =>
  A2 PR (Instr.build 39 #[(1, t16), (2, t90)]) fun t91 =>
  B4 PR B5 (Instr.storeAt 39 (.pointer (some ⟨ba, 0, none⟩)) t91) <|
  A6 PR (E0 [.v t80, .c 39 (.pointer (some ⟨ba, 0, none⟩))]) R) fun J1 =>
  A2 PR (binOp .neq 28 t81 (.int .i64 0)) fun t83 =>
  B6 t83 (
  A2 PR (Instr.build 39 #[(0, t81)]) fun t86 =>
  B4 PR B5 (Instr.storeAt 39 (.pointer (some ⟨ba, 0, none⟩)) t86) <|
  A6 PR (E0 [.v v, .c 39 (.pointer (some ⟨ba, 0, none⟩))]) R) (
  J1 t12_1)) fun J2 =>
  B6 (.bool closing) (
  B2 PR B5 79 [v, (.string key)] fun t66 =>
  A2 PR (Instr.extract t66 0) fun t67 =>
  A2 PR (Instr.extract t66 1) fun t68 =>
  A2 PR (Instr.build 39 #[(1, t16)]) fun t71 =>
  B4 PR B5 (Instr.storeAt 39 (.pointer (some ⟨ba, 0, none⟩)) t71) <|
  A6 PR (E0 [.v t67, .c 39 (.pointer (some ⟨ba, 0, none⟩))]) R) (
  J2 t12)) fun J3 =>
  B6 (.bool kn) (
  A2 PR (Instr.indexAt 50 v (.int .i64 (D9 l key))) fun t54 =>
  A2 PR (Instr.fieldAt 71 t54 2) fun t55 =>
  A6 PR (Instr.loadAt 3 t55) fun t56 =>
  J3 t56 (.slice none 0 0)) (
  A2 PR (A7 .len #[32] 0 [u]) fun t58 =>
  A2 PR (binOp .eql 3 t58 (.int .i64 0)) fun t59 =>
  B6 t59 (
  A2 PR (Instr.build 39 #[(0, (.int .i64 11))]) fun t61 =>
  B4 PR B5 (Instr.storeAt 39 (.pointer (some ⟨ba, 0, none⟩)) t61) <|
  A6 PR (E0 [.v v, .c 39 (.pointer (some ⟨ba, 0, none⟩))]) R) (
  J3 t50 (.slice none 0 0)))) := by
 subst hR
 obtain ⟨a, c, rfl, hr⟩ := hv.form
 obtain ⟨pa, pc, rfl, _⟩ := hu.form
 refine B7 U5 (fun w' _ => A9a w' key hk) ?_
 refine B7 A4j (fun w' hw' => B9f w' _ p _ hp (hu.ks hw'.ks (by simp))) ?_
 by_cases hne : (G1 l p key now).2 = false ∧ p = []
 ·obtain ⟨h1, hp0⟩ := hne
  have hd : D7 l p key closing now idle = (l, ⟨11, 0, false, 0⟩, false) := by unfold D7; rw [if_pos ⟨h1, hp0⟩]
  rw [h1] at hkn
  subst hkn hp0
  simp only [B1e, hd]
  (have hQq := trivial; repeat ((first | clear hQq | (with_reducible first | refine A3 ?_ | refine A4 fun _ => ?_ | refine A5 fun _ => ?_)); (try simp (disch := first | omega | assumption | ((repeat (first | exact A0 | exact Up.here | apply A1 | apply Up.there)); first | done | fail) | (simp; first | done | omega | fail)) [])))
  exact C6 .nilIface (by simp [AnsV.val]) Sels.nil
 refine C3J (Hj := [.pt ba (.cells #[.int .i64 0, .int .i64 0, .bool false, .int .i64 0] 39)]) (.int .i64 (M6 l p key now)) (.slice none 0 0) ?_ ?_
 case refine_2 =>
  intro J hJ
  cases kn with
  | true =>
   obtain ⟨k1, k2, k3, k4⟩ := B7q hkn
   have e : M6 l p key now = (W7 l key).bk := by unfold M6; rw [hkn, if_pos rfl, k4]
   have hlt := q5 k1
   obtain ⟨b, o, rfl, hrow⟩ := hr (by omega)
   have hx := (A2J k1).1
   have h3 := hrow.cellAt (f := E1) (k := 4) (j := 2) (fun _ => rfl) hx rfl
   rw [e] at hJ
   generalize D9 l key = q at *
   obtain ⟨j, rfl⟩ : ∃ j : Nat, q = j := ⟨q.toNat, by omega⟩
   have hlt' : j < l.length := by omega
   simp only [Int.toNat_natCast] at h3
   (have hQq := trivial; repeat ((first | clear hQq | (with_reducible first | refine A3 ?_ | refine A4 fun _ => ?_ | refine A5 fun _ => ?_)); (try simp (disch := first | omega | assumption | ((repeat (first | exact A0 | exact Up.here | apply A1 | apply Up.there)); first | done | fail) | (simp; first | done | omega | fail)) [hlt', h3])))
   exact hJ
  | false =>
   have e : M6 l p key now = A7T p (Q6 key) := by unfold M6; rw [hkn]; rfl
   have hp0 : ¬ p = [] := fun h => hne ⟨hkn, h⟩
   have hp1 : ¬ (p.length : Int) = 0 := by have := List.length_pos_iff.2 hp0; omega
   rw [e] at hJ
   (have hQq := trivial; repeat ((first | clear hQq | (with_reducible first | refine A3 ?_ | refine A4 fun _ => ?_ | refine A5 fun _ => ?_)); (try simp (disch := first | omega | assumption | ((repeat (first | exact A0 | exact Up.here | apply A1 | apply Up.there)); first | done | fail) | (simp; first | done | omega | fail)) [hp0, hp1])))
   exact hJ
 rcases B55 l p key closing now idle with ⟨h1, hp0, hd⟩ | ⟨_, rfl, hd⟩ | ⟨_, rfl, hf0, hd⟩ | ⟨_, rfl, q, hpu, hd⟩
 ·exact absurd ⟨h1, hp0⟩ hne
 ·simp only [B1e, hd]
  (have hQq := trivial; repeat ((first | clear hQq | (with_reducible first | refine A3 ?_ | refine A4 fun _ => ?_ | refine A5 fun _ => ?_)); (try simp (disch := first | omega | assumption | ((repeat (first | exact A0 | exact Up.here | apply A1 | apply Up.there)); first | done | fail) | (simp; first | done | omega | fail)) [])))
  refine F8 A26 (fun w' hw' => B6f w' _ l key hk hks hn (hv.ks hw'.ks (by simp))) ?_
  rintro r _ rfl
  cases h2 : (T8 l key).isSome with
  | true =>
   (have hQq := trivial; repeat ((first | clear hQq | (with_reducible first | refine A3 ?_ | refine A4 fun _ => ?_ | refine A5 fun _ => ?_)); (try simp (disch := first | omega | assumption | ((repeat (first | exact A0 | exact Up.here | apply A1 | apply Up.there)); first | done | fail) | (simp; first | done | omega | fail)) [])))
   exact C6 r (by simp [AnsV.val]) (by ((repeat (first | exact Sels.nil | (apply Sels.cons; · ((repeat (first | exact A0 | exact Up.here | exact Sel.here | apply A1 | apply Up.there | apply Sel.there)); first | done | fail)))); first | done | fail))
  | false =>
   (have hQq := trivial; repeat ((first | clear hQq | (with_reducible first | refine A3 ?_ | refine A4 fun _ => ?_ | refine A5 fun _ => ?_)); (try simp (disch := first | omega | assumption | ((repeat (first | exact A0 | exact Up.here | apply A1 | apply Up.there)); first | done | fail) | (simp; first | done | omega | fail)) [])))
   exact C6 r (by simp [AnsV.val]) Sels.nil
 ·simp only [B1e, hd]
  have hpn : F6 l (A2s l p key now idle) = none := by
   cases hq : F6 l (A2s l p key now idle) with
   | none => rfl
   | some u =>
    have : D7 l p key false now idle = (u, ⟨0, M6 l p key now, !(G1 l p key now).2, 0⟩, true) := by unfold D7; rw [if_neg hne, hq]; rfl
    rw [this] at hd; cases hd
  have hpn' : F6 l ⟨1, key, M6 l p key now, IntKind.i64.wrap (now + idle)⟩ = none := hpn
  (have hQq := trivial; repeat ((first | clear hQq | (with_reducible first | refine A3 ?_ | refine A4 fun _ => ?_ | refine A5 fun _ => ?_)); (try simp (disch := first | omega | assumption | ((repeat (first | exact A0 | exact Up.here | apply A1 | apply Up.there)); first | done | fail) | (simp; first | done | omega | fail)) [])))
  refine F8 d8 (fun w' hw' => B0Q w' _ l key (M6 l p key now) (IntKind.i64.wrap (now + idle)) hk hn (hv.ks hw'.ks (by simp))) ?_
  rintro r _ rfl
  simp only [hpn']
  (have hQq := trivial; repeat ((first | clear hQq | (with_reducible first | refine A3 ?_ | refine A4 fun _ => ?_ | refine A5 fun _ => ?_)); (try simp (disch := first | omega | assumption | ((repeat (first | exact A0 | exact Up.here | apply A1 | apply Up.there)); first | done | fail) | (simp; first | done | omega | fail)) [])))
  exact C6 r (by simp [AnsV.val]) Sels.nil
 ·simp only [B1e, hd]
  have hpn' : F6 l ⟨1, key, M6 l p key now, IntKind.i64.wrap (now + idle)⟩ = some q := hpu
  (have hQq := trivial; repeat ((first | clear hQq | (with_reducible first | refine A3 ?_ | refine A4 fun _ => ?_ | refine A5 fun _ => ?_)); (try simp (disch := first | omega | assumption | ((repeat (first | exact A0 | exact Up.here | apply A1 | apply Up.there)); first | done | fail) | (simp; first | done | omega | fail)) [])))
  refine F8 d8 (fun w' hw' => B0Q w' _ l key (M6 l p key now) (IntKind.i64.wrap (now + idle)) hk hn (hv.ks hw'.ks (by simp))) ?_
  rintro r _ rfl
  simp only [hpn']
  (have hQq := trivial; repeat ((first | clear hQq | (with_reducible first | refine A3 ?_ | refine A4 fun _ => ?_ | refine A5 fun _ => ?_)); (try simp (disch := first | omega | assumption | ((repeat (first | exact A0 | exact Up.here | apply A1 | apply Up.there)); first | done | fail) | (simp; first | done | omega | fail)) [])))
  exact C6 r (by simp [AnsV.val, hkn]) (by ((repeat (first | exact Sels.nil | (apply Sels.cons; · ((repeat (first | exact A0 | exact Up.here | exact Sel.here | apply A1 | apply Up.there | apply Sel.there)); first | done | fail)))); first | done | fail))
theorem B6s (w : World) (v u : Value) (l : List EnV) (p : List G5) (key : ByteArray) (closing : Bool) (now idle : Int) (hk : key.size < 2 ^ 60) (hks : H6 l) (hn : l.length ≤ 1000000) (hp : p.length ≤ 1000) (hv : E3 w v l.length (l.flatMap E1)) (hu : E3 w u p.length (p.flatMap E8)) :
  Fn PR B5 28 #[v, u, .string key, .bool closing, .int .i64 now, .int .i64 idle] w
   (Rn [] w (fun r x => x = .tuple #[if (D7 l p key closing now idle).2.2 then r else v, (D7 l p key closing now idle).2.1.val]) fun r => if (D7 l p key closing now idle).2.2 then [F2 r (D7 l p key closing now idle).1] else []) := by
 refine A3m (TW.go (κ := false) (S := []) ?_)
 unfold s0
 obtain ⟨a, c, rfl, hr⟩ := hv.form
 obtain ⟨pa, pc, rfl, _⟩ := hu.form
 (have hQq := trivial; repeat ((first | clear hQq | (with_reducible first | refine A3 ?_ | refine A4 fun _ => ?_ | refine A5 fun _ => ?_)); (try simp (disch := first | omega | assumption | ((repeat (first | exact A0 | exact Up.here | apply A1 | apply Up.there)); first | done | fail) | (simp; first | done | omega | fail)) [])))
 rename_i ba
 refine B7 T9 (fun w' hw' => A4v w' _ l key hk hn (hv.ks hw'.ks (by simp))) ?_
 have tail := fun kn hkn => B36 w (.slice a l.length c) (.slice pa p.length pc) l p key closing now idle ba kn hkn hk hks hn hp hv hu _ rfl
 by_cases c1 : D9 l key < 0
 ·have hkn : (G1 l p key now).2 = false := B1m c1
  have c1' : ¬ 0 ≤ D9 l key := by omega
  (have hQq := trivial; repeat ((first | clear hQq | (with_reducible first | refine A3 ?_ | refine A4 fun _ => ?_ | refine A5 fun _ => ?_)); (try simp (disch := first | omega | assumption | ((repeat (first | exact A0 | exact Up.here | apply A1 | apply Up.there)); first | done | fail) | (simp; first | done | omega | fail)) [c1, c1'])))
  exact tail false hkn
 have k1 : 0 ≤ D9 l key := by omega
 have hlt := q5 k1
 obtain ⟨b, o, rfl, hrow⟩ := hr (by omega)
 have hx := (A2J k1).1
 have h2 := hrow.cellAt (f := E1) (k := 4) (j := 2) (fun _ => rfl) hx rfl
 have h3 := hrow.cellAt (f := E1) (k := 4) (j := 3) (fun _ => rfl) hx rfl
 obtain ⟨j, hj⟩ : ∃ j : Nat, D9 l key = j := ⟨(D9 l key).toNat, by omega⟩
 rw [hj] at k1 hlt h2 h3
 rw [hj] at tail
 simp only [Int.toNat_natCast] at h2 h3 hlt
 rw [hj]
 have hkv : (G1 l p key now).2 = !(decide ((W7 l key).dl < now) || decide (V6 p (W7 l key).bk < 0)) := by
  unfold G1
  by_cases d1 : (W7 l key).dl < now
  ·rw [if_pos (Or.inr (Or.inl d1))]; simp [d1]
  ·by_cases d2 : V6 p (W7 l key).bk < 0
   ·rw [if_pos (Or.inr (Or.inr d2))]; simp [d2]
   ·rw [if_neg (by omega)]; simp [d1, d2]
 by_cases c2 : now ≤ (W7 l key).dl
 ·have d1 : ¬ (W7 l key).dl < now := by omega
  (have hQq := trivial; repeat ((first | clear hQq | (with_reducible first | refine A3 ?_ | refine A4 fun _ => ?_ | refine A5 fun _ => ?_)); (try simp (disch := first | omega | assumption | ((repeat (first | exact A0 | exact Up.here | apply A1 | apply Up.there)); first | done | fail) | (simp; first | done | omega | fail)) [k1, hlt, h2, h3, c2])))
  refine B7 y9 (fun w' hw' => B3q w' _ p _ (by omega) (hu.ks hw'.ks (by simp))) ?_
  by_cases c3 : 0 ≤ V6 p (W7 l key).bk
  ·have d2 : ¬ V6 p (W7 l key).bk < 0 := by omega
   (have hQq := trivial; repeat ((first | clear hQq | (with_reducible first | refine A3 ?_ | refine A4 fun _ => ?_ | refine A5 fun _ => ?_)); (try simp (disch := first | omega | assumption | ((repeat (first | exact A0 | exact Up.here | apply A1 | apply Up.there)); first | done | fail) | (simp; first | done | omega | fail)) [k1, hlt, h2, h3, c2, c3])))
   exact tail true (by rw [hkv]; simp [d1, d2])
  ·have d2 : V6 p (W7 l key).bk < 0 := by omega
   (have hQq := trivial; repeat ((first | clear hQq | (with_reducible first | refine A3 ?_ | refine A4 fun _ => ?_ | refine A5 fun _ => ?_)); (try simp (disch := first | omega | assumption | ((repeat (first | exact A0 | exact Up.here | apply A1 | apply Up.there)); first | done | fail) | (simp; first | done | omega | fail)) [k1, hlt, h2, h3, c2, c3])))
   exact tail false (by rw [hkv]; simp [d2])
 ·have d1 : (W7 l key).dl < now := by omega
  (have hQq := trivial; repeat ((first | clear hQq | (with_reducible first | refine A3 ?_ | refine A4 fun _ => ?_ | refine A5 fun _ => ?_)); (try simp (disch := first | omega | assumption | ((repeat (first | exact A0 | exact Up.here | apply A1 | apply Up.there)); first | done | fail) | (simp; first | done | omega | fail)) [k1, hlt, h2, h3, c2])))
  exact tail false (by rw [hkv]; simp [d1])
end Go.Proofs.YtggakcpabomliaaGreat
namespace Go.Proofs.YtggakcpabomliaaGreat
open Go
def A0C (X : Nat → Prop) (t0 : Value) (R : Value → WP) : WP :=
 B1 PR X (Instr.alloc 101 true (.tuple #[])) fun t2 =>
 jn (n := 1) (fun t3 =>
 B2 PR X 156 [t0] fun t13 =>
 B1 PR X (Instr.alloc 240 true (.tuple #[])) fun t4 =>
 B4 PR X (Instr.storeAt 240 t4 t13) <|
 jn (n := 1) (fun t3_1 =>
 A2 PR (Instr.fieldAt 240 t4 3) fun t21 =>
 A6 PR (Instr.loadAt 3 t21) fun t22 =>
 A2 PR (Instr.fieldAt 240 t4 2) fun t23 =>
 A6 PR (Instr.loadAt 9 t23) fun t24 =>
 B2 PR X 157 [t22, t24] fun t25 =>
 A2 PR (Instr.extract t25 0) fun t26 =>
 A2 PR (Instr.extract t25 1) fun t27 =>
 B1 PR X (Instr.alloc 242 true (.tuple #[])) fun t5 =>
 B4 PR X (Instr.storeAt 242 t5 t26) <|
 jn (n := 1) (fun t3_2 =>
 drw <|
 A2 PR (Instr.index 9 t0 (.int .i64 0)) fun t33 =>
 A2 PR (binOp .quo 5 t33 (.int .u8 16)) fun t34 =>
 A2 PR (convert 5 3 t34) fun t35 =>
 A2 PR (Instr.fieldAt 240 t4 0) fun t36 =>
 A6 PR (Instr.loadAt 9 t36) fun t37 =>
 A2 PR (Instr.fieldAt 240 t4 1) fun t38 =>
 A6 PR (Instr.loadAt 9 t38) fun t39 =>
 A2 PR (Instr.fieldAt 242 t5 0) fun t40 =>
 A6 PR (Instr.loadAt 3 t40) fun t41 =>
 A2 PR (Instr.fieldAt 242 t5 1) fun t42 =>
 A6 PR (Instr.loadAt 3 t42) fun t43 =>
 A2 PR (Instr.fieldAt 240 t4 3) fun t44 =>
 A6 PR (Instr.loadAt 3 t44) fun t45 =>
 A2 PR (Instr.build 99 #[(0, t35), (1, t37), (2, t39), (3, t41), (4, t43), (5, t45)]) fun t46 =>
 B1 PR X (Instr.alloc 99 true (.tuple #[])) fun t7 =>
 watch PR [(none, (Instr.loadAt 3 t44), t45), (none, (Instr.loadAt 3 t42), t43), (none, (Instr.loadAt 3 t40), t41), (none, (Instr.loadAt 9 t38), t39), (none, (Instr.loadAt 9 t36), t37)] <|
 B4 PR X (Instr.storeAt 99 t7 t46) <|
 A6 PR (Instr.loadAt 99 t7) fun t47 =>
 A2 PR (Instr.fieldAt 242 t5 2) fun t48 =>
 A6 PR (Instr.loadAt 3 t48) fun t49 =>
 A2 PR (Instr.build 101 #[(0, t47), (1, t49)]) fun t50 =>
 B4 PR X (Instr.storeAt 101 t2 t50) <|
 A6 PR (E0 [.c 101 t2, .v (.int .i64 0)]) R) fun J1 =>
 A2 PR (binOp .neq 28 t27 (.int .i64 0)) fun t29 =>
 B6 t29 (
 A2 PR (Instr.build 101 #[]) fun t30 =>
 B4 PR X (Instr.storeAt 101 t2 t30) <|
 A6 PR (E0 [.c 101 t2, .v t27]) R) (
 J1 t3_1)) fun J2 =>
 A2 PR (Instr.fieldAt 240 t4 4) fun t14 =>
 A6 PR (Instr.loadAt 28 t14) fun t15 =>
 A2 PR (binOp .neq 28 t15 (.int .i64 0)) fun t16 =>
 B6 t16 (
 drw <|
 A2 PR (Instr.build 101 #[]) fun t17 =>
 A2 PR (Instr.fieldAt 240 t4 4) fun t18 =>
 A6 PR (Instr.loadAt 28 t18) fun t19 =>
 B4 PR X (Instr.storeAt 101 t2 t17) <|
 watch PR [(none, (Instr.loadAt 28 t18), t19)] <|
 A6 PR (E0 [.c 101 t2, .v t19]) R) (
 J2 t3)) fun J3 =>
 A2 PR (A7 .len #[9] 0 [t0]) fun t9 =>
 A2 PR (binOp .eql 3 t9 (.int .i64 0)) fun t10 =>
 B6 t10 (
 A2 PR (Instr.build 101 #[]) fun t11 =>
 B4 PR X (Instr.storeAt 101 t2 t11) <|
 A6 PR (E0 [.c 101 t2, .v (.int .i64 2)]) R) (
 J3 (.int .i64 0))
theorem A30 : B0 PR 108 := A8 Tryz.func108 (by kernel_rfl) rfl
theorem A4P {X : Nat → Prop} {t0 : Value} {R : Value → WP} {w : World} (h : A0C X t0 R w) : Fn PR X 108 #[t0] w R := C7 (args := [t0]) mixed Tryz.func108 (by kernel_rfl) h
def A0A (X : Nat → Prop) (t0 : Value) (R : Value → WP) : WP :=
 B1 PR X (Instr.box 99 t0) fun t1 =>
 jn (n := 2) (fun t2 t3 =>
 drw <|
 A2 PR (Instr.fieldAt 99 t1 0) fun t9 =>
 A6 PR (Instr.loadAt 3 t9) fun t10 =>
 A2 PR (convert 3 68 t10) fun t11 =>
 A2 PR (Instr.fieldAt 99 t1 5) fun t13 =>
 A6 PR (Instr.loadAt 3 t13) fun t14 =>
 A2 PR (convert 3 68 t14) fun t15 =>
 B2 PR X 159 [t11, (.int .i64 1)] fun t12 =>
 watch PR [(none, (Instr.loadAt 3 t13), t14)] <|
 B2 PR X 159 [t15, (.int .i64 1)] fun t16 =>
 A2 PR (binOp .add 9 t12 t16) fun t17 =>
 drw <|
 A2 PR (Instr.fieldAt 99 t1 3) fun t18 =>
 A6 PR (Instr.loadAt 3 t18) fun t19 =>
 A2 PR (convert 3 68 t19) fun t20 =>
 A2 PR (Instr.fieldAt 99 t1 4) fun t22 =>
 A6 PR (Instr.loadAt 3 t22) fun t23 =>
 A2 PR (convert 3 68 t23) fun t24 =>
 B2 PR X 159 [t20, (.int .i64 2)] fun t21 =>
 watch PR [(none, (Instr.loadAt 3 t22), t23)] <|
 B2 PR X 159 [t24, (.int .i64 2)] fun t25 =>
 A2 PR (binOp .add 9 t21 t25) fun t26 =>
 drw <|
 A2 PR (binOp .add 9 t17 t26) fun t29 =>
 A2 PR (Instr.fieldAt 99 t1 1) fun t30 =>
 A6 PR (Instr.loadAt 9 t30) fun t31 =>
 A2 PR (Instr.fieldAt 99 t1 2) fun t34 =>
 A6 PR (Instr.loadAt 9 t34) fun t35 =>
 B2 PR X 160 [t31] fun t32 =>
 watch PR [(none, (Instr.loadAt 9 t34), t35)] <|
 A2 PR (binOp .add 9 t29 t32) fun t33 =>
 B2 PR X 160 [t35] fun t36 =>
 A2 PR (binOp .add 9 t33 t36) fun t37 =>
 R (.tuple #[t37, (.bool true)])) fun J1 =>
 A6 PR (Instr.loadAt 99 t1) fun t6 =>
 B2 PR X 158 [t6] fun t7 =>
 A2 PR (Op.unary .not t7) fun t8 =>
 B6 t8 (
 R (.tuple #[(.string (ByteArray.mk #[])), (.bool false)])) (
 J1 (.string (ByteArray.mk #[])) (.bool false))
theorem A36 : B0 PR 109 := A8 Tryz.func109 (by kernel_rfl) rfl
theorem A4F {X : Nat → Prop} {t0 : Value} {R : Value → WP} {w : World} (h : A0A X t0 R w) : Fn PR X 109 #[t0] w R := C7 (args := [t0]) mixed Tryz.func109 (by kernel_rfl) h
def p6 (X : Nat → Prop) (t0 : Value) (R : Value → WP) : WP :=
 B1 PR X (Instr.box 101 t0) fun t1 =>
 A2 PR (Instr.fieldAt 101 t1 0) fun t3 =>
 A2 PR (Instr.fieldAt 99 t3 5) fun t4 =>
 A6 PR (Instr.loadAt 3 t4) fun t5 =>
 A2 PR (binOp .eql 3 t5 (.int .i64 6)) fun t6 =>
 gj t6 true (fun J => A2 PR (Instr.fieldAt 101 t1 1) J) fun t8 =>
 gj t6 true (fun J => A6 PR (Instr.loadAt 3 t8) J) fun t9 =>
 gj t6 true (fun J => A2 PR (binOp .and 3 t9 (.int .i64 1)) J) fun t10 =>
 gj t6 true (fun J => A2 PR (binOp .eql 3 t10 (.int .i64 1)) J) fun t11 =>
 gj t6 true (fun J => J t11) fun t12 =>
 gj t12 false (fun J => A2 PR (Instr.fieldAt 101 t1 1) J) fun t13 =>
 gj t12 false (fun J => A6 PR (Instr.loadAt 3 t13) J) fun t14 =>
 gj t12 false (fun J => A2 PR (binOp .and 3 t14 (.int .i64 4)) J) fun t15 =>
 gj t12 false (fun J => A2 PR (binOp .eql 3 t15 (.int .i64 4)) J) fun t16 =>
 gj t6 true (fun J => A2 PR (do pure (if ← asBool t12 then (.bool true) else t16)) J) fun t17 =>
 A2 PR (do pure (if ← asBool t6 then t17 else (.bool false))) fun t18 =>
 R t18
theorem A2u : B0 PR 110 := A8 Tryz.func110 (by kernel_rfl) rfl
theorem A3H {X : Nat → Prop} {t0 : Value} {R : Value → WP} {w : World} (h : p6 X t0 R w) : Fn PR X 110 #[t0] w R := C7 (args := [t0]) mixed Tryz.func110 (by kernel_rfl) h
def A0W (X : Nat → Prop) (t0 : Value) (R : Value → WP) : WP :=
 B1 PR X (Instr.alloc 240 true (.tuple #[])) fun t2 =>
 jn (n := 0) (
 jn (n := 0) (
 A2 PR (Instr.build 240 #[(4, (.int .i64 3))]) fun t47 =>
 B4 PR X (Instr.storeAt 240 t2 t47) <|
 A6 PR (E0 [.c 240 t2]) R) fun J1 =>
 A2 PR (Instr.index 9 t0 (.int .i64 0)) fun t29 =>
 A2 PR (binOp .quo 5 t29 (.int .u8 16)) fun t30 =>
 A2 PR (binOp .eql 5 t30 (.int .u8 6)) fun t31 =>
 B6 t31 (
 B2 PR X 194 [t0] fun t34 =>
 A2 PR (Instr.extract t34 0) fun t35 =>
 A2 PR (Instr.extract t34 1) fun t36 =>
 A2 PR (Instr.extract t34 2) fun t37 =>
 B1 PR X (Instr.alloc 283 true (.tuple #[])) fun t6 =>
 B4 PR X (Instr.storeAt 283 t6 t35) <|
 A2 PR (Instr.fieldAt 283 t6 0) fun t38 =>
 A6 PR (Instr.loadAt 9 t38) fun t39 =>
 A2 PR (Instr.fieldAt 283 t6 1) fun t40 =>
 A6 PR (Instr.loadAt 9 t40) fun t41 =>
 A2 PR (Instr.fieldAt 283 t6 2) fun t43 =>
 A6 PR (Instr.loadAt 3 t43) fun t44 =>
 A2 PR (Instr.build 240 #[(0, t39), (1, t41), (2, t36), (3, t44), (4, t37)]) fun t46 =>
 B4 PR X (Instr.storeAt 240 t2 t46) <|
 A6 PR (E0 [.c 240 t2]) R) (
 J1)) fun J2 =>
 A2 PR (Instr.index 9 t0 (.int .i64 0)) fun t10 =>
 A2 PR (binOp .quo 5 t10 (.int .u8 16)) fun t11 =>
 A2 PR (binOp .eql 5 t11 (.int .u8 4)) fun t12 =>
 B6 t12 (
 B2 PR X 193 [t0] fun t15 =>
 A2 PR (Instr.extract t15 0) fun t16 =>
 A2 PR (Instr.extract t15 1) fun t17 =>
 A2 PR (Instr.extract t15 2) fun t18 =>
 B1 PR X (Instr.alloc 280 true (.tuple #[])) fun t3 =>
 B4 PR X (Instr.storeAt 280 t3 t16) <|
 A2 PR (Instr.fieldAt 280 t3 0) fun t19 =>
 A6 PR (Instr.loadAt 9 t19) fun t20 =>
 A2 PR (Instr.fieldAt 280 t3 1) fun t21 =>
 A6 PR (Instr.loadAt 9 t21) fun t22 =>
 A2 PR (Instr.fieldAt 280 t3 2) fun t24 =>
 A6 PR (Instr.loadAt 3 t24) fun t25 =>
 A2 PR (Instr.build 240 #[(0, t20), (1, t22), (2, t17), (3, t25), (4, t18)]) fun t27 =>
 B4 PR X (Instr.storeAt 240 t2 t27) <|
 A6 PR (E0 [.c 240 t2]) R) (
 J2)
theorem A4g : B0 PR 156 := A8 Tryz.func156 (by kernel_rfl) rfl
theorem A5Q {X : Nat → Prop} {t0 : Value} {R : Value → WP} {w : World} (h : A0W X t0 R w) : Fn PR X 156 #[t0] w R := C7 (args := [t0]) mixed Tryz.func156 (by kernel_rfl) h
def x8 (X : Nat → Prop) (t0 : Value) (R : Value → WP) : WP :=
 B1 PR X (Instr.box 99 t0) fun t1 =>
 A2 PR (Instr.fieldAt 99 t1 0) fun t6 =>
 A6 PR (Instr.loadAt 3 t6) fun t7 =>
 A2 PR (binOp .eql 3 t7 (.int .i64 4)) fun t8 =>
 gj t8 true (fun J => A2 PR (Instr.fieldAt 99 t1 1) J) fun t10 =>
 gj t8 true (fun J => A6 PR (Instr.loadAt 9 t10) J) fun t11 =>
 gj t8 true (fun J => A2 PR (A7 .len #[9] 0 [t11]) J) fun t12 =>
 gj t8 true (fun J => A2 PR (binOp .eql 3 t12 (.int .i64 4)) J) fun t13 =>
 A2 PR (do pure (if ← asBool t8 then t13 else (.bool false))) fun t14 =>
 gj t14 true (fun J => A2 PR (Instr.fieldAt 99 t1 2) J) fun t16 =>
 gj t14 true (fun J => A6 PR (Instr.loadAt 9 t16) J) fun t17 =>
 gj t14 true (fun J => A2 PR (A7 .len #[9] 0 [t17]) J) fun t18 =>
 gj t14 true (fun J => A2 PR (binOp .eql 3 t18 (.int .i64 4)) J) fun t19 =>
 A2 PR (do pure (if ← asBool t14 then t19 else (.bool false))) fun t20 =>
 A2 PR (Instr.fieldAt 99 t1 0) fun t21 =>
 A6 PR (Instr.loadAt 3 t21) fun t22 =>
 A2 PR (binOp .eql 3 t22 (.int .i64 6)) fun t23 =>
 gj t23 true (fun J => A2 PR (Instr.fieldAt 99 t1 1) J) fun t25 =>
 gj t23 true (fun J => A6 PR (Instr.loadAt 9 t25) J) fun t26 =>
 gj t23 true (fun J => A2 PR (A7 .len #[9] 0 [t26]) J) fun t27 =>
 gj t23 true (fun J => A2 PR (binOp .eql 3 t27 (.int .i64 16)) J) fun t28 =>
 A2 PR (do pure (if ← asBool t23 then t28 else (.bool false))) fun t29 =>
 gj t29 true (fun J => A2 PR (Instr.fieldAt 99 t1 2) J) fun t31 =>
 gj t29 true (fun J => A6 PR (Instr.loadAt 9 t31) J) fun t32 =>
 gj t29 true (fun J => A2 PR (A7 .len #[9] 0 [t32]) J) fun t33 =>
 gj t29 true (fun J => A2 PR (binOp .eql 3 t33 (.int .i64 16)) J) fun t34 =>
 A2 PR (do pure (if ← asBool t29 then t34 else (.bool false))) fun t35 =>
 A2 PR (Instr.fieldAt 99 t1 3) fun t36 =>
 A6 PR (Instr.loadAt 3 t36) fun t37 =>
 A2 PR (binOp .geq 3 t37 (.int .i64 0)) fun t38 =>
 gj t38 true (fun J => A2 PR (Instr.fieldAt 99 t1 3) J) fun t40 =>
 gj t38 true (fun J => A6 PR (Instr.loadAt 3 t40) J) fun t41 =>
 gj t38 true (fun J => A2 PR (binOp .leq 3 t41 (.int .i64 65535)) J) fun t42 =>
 A2 PR (do pure (if ← asBool t38 then t42 else (.bool false))) fun t43 =>
 gj t43 true (fun J => A2 PR (Instr.fieldAt 99 t1 4) J) fun t45 =>
 gj t43 true (fun J => A6 PR (Instr.loadAt 3 t45) J) fun t46 =>
 gj t43 true (fun J => A2 PR (binOp .geq 3 t46 (.int .i64 0)) J) fun t47 =>
 A2 PR (do pure (if ← asBool t43 then t47 else (.bool false))) fun t48 =>
 gj t48 true (fun J => A2 PR (Instr.fieldAt 99 t1 4) J) fun t50 =>
 gj t48 true (fun J => A6 PR (Instr.loadAt 3 t50) J) fun t51 =>
 gj t48 true (fun J => A2 PR (binOp .leq 3 t51 (.int .i64 65535)) J) fun t52 =>
 A2 PR (do pure (if ← asBool t48 then t52 else (.bool false))) fun t53 =>
 gj t20 false (fun J => J t35) fun t56 =>
 A2 PR (do pure (if ← asBool t20 then (.bool true) else t56)) fun t57 =>
 gj t57 true (fun J => J t53) fun t59 =>
 A2 PR (do pure (if ← asBool t57 then t59 else (.bool false))) fun t60 =>
 gj t60 true (fun J => A2 PR (Instr.fieldAt 99 t1 5) J) fun t62 =>
 gj t60 true (fun J => A6 PR (Instr.loadAt 3 t62) J) fun t63 =>
 gj t60 true (fun J => A2 PR (binOp .eql 3 t63 (.int .i64 6)) J) fun t64 =>
 gj t60 true (fun J => J t64) fun t65 =>
 gj t65 false (fun J => A2 PR (Instr.fieldAt 99 t1 5) J) fun t66 =>
 gj t65 false (fun J => A6 PR (Instr.loadAt 3 t66) J) fun t67 =>
 gj t65 false (fun J => A2 PR (binOp .eql 3 t67 (.int .i64 17)) J) fun t68 =>
 gj t60 true (fun J => A2 PR (do pure (if ← asBool t65 then (.bool true) else t68)) J) fun t69 =>
 A2 PR (do pure (if ← asBool t60 then t69 else (.bool false))) fun t70 =>
 R t70
theorem A3g : B0 PR 158 := A8 Tryz.func158 (by kernel_rfl) rfl
theorem A4B {X : Nat → Prop} {t0 : Value} {R : Value → WP} {w : World} (h : x8 X t0 R w) : Fn PR X 158 #[t0] w R := C7 (args := [t0]) mixed Tryz.func158 (by kernel_rfl) h
def A0S (X : Nat → Prop) (t0 : Value) (R : Value → WP) : WP :=
 jn (n := 1) (fun t0_1 =>
 R t0_1) fun J1 =>
 lp (n := 1) (fun L2 t0_2 =>
 jn (n := 0) (
 A2 PR (binOp .add 9 t0_2 (.string (ByteArray.mk #[0]))) fun t7 =>
 L2 t7) fun J3 =>
 A2 PR (A7 .len #[9] 0 [t0_2]) fun t4 =>
 A2 PR (binOp .lss 3 t4 (.int .i64 16)) fun t5 =>
 B6 t5 (
 J3) (
 J1 t0_2)) t0
theorem w8 : B0 PR 160 := A8 Tryz.func160 (by kernel_rfl) rfl
theorem A5L {X : Nat → Prop} {t0 : Value} {R : Value → WP} {w : World} (h : A0S X t0 R w) : Fn PR X 160 #[t0] w R := C7 (args := [t0]) mixed Tryz.func160 (by kernel_rfl) h
end Go.Proofs.YtggakcpabomliaaGreat
namespace Go.Proofs.YtggakcpabomliaaGreat
open Go
def z8 (X : Nat → Prop) (t0 : Value) (R : Value → WP) : WP :=
 B1 PR X (Instr.alloc 283 true (.tuple #[])) fun t2 =>
 jn (n := 2) (fun t3 t4 =>
 jn (n := 2) (fun t3_1 t4_1 =>
 B2 PR X 195 [t0, (.int .i64 4)] fun t16 =>
 jn (n := 2) (fun t3_2 t4_2 =>
 drw <|
 A2 PR (Instr.sliceAt 9 t0 (some (.int .i64 8)) (some (.int .i64 24)) none) fun t24 =>
 A2 PR (Instr.sliceAt 9 t0 (some (.int .i64 24)) (some (.int .i64 40)) none) fun t26 =>
 A2 PR (Instr.index 9 t0 (.int .i64 6)) fun t28 =>
 A2 PR (convert 5 3 t28) fun t29 =>
 A2 PR (Instr.build 283 #[(0, t24), (1, t26), (2, t29)]) fun t30 =>
 A2 PR (binOp .add 3 (.int .i64 40) t16) fun t33 =>
 A2 PR (Instr.sliceAt 9 t0 (some (.int .i64 40)) (some t33) none) fun t34 =>
 B4 PR X (Instr.storeAt 283 t2 t30) <|
 A6 PR (E0 [.c 283 t2, .v t34, .v (.int .i64 0)]) R) fun J1 =>
 A2 PR (A7 .len #[9] 0 [t0]) fun t19 =>
 A2 PR (binOp .sub 3 t19 (.int .i64 40)) fun t20 =>
 A2 PR (binOp .gtr 3 t16 t20) fun t21 =>
 B6 t21 (
 A2 PR (Instr.build 283 #[]) fun t22 =>
 B4 PR X (Instr.storeAt 283 t2 t22) <|
 A6 PR (E0 [.c 283 t2, .v (.string (ByteArray.mk #[])), .v (.int .i64 4)]) R) (
 J1 t3_1 t4_1)) fun J2 =>
 A2 PR (Instr.index 9 t0 (.int .i64 0)) fun t11 =>
 A2 PR (binOp .quo 5 t11 (.int .u8 16)) fun t12 =>
 A2 PR (binOp .neq 5 t12 (.int .u8 6)) fun t13 =>
 B6 t13 (
 A2 PR (Instr.build 283 #[]) fun t14 =>
 B4 PR X (Instr.storeAt 283 t2 t14) <|
 A6 PR (E0 [.c 283 t2, .v (.string (ByteArray.mk #[])), .v (.int .i64 3)]) R) (
 J2 t3 t4)) fun J3 =>
 A2 PR (A7 .len #[9] 0 [t0]) fun t7 =>
 A2 PR (binOp .lss 3 t7 (.int .i64 40)) fun t8 =>
 B6 t8 (
 A2 PR (Instr.build 283 #[]) fun t9 =>
 B4 PR X (Instr.storeAt 283 t2 t9) <|
 A6 PR (E0 [.c 283 t2, .v (.string (ByteArray.mk #[])), .v (.int .i64 2)]) R) (
 J3 (.string (ByteArray.mk #[])) (.int .i64 0))
theorem A3d : B0 PR 194 := A8 Tryz.func194 (by kernel_rfl) rfl
theorem A4H {X : Nat → Prop} {t0 : Value} {R : Value → WP} {w : World} (h : z8 X t0 R w) : Fn PR X 194 #[t0] w R := C7 (args := [t0]) mixed Tryz.func194 (by kernel_rfl) h
end Go.Proofs.YtggakcpabomliaaGreat
namespace Go.Proofs.YtggakcpabomliaaGreat
open Go
def u9 (X : Nat → Prop) (t0 t1 : Value) (R : Value → WP) : WP :=
 B1 PR X (Instr.alloc 242 true (.tuple #[])) fun t4 =>
 jn (n := 1) (fun t5 =>
 jn (n := 1) (fun t5_1 =>
 B2 PR X 195 [t1, (.int .i64 0)] fun t30 =>
 B2 PR X 195 [t1, (.int .i64 2)] fun t32 =>
 A2 PR (Instr.build 242 #[(0, t30), (1, t32)]) fun t33 =>
 B1 PR X (Instr.alloc 242 true (.tuple #[])) fun t6 =>
 B4 PR X (Instr.storeAt 242 t6 t33) <|
 jn (n := 1) (fun t5_2 =>
 A2 PR (Instr.index 9 t1 (.int .i64 12)) fun t49 =>
 A2 PR (binOp .quo 5 t49 (.int .u8 16)) fun t50 =>
 A2 PR (convert 5 3 t50) fun t51 =>
 A2 PR (binOp .mul 3 t51 (.int .i64 4)) fun t52 =>
 jn (n := 1) (fun t5_3 =>
 A2 PR (Instr.index 9 t1 (.int .i64 13)) fun t63 =>
 A2 PR (convert 5 3 t63) fun t64 =>
 A2 PR (Instr.fieldAt 242 t6 2) fun t65 =>
 B4 PR X (Instr.storeAt 3 t65 t64) <|
 A6 PR (Instr.loadAt 242 t6) fun t66 =>
 B4 PR X (Instr.storeAt 242 t4 t66) <|
 A6 PR (E0 [.c 242 t4, .v (.int .i64 0)]) R) fun J1 =>
 A2 PR (binOp .lss 3 t52 (.int .i64 20)) fun t54 =>
 gj t54 false (fun J => J t52) fun t56 =>
 gj t54 false (fun J => J t1) fun t57 =>
 gj t54 false (fun J => A2 PR (A7 .len #[9] 0 [t57]) J) fun t58 =>
 gj t54 false (fun J => A2 PR (binOp .gtr 3 t56 t58) J) fun t59 =>
 A2 PR (do pure (if ← asBool t54 then (.bool true) else t59)) fun t60 =>
 B6 t60 (
 A2 PR (Instr.build 242 #[]) fun t61 =>
 B4 PR X (Instr.storeAt 242 t4 t61) <|
 A6 PR (E0 [.c 242 t4, .v (.int .i64 8)]) R) (
 J1 t5_2)) fun J2 =>
 A2 PR (binOp .eql 3 t0 (.int .i64 17)) fun t35 =>
 B6 t35 (
 B2 PR X 195 [t1, (.int .i64 4)] fun t37 =>
 jn (n := 1) (fun t5_4 =>
 A6 PR (Instr.loadAt 242 t6) fun t47 =>
 B4 PR X (Instr.storeAt 242 t4 t47) <|
 A6 PR (E0 [.c 242 t4, .v (.int .i64 0)]) R) fun J3 =>
 A2 PR (binOp .lss 3 t37 (.int .i64 8)) fun t39 =>
 gj t39 false (fun J => J t37) fun t41 =>
 gj t39 false (fun J => J t1) fun t42 =>
 gj t39 false (fun J => A2 PR (A7 .len #[9] 0 [t42]) J) fun t43 =>
 gj t39 false (fun J => A2 PR (binOp .gtr 3 t41 t43) J) fun t44 =>
 A2 PR (do pure (if ← asBool t39 then (.bool true) else t44)) fun t45 =>
 B6 t45 (
 A2 PR (Instr.build 242 #[]) fun t46 =>
 B4 PR X (Instr.storeAt 242 t4 t46) <|
 A6 PR (E0 [.c 242 t4, .v (.int .i64 4)]) R) (
 J3 t5_1)) (
 J2 t5_1)) fun J4 =>
 A2 PR (binOp .eql 3 t0 (.int .i64 6)) fun t17 =>
 gj t17 true (fun J => J t1) fun t19 =>
 gj t17 true (fun J => A2 PR (A7 .len #[9] 0 [t19]) J) fun t20 =>
 gj t17 true (fun J => A2 PR (binOp .lss 3 t20 (.int .i64 20)) J) fun t21 =>
 A2 PR (do pure (if ← asBool t17 then t21 else (.bool false))) fun t22 =>
 gj t22 false (fun J => J t1) fun t24 =>
 gj t22 false (fun J => A2 PR (A7 .len #[9] 0 [t24]) J) fun t25 =>
 gj t22 false (fun J => A2 PR (binOp .lss 3 t25 (.int .i64 8)) J) fun t26 =>
 A2 PR (do pure (if ← asBool t22 then (.bool true) else t26)) fun t27 =>
 B6 t27 (
 A2 PR (Instr.build 242 #[]) fun t28 =>
 B4 PR X (Instr.storeAt 242 t4 t28) <|
 A6 PR (E0 [.c 242 t4, .v (.int .i64 2)]) R) (
 J4 t5)) fun J5 =>
 A2 PR (binOp .neq 3 t0 (.int .i64 6)) fun t10 =>
 gj t10 true (fun J => J t0) fun t12 =>
 gj t10 true (fun J => A2 PR (binOp .neq 3 t12 (.int .i64 17)) J) fun t13 =>
 A2 PR (do pure (if ← asBool t10 then t13 else (.bool false))) fun t14 =>
 B6 t14 (
 A2 PR (Instr.build 242 #[]) fun t15 =>
 B4 PR X (Instr.storeAt 242 t4 t15) <|
 A6 PR (E0 [.c 242 t4, .v (.int .i64 7)]) R) (
 J5 (.int .i64 0))
theorem A3p : B0 PR 157 := A8 Tryz.func157 (by kernel_rfl) rfl
theorem A39 {X : Nat → Prop} {t0 t1 : Value} {R : Value → WP} {w : World} (h : u9 X t0 t1 R w) : Fn PR X 157 #[t0, t1] w R := C7 (args := [t0, t1]) mixed Tryz.func157 (by kernel_rfl) h
end Go.Proofs.YtggakcpabomliaaGreat
namespace Go.Proofs.YtggakcpabomliaaGreat
open Go
def A0j (X : Nat → Prop) (t0 : Value) (R : Value → WP) : WP :=
 B2 PR X 229 [t0] fun t4 =>
 A2 PR (binOp .eql 3 t4 (.int .i64 65535)) fun t5 =>
 R t5
theorem A4U : B0 PR 214 := A8 Tryz.func214 (by kernel_rfl) rfl
theorem A5j {X : Nat → Prop} {t0 : Value} {R : Value → WP} {w : World} (h : A0j X t0 R w) : Fn PR X 214 #[t0] w R := C7 (args := [t0]) mixed Tryz.func214 (by kernel_rfl) h
def A0a (X : Nat → Prop) (t0 : Value) (R : Value → WP) : WP :=
 jn (n := 2) (fun t3 t4 =>
 R t3) fun J1 =>
 lp (n := 2) (fun L2 t3_1 t4_1 =>
 jn (n := 0) (
 jn (n := 1) (fun t3_2 =>
 A2 PR (binOp .add 3 t4_1 (.int .i64 2)) fun t10 =>
 L2 t3_2 t10) fun J3 =>
 A2 PR (Instr.index 9 t0 t4_1) fun t14 =>
 A2 PR (convert 5 3 t14) fun t15 =>
 A2 PR (binOp .mul 3 t15 (.int .i64 256)) fun t16 =>
 A2 PR (binOp .add 3 t3_1 t16) fun t17 =>
 jn (n := 1) (fun t3_3 =>
 A2 PR (binOp .gtr 3 t3_3 (.int .i64 65535)) fun t31 =>
 B6 t31 (
 A2 PR (binOp .rem 3 t3_3 (.int .i64 65536)) fun t33 =>
 A2 PR (binOp .add 3 t33 (.int .i64 1)) fun t34 =>
 J3 t34) (
 J3 t3_3)) fun J4 =>
 A2 PR (binOp .add 3 t4_1 (.int .i64 1)) fun t19 =>
 A2 PR (A7 .len #[9] 0 [t0]) fun t21 =>
 A2 PR (binOp .lss 3 t19 t21) fun t22 =>
 B6 t22 (
 A2 PR (binOp .add 3 t4_1 (.int .i64 1)) fun t26 =>
 A2 PR (Instr.index 9 t0 t26) fun t27 =>
 A2 PR (convert 5 3 t27) fun t28 =>
 A2 PR (binOp .add 3 t17 t28) fun t29 =>
 J4 t29) (
 J4 t17)) fun J5 =>
 A2 PR (A7 .len #[9] 0 [t0]) fun t7 =>
 A2 PR (binOp .lss 3 t4_1 t7) fun t8 =>
 B6 t8 (
 J5) (
 J1 t3_1 t4_1)) (.int .i64 0) (.int .i64 0)
theorem A4e : B0 PR 229 := A8 Tryz.func229 (by kernel_rfl) rfl
theorem A5v {X : Nat → Prop} {t0 : Value} {R : Value → WP} {w : World} (h : A0a X t0 R w) : Fn PR X 229 #[t0] w R := C7 (args := [t0]) mixed Tryz.func229 (by kernel_rfl) h
end Go.Proofs.YtggakcpabomliaaGreat
namespace Go.Proofs.YtggakcpabomliaaGreat
open Go
def y8 (X : Nat → Prop) (t0 : Value) (R : Value → WP) : WP :=
 B1 PR X (Instr.alloc 280 true (.tuple #[])) fun t2 =>
 jn (n := 2) (fun t3 t4 =>
 jn (n := 2) (fun t3_1 t4_1 =>
 A2 PR (Instr.index 9 t0 (.int .i64 0)) fun t17 =>
 A2 PR (binOp .rem 5 t17 (.int .u8 16)) fun t18 =>
 A2 PR (convert 5 3 t18) fun t19 =>
 A2 PR (binOp .mul 3 t19 (.int .i64 4)) fun t20 =>
 B2 PR X 195 [t0, (.int .i64 2)] fun t22 =>
 jn (n := 2) (fun t3_2 t4_2 =>
 jn (n := 2) (fun t3_3 t4_3 =>
 jn (n := 2) (fun t3_4 t4_4 =>
 drw <|
 A2 PR (Instr.sliceAt 9 t0 (some (.int .i64 12)) (some (.int .i64 16)) none) fun t55 =>
 A2 PR (Instr.sliceAt 9 t0 (some (.int .i64 16)) (some (.int .i64 20)) none) fun t57 =>
 A2 PR (Instr.index 9 t0 (.int .i64 9)) fun t59 =>
 A2 PR (convert 5 3 t59) fun t60 =>
 A2 PR (Instr.build 280 #[(0, t55), (1, t57), (2, t60)]) fun t61 =>
 A2 PR (Instr.sliceAt 9 t0 (some t20) (some t22) none) fun t65 =>
 B4 PR X (Instr.storeAt 280 t2 t61) <|
 A6 PR (E0 [.c 280 t2, .v t65, .v (.int .i64 0)]) R) fun J1 =>
 B2 PR X 195 [t0, (.int .i64 6)] fun t50 =>
 A2 PR (binOp .rem 3 t50 (.int .i64 16384)) fun t51 =>
 A2 PR (binOp .neq 3 t51 (.int .i64 0)) fun t52 =>
 B6 t52 (
 A2 PR (Instr.build 280 #[]) fun t53 =>
 B4 PR X (Instr.storeAt 280 t2 t53) <|
 A6 PR (E0 [.c 280 t2, .v (.string (ByteArray.mk #[])), .v (.int .i64 6)]) R) (
 J1 t3_3 t4_3)) fun J2 =>
 A2 PR (Instr.sliceAt 9 t0 none (some t20) none) fun t45 =>
 B2 PR X 214 [t45] fun t46 =>
 A2 PR (Op.unary .not t46) fun t47 =>
 B6 t47 (
 A2 PR (Instr.build 280 #[]) fun t48 =>
 B4 PR X (Instr.storeAt 280 t2 t48) <|
 A6 PR (E0 [.c 280 t2, .v (.string (ByteArray.mk #[])), .v (.int .i64 5)]) R) (
 J2 t3_2 t4_2)) fun J3 =>
 A2 PR (binOp .lss 3 t20 (.int .i64 20)) fun t24 =>
 gj t24 false (fun J => J t20) fun t26 =>
 gj t24 false (fun J => J t0) fun t27 =>
 gj t24 false (fun J => A2 PR (A7 .len #[9] 0 [t27]) J) fun t28 =>
 gj t24 false (fun J => A2 PR (binOp .gtr 3 t26 t28) J) fun t29 =>
 A2 PR (do pure (if ← asBool t24 then (.bool true) else t29)) fun t30 =>
 gj t30 false (fun J => J t22) fun t32 =>
 gj t30 false (fun J => J t20) fun t33 =>
 gj t30 false (fun J => A2 PR (binOp .lss 3 t32 t33) J) fun t34 =>
 A2 PR (do pure (if ← asBool t30 then (.bool true) else t34)) fun t35 =>
 gj t35 false (fun J => J t22) fun t37 =>
 gj t35 false (fun J => J t0) fun t38 =>
 gj t35 false (fun J => A2 PR (A7 .len #[9] 0 [t38]) J) fun t39 =>
 gj t35 false (fun J => A2 PR (binOp .gtr 3 t37 t39) J) fun t40 =>
 A2 PR (do pure (if ← asBool t35 then (.bool true) else t40)) fun t41 =>
 B6 t41 (
 A2 PR (Instr.build 280 #[]) fun t42 =>
 B4 PR X (Instr.storeAt 280 t2 t42) <|
 A6 PR (E0 [.c 280 t2, .v (.string (ByteArray.mk #[])), .v (.int .i64 4)]) R) (
 J3 t3_1 t4_1)) fun J4 =>
 A2 PR (Instr.index 9 t0 (.int .i64 0)) fun t12 =>
 A2 PR (binOp .quo 5 t12 (.int .u8 16)) fun t13 =>
 A2 PR (binOp .neq 5 t13 (.int .u8 4)) fun t14 =>
 B6 t14 (
 A2 PR (Instr.build 280 #[]) fun t15 =>
 B4 PR X (Instr.storeAt 280 t2 t15) <|
 A6 PR (E0 [.c 280 t2, .v (.string (ByteArray.mk #[])), .v (.int .i64 3)]) R) (
 J4 t3 t4)) fun J5 =>
 A2 PR (A7 .len #[9] 0 [t0]) fun t8 =>
 A2 PR (binOp .lss 3 t8 (.int .i64 20)) fun t9 =>
 B6 t9 (
 A2 PR (Instr.build 280 #[]) fun t10 =>
 B4 PR X (Instr.storeAt 280 t2 t10) <|
 A6 PR (E0 [.c 280 t2, .v (.string (ByteArray.mk #[])), .v (.int .i64 2)]) R) (
 J5 (.string (ByteArray.mk #[])) (.int .i64 0))
theorem A3c : B0 PR 193 := A8 Tryz.func193 (by kernel_rfl) rfl
theorem A4M {X : Nat → Prop} {t0 : Value} {R : Value → WP} {w : World} (h : y8 X t0 R w) : Fn PR X 193 #[t0] w R := C7 (args := [t0]) mixed Tryz.func193 (by kernel_rfl) h
def A0Z (X : Nat → Prop) (t0 t1 : Value) (R : Value → WP) : WP :=
 B2 PR X 215 [t0, t1, (.int .i64 2)] fun t10 =>
 A2 PR (Instr.extract t10 0) fun t11 =>
 A2 PR (Instr.extract t10 1) fun t12 =>
 A2 PR (convert 68 3 t11) fun t14 =>
 R t14
theorem G9 : B0 PR 195 := A8 Tryz.func195 (by kernel_rfl) rfl
theorem A5f {X : Nat → Prop} {t0 t1 : Value} {R : Value → WP} {w : World} (h : A0Z X t0 t1 R w) : Fn PR X 195 #[t0, t1] w R := C7 (args := [t0, t1]) mixed Tryz.func195 (by kernel_rfl) h
end Go.Proofs.YtggakcpabomliaaGreat
namespace Go.Proofs.YtggakcpabomliaaGreat
open Go
theorem A3P {s : ByteArray} {x : Int} (h0 : 0 ≤ x) (h1 : x.toNat < s.size) (K : Value → WP) : A2 PR (Instr.index 9 (.string s) (.int .i64 x)) K = K (.int .u8 (C4 s x.toNat : Nat)) := by
 obtain ⟨b, hb, e⟩ := m4 h1
 rw [← e]; exact Y0 h0 hb K
theorem C4G (w : World) (s : ByteArray) (hs : s.size < 2 ^ 62) (a n : Int) :
  Fn PR B5 215 #[.string s, .int .i64 a, .int .i64 n] w (fun v w' => v = .tuple #[.int .u64 (A1p s a n), .bool (l3 s a n)] ∧ C0 [] w w') := by
 refine Fn.pure (A6l (TW.go (κ := false) (S := []) ?_))
 unfold A1A
 by_cases hok : l3 s a n = true
 case neg =>
  have hv : A1p s a n = 0 := if_neg hok
  have hok' : l3 s a n = false := by simpa using hok
  rw [hv, hok']
  have hc : n < 1 ∨ 8 < n ∨ a < 0 ∨ (s.size : Int) - n < a := by
   simp only [l3, decide_eq_true_eq] at hok; omega
  by_cases h1 : n < 1
  ·(have hQq := trivial; repeat ((first | clear hQq | (with_reducible first | refine A3 ?_ | refine A4 fun _ => ?_ | refine A5 fun _ => ?_)); (try simp (disch := first | omega | assumption | ((repeat (first | exact A0 | exact Up.here | apply A1 | apply Up.there)); first | done | fail) | (simp; first | done | omega | fail)) [h1]))); exact A9 rfl
  by_cases h2 : 8 < n
  ·(have hQq := trivial; repeat ((first | clear hQq | (with_reducible first | refine A3 ?_ | refine A4 fun _ => ?_ | refine A5 fun _ => ?_)); (try simp (disch := first | omega | assumption | ((repeat (first | exact A0 | exact Up.here | apply A1 | apply Up.there)); first | done | fail) | (simp; first | done | omega | fail)) [h1, h2]))); exact A9 rfl
  by_cases h3 : a < 0
  ·(have hQq := trivial; repeat ((first | clear hQq | (with_reducible first | refine A3 ?_ | refine A4 fun _ => ?_ | refine A5 fun _ => ?_)); (try simp (disch := first | omega | assumption | ((repeat (first | exact A0 | exact Up.here | apply A1 | apply Up.there)); first | done | fail) | (simp; first | done | omega | fail)) [h1, h2, h3]))); exact A9 rfl
  by_cases h4 : (s.size : Int) < a
  ·(have hQq := trivial; repeat ((first | clear hQq | (with_reducible first | refine A3 ?_ | refine A4 fun _ => ?_ | refine A5 fun _ => ?_)); (try simp (disch := first | omega | assumption | ((repeat (first | exact A0 | exact Up.here | apply A1 | apply Up.there)); first | done | fail) | (simp; first | done | omega | fail)) [h1, h2, h3, h4]))); exact A9 rfl
  have h5 : (s.size : Int) - a < n := by omega
  (have hQq := trivial; repeat ((first | clear hQq | (with_reducible first | refine A3 ?_ | refine A4 fun _ => ?_ | refine A5 fun _ => ?_)); (try simp (disch := first | omega | assumption | ((repeat (first | exact A0 | exact Up.here | apply A1 | apply Up.there)); first | done | fail) | (simp; first | done | omega | fail)) [h1, h2, h3, h4, h5]))); exact A9 rfl
 have hv : A1p s a n = (V4 s a.toNat n.toNat : Nat) := if_pos hok
 rw [hv, hok]
 simp only [l3, decide_eq_true_eq] at hok
 obtain ⟨m, rfl⟩ : ∃ m : Nat, n = m := ⟨n.toNat, by omega⟩
 obtain ⟨k, rfl⟩ : ∃ k : Nat, a = k := ⟨a.toNat, by omega⟩
 have h1 : ¬ (m : Int) < 1 := by omega
 have h2 : ¬ 8 < (m : Int) := by omega
 have h3 : ¬ (s.size : Int) < k := by omega
 have h4 : ¬ (s.size : Int) - k < m := by omega
 have h5 : ¬ (k : Int) < 0 := by omega
 (have hQq := trivial; repeat ((first | clear hQq | (with_reducible first | refine A3 ?_ | refine A4 fun _ => ?_ | refine A5 fun _ => ?_)); (try simp (disch := first | omega | assumption | ((repeat (first | exact A0 | exact Up.here | apply A1 | apply Up.there)); first | done | fail) | (simp; first | done | omega | fail)) [h1, h2, h3, h4, h5])))
 refine K3 (α := Unit) m (fun i _ => .int .u64 (V4 s k i : Nat)) (fun _ _ => []) (fun _ _ => True) () trivial ?_
 rintro i _ hi _ L hL
 by_cases hlt : i < m
 ·have hlt' : (i : Int) < (m : Int) := by omega
  have hA : V4 s k (i + 1) < 256 ^ (i + 1) := A31 s k (i + 1)
  have h8 : 256 ^ (i + 1) ≤ 2 ^ 64 := by
   rw [show (2 : Nat) ^ 64 = 256 ^ 8 from rfl]
   exact Nat.pow_le_pow_right (by omega) (by omega)
  have e : V4 s k (i + 1) = V4 s k i * 256 + C4 s (k + i) := rfl
  have hx : ((k : Int) + i).toNat = k + i := by omega
  have h := hL hlt () trivial
  rw [e] at h hA
  have hin : ((k : Int) + i).toNat < s.size := by omega
  have hidx := fun K => A3P (s := s) (x := (k : Int) + i) (by omega) hin K
  rw [hx] at hidx
  generalize hb : V4 s k i = q at *
  generalize C4 s (k + i) = r at *
  (have hQq := trivial; repeat ((first | clear hQq | (with_reducible first | refine A3 ?_ | refine A4 fun _ => ?_ | refine A5 fun _ => ?_)); (try simp (disch := first | omega | assumption | ((repeat (first | exact A0 | exact Up.here | apply A1 | apply Up.there)); first | done | fail) | (simp; first | done | omega | fail)) [hlt', hidx])))
  have e2 : ((q * 256 + r : Nat) : Int) = (q : Int) * 256 + r := by omega
  rw [e2] at h
  exact h
 ·obtain rfl : i = m := by omega
  (have hQq := trivial; repeat ((first | clear hQq | (with_reducible first | refine A3 ?_ | refine A4 fun _ => ?_ | refine A5 fun _ => ?_)); (try simp (disch := first | omega | assumption | ((repeat (first | exact A0 | exact Up.here | apply A1 | apply Up.there)); first | done | fail) | (simp; first | done | omega | fail)) [])))
  exact A9 (by simp)
theorem r7 (w : World) (s : ByteArray) (hs : s.size < 2 ^ 40) (x : Int) (a : Nat) (hx : x = a) : Fn PR B5 195 #[.string s, .int .i64 x] w (fun v w' => v = .int .i64 (gv s a 2 : Nat) ∧ C0 [] w w') := by
 subst hx
 refine Fn.pure (A5f (TW.go (κ := false) (S := []) ?_))
 unfold A0Z
 refine B7 A5c (fun w' _ => C4G w' s (by omega) a 2) ?_
 have e := A3L s a 2 (by omega) (by omega)
 have hl := j2 s a
 have e' : A1p s (a : Int) 2 = (gv s a 2 : Nat) := e
 rw [e']
 (have hQq := trivial; repeat ((first | clear hQq | (with_reducible first | refine A3 ?_ | refine A4 fun _ => ?_ | refine A5 fun _ => ?_)); (try simp (disch := first | omega | assumption | ((repeat (first | exact A0 | exact Up.here | apply A1 | apply Up.there)); first | done | fail) | (simp; first | done | omega | fail)) [])))
 exact A9 rfl
def A8y (s : ByteArray) : Nat → Nat
 | 0 => 0
 | i + 1 => let n := A8y s i + V4 s (2 * i) 2; if 65535 < n then n % 65536 + 1 else n
theorem B5A (s : ByteArray) (i : Nat) : A8y s i = fld (A15 s i) := by
 induction i with
 | zero => rfl
 | succ i ih =>
  have hb : V4 s (2 * i) 2 < 65536 := A31 s (2 * i) 2
  have h1 := B16 (A15 s i)
  simp only [A8y, A15, ih]
  generalize V4 s (2 * i) 2 = b at *
  generalize A15 s i = n at *
  unfold fld at h1 ⊢
  by_cases h0 : n = 0
  ·subst h0; simp only [if_pos, Nat.zero_add] at h1 ⊢; split <;> split <;> omega
  ·have hne : ¬ n + b = 0 := by omega
   rw [if_neg h0] at h1 ⊢; rw [if_neg hne]; split <;> omega
theorem C2l (w : World) (s : ByteArray) (hs : s.size < 2 ^ 40) : Fn PR B5 229 #[.string s] w (fun v w' => v = .int .i64 (g5 s : Nat) ∧ C0 [] w w') := by
 refine Fn.pure (A5v (TW.go (κ := false) (S := []) ?_))
 unfold A0a
 (have hQq := trivial; repeat ((first | clear hQq | (with_reducible first | refine A3 ?_ | refine A4 fun _ => ?_ | refine A5 fun _ => ?_)); (try simp (disch := first | omega | assumption | ((repeat (first | exact A0 | exact Up.here | apply A1 | apply Up.there)); first | done | fail) | (simp; first | done | omega | fail)) [])))
 refine B7n (fun _ : Nat => []) (· ≤ N8 s) (fun i => N8 s - i) 0 (fun i => .int .i64 (A8y s i : Nat)) (fun i => .int .i64 ((2 * i : Nat) : Int)) (Nat.zero_le _) ?_
 intro i hi L hL
 have hm : A8y s i ≤ 65535 := by rw [B5A]; exact B16 _
 by_cases hlt : i < N8 s
 ·have h2 : 2 * i < s.size := by unfold N8 at hlt; omega
  have h2' : (2 * (i : Int)) < s.size := by omega
  have hl0 := L9 s (2 * i)
  have hl1 := L9 s (2 * i + 1)
  have h := hL (i + 1) (by omega) (by omega)
  have eb : V4 s (2 * i) 2 = C4 s (2 * i) * 256 + C4 s (2 * i + 1) := by simp [V4]
  simp only [A8y, eb] at h
  have hx0 := fun K => A3P (s := s) (x := 2 * (i : Int)) (by omega) (by omega) K
  rw [show (2 * (i : Int)).toNat = 2 * i by omega] at hx0
  have et : ((2 * (i + 1) : Nat) : Int) = 2 * (i : Int) + 2 := by omega
  rw [et] at h
  by_cases h3 : 2 * i + 1 < s.size
  ·have h3' : 2 * (i : Int) + 1 < s.size := by omega
   have hx1 := fun K => A3P (s := s) (x := 2 * (i : Int) + 1) (by omega) (by omega) K
   rw [show (2 * (i : Int) + 1).toNat = 2 * i + 1 by omega] at hx1
   generalize C4 s (2 * i) = p at *
   generalize C4 s (2 * i + 1) = q at *
   generalize A8y s i = r at *
   by_cases h4 : 65535 < r + (p * 256 + q)
   ·have h4' : (65535 : Int) < r + p * 256 + q := by omega
    have e1 : ((r : Int) + p * 256 + q).tmod 65536 = ((r + (p * 256 + q)) % 65536 : Nat) := by rw [Int.tmod_eq_emod_of_nonneg (by omega)]; omega
    rw [if_pos h4] at h
    have e2 : (((r + (p * 256 + q)) % 65536 + 1 : Nat) : Int) = ((r : Int) + p * 256 + q).tmod 65536 + 1 := by rw [e1]; omega
    have h6 : ((r : Int) + p * 256 + q).tmod 65536 ≤ 65536 := by rw [e1]; omega
    have h7 : 0 ≤ ((r : Int) + p * 256 + q).tmod 65536 := by rw [e1]; omega
    rw [e2] at h
    have e5 : IntKind.i64.wrap (((r : Int) + p * 256 + q).tmod 65536 + 1) = ((r : Int) + p * 256 + q).tmod 65536 + 1 := U1 (by omega) (by omega)
    (have hQq := trivial; repeat ((first | clear hQq | (with_reducible first | refine A3 ?_ | refine A4 fun _ => ?_ | refine A5 fun _ => ?_)); (try simp (disch := first | omega | assumption | ((repeat (first | exact A0 | exact Up.here | apply A1 | apply Up.there)); first | done | fail) | (simp; first | done | omega | fail)) [h2', h3', hx0, hx1, h4', N3])))
    exact h
   ·have h4' : ¬ (65535 : Int) < r + p * 256 + q := by omega
    rw [if_neg h4] at h
    (have hQq := trivial; repeat ((first | clear hQq | (with_reducible first | refine A3 ?_ | refine A4 fun _ => ?_ | refine A5 fun _ => ?_)); (try simp (disch := first | omega | assumption | ((repeat (first | exact A0 | exact Up.here | apply A1 | apply Up.there)); first | done | fail) | (simp; first | done | omega | fail)) [h2', h3', hx0, hx1, h4'])))
    rw [show ((r + (p * 256 + q) : Nat) : Int) = (r : Int) + p * 256 + q by omega] at h
    exact h
  ·have h3' : ¬ 2 * (i : Int) + 1 < s.size := by omega
   have e0 : C4 s (2 * i + 1) = 0 := by unfold C4; rw [Array.getD_eq_getD_getElem?, Array.getElem?_eq_none (by show s.size ≤ _; omega)]; rfl
   rw [e0] at h
   generalize C4 s (2 * i) = p at *
   generalize A8y s i = r at *
   by_cases h4 : 65535 < r + (p * 256 + 0)
   ·have h4' : (65535 : Int) < r + p * 256 := by omega
    have e1 : ((r : Int) + p * 256).tmod 65536 = ((r + (p * 256 + 0)) % 65536 : Nat) := by rw [Int.tmod_eq_emod_of_nonneg (by omega)]; omega
    rw [if_pos h4] at h
    have e2 : (((r + (p * 256 + 0)) % 65536 + 1 : Nat) : Int) = ((r : Int) + p * 256).tmod 65536 + 1 := by rw [e1]; omega
    have h6 : ((r : Int) + p * 256).tmod 65536 ≤ 65536 := by rw [e1]; omega
    have h7 : 0 ≤ ((r : Int) + p * 256).tmod 65536 := by rw [e1]; omega
    rw [e2] at h
    have e5 : IntKind.i64.wrap (((r : Int) + p * 256).tmod 65536 + 1) = ((r : Int) + p * 256).tmod 65536 + 1 := U1 (by omega) (by omega)
    (have hQq := trivial; repeat ((first | clear hQq | (with_reducible first | refine A3 ?_ | refine A4 fun _ => ?_ | refine A5 fun _ => ?_)); (try simp (disch := first | omega | assumption | ((repeat (first | exact A0 | exact Up.here | apply A1 | apply Up.there)); first | done | fail) | (simp; first | done | omega | fail)) [h2', h3', hx0, h4', N3])))
    exact h
   ·have h4' : ¬ (65535 : Int) < r + p * 256 := by omega
    rw [if_neg h4] at h
    (have hQq := trivial; repeat ((first | clear hQq | (with_reducible first | refine A3 ?_ | refine A4 fun _ => ?_ | refine A5 fun _ => ?_)); (try simp (disch := first | omega | assumption | ((repeat (first | exact A0 | exact Up.here | apply A1 | apply Up.there)); first | done | fail) | (simp; first | done | omega | fail)) [h2', h3', hx0, h4'])))
    rw [show ((r + (p * 256 + 0) : Nat) : Int) = (r : Int) + p * 256 by omega] at h
    exact h
 ·obtain rfl : i = N8 s := by omega
  have h2' : ¬ (2 * (N8 s : Int)) < s.size := by unfold N8; omega
  (have hQq := trivial; repeat ((first | clear hQq | (with_reducible first | refine A3 ?_ | refine A4 fun _ => ?_ | refine A5 fun _ => ?_)); (try simp (disch := first | omega | assumption | ((repeat (first | exact A0 | exact Up.here | apply A1 | apply Up.there)); first | done | fail) | (simp; first | done | omega | fail)) [h2'])))
  exact A9 (by rw [B5A]; rfl)
theorem C2M (w : World) (s : ByteArray) (hs : s.size < 2 ^ 40) : Fn PR B5 214 #[.string s] w (fun v w' => v = .bool (decide (g5 s = 65535)) ∧ C0 [] w w') := by
 refine Fn.pure (A5j (TW.go (κ := false) (S := []) ?_))
 unfold A0j
 refine B7 A4e (fun w' _ => C2l w' s hs) ?_
 (have hQq := trivial; repeat ((first | clear hQq | (with_reducible first | refine A3 ?_ | refine A4 fun _ => ?_ | refine A5 fun _ => ?_)); (try simp (disch := first | omega | assumption | ((repeat (first | exact A0 | exact Up.here | apply A1 | apply Up.there)); first | done | fail) | (simp; first | done | omega | fail)) [])))
 exact A9 (by simp; omega)
end Go.Proofs.YtggakcpabomliaaGreat
namespace Go.Proofs.YtggakcpabomliaaGreat
open Go
theorem Q0 {x k : Int} (h : 0 ≤ x) : x.tdiv k = x / k := Int.tdiv_eq_ediv_of_nonneg h
theorem l4 {x k : Int} (h : 0 ≤ x) : x.tmod k = x % k := Int.tmod_eq_emod_of_nonneg h
theorem C0a (w : World) (s : ByteArray) (hs : s.size < 2 ^ 40) : Fn PR B5 193 #[.string s] w (fun v w' => v = (Q1 s).val ∧ C0 [] w w') := by
 refine Fn.pure (A4M (TW.go (κ := false) (S := []) ?_))
 unfold y8
 by_cases c1 : s.size < 20
 ·have c1' : (s.size : Int) < 20 := by omega
  have hv : Q1 s = .err 2 := by simp [Q1, A3u, c1]
  rw [hv]
  (have hQq := trivial; repeat ((first | clear hQq | (with_reducible first | refine A3 ?_ | refine A4 fun _ => ?_ | refine A5 fun _ => ?_)); (try simp (disch := first | omega | assumption | ((repeat (first | exact A0 | exact Up.here | apply A1 | apply Up.there)); first | done | fail) | (simp; first | done | omega | fail)) [c1, c1'])))
  exact A9 rfl
 have c1' : ¬ (s.size : Int) < 20 := by omega
 have hx0 := fun K => A3P (s := s) (x := 0) (by omega) (by simp; omega) K
 rw [show (0 : Int).toNat = 0 from rfl] at hx0
 have hl0 := L9 s 0
 have hg : gv s 0 1 = C4 s 0 := A6G (by omega)
 have hg9 : gv s 9 1 = C4 s 9 := A6G (by omega)
 have hL : H8 s = C4 s 0 % 16 * 4 := by unfold H8; rw [hg]
 by_cases c2 : C4 s 0 / 16 = 4
 case neg =>
  have hv : Q1 s = .err 3 := by simp [Q1, A3u, c1, hg, c2]
  rw [hv]
  have c2' : ¬ (C4 s 0 : Int) / 16 = 4 := by omega
  generalize C4 s 0 = b at *
  (have hQq := trivial; repeat ((first | clear hQq | (with_reducible first | refine A3 ?_ | refine A4 fun _ => ?_ | refine A5 fun _ => ?_)); (try simp (disch := first | omega | assumption | ((repeat (first | exact A0 | exact Up.here | apply A1 | apply Up.there)); first | done | fail) | (simp; first | done | omega | fail)) [c1, c1', hx0, W0, Q0, c2, c2'])))
  exact A9 rfl
 have c2' : (C4 s 0 : Int) / 16 = 4 := by omega
 (have hQq := trivial; repeat ((first | clear hQq | (with_reducible first | refine A3 ?_ | refine A4 fun _ => ?_ | refine A5 fun _ => ?_)); (try simp (disch := first | omega | assumption | ((repeat (first | exact A0 | exact Up.here | apply A1 | apply Up.there)); first | done | fail) | (simp; first | done | omega | fail)) [c1, c1', hx0, W0, Q0, N3, l4, c2, c2'])))
 refine B7 G9 (fun w' _ => r7 w' s hs 2 2 rfl) ?_
 have hw2 := j2 s 2
 have hw6 := j2 s 6
 have eL : ((C4 s 0 : Nat) : Int) % 16 * 4 = (H8 s : Nat) := by rw [hL]; omega
 have hLl : H8 s < 100 := by omega
 have hE : A3u s = if H8 s < 20 ∨ s.size < H8 s ∨ gv s 2 2 < H8 s ∨ s.size < gv s 2 2 then 4 else if g5 (s.extract 0 (H8 s)) ≠ 65535 then 5 else if gv s 6 2 % 16384 ≠ 0 then 6 else 0 := by
  unfold A3u; rw [if_neg c1, hg, if_neg (by simp [c2])]
 generalize hG : gv s 2 2 = g at *
 generalize hLe : H8 s = m at *
 by_cases c3 : m < 20 ∨ s.size < m ∨ g < m ∨ s.size < g
 ·have hv : Q1 s = .err 4 := by rw [if_pos c3] at hE; simp [Q1, hE]
  rw [hv]
  by_cases d1 : m < 20
  ·have d1' : (m : Int) < 20 := by omega
   (have hQq := trivial; repeat ((first | clear hQq | (with_reducible first | refine A3 ?_ | refine A4 fun _ => ?_ | refine A5 fun _ => ?_)); (try simp (disch := first | omega | assumption | ((repeat (first | exact A0 | exact Up.here | apply A1 | apply Up.there)); first | done | fail) | (simp; first | done | omega | fail)) [c1, c1', hx0, W0, Q0, N3, l4, c2, c2', eL, d1, d1'])))
   exact A9 rfl
  have d1' : ¬ (m : Int) < 20 := by omega
  by_cases d2 : s.size < m
  ·have d2' : (s.size : Int) < m := by omega
   (have hQq := trivial; repeat ((first | clear hQq | (with_reducible first | refine A3 ?_ | refine A4 fun _ => ?_ | refine A5 fun _ => ?_)); (try simp (disch := first | omega | assumption | ((repeat (first | exact A0 | exact Up.here | apply A1 | apply Up.there)); first | done | fail) | (simp; first | done | omega | fail)) [c1, c1', hx0, W0, Q0, N3, l4, c2, c2', eL, d1, d1', d2, d2'])))
   exact A9 rfl
  have d2' : ¬ (s.size : Int) < m := by omega
  by_cases d3 : g < m
  ·have d3' : (g : Int) < m := by omega
   (have hQq := trivial; repeat ((first | clear hQq | (with_reducible first | refine A3 ?_ | refine A4 fun _ => ?_ | refine A5 fun _ => ?_)); (try simp (disch := first | omega | assumption | ((repeat (first | exact A0 | exact Up.here | apply A1 | apply Up.there)); first | done | fail) | (simp; first | done | omega | fail)) [c1, c1', hx0, W0, Q0, N3, l4, c2, c2', eL, d1, d1', d2, d2', d3, d3'])))
   exact A9 rfl
  have d3' : ¬ (g : Int) < m := by omega
  have d4 : s.size < g := by omega
  have d4' : (s.size : Int) < g := by omega
  (have hQq := trivial; repeat ((first | clear hQq | (with_reducible first | refine A3 ?_ | refine A4 fun _ => ?_ | refine A5 fun _ => ?_)); (try simp (disch := first | omega | assumption | ((repeat (first | exact A0 | exact Up.here | apply A1 | apply Up.there)); first | done | fail) | (simp; first | done | omega | fail)) [c1, c1', hx0, W0, Q0, N3, l4, c2, c2', eL, d1, d1', d2, d2', d3, d3', d4, d4'])))
  exact A9 rfl
 rw [if_neg c3] at hE
 have d1 : ¬ m < 20 := by omega
 have d1' : ¬ (m : Int) < 20 := by omega
 have d2 : ¬ s.size < m := by omega
 have d2' : ¬ (s.size : Int) < m := by omega
 have d3 : ¬ g < m := by omega
 have d3' : ¬ (g : Int) < m := by omega
 have d4 : ¬ s.size < g := by omega
 have d4' : ¬ (s.size : Int) < g := by omega
 (have hQq := trivial; repeat ((first | clear hQq | (with_reducible first | refine A3 ?_ | refine A4 fun _ => ?_ | refine A5 fun _ => ?_)); (try simp (disch := first | omega | assumption | ((repeat (first | exact A0 | exact Up.here | apply A1 | apply Up.there)); first | done | fail) | (simp; first | done | omega | fail)) [c1, c1', hx0, W0, Q0, N3, l4, c2, c2', eL, d1, d1', d2, d2', d3, d3', d4, d4'])))
 refine B7 A4U (fun w' _ => C2M w' (s.extract 0 m) (by simp; omega)) ?_
 by_cases c4 : g5 (s.extract 0 m) = 65535
 case neg =>
  have hv : Q1 s = .err 5 := by rw [if_pos c4] at hE; simp [Q1, hE]
  rw [hv]
  (have hQq := trivial; repeat ((first | clear hQq | (with_reducible first | refine A3 ?_ | refine A4 fun _ => ?_ | refine A5 fun _ => ?_)); (try simp (disch := first | omega | assumption | ((repeat (first | exact A0 | exact Up.here | apply A1 | apply Up.there)); first | done | fail) | (simp; first | done | omega | fail)) [c4])))
  exact A9 rfl
 rw [if_neg (by simp [c4])] at hE
 (have hQq := trivial; repeat ((first | clear hQq | (with_reducible first | refine A3 ?_ | refine A4 fun _ => ?_ | refine A5 fun _ => ?_)); (try simp (disch := first | omega | assumption | ((repeat (first | exact A0 | exact Up.here | apply A1 | apply Up.there)); first | done | fail) | (simp; first | done | omega | fail)) [c4])))
 refine B7 G9 (fun w' _ => r7 w' s hs 6 6 rfl) ?_
 by_cases c5 : gv s 6 2 % 16384 = 0
 case neg =>
  have hv : Q1 s = .err 6 := by rw [if_pos c5] at hE; simp [Q1, hE]
  rw [hv]
  have c5' : ¬ (gv s 6 2 : Int) % 16384 = 0 := by omega
  generalize gv s 6 2 = z at *
  (have hQq := trivial; repeat ((first | clear hQq | (with_reducible first | refine A3 ?_ | refine A4 fun _ => ?_ | refine A5 fun _ => ?_)); (try simp (disch := first | omega | assumption | ((repeat (first | exact A0 | exact Up.here | apply A1 | apply Up.there)); first | done | fail) | (simp; first | done | omega | fail)) [N3, l4, c5, c5'])))
  exact A9 rfl
 rw [if_neg (by simp [c5])] at hE
 have hv : Q1 s = ⟨s.extract 12 16, s.extract 16 20, C4 s 9, s.extract m g, 0⟩ := by unfold Q1; rw [if_pos hE, hG, hLe, hg9]
 rw [hv]
 have c5' : (gv s 6 2 : Int) % 16384 = 0 := by omega
 have hx9 := fun K => A3P (s := s) (x := 9) (by omega) (by simp; omega) K
 rw [show (9 : Int).toNat = 9 from rfl] at hx9
 have hl9 := L9 s 9
 generalize gv s 6 2 = z at *
 (have hQq := trivial; repeat ((first | clear hQq | (with_reducible first | refine A3 ?_ | refine A4 fun _ => ?_ | refine A5 fun _ => ?_)); (try simp (disch := first | omega | assumption | ((repeat (first | exact A0 | exact Up.here | apply A1 | apply Up.there)); first | done | fail) | (simp; first | done | omega | fail)) [N3, l4, c5, c5', hx9])))
 exact A9 (by simp [HeadV.val, eL])
theorem B9w (w : World) (s : ByteArray) (hs : s.size < 2 ^ 40) : Fn PR B5 194 #[.string s] w (fun v w' => v = (S1 s).val ∧ C0 [] w w') := by
 refine Fn.pure (A4H (TW.go (κ := false) (S := []) ?_))
 unfold z8
 by_cases c1 : s.size < 40
 ·have c1' : (s.size : Int) < 40 := by omega
  have hv : S1 s = .err 2 := by simp [S1, A5s, c1]
  rw [hv]
  (have hQq := trivial; repeat ((first | clear hQq | (with_reducible first | refine A3 ?_ | refine A4 fun _ => ?_ | refine A5 fun _ => ?_)); (try simp (disch := first | omega | assumption | ((repeat (first | exact A0 | exact Up.here | apply A1 | apply Up.there)); first | done | fail) | (simp; first | done | omega | fail)) [c1, c1'])))
  exact A9 rfl
 have c1' : ¬ (s.size : Int) < 40 := by omega
 have hx0 := fun K => A3P (s := s) (x := 0) (by omega) (by simp; omega) K
 rw [show (0 : Int).toNat = 0 from rfl] at hx0
 have hl0 := L9 s 0
 have hg : gv s 0 1 = C4 s 0 := A6G (by omega)
 have hg6 : gv s 6 1 = C4 s 6 := A6G (by omega)
 by_cases c2 : C4 s 0 / 16 = 6
 case neg =>
  have hv : S1 s = .err 3 := by simp [S1, A5s, c1, hg, c2]
  rw [hv]
  have c2' : ¬ (C4 s 0 : Int) / 16 = 6 := by omega
  generalize C4 s 0 = b at *
  (have hQq := trivial; repeat ((first | clear hQq | (with_reducible first | refine A3 ?_ | refine A4 fun _ => ?_ | refine A5 fun _ => ?_)); (try simp (disch := first | omega | assumption | ((repeat (first | exact A0 | exact Up.here | apply A1 | apply Up.there)); first | done | fail) | (simp; first | done | omega | fail)) [c1, c1', hx0, W0, Q0, c2, c2'])))
  exact A9 rfl
 have c2' : (C4 s 0 : Int) / 16 = 6 := by omega
 (have hQq := trivial; repeat ((first | clear hQq | (with_reducible first | refine A3 ?_ | refine A4 fun _ => ?_ | refine A5 fun _ => ?_)); (try simp (disch := first | omega | assumption | ((repeat (first | exact A0 | exact Up.here | apply A1 | apply Up.there)); first | done | fail) | (simp; first | done | omega | fail)) [c1, c1', hx0, W0, Q0, N3, l4, c2, c2'])))
 refine B7 G9 (fun w' _ => r7 w' s hs 4 4 rfl) ?_
 have hw4 := j2 s 4
 have hE : A5s s = if s.size - 40 < gv s 4 2 then 4 else 0 := by
  unfold A5s; rw [if_neg c1, hg, if_neg (by simp [c2])]
 generalize hG : gv s 4 2 = g at *
 by_cases c3 : s.size - 40 < g
 ·have hv : S1 s = .err 4 := by rw [if_pos c3] at hE; simp [S1, hE]
  rw [hv]
  have c3' : (s.size : Int) - 40 < g := by omega
  (have hQq := trivial; repeat ((first | clear hQq | (with_reducible first | refine A3 ?_ | refine A4 fun _ => ?_ | refine A5 fun _ => ?_)); (try simp (disch := first | omega | assumption | ((repeat (first | exact A0 | exact Up.here | apply A1 | apply Up.there)); first | done | fail) | (simp; first | done | omega | fail)) [c1', c3, c3'])))
  exact A9 rfl
 rw [if_neg c3] at hE
 have hv : S1 s = ⟨s.extract 8 24, s.extract 24 40, C4 s 6, s.extract 40 (40 + g), 0⟩ := by unfold S1; rw [if_pos hE, hG, hg6]
 rw [hv]
 have c3' : ¬ (s.size : Int) - 40 < g := by omega
 have hx6 := fun K => A3P (s := s) (x := 6) (by omega) (by simp; omega) K
 rw [show (6 : Int).toNat = 6 from rfl] at hx6
 have hl6 := L9 s 6
 have e : (40 + (g : Int)).toNat = 40 + g := by omega
 (have hQq := trivial; repeat ((first | clear hQq | (with_reducible first | refine A3 ?_ | refine A4 fun _ => ?_ | refine A5 fun _ => ?_)); (try simp (disch := first | omega | assumption | ((repeat (first | exact A0 | exact Up.here | apply A1 | apply Up.there)); first | done | fail) | (simp; first | done | omega | fail)) [c1', c3, c3', hx6])))
 exact A9 (by simp [HeadV.val, e])
theorem C0L (w : World) (s : ByteArray) (hs : s.size < 2 ^ 40) (n : Int) : Fn PR B5 157 #[.int .i64 n, .string s] w (fun v w' => v = J0.val (J0 n s) ∧ C0 [] w w') := by
 refine Fn.pure (A39 (TW.go (κ := false) (S := []) ?_))
 unfold u9
 by_cases c0 : n = 6 ∨ n = 17
 case neg =>
  have c6 : ¬ n = 6 := by omega
  have c7 : ¬ n = 17 := by omega
  have hv : J0 n s = (0, 0, 0, 7) := by simp [J0, q8, c6, c7]
  rw [hv]
  (have hQq := trivial; repeat ((first | clear hQq | (with_reducible first | refine A3 ?_ | refine A4 fun _ => ?_ | refine A5 fun _ => ?_)); (try simp (disch := first | omega | assumption | ((repeat (first | exact A0 | exact Up.here | apply A1 | apply Up.there)); first | done | fail) | (simp; first | done | omega | fail)) [c6, c7])))
  exact A9 rfl
 have hw0 := j2 s 0
 have hw2 := j2 s 2
 by_cases c6 : n = 6
 ·subst c6
  have hp : q8 6 s = A01 s := rfl
  by_cases c1 : s.size < 20
  ·have c1' : (s.size : Int) < 20 := by omega
   have hv : J0 6 s = (0, 0, 0, 2) := by unfold J0; rw [hp]; simp [A01, c1]
   rw [hv]
   (have hQq := trivial; repeat ((first | clear hQq | (with_reducible first | refine A3 ?_ | refine A4 fun _ => ?_ | refine A5 fun _ => ?_)); (try simp (disch := first | omega | assumption | ((repeat (first | exact A0 | exact Up.here | apply A1 | apply Up.there)); first | done | fail) | (simp; first | done | omega | fail)) [c1, c1'])))
   exact A9 rfl
  have c1' : ¬ (s.size : Int) < 20 := by omega
  have c2' : ¬ (s.size : Int) < 8 := by omega
  have hx12 := fun K => A3P (s := s) (x := 12) (by omega) (by simp; omega) K
  rw [show (12 : Int).toNat = 12 from rfl] at hx12
  have hl12 := L9 s 12
  have hx13 := fun K => A3P (s := s) (x := 13) (by omega) (by simp; omega) K
  rw [show (13 : Int).toNat = 13 from rfl] at hx13
  have hl13 := L9 s 13
  (have hQq := trivial; repeat ((first | clear hQq | (with_reducible first | refine A3 ?_ | refine A4 fun _ => ?_ | refine A5 fun _ => ?_)); (try simp (disch := first | omega | assumption | ((repeat (first | exact A0 | exact Up.here | apply A1 | apply Up.there)); first | done | fail) | (simp; first | done | omega | fail)) [c1', c2'])))
  refine B7 G9 (fun w' _ => r7 w' s hs 0 0 rfl) ?_
  (have hQq := trivial; repeat ((first | clear hQq | (with_reducible first | refine A3 ?_ | refine A4 fun _ => ?_ | refine A5 fun _ => ?_)); (try simp (disch := first | omega | assumption | ((repeat (first | exact A0 | exact Up.here | apply A1 | apply Up.there)); first | done | fail) | (simp; first | done | omega | fail)) [])))
  refine B7 G9 (fun w' _ => r7 w' s hs 2 2 rfl) ?_
  have ht : A01 s = if C4 s 12 / 16 * 4 < 20 ∨ s.size < C4 s 12 / 16 * 4 then (0, 8) else (C4 s 13, 0) := by unfold A01; rw [if_neg c1]
  have hv0 : J0 6 s = if (A01 s).2 ≠ 0 then (0, 0, 0, (A01 s).2) else (gv s 0 2, gv s 2 2, (A01 s).1, 0) := by unfold J0; rw [hp]
  rw [ht] at hv0
  generalize gv s 0 2 = g0 at *
  generalize gv s 2 2 = g2 at *
  generalize C4 s 12 = b at *
  generalize C4 s 13 = f at *
  by_cases c3 : b / 16 * 4 < 20
  ·rw [if_pos (Or.inl c3)] at hv0
   rw [hv0]
   have c3' : (b : Int) / 16 * 4 < 20 := by omega
   (have hQq := trivial; repeat ((first | clear hQq | (with_reducible first | refine A3 ?_ | refine A4 fun _ => ?_ | refine A5 fun _ => ?_)); (try simp (disch := first | omega | assumption | ((repeat (first | exact A0 | exact Up.here | apply A1 | apply Up.there)); first | done | fail) | (simp; first | done | omega | fail)) [hx12, W0, Q0, c3, c3'])))
   exact A9 rfl
  have c3' : ¬ (b : Int) / 16 * 4 < 20 := by omega
  by_cases c4 : s.size < b / 16 * 4
  ·rw [if_pos (Or.inr c4)] at hv0
   rw [hv0]
   have c4' : (s.size : Int) < (b : Int) / 16 * 4 := by omega
   (have hQq := trivial; repeat ((first | clear hQq | (with_reducible first | refine A3 ?_ | refine A4 fun _ => ?_ | refine A5 fun _ => ?_)); (try simp (disch := first | omega | assumption | ((repeat (first | exact A0 | exact Up.here | apply A1 | apply Up.there)); first | done | fail) | (simp; first | done | omega | fail)) [hx12, W0, Q0, c3, c3', c4, c4'])))
   exact A9 rfl
  have c4' : ¬ (s.size : Int) < (b : Int) / 16 * 4 := by omega
  have c5 : ¬ (b / 16 * 4 < 20 ∨ s.size < b / 16 * 4) := by omega
  rw [if_neg c5] at hv0
  rw [hv0]
  (have hQq := trivial; repeat ((first | clear hQq | (with_reducible first | refine A3 ?_ | refine A4 fun _ => ?_ | refine A5 fun _ => ?_)); (try simp (disch := first | omega | assumption | ((repeat (first | exact A0 | exact Up.here | apply A1 | apply Up.there)); first | done | fail) | (simp; first | done | omega | fail)) [hx12, hx13, W0, Q0, c3, c3', c4, c4'])))
  exact A9 (by simp [J0.val])
 ·obtain rfl : n = 17 := by omega
  have hp : q8 17 s = A04 s := rfl
  by_cases c1 : s.size < 8
  ·have c1' : (s.size : Int) < 8 := by omega
   have hv : J0 17 s = (0, 0, 0, 2) := by unfold J0; rw [hp]; simp [A04, c1]
   rw [hv]
   (have hQq := trivial; repeat ((first | clear hQq | (with_reducible first | refine A3 ?_ | refine A4 fun _ => ?_ | refine A5 fun _ => ?_)); (try simp (disch := first | omega | assumption | ((repeat (first | exact A0 | exact Up.here | apply A1 | apply Up.there)); first | done | fail) | (simp; first | done | omega | fail)) [c1, c1'])))
   exact A9 rfl
  have c1' : ¬ (s.size : Int) < 8 := by omega
  (have hQq := trivial; repeat ((first | clear hQq | (with_reducible first | refine A3 ?_ | refine A4 fun _ => ?_ | refine A5 fun _ => ?_)); (try simp (disch := first | omega | assumption | ((repeat (first | exact A0 | exact Up.here | apply A1 | apply Up.there)); first | done | fail) | (simp; first | done | omega | fail)) [c1'])))
  refine B7 G9 (fun w' _ => r7 w' s hs 0 0 rfl) ?_
  (have hQq := trivial; repeat ((first | clear hQq | (with_reducible first | refine A3 ?_ | refine A4 fun _ => ?_ | refine A5 fun _ => ?_)); (try simp (disch := first | omega | assumption | ((repeat (first | exact A0 | exact Up.here | apply A1 | apply Up.there)); first | done | fail) | (simp; first | done | omega | fail)) [])))
  refine B7 G9 (fun w' _ => r7 w' s hs 2 2 rfl) ?_
  (have hQq := trivial; repeat ((first | clear hQq | (with_reducible first | refine A3 ?_ | refine A4 fun _ => ?_ | refine A5 fun _ => ?_)); (try simp (disch := first | omega | assumption | ((repeat (first | exact A0 | exact Up.here | apply A1 | apply Up.there)); first | done | fail) | (simp; first | done | omega | fail)) [])))
  refine B7 G9 (fun w' _ => r7 w' s hs 4 4 rfl) ?_
  have hw4 := j2 s 4
  have ht : A04 s = if gv s 4 2 < 8 ∨ s.size < gv s 4 2 then (0, 4) else (0, 0) := by unfold A04; rw [if_neg c1]
  have hv0 : J0 17 s = if (A04 s).2 ≠ 0 then (0, 0, 0, (A04 s).2) else (gv s 0 2, gv s 2 2, (A04 s).1, 0) := by unfold J0; rw [hp]
  rw [ht] at hv0
  generalize gv s 0 2 = g0 at *
  generalize gv s 2 2 = g2 at *
  generalize gv s 4 2 = b at *
  by_cases c3 : b < 8
  ·rw [if_pos (Or.inl c3)] at hv0
   rw [hv0]
   have c3' : (b : Int) < 8 := by omega
   (have hQq := trivial; repeat ((first | clear hQq | (with_reducible first | refine A3 ?_ | refine A4 fun _ => ?_ | refine A5 fun _ => ?_)); (try simp (disch := first | omega | assumption | ((repeat (first | exact A0 | exact Up.here | apply A1 | apply Up.there)); first | done | fail) | (simp; first | done | omega | fail)) [c3, c3'])))
   exact A9 rfl
  have c3' : ¬ (b : Int) < 8 := by omega
  by_cases c4 : s.size < b
  ·rw [if_pos (Or.inr c4)] at hv0
   rw [hv0]
   have c4' : (s.size : Int) < (b : Int) := by omega
   (have hQq := trivial; repeat ((first | clear hQq | (with_reducible first | refine A3 ?_ | refine A4 fun _ => ?_ | refine A5 fun _ => ?_)); (try simp (disch := first | omega | assumption | ((repeat (first | exact A0 | exact Up.here | apply A1 | apply Up.there)); first | done | fail) | (simp; first | done | omega | fail)) [c3, c3', c4, c4'])))
   exact A9 rfl
  have c4' : ¬ (s.size : Int) < (b : Int) := by omega
  have c5 : ¬ (b < 8 ∨ s.size < b) := by omega
  rw [if_neg c5] at hv0
  rw [hv0]
  (have hQq := trivial; repeat ((first | clear hQq | (with_reducible first | refine A3 ?_ | refine A4 fun _ => ?_ | refine A5 fun _ => ?_)); (try simp (disch := first | omega | assumption | ((repeat (first | exact A0 | exact Up.here | apply A1 | apply Up.there)); first | done | fail) | (simp; first | done | omega | fail)) [c3, c3', c4, c4'])))
  exact A9 (by simp [J0.val])
end Go.Proofs.YtggakcpabomliaaGreat
namespace Go.Proofs.YtggakcpabomliaaGreat
open Go
def C2W (x : KeyV × ByteArray × Nat) : Value := .agg #[.string x.1.src, .string x.1.dst, .string x.2.1, .int .i64 x.1.proto, .int .i64 x.2.2]
theorem C1f (w : World) (s : ByteArray) (hs : s.size < 2 ^ 40) (h0 : 0 < s.size) : Fn PR B5 156 #[.string s] w (fun v w' => v = C2W (M3 s) ∧ C0 [] w w') := by
 refine Fn.pure (A5Q (TW.go (κ := false) (S := []) ?_))
 unfold A0W
 have hx0 := fun K => A3P (s := s) (x := 0) (by omega) (by simp; omega) K
 rw [show (0 : Int).toNat = 0 from rfl] at hx0
 have hl0 := L9 s 0
 have hv : M3 s = if C4 s 0 / 16 = 4 then (⟨4, (Q1 s).src, (Q1 s).dst, 0, 0, (Q1 s).proto⟩, (Q1 s).rest, (Q1 s).e)
  else if C4 s 0 / 16 = 6 then (⟨6, (S1 s).src, (S1 s).dst, 0, 0, (S1 s).proto⟩, (S1 s).rest, (S1 s).e) else (noK, P6, 3) := by unfold M3; rw [if_neg (by omega)]
 generalize C4 s 0 = b at *
 by_cases c4 : b / 16 = 4
 ·rw [hv, if_pos c4]
  have c4' : (b : Int) / 16 = 4 := by omega
  (have hQq := trivial; repeat ((first | clear hQq | (with_reducible first | refine A3 ?_ | refine A4 fun _ => ?_ | refine A5 fun _ => ?_)); (try simp (disch := first | omega | assumption | ((repeat (first | exact A0 | exact Up.here | apply A1 | apply Up.there)); first | done | fail) | (simp; first | done | omega | fail)) [hx0, W0, Q0, c4, c4'])))
  refine B7 A3c (fun w' _ => C0a w' s hs) ?_
  (have hQq := trivial; repeat ((first | clear hQq | (with_reducible first | refine A3 ?_ | refine A4 fun _ => ?_ | refine A5 fun _ => ?_)); (try simp (disch := first | omega | assumption | ((repeat (first | exact A0 | exact Up.here | apply A1 | apply Up.there)); first | done | fail) | (simp; first | done | omega | fail)) [HeadV.val])))
  exact A9 rfl
 have c4' : ¬ (b : Int) / 16 = 4 := by omega
 by_cases c6 : b / 16 = 6
 ·rw [hv, if_neg c4, if_pos c6]
  have c6' : (b : Int) / 16 = 6 := by omega
  (have hQq := trivial; repeat ((first | clear hQq | (with_reducible first | refine A3 ?_ | refine A4 fun _ => ?_ | refine A5 fun _ => ?_)); (try simp (disch := first | omega | assumption | ((repeat (first | exact A0 | exact Up.here | apply A1 | apply Up.there)); first | done | fail) | (simp; first | done | omega | fail)) [hx0, W0, Q0, c4, c4', c6, c6'])))
  refine B7 A3d (fun w' _ => B9w w' s hs) ?_
  (have hQq := trivial; repeat ((first | clear hQq | (with_reducible first | refine A3 ?_ | refine A4 fun _ => ?_ | refine A5 fun _ => ?_)); (try simp (disch := first | omega | assumption | ((repeat (first | exact A0 | exact Up.here | apply A1 | apply Up.there)); first | done | fail) | (simp; first | done | omega | fail)) [HeadV.val])))
  exact A9 rfl
 ·rw [hv, if_neg c4, if_neg c6]
  have c6' : ¬ (b : Int) / 16 = 6 := by omega
  (have hQq := trivial; repeat ((first | clear hQq | (with_reducible first | refine A3 ?_ | refine A4 fun _ => ?_ | refine A5 fun _ => ?_)); (try simp (disch := first | omega | assumption | ((repeat (first | exact A0 | exact Up.here | apply A1 | apply Up.there)); first | done | fail) | (simp; first | done | omega | fail)) [hx0, W0, Q0, c4, c4', c6, c6'])))
  exact A9 rfl
theorem C1u {s : ByteArray} (h0 : 0 < s.size) (he : (M3 s).2.2 = 0) : (M3 s).1.v = (C4 s 0 / 16 : Nat) := by
 unfold M3 at he ⊢
 rw [if_neg (by omega)] at he ⊢
 by_cases c4 : C4 s 0 / 16 = 4
 ·rw [if_pos c4, c4]; rfl
 rw [if_neg c4] at he ⊢
 by_cases c6 : C4 s 0 / 16 = 6
 ·rw [if_pos c6, c6]; rfl
 ·rw [if_neg c6] at he; simp at he
theorem B91 (w : World) (s : ByteArray) (hs : s.size < 2 ^ 40) : Fn PR B5 108 #[.string s] w (fun u w' => u = packet.val (C3 s) ∧ C0 [] w w') := by
 refine Fn.pure (A4P (TW.go (κ := false) (S := []) ?_))
 unfold A0C
 by_cases c0 : s.size = 0
 ·have c0' : (s.size : Int) = 0 := by omega
  have hv : C3 s = (noK, 0, 2) := by unfold C3 M3; rw [if_pos c0]; rfl
  rw [hv]
  (have hQq := trivial; repeat ((first | clear hQq | (with_reducible first | refine A3 ?_ | refine A4 fun _ => ?_ | refine A5 fun _ => ?_)); (try simp (disch := first | omega | assumption | ((repeat (first | exact A0 | exact Up.here | apply A1 | apply Up.there)); first | done | fail) | (simp; first | done | omega | fail)) [c0, c0'])))
  exact A9 rfl
 have c0' : ¬ (s.size : Int) = 0 := by omega
 (have hQq := trivial; repeat ((first | clear hQq | (with_reducible first | refine A3 ?_ | refine A4 fun _ => ?_ | refine A5 fun _ => ?_)); (try simp (disch := first | omega | assumption | ((repeat (first | exact A0 | exact Up.here | apply A1 | apply Up.there)); first | done | fail) | (simp; first | done | omega | fail)) [c0, c0'])))
 refine B7 A4g (fun w' _ => C1f w' s hs (by omega)) ?_
 have hr := B0B s
 by_cases c1 : (M3 s).2.2 = 0
 case neg =>
  have hv : C3 s = (noK, 0, (M3 s).2.2) := by unfold C3; simp only; rw [if_pos c1]
  rw [hv]
  generalize M3 s = x at *
  obtain ⟨⟨v, src, dst, fr, tp, pr⟩, rest, e⟩ := x
  simp only at c1 hr
  (have hQq := trivial; repeat ((first | clear hQq | (with_reducible first | refine A3 ?_ | refine A4 fun _ => ?_ | refine A5 fun _ => ?_)); (try simp (disch := first | omega | assumption | ((repeat (first | exact A0 | exact Up.here | apply A1 | apply Up.there)); first | done | fail) | (simp; first | done | omega | fail)) [C2W, c1])))
  exact A9 rfl
 have hx0 := fun K => A3P (s := s) (x := 0) (by omega) (by simp; omega) K
 rw [show (0 : Int).toNat = 0 from rfl] at hx0
 have hl0 := L9 s 0
 have hvv := C1u (by omega) c1
 have hv : C3 s = let y := J0 (M3 s).1.proto (M3 s).2.1; if y.2.2.2 ≠ 0 then (noK, 0, y.2.2.2) else ({ (M3 s).1 with fr := y.1, tp := y.2.1 }, y.2.2.1, 0) := by unfold C3; simp only; rw [if_neg (by simp [c1])]
 rw [hv]
 generalize M3 s = x at *
 generalize C4 s 0 = b at *
 obtain ⟨⟨v, src, dst, fr, tp, pr⟩, rest, e⟩ := x
 simp only at c1 hr hvv ⊢
 subst c1 hvv
 (have hQq := trivial; repeat ((first | clear hQq | (with_reducible first | refine A3 ?_ | refine A4 fun _ => ?_ | refine A5 fun _ => ?_)); (try simp (disch := first | omega | assumption | ((repeat (first | exact A0 | exact Up.here | apply A1 | apply Up.there)); first | done | fail) | (simp; first | done | omega | fail)) [C2W])))
 refine B7 A3p (fun w' _ => C0L w' rest (by omega) pr) ?_
 generalize J0 pr rest = y
 obtain ⟨y1, y2, y3, y4⟩ := y
 by_cases c2 : y4 = 0
 case neg =>
  simp only [if_pos c2]
  (have hQq := trivial; repeat ((first | clear hQq | (with_reducible first | refine A3 ?_ | refine A4 fun _ => ?_ | refine A5 fun _ => ?_)); (try simp (disch := first | omega | assumption | ((repeat (first | exact A0 | exact Up.here | apply A1 | apply Up.there)); first | done | fail) | (simp; first | done | omega | fail)) [J0.val, c2])))
  exact A9 rfl
 ·subst c2
  (have hQq := trivial; repeat ((first | clear hQq | (with_reducible first | refine A3 ?_ | refine A4 fun _ => ?_ | refine A5 fun _ => ?_)); (try simp (disch := first | omega | assumption | ((repeat (first | exact A0 | exact Up.here | apply A1 | apply Up.there)); first | done | fail) | (simp; first | done | omega | fail)) [J0.val, hx0, W0, Q0])))
  exact A9 (by simp [packet.val, N7])
theorem B9K (q c : Nat) (hc : c < 8) : q &&& c = q % 8 &&& c := by
 have h : (q &&& c) % 2 ^ 3 = q % 2 ^ 3 &&& c % 2 ^ 3 := Nat.and_mod_two_pow
 have h1 : q &&& c ≤ c := Nat.and_le_right
 rw [Nat.mod_eq_of_lt (by omega : q &&& c < 2 ^ 3), Nat.mod_eq_of_lt (by omega : c < 2 ^ 3)] at h
 exact h
theorem B6Y (w : World) (k : KeyV) (f : Int) : Fn PR B5 110 #[N7 k f] w (fun u w' => u = .bool (S0 k f) ∧ C0 [] w w') := by
 refine Fn.pure (A3H (TW.go (κ := false) (S := []) ?_))
 unfold p6 N7 S0
 by_cases c0 : k.proto = 6
 case neg =>
  (have hQq := trivial; repeat ((first | clear hQq | (with_reducible first | refine A3 ?_ | refine A4 fun _ => ?_ | refine A5 fun _ => ?_)); (try simp (disch := first | omega | assumption | ((repeat (first | exact A0 | exact Up.here | apply A1 | apply Up.there)); first | done | fail) | (simp; first | done | omega | fail)) [c0])))
  exact A9 (by simp)
 generalize hq : (f % 2 ^ IntKind.i64.bits).toNat = q
 have w0 : ∀ c, c < 8 → IntKind.i64.wrap ((q &&& c % 2 ^ IntKind.i64.bits : Nat) : Int) = (q % 8 &&& c : Nat) := fun c hc => by
  rw [show c % 2 ^ IntKind.i64.bits = c from Nat.mod_eq_of_lt (by show c < 2 ^ 64; omega), B9K q c hc]
  have h1 : q % 8 &&& c ≤ c := Nat.and_le_right
  exact U1 (by omega) (by omega)
 have w1 := w0 1 (by omega)
 have w4 := w0 4 (by omega)
 have w5 := w0 5 (by omega)
 have hall : ∀ r < 8, ((r &&& 1 = 1 ∨ r &&& 4 = 4) ↔ ¬ r &&& 5 = 0) := by decide
 have hr := hall (q % 8) (by omega)
 rw [w5]
 generalize q % 8 &&& 1 = x1 at *
 generalize q % 8 &&& 4 = x4 at *
 generalize q % 8 &&& 5 = x5 at *
 by_cases d1 : x1 = 1
 ·have d1' : (x1 : Int) = 1 := by omega
  have d5 : ¬ (x5 : Int) = 0 := by have := hr.1 (Or.inl d1); omega
  (have hQq := trivial; repeat ((first | clear hQq | (with_reducible first | refine A3 ?_ | refine A4 fun _ => ?_ | refine A5 fun _ => ?_)); (try simp (disch := first | omega | assumption | ((repeat (first | exact A0 | exact Up.here | apply A1 | apply Up.there)); first | done | fail) | (simp; first | done | omega | fail)) [c0, hq, w1, w4, d1, d1', d5])))
  exact A9 (by simp; omega)
 have d1' : ¬ (x1 : Int) = 1 := by omega
 by_cases d4 : x4 = 4
 ·have d4' : (x4 : Int) = 4 := by omega
  have d5 : ¬ (x5 : Int) = 0 := by have := hr.1 (Or.inr d4); omega
  (have hQq := trivial; repeat ((first | clear hQq | (with_reducible first | refine A3 ?_ | refine A4 fun _ => ?_ | refine A5 fun _ => ?_)); (try simp (disch := first | omega | assumption | ((repeat (first | exact A0 | exact Up.here | apply A1 | apply Up.there)); first | done | fail) | (simp; first | done | omega | fail)) [c0, hq, w1, w4, d1, d1', d4, d4', d5])))
  exact A9 (by simp; omega)
 have d4' : ¬ (x4 : Int) = 4 := by omega
 have d5 : (x5 : Int) = 0 := by omega
 (have hQq := trivial; repeat ((first | clear hQq | (with_reducible first | refine A3 ?_ | refine A4 fun _ => ?_ | refine A5 fun _ => ?_)); (try simp (disch := first | omega | assumption | ((repeat (first | exact A0 | exact Up.here | apply A1 | apply Up.there)); first | done | fail) | (simp; first | done | omega | fail)) [c0, hq, w1, w4, d1, d1', d4, d4', d5])))
 exact A9 (by simp [d5])
theorem B7w (l : List UInt8) (a b : Nat) : Lib.repeatL l (a + b) = Lib.repeatL l a ++ Lib.repeatL l b := by
 induction a with
 | zero => simp [Lib.repeatL]
 | succ a ih => rw [Nat.succ_add]; simp only [Lib.repeatL, ih, List.append_assoc]
theorem B0j (a b : Nat) : P7 z1 (a + b) = P7 z1 a ++ P7 z1 b := by
 apply ByteArray.ext
 rw [ByteArray.data_append]
 simp only [P7, B7w]
 simp
theorem C1V : P7 z1 1 = ByteArray.mk #[0] := rfl
theorem C00 : P7 z1 0 = P6 := rfl
def A5K (s : ByteArray) : ByteArray := s ++ P7 z1 (16 - s.size)
theorem B5e (w : World) (s : ByteArray) (hs : s.size ≤ 16) : Fn PR B5 160 #[.string s] w (fun u w' => u = .string (A5K s) ∧ C0 [] w w') := by
 refine Fn.pure (A5L (TW.go (κ := false) (S := []) ?_))
 unfold A0S
 (have hQq := trivial; repeat ((first | clear hQq | (with_reducible first | refine A3 ?_ | refine A4 fun _ => ?_ | refine A5 fun _ => ?_)); (try simp (disch := first | omega | assumption | ((repeat (first | exact A0 | exact Up.here | apply A1 | apply Up.there)); first | done | fail) | (simp; first | done | omega | fail)) [])))
 rw [show (Value.string s) = .string (s ++ P7 z1 0) by rw [C00, n4]]
 refine B8B (fun _ : Nat => []) (· ≤ 16 - s.size) (fun i => 16 - s.size - i) 0 (fun i => .string (s ++ P7 z1 i)) (Nat.zero_le _) ?_
 intro i hi L hL
 have hz := S2 i
 by_cases c1 : s.size + i < 16
 ·have c1' : (s.size : Int) + i < 16 := by omega
  have h := hL (i + 1) (by omega) (by omega)
  have hsz : (s ++ P7 z1 i).size + (ByteArray.mk #[0]).size ≤ maxLen := by
   rw [ByteArray.size_append, hz]; show s.size + i + 1 ≤ maxLen; simp only [maxLen]; omega
  rw [B0j, C1V, ← ByteArray.append_assoc] at h
  (have hQq := trivial; repeat ((first | clear hQq | (with_reducible first | refine A3 ?_ | refine A4 fun _ => ?_ | refine A5 fun _ => ?_)); (try simp (disch := first | omega | assumption | ((repeat (first | exact A0 | exact Up.here | apply A1 | apply Up.there)); first | done | fail) | (simp; first | done | omega | fail)) [hz, c1, c1', P1 hsz])))
  exact h
 ·have c1' : ¬ (s.size : Int) + i < 16 := by omega
  have e : i = 16 - s.size := by omega
  (have hQq := trivial; repeat ((first | clear hQq | (with_reducible first | refine A3 ?_ | refine A4 fun _ => ?_ | refine A5 fun _ => ?_)); (try simp (disch := first | omega | assumption | ((repeat (first | exact A0 | exact Up.here | apply A1 | apply Up.there)); first | done | fail) | (simp; first | done | omega | fail)) [hz, c1, c1'])))
  exact A9 (by rw [e]; rfl)
theorem A81 (a t : ByteArray) (m : Nat) (h : t.size ≤ m) : W4 (a ++ P7 z1 m) a.size t = a ++ t ++ P7 z1 (m - t.size) := by
 have e : P7 z1 m = P7 z1 t.size ++ P7 z1 (m - t.size) := by rw [← B0j]; congr 1; omega
 have hz := S2 t.size
 have hz2 := S2 (m - t.size)
 rw [e]
 unfold W4
 apply ByteArray.ext
 apply Array.toList_inj.1
 have h1 : (P7 z1 t.size).data.toList.length = t.size := hz
 have h2 : (P7 z1 (m - t.size)).data.toList.length = m - t.size := hz2
 have h3 : a.data.toList.length = a.size := rfl
 simp only [ByteArray.data_append, ByteArray.data_extract, Array.toList_append, Array.toList_extract, ByteArray.size_append]
 rw [hz, hz2]
 generalize P7 z1 t.size = u at *
 generalize P7 z1 (m - t.size) = v at *
 have h4 : (a.data ++ (u.data ++ v.data)).toList = a.data.toList ++ (u.data.toList ++ v.data.toList) := by simp
 have h5 : t.size + (m - t.size) = m := by omega
 rw [h4, h5, ← h3, List.extract_eq_take_drop, List.extract_eq_take_drop, List.drop_zero, Nat.sub_zero, List.take_left, List.drop_append, List.drop_eq_nil_of_le (by omega), List.nil_append,
  show a.data.toList.length + t.size - a.data.toList.length = u.data.toList.length by rw [h1]; omega, List.drop_left, List.take_of_length_le (by omega)]
theorem B8s (k : KeyV) (hv : k.v = 4 ∨ k.v = 6) (hs : k.src.size = T3 k.v) (hd : k.dst.size = T3 k.v) (hp : k.proto = 6 ∨ k.proto = 17) :
  A0e k = E4 k.v 1 ++ E4 k.proto 1 ++ (E4 k.fr 2 ++ E4 k.tp 2) ++ A5K k.src ++ A5K k.dst := by
 have h2 : E4 (k.v * 256 + k.proto) 2 = E4 k.v 1 ++ E4 k.proto 1 := by
  rcases hv with h | h <;> rcases hp with h' | h' <;> rw [h, h'] <;> rfl
 have hl : T3 k.v ≤ 16 := by rcases hv with h | h <;> rw [h] <;> decide
 unfold A0e A5K
 rw [h2]
 have hH : (E4 k.v 1 ++ E4 k.proto 1 ++ E4 k.fr 2 ++ E4 k.tp 2).size = 6 := by simp
 generalize hx : E4 k.v 1 ++ E4 k.proto 1 ++ E4 k.fr 2 ++ E4 k.tp 2 = x at *
 have e1 : W4 z38 0 x = x ++ P7 z1 32 := by
  have := A81 P6 x 38 (by omega)
  rw [j5, j5, hH] at this; exact this
 have e2 : W4 (x ++ P7 z1 32) 6 k.src = x ++ k.src ++ P7 z1 (16 - k.src.size) ++ P7 z1 16 := by
  have := A81 x k.src 32 (by omega)
  rw [hH] at this; rw [this, ByteArray.append_assoc (c := P7 z1 16), ← B0j]; congr 2; omega
 have e3 : (x ++ k.src ++ P7 z1 (16 - k.src.size)).size = 22 := by rw [ByteArray.size_append, ByteArray.size_append, S2]; omega
 have e4 := A81 (x ++ k.src ++ P7 z1 (16 - k.src.size)) k.dst 16 (by omega)
 rw [e3] at e4
 rw [e1, e2, e4, ← hx]
 simp only [ByteArray.append_assoc]
theorem C4L {n x y : Int} : (V7 n x y 0).2 = 0 ↔ (n = 6 ∨ n = 17) ∧ G7 x y = true := by
 constructor
 ·exact B2V
 ·rintro ⟨h1, h2⟩
  have h3 : (A2T n 0).2 = 0 := by rcases h1 with rfl | rfl <;> rfl
  unfold V7
  rw [if_neg (by omega), if_neg (by rw [h2, h3]; simp)]
theorem B7y (k : KeyV) : Q4 k = (((decide (k.v = 4 ∧ k.src.size = 4 ∧ k.dst.size = 4) || decide (k.v = 6 ∧ k.src.size = 16 ∧ k.dst.size = 16)) && G7 k.fr k.tp) && decide (k.proto = 6 ∨ k.proto = 17)) := by
 unfold Q4
 rw [Bool.eq_iff_iff]
 simp only [decide_eq_true_eq, Bool.and_eq_true, Bool.or_eq_true, C4L]
 unfold T3
 by_cases h4 : k.v = 4
 ·rw [if_pos h4, h4]; simp; constructor
  ·rintro ⟨h1, h2, h3, h4⟩; exact ⟨⟨⟨h1, h2⟩, h4⟩, h3⟩
  ·rintro ⟨⟨⟨h1, h2⟩, h4⟩, h3⟩; exact ⟨h1, h2, h3, h4⟩
 rw [if_neg h4]
 by_cases h6 : k.v = 6
 ·rw [if_pos h6, h6]; simp; constructor
  ·rintro ⟨h1, h2, h3, h4⟩; exact ⟨⟨⟨h1, h2⟩, h4⟩, h3⟩
  ·rintro ⟨⟨⟨h1, h2⟩, h4⟩, h3⟩; exact ⟨h1, h2, h3, h4⟩
 rw [if_neg h6]; simp [h4, h6]
def A9Z (ba : Nat) (t20 t35 : Value) (R : Value → WP) : WP :=
 A2 PR (Instr.fieldAt 99 (.pointer (some ⟨ba, 0, none⟩)) 3) fun t36 =>
 A6 PR (Instr.loadAt 3 t36) fun t37 =>
 A2 PR (binOp .geq 3 t37 (.int .i64 0)) fun t38 =>
 gj t38 true (fun J => A2 PR (Instr.fieldAt 99 (.pointer (some ⟨ba, 0, none⟩)) 3) J) fun t40 =>
 gj t38 true (fun J => A6 PR (Instr.loadAt 3 t40) J) fun t41 =>
 gj t38 true (fun J => A2 PR (binOp .leq 3 t41 (.int .i64 65535)) J) fun t42 =>
 A2 PR (do pure (if ← asBool t38 then t42 else (.bool false))) fun t43 =>
 gj t43 true (fun J => A2 PR (Instr.fieldAt 99 (.pointer (some ⟨ba, 0, none⟩)) 4) J) fun t45 =>
 gj t43 true (fun J => A6 PR (Instr.loadAt 3 t45) J) fun t46 =>
 gj t43 true (fun J => A2 PR (binOp .geq 3 t46 (.int .i64 0)) J) fun t47 =>
 A2 PR (do pure (if ← asBool t43 then t47 else (.bool false))) fun t48 =>
 gj t48 true (fun J => A2 PR (Instr.fieldAt 99 (.pointer (some ⟨ba, 0, none⟩)) 4) J) fun t50 =>
 gj t48 true (fun J => A6 PR (Instr.loadAt 3 t50) J) fun t51 =>
 gj t48 true (fun J => A2 PR (binOp .leq 3 t51 (.int .i64 65535)) J) fun t52 =>
 A2 PR (do pure (if ← asBool t48 then t52 else (.bool false))) fun t53 =>
 gj t20 false (fun J => J t35) fun t56 =>
 A2 PR (do pure (if ← asBool t20 then (.bool true) else t56)) fun t57 =>
 gj t57 true (fun J => J t53) fun t59 =>
 A2 PR (do pure (if ← asBool t57 then t59 else (.bool false))) fun t60 =>
 gj t60 true (fun J => A2 PR (Instr.fieldAt 99 (.pointer (some ⟨ba, 0, none⟩)) 5) J) fun t62 =>
 gj t60 true (fun J => A6 PR (Instr.loadAt 3 t62) J) fun t63 =>
 gj t60 true (fun J => A2 PR (binOp .eql 3 t63 (.int .i64 6)) J) fun t64 =>
 gj t60 true (fun J => J t64) fun t65 =>
 gj t65 false (fun J => A2 PR (Instr.fieldAt 99 (.pointer (some ⟨ba, 0, none⟩)) 5) J) fun t66 =>
 gj t65 false (fun J => A6 PR (Instr.loadAt 3 t66) J) fun t67 =>
 gj t65 false (fun J => A2 PR (binOp .eql 3 t67 (.int .i64 17)) J) fun t68 =>
 gj t60 true (fun J => A2 PR (do pure (if ← asBool t65 then (.bool true) else t68)) J) fun t69 =>
 A2 PR (do pure (if ← asBool t60 then t69 else (.bool false))) fun t70 =>
 R t70
theorem B6p (w : World) (k : KeyV) (a b : Bool) (ba : Nat) (R : Value → WP) (hR : R = Rv w (fun u => u = .bool (((a || b) && G7 k.fr k.tp) && decide (k.proto = 6 ∨ k.proto = 17)))) :
  TW false [] w [.pt ba (.cells #[.int .i64 k.v, .string k.src, .string k.dst, .int .i64 k.fr, .int .i64 k.tp, .int .i64 k.proto] 99)] (A9Z ba (.bool a) (.bool b) R) := by
 unfold A9Z
 subst hR
 by_cases p1 : 0 ≤ k.fr
 case neg =>
  have hp : G7 k.fr k.tp = false := by simp [G7]; omega
  rw [hp]
  cases a <;> cases b <;> ((have hQq := trivial; repeat ((first | clear hQq | (with_reducible first | refine A3 ?_ | refine A4 fun _ => ?_ | refine A5 fun _ => ?_)); (try simp (disch := first | omega | assumption | ((repeat (first | exact A0 | exact Up.here | apply A1 | apply Up.there)); first | done | fail) | (simp; first | done | omega | fail)) [p1]))); exact A9 (by simp))
 by_cases p2 : k.fr ≤ 65535
 case neg =>
  have hp : G7 k.fr k.tp = false := by simp [G7]; omega
  rw [hp]
  cases a <;> cases b <;> ((have hQq := trivial; repeat ((first | clear hQq | (with_reducible first | refine A3 ?_ | refine A4 fun _ => ?_ | refine A5 fun _ => ?_)); (try simp (disch := first | omega | assumption | ((repeat (first | exact A0 | exact Up.here | apply A1 | apply Up.there)); first | done | fail) | (simp; first | done | omega | fail)) [p1, p2]))); exact A9 (by simp))
 by_cases p3 : 0 ≤ k.tp
 case neg =>
  have hp : G7 k.fr k.tp = false := by simp [G7]; omega
  rw [hp]
  cases a <;> cases b <;> ((have hQq := trivial; repeat ((first | clear hQq | (with_reducible first | refine A3 ?_ | refine A4 fun _ => ?_ | refine A5 fun _ => ?_)); (try simp (disch := first | omega | assumption | ((repeat (first | exact A0 | exact Up.here | apply A1 | apply Up.there)); first | done | fail) | (simp; first | done | omega | fail)) [p1, p2, p3]))); exact A9 (by simp))
 by_cases p4 : k.tp ≤ 65535
 case neg =>
  have hp : G7 k.fr k.tp = false := by simp [G7]; omega
  rw [hp]
  cases a <;> cases b <;> ((have hQq := trivial; repeat ((first | clear hQq | (with_reducible first | refine A3 ?_ | refine A4 fun _ => ?_ | refine A5 fun _ => ?_)); (try simp (disch := first | omega | assumption | ((repeat (first | exact A0 | exact Up.here | apply A1 | apply Up.there)); first | done | fail) | (simp; first | done | omega | fail)) [p1, p2, p3, p4]))); exact A9 (by simp))
 have hp : G7 k.fr k.tp = true := by simp [G7]; omega
 rw [hp]
 by_cases c6 : k.proto = 6
 ·cases a <;> cases b <;> ((have hQq := trivial; repeat ((first | clear hQq | (with_reducible first | refine A3 ?_ | refine A4 fun _ => ?_ | refine A5 fun _ => ?_)); (try simp (disch := first | omega | assumption | ((repeat (first | exact A0 | exact Up.here | apply A1 | apply Up.there)); first | done | fail) | (simp; first | done | omega | fail)) [p1, p2, p3, p4, c6]))); exact A9 (by simp))
 by_cases c7 : k.proto = 17
 ·cases a <;> cases b <;> ((have hQq := trivial; repeat ((first | clear hQq | (with_reducible first | refine A3 ?_ | refine A4 fun _ => ?_ | refine A5 fun _ => ?_)); (try simp (disch := first | omega | assumption | ((repeat (first | exact A0 | exact Up.here | apply A1 | apply Up.there)); first | done | fail) | (simp; first | done | omega | fail)) [p1, p2, p3, p4, c6, c7]))); exact A9 (by simp))
 ·cases a <;> cases b <;> ((have hQq := trivial; repeat ((first | clear hQq | (with_reducible first | refine A3 ?_ | refine A4 fun _ => ?_ | refine A5 fun _ => ?_)); (try simp (disch := first | omega | assumption | ((repeat (first | exact A0 | exact Up.here | apply A1 | apply Up.there)); first | done | fail) | (simp; first | done | omega | fail)) [p1, p2, p3, p4, c6, c7]))); exact A9 (by simp [c6, c7]))
theorem B9Y (w : World) (k : KeyV) : Fn PR B5 158 #[k.val] w (fun u w' => u = .bool (Q4 k) ∧ C0 [] w w') := by
 rw [B7y]
 refine Fn.pure (A4B (TW.go (κ := false) (S := []) ?_))
 unfold x8 KeyV.val
 refine A4 fun ba => ?_
 have tail := fun a b => B6p w k a b ba _ rfl
 generalize hF : (fun (a b : Bool) => (Rv w (fun u => u = Value.bool (((a || b) && G7 k.fr k.tp) && decide (k.proto = 6 ∨ k.proto = 17))))) = F
 replace tail : ∀ a b, TW false [] w [.pt ba (.cells #[.int .i64 k.v, .string k.src, .string k.dst, .int .i64 k.fr, .int .i64 k.tp, .int .i64 k.proto] 99)] (A9Z ba (.bool a) (.bool b) (F a b)) := by subst hF; exact tail
 have goal : ∀ a b, decide (k.v = 4 ∧ k.src.size = 4 ∧ k.dst.size = 4) = a → decide (k.v = 6 ∧ k.src.size = 16 ∧ k.dst.size = 16) = b → ∀ R, R = F a b → TW false [] w [.pt ba (.cells #[.int .i64 k.v, .string k.src, .string k.dst, .int .i64 k.fr, .int .i64 k.tp, .int .i64 k.proto] 99)] (
 A2 PR (Instr.fieldAt 99 (.pointer (some ⟨ba, 0, none⟩)) 0) fun t6 =>
 A6 PR (Instr.loadAt 3 t6) fun t7 =>
 A2 PR (binOp .eql 3 t7 (.int .i64 4)) fun t8 =>
 gj t8 true (fun J => A2 PR (Instr.fieldAt 99 (.pointer (some ⟨ba, 0, none⟩)) 1) J) fun t10 =>
 gj t8 true (fun J => A6 PR (Instr.loadAt 9 t10) J) fun t11 =>
 gj t8 true (fun J => A2 PR (A7 .len #[9] 0 [t11]) J) fun t12 =>
 gj t8 true (fun J => A2 PR (binOp .eql 3 t12 (.int .i64 4)) J) fun t13 =>
 A2 PR (do pure (if ← asBool t8 then t13 else (.bool false))) fun t14 =>
 gj t14 true (fun J => A2 PR (Instr.fieldAt 99 (.pointer (some ⟨ba, 0, none⟩)) 2) J) fun t16 =>
 gj t14 true (fun J => A6 PR (Instr.loadAt 9 t16) J) fun t17 =>
 gj t14 true (fun J => A2 PR (A7 .len #[9] 0 [t17]) J) fun t18 =>
 gj t14 true (fun J => A2 PR (binOp .eql 3 t18 (.int .i64 4)) J) fun t19 =>
 A2 PR (do pure (if ← asBool t14 then t19 else (.bool false))) fun t20 =>
 A2 PR (Instr.fieldAt 99 (.pointer (some ⟨ba, 0, none⟩)) 0) fun t21 =>
 A6 PR (Instr.loadAt 3 t21) fun t22 =>
 A2 PR (binOp .eql 3 t22 (.int .i64 6)) fun t23 =>
 gj t23 true (fun J => A2 PR (Instr.fieldAt 99 (.pointer (some ⟨ba, 0, none⟩)) 1) J) fun t25 =>
 gj t23 true (fun J => A6 PR (Instr.loadAt 9 t25) J) fun t26 =>
 gj t23 true (fun J => A2 PR (A7 .len #[9] 0 [t26]) J) fun t27 =>
 gj t23 true (fun J => A2 PR (binOp .eql 3 t27 (.int .i64 16)) J) fun t28 =>
 A2 PR (do pure (if ← asBool t23 then t28 else (.bool false))) fun t29 =>
 gj t29 true (fun J => A2 PR (Instr.fieldAt 99 (.pointer (some ⟨ba, 0, none⟩)) 2) J) fun t31 =>
 gj t29 true (fun J => A6 PR (Instr.loadAt 9 t31) J) fun t32 =>
 gj t29 true (fun J => A2 PR (A7 .len #[9] 0 [t32]) J) fun t33 =>
 gj t29 true (fun J => A2 PR (binOp .eql 3 t33 (.int .i64 16)) J) fun t34 =>
 A2 PR (do pure (if ← asBool t29 then t34 else (.bool false))) fun t35 =>
  A9Z ba t20 t35 R) := by
  intro a b h4 h6 R hR
  subst hR
  by_cases v4 : k.v = 4
  ·have v6 : ¬ k.v = 6 := by omega
   obtain rfl : b = false := by rw [← h6]; simp [v6]
   by_cases s4 : k.src.size = 4
   case neg =>
    have s4' : ¬ (k.src.size : Int) = 4 := by omega
    obtain rfl : a = false := by rw [← h4]; simp [s4]
    simp (disch := first | omega | assumption | ((repeat (first | exact A0 | exact Up.here | apply A1 | apply Up.there)); first | done | fail) | (simp; first | done | omega | fail)) [v4, v6, s4, s4']
    rw [← v4]; exact tail false false
   by_cases d4 : k.dst.size = 4
   case neg =>
    have d4' : ¬ (k.dst.size : Int) = 4 := by omega
    obtain rfl : a = false := by rw [← h4]; simp [d4]
    simp (disch := first | omega | assumption | ((repeat (first | exact A0 | exact Up.here | apply A1 | apply Up.there)); first | done | fail) | (simp; first | done | omega | fail)) [v4, v6, s4, d4, d4']
    rw [← v4]; exact tail false false
   obtain rfl : a = true := by rw [← h4]; simp [v4, s4, d4]
   simp (disch := first | omega | assumption | ((repeat (first | exact A0 | exact Up.here | apply A1 | apply Up.there)); first | done | fail) | (simp; first | done | omega | fail)) [v4, v6, s4, d4]
   rw [← v4]; exact tail true false
  obtain rfl : a = false := by rw [← h4]; simp [v4]
  by_cases v6 : k.v = 6
  ·by_cases s4 : k.src.size = 16
   case neg =>
    have s4' : ¬ (k.src.size : Int) = 16 := by omega
    obtain rfl : b = false := by rw [← h6]; simp [s4]
    simp (disch := first | omega | assumption | ((repeat (first | exact A0 | exact Up.here | apply A1 | apply Up.there)); first | done | fail) | (simp; first | done | omega | fail)) [v4, v6, s4, s4']
    rw [← v6]; exact tail false false
   by_cases d4 : k.dst.size = 16
   case neg =>
    have d4' : ¬ (k.dst.size : Int) = 16 := by omega
    obtain rfl : b = false := by rw [← h6]; simp [d4]
    simp (disch := first | omega | assumption | ((repeat (first | exact A0 | exact Up.here | apply A1 | apply Up.there)); first | done | fail) | (simp; first | done | omega | fail)) [v4, v6, s4, d4, d4']
    rw [← v6]; exact tail false false
   obtain rfl : b = true := by rw [← h6]; simp [v6, s4, d4]
   simp (disch := first | omega | assumption | ((repeat (first | exact A0 | exact Up.here | apply A1 | apply Up.there)); first | done | fail) | (simp; first | done | omega | fail)) [v4, v6, s4, d4]
   rw [← v6]; exact tail false true
  obtain rfl : b = false := by rw [← h6]; simp [v6]
  simp (disch := first | omega | assumption | ((repeat (first | exact A0 | exact Up.here | apply A1 | apply Up.there)); first | done | fail) | (simp; first | done | omega | fail)) [v4, v6]
  exact tail false false
 exact goal _ _ rfl rfl _ (by subst hF; rfl)
theorem A7U (w : World) (v n : Int) (h0 : 0 ≤ v) (h1 : v < 2 ^ 64) : Fn PR B5 159 #[.int .u64 v, .int .i64 n] w (fun u w' => u = .string (E4 v n) ∧ C0 [] w w') := by
 obtain ⟨m, rfl⟩ : ∃ m : Nat, v = m := ⟨v.toNat, by omega⟩
 exact B22 w m n (by omega)
theorem B9p (w : World) (k : KeyV) : Fn PR B5 109 #[k.val] w (fun u w' => u = r9 k ∧ C0 [] w w') := by
 refine Fn.pure (A4F (TW.go (κ := false) (S := []) ?_))
 unfold A0A KeyV.val
 (have hQq := trivial; repeat ((first | clear hQq | (with_reducible first | refine A3 ?_ | refine A4 fun _ => ?_ | refine A5 fun _ => ?_)); (try simp (disch := first | omega | assumption | ((repeat (first | exact A0 | exact Up.here | apply A1 | apply Up.there)); first | done | fail) | (simp; first | done | omega | fail)) [])))
 refine B7 A3g (fun w' _ => B9Y w' k) ?_
 cases hb : Q4 k with
 | false =>
  (have hQq := trivial; repeat ((first | clear hQq | (with_reducible first | refine A3 ?_ | refine A4 fun _ => ?_ | refine A5 fun _ => ?_)); (try simp (disch := first | omega | assumption | ((repeat (first | exact A0 | exact Up.here | apply A1 | apply Up.there)); first | done | fail) | (simp; first | done | omega | fail)) [])))
  exact A9 (by simp [r9, hb])
 | true =>
  have hb' := hb
  simp only [Q4, decide_eq_true_eq] at hb'
  obtain ⟨b1, b2, b3, b4⟩ := hb'
  obtain ⟨hp, hq⟩ := B2V b4
  simp only [G7, decide_eq_true_eq] at hq
  have hv : k.v = 4 ∨ k.v = 6 := by unfold T3 at b1; split at b1 <;> (try split at b1) <;> omega
  have hval := B8s k hv b2 b3 hp
  have hl : T3 k.v ≤ 16 := by rcases hv with h | h <;> rw [h] <;> decide
  have hw1 : (A5K k.src).size ≤ 16 := by unfold A5K; rw [ByteArray.size_append, S2]; omega
  have hw2 : (A5K k.dst).size ≤ 16 := by unfold A5K; rw [ByteArray.size_append, S2]; omega
  (have hQq := trivial; repeat ((first | clear hQq | (with_reducible first | refine A3 ?_ | refine A4 fun _ => ?_ | refine A5 fun _ => ?_)); (try simp (disch := first | omega | assumption | ((repeat (first | exact A0 | exact Up.here | apply A1 | apply Up.there)); first | done | fail) | (simp; first | done | omega | fail)) [])))
  refine B7 N1 (fun w' _ => A7U w' k.v 1 (by omega) (by omega)) ?_
  (have hQq := trivial; repeat ((first | clear hQq | (with_reducible first | refine A3 ?_ | refine A4 fun _ => ?_ | refine A5 fun _ => ?_)); (try simp (disch := first | omega | assumption | ((repeat (first | exact A0 | exact Up.here | apply A1 | apply Up.there)); first | done | fail) | (simp; first | done | omega | fail)) [])))
  refine B7 N1 (fun w' _ => A7U w' _ 1 (by omega) (by omega)) ?_
  (have hQq := trivial; repeat ((first | clear hQq | (with_reducible first | refine A3 ?_ | refine A4 fun _ => ?_ | refine A5 fun _ => ?_)); (try simp (disch := first | omega | assumption | ((repeat (first | exact A0 | exact Up.here | apply A1 | apply Up.there)); first | done | fail) | (simp; first | done | omega | fail)) [P1])))
  refine B7 N1 (fun w' _ => A7U w' _ 2 (by omega) (by omega)) ?_
  (have hQq := trivial; repeat ((first | clear hQq | (with_reducible first | refine A3 ?_ | refine A4 fun _ => ?_ | refine A5 fun _ => ?_)); (try simp (disch := first | omega | assumption | ((repeat (first | exact A0 | exact Up.here | apply A1 | apply Up.there)); first | done | fail) | (simp; first | done | omega | fail)) [])))
  refine B7 N1 (fun w' _ => A7U w' _ 2 (by omega) (by omega)) ?_
  (have hQq := trivial; repeat ((first | clear hQq | (with_reducible first | refine A3 ?_ | refine A4 fun _ => ?_ | refine A5 fun _ => ?_)); (try simp (disch := first | omega | assumption | ((repeat (first | exact A0 | exact Up.here | apply A1 | apply Up.there)); first | done | fail) | (simp; first | done | omega | fail)) [P1])))
  refine B7 w8 (fun w' _ => B5e w' _ (by omega)) ?_
  (have hQq := trivial; repeat ((first | clear hQq | (with_reducible first | refine A3 ?_ | refine A4 fun _ => ?_ | refine A5 fun _ => ?_)); (try simp (disch := first | omega | assumption | ((repeat (first | exact A0 | exact Up.here | apply A1 | apply Up.there)); first | done | fail) | (simp; first | done | omega | fail)) [P1])))
  refine B7 w8 (fun w' _ => B5e w' _ (by omega)) ?_
  (have hQq := trivial; repeat ((first | clear hQq | (with_reducible first | refine A3 ?_ | refine A4 fun _ => ?_ | refine A5 fun _ => ?_)); (try simp (disch := first | omega | assumption | ((repeat (first | exact A0 | exact Up.here | apply A1 | apply Up.there)); first | done | fail) | (simp; first | done | omega | fail)) [P1])))
  exact A9 (by simp [r9, hb, hval])
end Go.Proofs.YtggakcpabomliaaGreat
namespace Go.Proofs.YtggakcpabomliaaGreat
open Go
theorem B6N {l : List G5} {i : Nat} {x : G5} (hx : l[i]? = some x) (h : ∀ j y, j < i → l[j]? = some y → y.1 ≠ x.1) : V6 l x.1 = (i : Nat) := by
 rw [V6, A42 hx (by simp) fun j y hj hy => by simpa using h j y hj hy]
theorem B3V (l : List G5) : n0 l = true ↔ ∀ i x, l[i]? = some x → A1g x = true ∧ V6 l x.1 = (i : Nat) := by
 rw [A3F]
 constructor
 ·rintro ⟨h1, h2⟩ i x hx
  exact ⟨h1 x (List.mem_of_getElem? hx), B6N hx fun j y hj hy => C3K h2 hj hy hx⟩
 ·intro h
  refine ⟨fun b hb => ?_, List.pairwise_iff_getElem.2 fun i j hi hj hij e => ?_⟩
  ·obtain ⟨i, hi⟩ := List.getElem?_of_mem hb
   exact (h i b hi).1
  ·have h1 := (h i _ (List.getElem?_eq_getElem hi)).2
   have h2 := (h j _ (List.getElem?_eq_getElem hj)).2
   rw [e, h2] at h1
   omega
theorem B9s (w : World) (v : Value) (l : List G5) (hn : l.length ≤ 1000000) (hv : E3 w v l.length (l.flatMap E8)) :
  Fn PR B5 67 #[v] w (fun r w' => r = .int .i64 (N5 l) ∧ C0 [] w w') := by
 refine Fn.pure (A4J (TW.go (κ := false) (S := []) ?_))
 unfold x3
 obtain ⟨a, c, rfl, hr⟩ := hv.form
 by_cases c0 : 32 < l.length
 ·have c0' : (32 : Int) < l.length := by omega
  (have hQq := trivial; repeat ((first | clear hQq | (with_reducible first | refine A3 ?_ | refine A4 fun _ => ?_ | refine A5 fun _ => ?_)); (try simp (disch := first | omega | assumption | ((repeat (first | exact A0 | exact Up.here | apply A1 | apply Up.there)); first | done | fail) | (simp; first | done | omega | fail)) [c0, c0'])))
  exact A9 (by simp [N5]; omega)
 have c0' : ¬ (32 : Int) < l.length := by omega
 (have hQq := trivial; repeat ((first | clear hQq | (with_reducible first | refine A3 ?_ | refine A4 fun _ => ?_ | refine A5 fun _ => ?_)); (try simp (disch := first | omega | assumption | ((repeat (first | exact A0 | exact Up.here | apply A1 | apply Up.there)); first | done | fail) | (simp; first | done | omega | fail)) [c0, c0'])))
 refine K3 (α := Unit) l.length (fun _ _ => .int .i64 0) (fun _ _ => []) (fun i _ => ∀ j x, j < i → l[j]? = some x → A1g x = true ∧ V6 l x.1 = (j : Nat)) () (by intro j x hj; omega) ?_
 rintro i _ hi hpre L hL
 by_cases hlt : i < l.length
 ·obtain ⟨b, o, rfl, hrow⟩ := hr (by omega)
  have hx : l[i]? = some l[i] := List.getElem?_eq_getElem hlt
  generalize l[i] = x at hx
  have h1 := hrow.at (f := E8) (k := 2) (fun _ => rfl) hx
  rw [E8] at h1
  have bad : ¬ (A1g x = true ∧ V6 l x.1 = (i : Nat)) → N5 l = 10 := fun h => by
   have : n0 l = false := by
    rw [← Bool.not_eq_true, B3V]
    exact fun hh => h (hh i x hx)
   simp [N5, this]
  by_cases c1 : x.1 < 1
  ·rw [bad fun h => by have := h.1; simp [A1g] at this; omega]
   (have hQq := trivial; repeat ((first | clear hQq | (with_reducible first | refine A3 ?_ | refine A4 fun _ => ?_ | refine A5 fun _ => ?_)); (try simp (disch := first | omega | assumption | ((repeat (first | exact A0 | exact Up.here | apply A1 | apply Up.there)); first | done | fail) | (simp; first | done | omega | fail)) [hlt, h1, c1])))
   exact A9 rfl
  by_cases c2 : 65535 < x.1
  ·rw [bad fun h => by have := h.1; simp [A1g] at this; omega]
   (have hQq := trivial; repeat ((first | clear hQq | (with_reducible first | refine A3 ?_ | refine A4 fun _ => ?_ | refine A5 fun _ => ?_)); (try simp (disch := first | omega | assumption | ((repeat (first | exact A0 | exact Up.here | apply A1 | apply Up.there)); first | done | fail) | (simp; first | done | omega | fail)) [hlt, h1, c1, c2])))
   exact A9 rfl
  by_cases c3 : x.2 < 1
  ·rw [bad fun h => by have := h.1; simp [A1g] at this; omega]
   (have hQq := trivial; repeat ((first | clear hQq | (with_reducible first | refine A3 ?_ | refine A4 fun _ => ?_ | refine A5 fun _ => ?_)); (try simp (disch := first | omega | assumption | ((repeat (first | exact A0 | exact Up.here | apply A1 | apply Up.there)); first | done | fail) | (simp; first | done | omega | fail)) [hlt, h1, c1, c2, c3])))
   exact A9 rfl
  by_cases c4 : 16 < x.2
  ·rw [bad fun h => by have := h.1; simp [A1g] at this; omega]
   (have hQq := trivial; repeat ((first | clear hQq | (with_reducible first | refine A3 ?_ | refine A4 fun _ => ?_ | refine A5 fun _ => ?_)); (try simp (disch := first | omega | assumption | ((repeat (first | exact A0 | exact Up.here | apply A1 | apply Up.there)); first | done | fail) | (simp; first | done | omega | fail)) [hlt, h1, c1, c2, c3, c4])))
   exact A9 rfl
  (have hQq := trivial; repeat ((first | clear hQq | (with_reducible first | refine A3 ?_ | refine A4 fun _ => ?_ | refine A5 fun _ => ?_)); (try simp (disch := first | omega | assumption | ((repeat (first | exact A0 | exact Up.here | apply A1 | apply Up.there)); first | done | fail) | (simp; first | done | omega | fail)) [hlt, h1, c1, c2, c3, c4])))
  refine B7 y9 (fun w' hw' => B3q w' _ l _ hn (hv.ks hw'.ks (by simp))) ?_
  by_cases c5 : V6 l x.1 = (i : Nat)
  case neg =>
   rw [bad fun h => c5 h.2]
   (have hQq := trivial; repeat ((first | clear hQq | (with_reducible first | refine A3 ?_ | refine A4 fun _ => ?_ | refine A5 fun _ => ?_)); (try simp (disch := first | omega | assumption | ((repeat (first | exact A0 | exact Up.here | apply A1 | apply Up.there)); first | done | fail) | (simp; first | done | omega | fail)) [c5])))
   exact A9 rfl
  ·(have hQq := trivial; repeat ((first | clear hQq | (with_reducible first | refine A3 ?_ | refine A4 fun _ => ?_ | refine A5 fun _ => ?_)); (try simp (disch := first | omega | assumption | ((repeat (first | exact A0 | exact Up.here | apply A1 | apply Up.there)); first | done | fail) | (simp; first | done | omega | fail)) [c5])))
   refine Sels.tw .nil (hL hlt () ?_)
   intro j y hj hy
   by_cases hji : j = i
   ·subst hji
    rw [hx] at hy
    cases hy
    exact ⟨by simp [A1g]; omega, c5⟩
   ·exact hpre j y (by omega) hy
 ·obtain rfl : i = l.length := by omega
  have hok : n0 l = true := (B3V l).2 fun j x hx => hpre j x (List.getElem?_eq_some_iff.1 hx).1 hx
  have hv : N5 l = 0 := by simp [N5, hok]; omega
  rw [hv]
  (have hQq := trivial; repeat ((first | clear hQq | (with_reducible first | refine A3 ?_ | refine A4 fun _ => ?_ | refine A5 fun _ => ?_)); (try simp (disch := first | omega | assumption | ((repeat (first | exact A0 | exact Up.here | apply A1 | apply Up.there)); first | done | fail) | (simp; first | done | omega | fail)) [])))
  exact A9 rfl
theorem C1x (w : World) (u v : Value) (l m : List G5) (hn : l.length ≤ 1000000) (hm : m.length ≤ 1000000) (hu : E3 w u l.length (l.flatMap E8)) (hv : E3 w v m.length (m.flatMap E8)) :
  Fn PR B5 22 #[u, v] w (fun r w' => r = .bool (decide (l = m)) ∧ C0 [] w w') := by
 refine Fn.pure (A5p (TW.go (κ := false) (S := []) ?_))
 unfold A0Q
 obtain ⟨a, c, rfl, hr⟩ := hu.form
 obtain ⟨a', c', rfl, hr'⟩ := hv.form
 by_cases hlen : l.length = m.length
 case neg =>
  have hne : ¬ l = m := fun h => hlen (by rw [h])
  have hl' : ¬ ((l.length : Nat) : Int) = m.length := by omega
  (have hQq := trivial; repeat ((first | clear hQq | (with_reducible first | refine A3 ?_ | refine A4 fun _ => ?_ | refine A5 fun _ => ?_)); (try simp (disch := first | omega | assumption | ((repeat (first | exact A0 | exact Up.here | apply A1 | apply Up.there)); first | done | fail) | (simp; first | done | omega | fail)) [hl', hlen])))
  exact A9 (by simp [hne])
 (have hQq := trivial; repeat ((first | clear hQq | (with_reducible first | refine A3 ?_ | refine A4 fun _ => ?_ | refine A5 fun _ => ?_)); (try simp (disch := first | omega | assumption | ((repeat (first | exact A0 | exact Up.here | apply A1 | apply Up.there)); first | done | fail) | (simp; first | done | omega | fail)) [hlen])))
 refine K3 (α := Unit) m.length (fun _ _ => .bool false) (fun _ _ => []) (fun i _ => ∀ j, j < i → l[j]? = m[j]?) () (by intro j hj; omega) ?_
 rintro i _ hi hpre L hL
 by_cases hlt : i < m.length
 ·obtain ⟨b, o, rfl, hrow⟩ := hr (by omega)
  obtain ⟨b', o', rfl, hrow'⟩ := hr' (by omega)
  obtain ⟨x, hx⟩ : ∃ x, l[i]? = some x := ⟨_, List.getElem?_eq_getElem (by omega)⟩
  obtain ⟨y, hy⟩ : ∃ y, m[i]? = some y := ⟨_, List.getElem?_eq_getElem hlt⟩
  have h1 := hrow.at (f := E8) (k := 2) (fun _ => rfl) hx
  have h2 := hrow'.at (f := E8) (k := 2) (fun _ => rfl) hy
  rw [E8] at h1 h2
  by_cases he : x = y
  ·subst he
   (have hQq := trivial; repeat ((first | clear hQq | (with_reducible first | refine A3 ?_ | refine A4 fun _ => ?_ | refine A5 fun _ => ?_)); (try simp (disch := first | omega | assumption | ((repeat (first | exact A0 | exact Up.here | apply A1 | apply Up.there)); first | done | fail) | (simp; first | done | omega | fail)) [hlt, hlen, h1, h2])))
   refine Sels.tw .nil (hL hlt () ?_)
   intro j hj
   by_cases hji : j = i
   ·subst hji; rw [hx, hy]
   ·exact hpre j (by omega)
  ·have hne : ¬ l = m := fun h => he (by rw [h] at hx; rw [hx] at hy; exact Option.some.inj hy)
   have he' : ¬ (x.1 = y.1 ∧ x.2 = y.2) := fun h => he (Prod.ext h.1 h.2)
   (have hQq := trivial; repeat ((first | clear hQq | (with_reducible first | refine A3 ?_ | refine A4 fun _ => ?_ | refine A5 fun _ => ?_)); (try simp (disch := first | omega | assumption | ((repeat (first | exact A0 | exact Up.here | apply A1 | apply Up.there)); first | done | fail) | (simp; first | done | omega | fail)) [hlt, hlen, h1, h2])))
   refine B2y (fun _ => A9 (by simp [hne])) fun hc => absurd ?_ he'
   exact ⟨Classical.byContradiction fun h => hc (Or.inl h), Classical.byContradiction fun h => hc (Or.inr h)⟩
 ·obtain rfl : i = m.length := by omega
  have : l = m := C0q hlen fun j hj => hpre j (by omega)
  subst this
  (have hQq := trivial; repeat ((first | clear hQq | (with_reducible first | refine A3 ?_ | refine A4 fun _ => ?_ | refine A5 fun _ => ?_)); (try simp (disch := first | omega | assumption | ((repeat (first | exact A0 | exact Up.here | apply A1 | apply Up.there)); first | done | fail) | (simp; first | done | omega | fail)) [hlen])))
  exact A9 (by simp)
end Go.Proofs.YtggakcpabomliaaGreat
namespace Go.Proofs.YtggakcpabomliaaGreat
open Go
def A0l (X : Nat → Prop) (t0 t1 t2 t3 : Value) (R : Value → WP) : WP :=
 jn (n := 1) (fun t1_1 =>
 A2 PR (A7 .max #[3, 3] 0 [t2, (.int .i64 0)]) fun t23 =>
 A2 PR (A7 .len #[50] 0 [t0]) fun t25 =>
 A2 PR (A7 .min #[3, 3] 0 [t23, t25]) fun t26 =>
 jn (n := 4) (fun t0_1 t12 t1_2 t13 =>
 jn (n := 1) (fun t0_2 =>
 R (.tuple #[t0_2, t1_2, t12])) fun J1 =>
 A2 PR (binOp .gtr 3 t12 (.int .i64 0)) fun t50 =>
 B6 t50 (
 B2 PR X 113 [t0_1] fun t52 =>
 J1 t52) (
 J1 t0_1)) fun J2 =>
 lp (n := 4) (fun L3 t0_3 t12_1 t1_3 t13_1 =>
 jn (n := 0) (
 jn (n := 3) (fun t0_4 t12_2 t1_4 =>
 A2 PR (binOp .add 3 t13_1 (.int .i64 1)) fun t31 =>
 L3 t0_4 t12_2 t1_4 t31) fun J4 =>
 jn (n := 2) (fun t0_5 t12_3 =>
 A2 PR (binOp .add 3 t1_3 (.int .i64 1)) fun t44 =>
 A2 PR (A7 .len #[50] 0 [t0_5]) fun t47 =>
 A2 PR (binOp .eql 3 t44 t47) fun t48 =>
 B6 t48 (
 J4 t0_5 t12_3 (.int .i64 0)) (
 J4 t0_5 t12_3 t44)) fun J5 =>
 A2 PR (Instr.indexAt 50 t0_3 t1_3) fun t34 =>
 A6 PR (Instr.loadAt 71 t34) fun t35 =>
 B2 PR X 111 [t35, t3] fun t37 =>
 B6 t37 (
 B2 PR X 112 [t0_3, t1_3] fun t40 =>
 A2 PR (binOp .add 3 t12_1 (.int .i64 1)) fun t42 =>
 J5 t40 t42) (
 J5 t0_3 t12_1)) fun J6 =>
 A2 PR (binOp .lss 3 t13_1 t26) fun t29 =>
 B6 t29 (
 J6) (
 J2 t0_3 t12_1 t1_3 t13_1)) t0 (.int .i64 0) t1_1 (.int .i64 0)) fun J7 =>
 A2 PR (binOp .lss 3 t1 (.int .i64 0)) fun t15 =>
 gj t15 false (fun J => J t1) fun t17 =>
 gj t15 false (fun J => J t0) fun t18 =>
 gj t15 false (fun J => A2 PR (A7 .len #[50] 0 [t18]) J) fun t19 =>
 gj t15 false (fun J => A2 PR (binOp .geq 3 t17 t19) J) fun t20 =>
 A2 PR (do pure (if ← asBool t15 then (.bool true) else t20)) fun t21 =>
 B6 t21 (
 J7 (.int .i64 0)) (
 J7 t1)
theorem A4d : B0 PR 68 := A8 Tryz.func68 (by kernel_rfl) rfl
theorem A53 {X : Nat → Prop} {t0 t1 t2 t3 : Value} {R : Value → WP} {w : World} (h : A0l X t0 t1 t2 t3 R w) : Fn PR X 68 #[t0, t1, t2, t3] w R := C7 (args := [t0, t1, t2, t3]) mixed Tryz.func68 (by kernel_rfl) h
def A1D (X : Nat → Prop) (t0 t1 : Value) (R : Value → WP) : WP :=
 B1 PR X (Instr.box 71 t0) fun t2 =>
 A2 PR (Instr.fieldAt 71 t2 0) fun t5 =>
 A6 PR (Instr.loadAt 3 t5) fun t6 =>
 A2 PR (binOp .eql 3 t6 (.int .i64 1)) fun t7 =>
 gj t7 true (fun J => A2 PR (Instr.fieldAt 71 t2 3) J) fun t9 =>
 gj t7 true (fun J => A6 PR (Instr.loadAt 3 t9) J) fun t10 =>
 gj t7 true (fun J => J t1) fun t11 =>
 gj t7 true (fun J => A2 PR (binOp .lss 3 t10 t11) J) fun t12 =>
 A2 PR (do pure (if ← asBool t7 then t12 else (.bool false))) fun t13 =>
 R t13
theorem A5U : B0 PR 111 := A8 Tryz.func111 (by kernel_rfl) rfl
theorem A6c {X : Nat → Prop} {t0 t1 : Value} {R : Value → WP} {w : World} (h : A1D X t0 t1 R w) : Fn PR X 111 #[t0, t1] w R := C7 (args := [t0, t1]) mixed Tryz.func111 (by kernel_rfl) h
end Go.Proofs.YtggakcpabomliaaGreat
namespace Go.Proofs.YtggakcpabomliaaGreat
open Go
theorem K6.slice {κ : Bool} {S : List Nat} {w0 : World} {H : List Res} {v : Value} {n : Nat} {xs : List Value} {K0 : WP} (h : K6 κ S w0 H v n xs) (hK : ∀ a c, v = .slice a n c → TW κ S w0 H K0) : TW κ S w0 H K0 := fun w hw => by
 obtain ⟨a, c, e, _⟩ := (h w hw).form
 exact hK a c e w hw
theorem C6G {κ : Bool} {S : List Nat} {w0 : World} {H : List Res} {v : Value} {l : List EnV} {i : Nat} {x : EnV} {K : Value → WP} (h : K6 κ S w0 H v l.length (l.flatMap E1)) (hx : l[i]? = some x) (hK : TW κ S w0 H (K (.agg #[.int .i64 x.st, .string x.key, .int .i64 x.bk, .int .i64 x.dl]))) :
  TW κ S w0 H (A2 PR (Instr.indexAt 50 v (.int .i64 (i : Int))) fun t => A6 PR (Instr.loadAt 71 t) K) := fun w hw => by
 have hi := (List.getElem?_eq_some_iff.1 hx).1
 rcases h w hw with ⟨h0, _⟩ | ⟨b, o, c, rfl, hr⟩
 ·omega
 refine (?_ : TW κ S w0 H _) w hw
 rw [C4b (by omega) (by omega)]
 refine B13 hK fun w' hw' => ?_
 rcases h w' hw' with ⟨h0, _⟩ | ⟨b', o', c', e, hr'⟩
 ·omega
 cases e
 have h1 := hr'.at (f := E1) (k := 4) (fun _ => rfl) hx
 rw [E1] at h1
 simp [h1]
theorem C2S (w : World) (x : EnV) (now : Int) : Fn PR B5 111 #[.agg #[.int .i64 x.st, .string x.key, .int .i64 x.bk, .int .i64 x.dl], .int .i64 now] w (fun r w' => r = .bool (A0z x now) ∧ C0 [] w w') := by
 refine Fn.pure (A6c (TW.go (κ := false) (S := []) ?_))
 unfold A1D
 by_cases c1 : x.st = 1
 ·(have hQq := trivial; repeat ((first | clear hQq | (with_reducible first | refine A3 ?_ | refine A4 fun _ => ?_ | refine A5 fun _ => ?_)); (try simp (disch := first | omega | assumption | ((repeat (first | exact A0 | exact Up.here | apply A1 | apply Up.there)); first | done | fail) | (simp; first | done | omega | fail)) [c1])))
  exact A9 (by simp [A0z, c1])
 ·(have hQq := trivial; repeat ((first | clear hQq | (with_reducible first | refine A3 ?_ | refine A4 fun _ => ?_ | refine A5 fun _ => ?_)); (try simp (disch := first | omega | assumption | ((repeat (first | exact A0 | exact Up.here | apply A1 | apply Up.there)); first | done | fail) | (simp; first | done | omega | fail)) [c1])))
  exact A9 (by simp [A0z, c1])
theorem A97 (l : List EnV) (f i : Nat) (now : Int) : U9 l f (i + 1) now = P5 now (U9 l f i now) ((f + i) % l.length) := by
 unfold U9 M8
 rw [List.range_succ, List.map_append, List.foldl_append]; rfl
theorem B8L (l : List EnV) (f i : Nat) (now : Int) : (U9 l f i now).1.length = l.length := A86 now _ (l, 0)
theorem A90 (l : List EnV) (f i : Nat) (now : Int) (h : (U9 l f i now).2 = 0) : (U9 l f i now).1 = l := by
 induction i with
 | zero => rfl
 | succ i ih =>
  rw [A97] at h ⊢
  unfold P5 at h ⊢
  split at h
  ·simp at h
  ·rename_i hd
   rw [if_neg hd]; exact ih h
theorem C0r (w : World) (v : Value) (l : List EnV) (f n now : Int) (hks : H6 l) (hn : l.length ≤ 1000000) (hv : E3 w v l.length (l.flatMap E1)) :
  Fn PR B5 68 #[v, .int .i64 f, .int .i64 n, .int .i64 now] w (Rn [] w (fun r u => u = .tuple #[if (E6 l f n now).2.2 = 0 then v else r, .int .i64 ((E6 l f n now).2.1 : Nat), .int .i64 ((E6 l f n now).2.2 : Nat)])
   fun r => if (E6 l f n now).2.2 = 0 then [] else [F2 r (E6 l f n now).1]) := by
 refine A53 (TW.go (κ := false) (S := []) ?_)
 unfold A0l
 obtain ⟨a, c, rfl, _⟩ := hv.form
 have hmax : min (max n 0) (l.length : Int) = (Q2 l n : Nat) := by unfold Q2; omega
 have hfl : G0 l f ≤ 1000000 := by unfold G0; split <;> omega
 refine C3c (Hj := []) (.int .i64 (G0 l f : Nat)) ?_ ?_
 case refine_2 =>
  intro J hJ
  by_cases c1 : f < 0
  ·have e : G0 l f = 0 := by unfold G0; rw [if_pos (Or.inl c1)]
   rw [e] at hJ
   (have hQq := trivial; repeat ((first | clear hQq | (with_reducible first | refine A3 ?_ | refine A4 fun _ => ?_ | refine A5 fun _ => ?_)); (try simp (disch := first | omega | assumption | ((repeat (first | exact A0 | exact Up.here | apply A1 | apply Up.there)); first | done | fail) | (simp; first | done | omega | fail)) [c1])))
   exact hJ
  by_cases c2 : (l.length : Int) ≤ f
  ·have e : G0 l f = 0 := by unfold G0; rw [if_pos (Or.inr c2)]
   rw [e] at hJ
   (have hQq := trivial; repeat ((first | clear hQq | (with_reducible first | refine A3 ?_ | refine A4 fun _ => ?_ | refine A5 fun _ => ?_)); (try simp (disch := first | omega | assumption | ((repeat (first | exact A0 | exact Up.here | apply A1 | apply Up.there)); first | done | fail) | (simp; first | done | omega | fail)) [c1, c2])))
   exact hJ
  ·have e : ((G0 l f : Nat) : Int) = f := by unfold G0; rw [if_neg (by omega)]; omega
   rw [e] at hJ
   (have hQq := trivial; repeat ((first | clear hQq | (with_reducible first | refine A3 ?_ | refine A4 fun _ => ?_ | refine A5 fun _ => ?_)); (try simp (disch := first | omega | assumption | ((repeat (first | exact A0 | exact Up.here | apply A1 | apply Up.there)); first | done | fail) | (simp; first | done | omega | fail)) [c1, c2])))
   exact hJ
 have hml : Q2 l n ≤ l.length := by unfold Q2; omega
 have hf0 : G0 l f = (G0 l f + 0) % l.length := by
  by_cases h0 : l.length = 0
  ·have : G0 l f = 0 := by unfold G0; split <;> omega
   rw [this]; simp
  ·have : G0 l f < l.length := by unfold G0; split <;> omega
   rw [Nat.add_zero, Nat.mod_eq_of_lt this]
 have hsv : E6 l f n now = (if 0 < (U9 l (G0 l f) (Q2 l n) now).2 then H0 (U9 l (G0 l f) (Q2 l n) now).1 else (U9 l (G0 l f) (Q2 l n) now).1, (G0 l f + Q2 l n) % l.length, (U9 l (G0 l f) (Q2 l n) now).2) := by
  have e : (if 0 < l.length then (G0 l f + Q2 l n) % l.length else G0 l f) = (G0 l f + Q2 l n) % l.length := by
   split
   ·rfl
   ·have h1 : Q2 l n = 0 := by omega
    rw [h1]; exact hf0
  unfold E6; rw [e]
 rw [hsv]
 generalize hfv : G0 l f = fv at *
 generalize hmv : Q2 l n = mv at *
 (have hQq := trivial; repeat ((first | clear hQq | (with_reducible first | refine A3 ?_ | refine A4 fun _ => ?_ | refine A5 fun _ => ?_)); (try simp (disch := first | omega | assumption | ((repeat (first | exact A0 | exact Up.here | apply A1 | apply Up.there)); first | done | fail) | (simp; first | done | omega | fail)) [hmax])))
 rw [hmax]
 refine C6P (fun p : Nat × (List EnV × Nat) × Value × Nat => if p.2.1.2 = 0 then [] else [F2 p.2.2.1 p.2.1.1]) (fun p => p.1 ≤ mv ∧ p.2.1 = U9 l fv p.1 now ∧ p.2.1.2 ≤ p.1 ∧ p.2.2.2 = (fv + p.1) % l.length) (fun p => mv - p.1) (0, (l, 0), .nilIface, fv)
  (fun p => if p.2.1.2 = 0 then .slice a l.length c else p.2.2.1) (fun p => .int .i64 (p.2.1.2 : Nat)) (fun p => .int .i64 (p.2.2.2 : Nat)) (fun p => .int .i64 (p.1 : Nat)) ⟨Nat.zero_le _, rfl, Nat.le_refl _, hf0⟩ ?_
 rintro ⟨i, s, x, q⟩ ⟨hi, hs, hs2, hq⟩ L hL
 simp only at hi hs hs2 hq hL ⊢
 have hsl : s.1.length = l.length := by rw [hs, B8L]
 have hrd : K6 false [] w (if s.2 = 0 then [] else [F2 x s.1]) (if s.2 = 0 then .slice a l.length c else x) s.1.length (s.1.flatMap E1) := by
  by_cases h0 : s.2 = 0
  ·have e : s.1 = l := by rw [hs] at h0 ⊢; exact A90 l fv i now h0
   rw [if_pos h0, if_pos h0, e]
   exact fun w' hw' => hv.ks hw'.ks (by simp)
  ·rw [if_neg h0, if_neg h0]
   exact K6.own (by ((repeat (first | exact A0 | exact Up.here | exact Sel.here | apply A1 | apply Up.there | apply Sel.there)); first | done | fail))
 have hks2 : H6 s.1 := by rw [hs]; exact B1U now _ (l, 0) hks
 by_cases hlt : i < mv
 ·have hlt' : (i : Int) < mv := by omega
  have hql : q < s.1.length := by rw [hq, hsl]; exact Nat.mod_lt _ (by omega)
  have hx := List.getElem?_eq_getElem hql
  have hnext := A97 l fv i now
  rw [← hs, ← hq] at hnext
  have hgd : s.1.getD q W9 = s.1[q] := by rw [List.getD_eq_getElem?_getD, hx]; rfl
  have hqn : (fv + (i + 1)) % l.length = if q + 1 = l.length then 0 else q + 1 := by
   have h1 : q < l.length := by omega
   rw [← Nat.add_assoc, Nat.add_mod, ← hq]
   by_cases h2 : l.length = 1
   ·rw [h2] at h1 ⊢; have : q = 0 := by omega
    subst this; simp
   ·rw [Nat.mod_eq_of_lt (show 1 < l.length by omega)]
    split
    ·rename_i h3; rw [h3, Nat.mod_self]
    ·exact Nat.mod_eq_of_lt (by omega)
  unfold P5 at hnext
  rw [hgd] at hnext
  generalize s.1[q] = y at *
  generalize hT : (if s.2 = 0 then Value.slice a l.length c else x) = tv at *
  generalize hH : (if s.2 = 0 then [] else [F2 x s.1]) = H at *
  (have hQq := trivial; repeat ((first | clear hQq | (with_reducible first | refine A3 ?_ | refine A4 fun _ => ?_ | refine A5 fun _ => ?_)); (try simp (disch := first | omega | assumption | ((repeat (first | exact A0 | exact Up.here | apply A1 | apply Up.there)); first | done | fail) | (simp; first | done | omega | fail)) [hlt'])))
  refine C6G hrd hx ?_
  refine B7 A5U (fun w' _ => C2S w' y now) ?_
  cases hd : A0z y now with
  | true =>
   rw [hd, if_pos rfl] at hnext
   (have hQq := trivial; repeat ((first | clear hQq | (with_reducible first | refine A3 ?_ | refine A4 fun _ => ?_ | refine A5 fun _ => ?_)); (try simp (disch := first | omega | assumption | ((repeat (first | exact A0 | exact Up.here | apply A1 | apply Up.there)); first | done | fail) | (simp; first | done | omega | fail)) [])))
   refine F8 A0D (fun w' hw' => B3a w' tv s.1 q (by omega) (hrd w' hw')) ?_
   intro _ r hr
   subst hr
   refine V5 (by ((repeat (first | exact A0 | exact Up.here | exact Sel.here | apply A1 | apply Up.there | apply Sel.there)); first | done | fail)) fun ra rc hr => ?_
   subst hr
   have hsl2 : (s.1.set q P4).length = l.length := by simpa using hsl
   have h := hL (i + 1, (s.1.set q P4, s.2 + 1), .slice ra (s.1.set q P4).length rc, (fv + (i + 1)) % l.length) ⟨by simp only; omega, hnext.symm, by simp only; omega, rfl⟩ (by simp only; omega)
   rw [hqn] at h
   have hz : ¬ s.2 + 1 = 0 := by omega
   simp only [if_neg hz, hsl2] at h ⊢
   by_cases c5 : q + 1 = l.length
   ·have c5' : (q : Int) + 1 = l.length := by omega
    rw [if_pos c5] at h
    (have hQq := trivial; repeat ((first | clear hQq | (with_reducible first | refine A3 ?_ | refine A4 fun _ => ?_ | refine A5 fun _ => ?_)); (try simp (disch := first | omega | assumption | ((repeat (first | exact A0 | exact Up.here | apply A1 | apply Up.there)); first | done | fail) | (simp; first | done | omega | fail)) [c5, c5'])))
    exact Sels.tw (by ((repeat (first | exact Sels.nil | (apply Sels.cons; · ((repeat (first | exact A0 | exact Up.here | exact Sel.here | apply A1 | apply Up.there | apply Sel.there)); first | done | fail)))); first | done | fail)) h
   ·have c5' : ¬ (q : Int) + 1 = l.length := by omega
    rw [if_neg c5] at h
    (have hQq := trivial; repeat ((first | clear hQq | (with_reducible first | refine A3 ?_ | refine A4 fun _ => ?_ | refine A5 fun _ => ?_)); (try simp (disch := first | omega | assumption | ((repeat (first | exact A0 | exact Up.here | apply A1 | apply Up.there)); first | done | fail) | (simp; first | done | omega | fail)) [c5, c5'])))
    exact Sels.tw (by ((repeat (first | exact Sels.nil | (apply Sels.cons; · ((repeat (first | exact A0 | exact Up.here | exact Sel.here | apply A1 | apply Up.there | apply Sel.there)); first | done | fail)))); first | done | fail)) h
  | false =>
   rw [hd, if_neg (by simp)] at hnext
   refine hrd.slice fun a' c' e => ?_
   have h := hL (i + 1, s, x, (fv + (i + 1)) % l.length) ⟨by simp only; omega, hnext.symm, by simp only; omega, rfl⟩ (by simp only; omega)
   rw [hqn] at h
   simp only [hT, hH] at h
   subst e
   rw [hsl] at h ⊢
   by_cases c5 : q + 1 = l.length
   ·have c5' : (q : Int) + 1 = l.length := by omega
    rw [if_pos c5] at h
    (have hQq := trivial; repeat ((first | clear hQq | (with_reducible first | refine A3 ?_ | refine A4 fun _ => ?_ | refine A5 fun _ => ?_)); (try simp (disch := first | omega | assumption | ((repeat (first | exact A0 | exact Up.here | apply A1 | apply Up.there)); first | done | fail) | (simp; first | done | omega | fail)) [c5, c5'])))
    exact h
   ·have c5' : ¬ (q : Int) + 1 = l.length := by omega
    rw [if_neg c5] at h
    (have hQq := trivial; repeat ((first | clear hQq | (with_reducible first | refine A3 ?_ | refine A4 fun _ => ?_ | refine A5 fun _ => ?_)); (try simp (disch := first | omega | assumption | ((repeat (first | exact A0 | exact Up.here | apply A1 | apply Up.there)); first | done | fail) | (simp; first | done | omega | fail)) [c5, c5'])))
    exact h
 ·obtain rfl : i = mv := by omega
  rw [← hs]
  by_cases h0 : s.2 = 0
  ·have h0' : ¬ (0 < s.2) := by omega
   simp only [if_pos h0, if_neg h0']
   (have hQq := trivial; repeat ((first | clear hQq | (with_reducible first | refine A3 ?_ | refine A4 fun _ => ?_ | refine A5 fun _ => ?_)); (try simp (disch := first | omega | assumption | ((repeat (first | exact A0 | exact Up.here | apply A1 | apply Up.there)); first | done | fail) | (simp; first | done | omega | fail)) [h0, h0'])))
   exact C6 .nilIface (by simp [hq]) Sels.nil
  ·have h0' : 0 < s.2 := by omega
   have h0i : (0 : Int) < (s.2 : Nat) := by omega
   simp only [if_neg h0, if_pos h0']
   (have hQq := trivial; repeat ((first | clear hQq | (with_reducible first | refine A3 ?_ | refine A4 fun _ => ?_ | refine A5 fun _ => ?_)); (try simp (disch := first | omega | assumption | ((repeat (first | exact A0 | exact Up.here | apply A1 | apply Up.there)); first | done | fail) | (simp; first | done | omega | fail)) [h0, h0', h0i])))
   refine B2D hks2 (by omega) fun r => ?_
   (have hQq := trivial; repeat ((first | clear hQq | (with_reducible first | refine A3 ?_ | refine A4 fun _ => ?_ | refine A5 fun _ => ?_)); (try simp (disch := first | omega | assumption | ((repeat (first | exact A0 | exact Up.here | apply A1 | apply Up.there)); first | done | fail) | (simp; first | done | omega | fail)) [])))
   exact C6 r (by simp [hq]) (by ((repeat (first | exact Sels.nil | (apply Sels.cons; · ((repeat (first | exact A0 | exact Up.here | exact Sel.here | apply A1 | apply Up.there | apply Sel.there)); first | done | fail)))); first | done | fail))
end Go.Proofs.YtggakcpabomliaaGreat
namespace Go.Proofs.YtggakcpabomliaaGreat
open Go
theorem A6k (w : World) (n lo hi : Int) : Fn PR B5 58 #[.int .i64 n, .int .i64 lo, .int .i64 hi] w (fun v w' => v = .bool (V2 n lo hi) ∧ C0 [] w w') := by
 refine Fn.pure (A7G (TW.go (κ := false) (S := []) ?_))
 unfold A1N
 by_cases c1 : lo ≤ n
 ·by_cases c2 : n ≤ hi
  ·(have hQq := trivial; repeat ((first | clear hQq | (with_reducible first | refine A3 ?_ | refine A4 fun _ => ?_ | refine A5 fun _ => ?_)); (try simp (disch := first | omega | assumption | ((repeat (first | exact A0 | exact Up.here | apply A1 | apply Up.there)); first | done | fail) | (simp; first | done | omega | fail)) [c1, c2]))); exact A9 (by simp [V2, c1, c2])
  ·(have hQq := trivial; repeat ((first | clear hQq | (with_reducible first | refine A3 ?_ | refine A4 fun _ => ?_ | refine A5 fun _ => ?_)); (try simp (disch := first | omega | assumption | ((repeat (first | exact A0 | exact Up.here | apply A1 | apply Up.there)); first | done | fail) | (simp; first | done | omega | fail)) [c1, c2]))); exact A9 (by simp [V2, c1, c2])
 ·(have hQq := trivial; repeat ((first | clear hQq | (with_reducible first | refine A3 ?_ | refine A4 fun _ => ?_ | refine A5 fun _ => ?_)); (try simp (disch := first | omega | assumption | ((repeat (first | exact A0 | exact Up.here | apply A1 | apply Up.there)); first | done | fail) | (simp; first | done | omega | fail)) [c1]))); exact A9 (by simp [V2, c1])
theorem B05 (w : World) (c : CfgV) : Fn PR B5 17 #[c.val] w (fun v w' => v = .int .i64 (if V3 c then 0 else 1) ∧ C0 [] w w') := by
 refine Fn.pure (A4L (TW.go (κ := false) (S := []) ?_))
 unfold x7
 simp only [CfgV.val]
 unfold V3
 (have hQq := trivial; repeat ((first | clear hQq | (with_reducible first | refine A3 ?_ | refine A4 fun _ => ?_ | refine A5 fun _ => ?_)); (try simp (disch := first | omega | assumption | ((repeat (first | exact A0 | exact Up.here | apply A1 | apply Up.there)); first | done | fail) | (simp; first | done | omega | fail)) [])))
 refine B7 S4 (fun w' _ => A6k w' _ _ _) ?_
 cases V2 c.wk 1 64 with
 | false => (have hQq := trivial; repeat ((first | clear hQq | (with_reducible first | refine A3 ?_ | refine A4 fun _ => ?_ | refine A5 fun _ => ?_)); (try simp (disch := first | omega | assumption | ((repeat (first | exact A0 | exact Up.here | apply A1 | apply Up.there)); first | done | fail) | (simp; first | done | omega | fail)) []))); exact A9 rfl
 | true =>
 (have hQq := trivial; repeat ((first | clear hQq | (with_reducible first | refine A3 ?_ | refine A4 fun _ => ?_ | refine A5 fun _ => ?_)); (try simp (disch := first | omega | assumption | ((repeat (first | exact A0 | exact Up.here | apply A1 | apply Up.there)); first | done | fail) | (simp; first | done | omega | fail)) [])))
 refine B7 S4 (fun w' _ => A6k w' _ _ _) ?_
 cases V2 c.sh 1 16 with
 | false => (have hQq := trivial; repeat ((first | clear hQq | (with_reducible first | refine A3 ?_ | refine A4 fun _ => ?_ | refine A5 fun _ => ?_)); (try simp (disch := first | omega | assumption | ((repeat (first | exact A0 | exact Up.here | apply A1 | apply Up.there)); first | done | fail) | (simp; first | done | omega | fail)) []))); exact A9 rfl
 | true =>
 (have hQq := trivial; repeat ((first | clear hQq | (with_reducible first | refine A3 ?_ | refine A4 fun _ => ?_ | refine A5 fun _ => ?_)); (try simp (disch := first | omega | assumption | ((repeat (first | exact A0 | exact Up.here | apply A1 | apply Up.there)); first | done | fail) | (simp; first | done | omega | fail)) [])))
 refine B7 S4 (fun w' _ => A6k w' _ _ _) ?_
 cases V2 c.cp 1 64 with
 | false => (have hQq := trivial; repeat ((first | clear hQq | (with_reducible first | refine A3 ?_ | refine A4 fun _ => ?_ | refine A5 fun _ => ?_)); (try simp (disch := first | omega | assumption | ((repeat (first | exact A0 | exact Up.here | apply A1 | apply Up.there)); first | done | fail) | (simp; first | done | omega | fail)) []))); exact A9 rfl
 | true =>
 (have hQq := trivial; repeat ((first | clear hQq | (with_reducible first | refine A3 ?_ | refine A4 fun _ => ?_ | refine A5 fun _ => ?_)); (try simp (disch := first | omega | assumption | ((repeat (first | exact A0 | exact Up.here | apply A1 | apply Up.there)); first | done | fail) | (simp; first | done | omega | fail)) [])))
 refine B7 S4 (fun w' _ => A6k w' _ _ _) ?_
 cases V2 c.idle 0 1000000 with
 | false => (have hQq := trivial; repeat ((first | clear hQq | (with_reducible first | refine A3 ?_ | refine A4 fun _ => ?_ | refine A5 fun _ => ?_)); (try simp (disch := first | omega | assumption | ((repeat (first | exact A0 | exact Up.here | apply A1 | apply Up.there)); first | done | fail) | (simp; first | done | omega | fail)) []))); exact A9 rfl
 | true =>
 (have hQq := trivial; repeat ((first | clear hQq | (with_reducible first | refine A3 ?_ | refine A4 fun _ => ?_ | refine A5 fun _ => ?_)); (try simp (disch := first | omega | assumption | ((repeat (first | exact A0 | exact Up.here | apply A1 | apply Up.there)); first | done | fail) | (simp; first | done | omega | fail)) [])))
 refine B7 S4 (fun w' _ => A6k w' _ _ _) ?_
 cases V2 c.sl 2 8 with
 | false => (have hQq := trivial; repeat ((first | clear hQq | (with_reducible first | refine A3 ?_ | refine A4 fun _ => ?_ | refine A5 fun _ => ?_)); (try simp (disch := first | omega | assumption | ((repeat (first | exact A0 | exact Up.here | apply A1 | apply Up.there)); first | done | fail) | (simp; first | done | omega | fail)) []))); exact A9 rfl
 | true => (have hQq := trivial; repeat ((first | clear hQq | (with_reducible first | refine A3 ?_ | refine A4 fun _ => ?_ | refine A5 fun _ => ?_)); (try simp (disch := first | omega | assumption | ((repeat (first | exact A0 | exact Up.here | apply A1 | apply Up.there)); first | done | fail) | (simp; first | done | omega | fail)) []))); exact A9 rfl
def A9f (s : ByteArray) (n : Int) : Value :=
 if (C3 s).2.2 ≠ 0 then .agg #[.string P6, .int .i64 0, .bool false, .int .i64 9]
 else .agg #[.string (U6 (C3 s).1), .int .i64 (M0 (U6 (C3 s).1) n : Nat), .bool (S0 (C3 s).1 (C3 s).2.1), .int .i64 0]
theorem B3L (w : World) (s : ByteArray) (n : Int) (hs : s.size < 2 ^ 40) (hn : n < 2 ^ 63) : Fn PR B5 65 #[.string s, .int .i64 n] w (fun v w' => v = A9f s n ∧ C0 [] w w') := by
 refine Fn.pure (A57 (TW.go (κ := false) (S := []) ?_))
 unfold A0c
 (have hQq := trivial; repeat ((first | clear hQq | (with_reducible first | refine A3 ?_ | refine A4 fun _ => ?_ | refine A5 fun _ => ?_)); (try simp (disch := first | omega | assumption | ((repeat (first | exact A0 | exact Up.here | apply A1 | apply Up.there)); first | done | fail) | (simp; first | done | omega | fail)) [])))
 refine B7 A30 (fun w' _ => B91 w' s hs) ?_
 have hk := A41 (C3 s).1
 unfold A9f
 by_cases c1 : (C3 s).2.2 = 0
 case neg =>
  rw [if_pos c1]
  (have hQq := trivial; repeat ((first | clear hQq | (with_reducible first | refine A3 ?_ | refine A4 fun _ => ?_ | refine A5 fun _ => ?_)); (try simp (disch := first | omega | assumption | ((repeat (first | exact A0 | exact Up.here | apply A1 | apply Up.there)); first | done | fail) | (simp; first | done | omega | fail)) [packet.val, N7, c1])))
  exact A9 rfl
 rw [if_neg (by simp [c1])]
 (have hQq := trivial; repeat ((first | clear hQq | (with_reducible first | refine A3 ?_ | refine A4 fun _ => ?_ | refine A5 fun _ => ?_)); (try simp (disch := first | omega | assumption | ((repeat (first | exact A0 | exact Up.here | apply A1 | apply Up.there)); first | done | fail) | (simp; first | done | omega | fail)) [packet.val, N7, c1])))
 refine B7 (u := r9 (C3 s).1) A36 (fun w' hw' => B9p w' (C3 s).1) ?_
 (have hQq := trivial; repeat ((first | clear hQq | (with_reducible first | refine A3 ?_ | refine A4 fun _ => ?_ | refine A5 fun _ => ?_)); (try simp (disch := first | omega | assumption | ((repeat (first | exact A0 | exact Up.here | apply A1 | apply Up.there)); first | done | fail) | (simp; first | done | omega | fail)) [r9])))
 rw [show (if Q4 (C3 s).1 = true then A0e (C3 s).1 else P6) = U6 (C3 s).1 from rfl]
 refine B7 A35 (fun w' hw' => B8l w' _ n hk hn) ?_
 (have hQq := trivial; repeat ((first | clear hQq | (with_reducible first | refine A3 ?_ | refine A4 fun _ => ?_ | refine A5 fun _ => ?_)); (try simp (disch := first | omega | assumption | ((repeat (first | exact A0 | exact Up.here | apply A1 | apply Up.there)); first | done | fail) | (simp; first | done | omega | fail)) [])))
 rw [S6 (by ((repeat (first | exact A0 | exact Up.here | exact Sel.here | apply A1 | apply Up.there | apply Sel.there)); first | done | fail)) (by rfl)]
 (have hQq := trivial; repeat ((first | clear hQq | (with_reducible first | refine A3 ?_ | refine A4 fun _ => ?_ | refine A5 fun _ => ?_)); (try simp (disch := first | omega | assumption | ((repeat (first | exact A0 | exact Up.here | apply A1 | apply Up.there)); first | done | fail) | (simp; first | done | omega | fail)) [])))
 refine B7 (u := .bool (S0 (C3 s).1 (C3 s).2.1)) A2u (fun w' hw' => B6Y w' (C3 s).1 (C3 s).2.1) ?_
 (have hQq := trivial; repeat ((first | clear hQq | (with_reducible first | refine A3 ?_ | refine A4 fun _ => ?_ | refine A5 fun _ => ?_)); (try simp (disch := first | omega | assumption | ((repeat (first | exact A0 | exact Up.here | apply A1 | apply Up.there)); first | done | fail) | (simp; first | done | omega | fail)) [])))
 exact A9 rfl
structure RmH where
 pv : Value
 tv : Value
 lv : Value
 c : CfgV
 pool : List G5
 ts : List (Value × List EnV)
 pl : List Nat
def RmH.cs (r : RmH) : Array Value := #[.int .i64 r.c.wk, .int .i64 r.c.sh, .int .i64 r.c.cp, .int .i64 r.c.idle, .int .i64 r.c.sl, r.pv, r.tv, r.lv]
def Y1 (l : List Nat) : List Value := l.map fun n : Nat => .int .i64 (n : Int)
abbrev C6e (w : World) (ts : List (Value × List EnV)) : Prop := ∀ t ∈ ts, E3 w t.1 t.2.length (t.2.flatMap E1)
theorem B3c (w : World) (c : CfgV) (pv tv lv v : Value) (vs : List Value) (i : Nat) (hn : vs.length ≤ 1000) (hp : ∃ a n c, pv = .slice a n c) (hl : ∃ a n c, lv = .slice a n c) (hvf : ∃ a n c, v = .slice a n c) (hvs : ∀ x ∈ vs, ∃ a n c, x = .slice a n c) (ht : E3 w tv vs.length vs) :
  Fn PR B5 66 #[.agg #[.int .i64 c.wk, .int .i64 c.sh, .int .i64 c.cp, .int .i64 c.idle, .int .i64 c.sl, pv, tv, lv], .int .i64 (i : Int), v] w
   (Rn [] w (fun r u => u = .agg #[.int .i64 c.wk, .int .i64 c.sh, .int .i64 c.cp, .int .i64 c.idle, .int .i64 c.sl, pv, r, lv]) fun r => [.own 50 1 r vs.length (vs.set i v)]) := by
 refine A2f (TW.go (κ := false) (S := []) ?_)
 unfold k7
 obtain ⟨a, cc, rfl, hr⟩ := ht.form
 obtain ⟨va, vn, vc, rfl⟩ := hvf
 obtain ⟨pa, pn, pc, rfl⟩ := hp
 obtain ⟨la, ln, lc, rfl⟩ := hl
 (have hQq := trivial; repeat ((first | clear hQq | (with_reducible first | refine A3 ?_ | refine A4 fun _ => ?_ | refine A5 fun _ => ?_)); (try simp (disch := first | omega | assumption | ((repeat (first | exact A0 | exact Up.here | apply A1 | apply Up.there)); first | done | fail) | (simp; first | done | omega | fail)) [])))
 rename_i bm bo
 refine l6 50 1 ?_
 refine K3 vs.length (fun i (y : Option Addr × Nat) => .slice y.1 i y.2) (fun k y => [.own 50 1 (.slice y.1 k y.2) k ((vs.set i (.slice va vn vc)).take k),
  .pt bo (.cells #[.int .i64 0, .int .i64 0, .int .i64 0, .int .i64 0, .int .i64 0, .slice none 0 0, .slice none 0 0, .slice none 0 0] 36),
  .pt bm (.cells #[.int .i64 c.wk, .int .i64 c.sh, .int .i64 c.cp, .int .i64 c.idle, .int .i64 c.sl, .slice pa pn pc, .slice a vs.length cc, .slice la ln lc] 36)]) (fun i y => True) (none, 0) trivial ?_ (by simp)
 rintro k ⟨ya, yc⟩ hi _ L hL
 by_cases hlt : k < vs.length
 ·have hx : vs[k]? = some vs[k] := List.getElem?_eq_getElem hlt
  obtain ⟨b, o, rfl, hrow⟩ := hr (by omega)
  have h1 := hrow.get hx
  have hst : (vs.set i (.slice va vn vc)).take (k + 1) = (vs.set i (.slice va vn vc)).take k ++ [if k = i then .slice va vn vc else vs[k]] := by
   rw [List.take_add_one, List.getElem?_set]
   by_cases e : i = k
   ·subst e; rw [if_pos rfl, if_pos hlt, if_pos rfl]; rfl
   ·rw [if_neg e, if_neg (fun h => e h.symm), hx]; rfl
  obtain ⟨xa, xn, xc, hxv⟩ := hvs vs[k] (List.getElem_mem hlt)
  rw [hxv] at h1 hst
  by_cases c1 : k = i
  ·rw [if_pos c1] at hst
   subst c1
   (have hQq := trivial; repeat ((first | clear hQq | (with_reducible first | refine A3 ?_ | refine A4 fun _ => ?_ | refine A5 fun _ => ?_ | refine D4 fun _ => ?_ | refine D3 (hK := fun _ => ?_) | refine D1 (hK := fun _ => ?_) | refine D2 (hK := fun _ => ?_) | refine D6 (hK := fun _ => ?_) | refine D5 (hK := fun _ => ?_))); (try simp (disch := first | omega | assumption | ((repeat (first | exact A0 | exact Up.here | apply A1 | apply Up.there)); first | done | fail) | (simp; first | done | omega | fail)) [hlt])))
   refine l0 (e := 50) (k := 1) (q := k) (r := 1) (xs := (vs.set k (.slice va vn vc)).take k) (news := [.slice va vn vc]) (by ((repeat (first | exact A0 | exact Up.here | exact Sel.here | apply A1 | apply Up.there | apply Sel.there)); first | done | fail)) (K6.own (by ((repeat (first | exact A0 | exact Up.here | exact Sel.here | apply A1 | apply Up.there | apply Sel.there)); first | done | fail))) (by decide) rfl (by simp) (by simp only [maxLen]; omega) (by omega) fun a' c' => ?_
   (have hQq := trivial; repeat ((first | clear hQq | (with_reducible first | refine A3 ?_ | refine A4 fun _ => ?_ | refine A5 fun _ => ?_)); (try simp (disch := first | omega | assumption | ((repeat (first | exact A0 | exact Up.here | apply A1 | apply Up.there)); first | done | fail) | (simp; first | done | omega | fail)) [])))
   have h2 := hL hlt (a', c') trivial
   rw [hst] at h2
   exact Sels.tw (by ((repeat (first | exact Sels.nil | (apply Sels.cons; · ((repeat (first | exact A0 | exact Up.here | exact Sel.here | apply A1 | apply Up.there | apply Sel.there)); first | done | fail)))); first | done | fail)) h2
  ·rw [if_neg c1] at hst
   have c1' : ¬ (k : Int) = (i : Int) := by omega
   (have hQq := trivial; repeat ((first | clear hQq | (with_reducible first | refine A3 ?_ | refine A4 fun _ => ?_ | refine A5 fun _ => ?_ | refine D4 fun _ => ?_ | refine D3 (hK := fun _ => ?_) | refine D1 (hK := fun _ => ?_) | refine D2 (hK := fun _ => ?_) | refine D6 (hK := fun _ => ?_) | refine D5 (hK := fun _ => ?_))); (try simp (disch := first | omega | assumption | ((repeat (first | exact A0 | exact Up.here | apply A1 | apply Up.there)); first | done | fail) | (simp; first | done | omega | fail)) [hlt, c1, c1', h1])))
   refine l0 (e := 50) (k := 1) (q := k) (r := 1) (xs := (vs.set i (.slice va vn vc)).take k) (news := [.slice xa xn xc]) (by ((repeat (first | exact A0 | exact Up.here | exact Sel.here | apply A1 | apply Up.there | apply Sel.there)); first | done | fail)) (K6.own (by ((repeat (first | exact A0 | exact Up.here | exact Sel.here | apply A1 | apply Up.there | apply Sel.there)); first | done | fail))) (by decide) rfl (by simp) (by simp only [maxLen]; omega) (by omega) fun a' c' => ?_
   (have hQq := trivial; repeat ((first | clear hQq | (with_reducible first | refine A3 ?_ | refine A4 fun _ => ?_ | refine A5 fun _ => ?_)); (try simp (disch := first | omega | assumption | ((repeat (first | exact A0 | exact Up.here | apply A1 | apply Up.there)); first | done | fail) | (simp; first | done | omega | fail)) [])))
   have h2 := hL hlt (a', c') trivial
   rw [hst] at h2
   exact Sels.tw (by ((repeat (first | exact Sels.nil | (apply Sels.cons; · ((repeat (first | exact A0 | exact Up.here | exact Sel.here | apply A1 | apply Up.there | apply Sel.there)); first | done | fail)))); first | done | fail)) h2
 ·obtain rfl : k = vs.length := by omega
  (have hQq := trivial; repeat ((first | clear hQq | (with_reducible first | refine A3 ?_ | refine A4 fun _ => ?_ | refine A5 fun _ => ?_)); (try simp (disch := first | omega | assumption | ((repeat (first | exact A0 | exact Up.here | apply A1 | apply Up.there)); first | done | fail) | (simp; first | done | omega | fail)) [])))
  refine C6 (.slice ya vs.length yc) rfl ?_
  rw [List.take_of_length_le (by simp)]
  ((repeat (first | exact Sels.nil | (apply Sels.cons; · ((repeat (first | exact A0 | exact Up.here | exact Sel.here | apply A1 | apply Up.there | apply Sel.there)); first | done | fail)))); first | done | fail)
end Go.Proofs.YtggakcpabomliaaGreat
namespace Go.Proofs.YtggakcpabomliaaGreat
open Go
@[simp] theorem D0x {κ : Bool} {S : List Nat} {w0 : World} {H : List Res} {K : Value → WP} {t t' : TypeId} {n n' : Nat} {z z' : Value} [h : TG t n z] [h' : TG t' n' z'] {b o b' o' : Nat} {c c' : Array Value} {T T' : TypeId} {f f' : Nat × Nat} (hm : Res.pt b (.cells c T f) ∈ H) (hm' : Res.pt b' (.cells c' T' f') ∈ H) :
  TW κ S w0 H (A6 PR (E0 [.c t (.pointer (some ⟨b, o, none⟩)), .c t' (.pointer (some ⟨b', o', none⟩))]) K) = TW κ S w0 H (rdq (S7 c.toList o n) (fun l => rdq (S7 c'.toList o' n') (fun l' => K (.tuple #[.agg l.toArray, .agg l'.toArray])) (A6 PR (E0 [.c t (.pointer (some ⟨b, o, none⟩)), .c t' (.pointer (some ⟨b', o', none⟩))]) K)) (A6 PR (E0 [.c t (.pointer (some ⟨b, o, none⟩)), .c t' (.pointer (some ⟨b', o', none⟩))]) K)) := by
 cases hl : S7 c.toList o n with
 | none => rfl
 | some l =>
 rw [A3j]
 cases hl' : S7 c'.toList o' n' with
 | none => rfl
 | some l' =>
   obtain ⟨_, _, h, hd⟩ := h.ti
   obtain ⟨_, _, h', hd'⟩ := h'.ti
   refine TW.congr fun w hw => ?_
   rw [A3j]
   have h2 := f7 (u0 hl (M4.bl (hw.pt hm)))
   have h3 := f7 (u0 hl' (M4.bl (hw.pt hm')))
   refine T0 ?_ K
   have e := k6 h hd h2.1 h2.2
   have e' := k6 h' hd' h3.1 h3.2
   simp only [Instr.loadAt, Instr.sureAddr, Sem.run_bind, Sem.run_pure, Result.andThen_ok] at e e'
   simp [E0, A18, RV.sem, asAddr, e, e', one]
def RmH.val (r : RmH) : Value := .agg r.cs
def RmH.st (r : RmH) : MoS := ⟨r.c, r.pool, (r.ts.map (·.2)).zip r.pl⟩
structure RmOk (w : World) (r : RmH) : Prop where
 tv : E3 w r.tv r.ts.length (r.ts.map (·.1))
 lv : E3 w r.lv r.pl.length (Y1 r.pl)
 tab : C6e w r.ts
 pv : E3 w r.pv r.pool.length (r.pool.flatMap E8)
 few : r.ts.length ≤ 1000
 pl : r.pl.length = r.ts.length
 pos : 0 < r.ts.length
 sh : r.c.sh = r.ts.length
 keys : ∀ t ∈ r.ts, H6 t.2
 len : ∀ t ∈ r.ts, t.2.length ≤ 1000000
 pool : r.pool.length ≤ 1000
section
variable (w : World) (r : RmH) (o : OpV) (v : Value) (now : Int)
theorem B9e (hr : RmOk w r) (hv : E3 w v o.pool.length (o.pool.flatMap E8)) (hk : o.kind < 0 ∨ 3 < o.kind) :
  Fn PR B5 21 #[r.val, o.val v, .int .i64 now] w (fun u w' => u = .tuple #[r.val, (S5 r.st o now).2.val] ∧ C0 [] w w') := by
 refine Fn.pure (M1 (TW.go (κ := false) (S := []) ?_))
 unfold H9
 rw [B2x r.st o now hk]
 obtain ⟨pa, pc, e1, _⟩ := hr.pv.form
 obtain ⟨ta, tc, e2, _⟩ := hr.tv.form
 obtain ⟨la, lc, e3, _⟩ := hr.lv.form
 obtain ⟨va, vc, rfl, _⟩ := hv.form
 simp only [RmH.val, RmH.cs, OpV.val, e1, e2, e3]
 have k0 : ¬ o.kind = 0 := by omega
 have k1 : ¬ o.kind = 1 := by omega
 have k2 : ¬ o.kind = 2 := by omega
 have k3 : ¬ o.kind = 3 := by omega
 (have hQq := trivial; repeat ((first | clear hQq | (with_reducible first | refine A3 ?_ | refine A4 fun _ => ?_ | refine A5 fun _ => ?_)); (try simp (disch := first | omega | assumption | ((repeat (first | exact A0 | exact Up.here | apply A1 | apply Up.there)); first | done | fail) | (simp; first | done | omega | fail)) [k0, k1, k2, k3])))
 exact A9 rfl
theorem C2B (hr : RmOk w r) (hv : E3 w v o.pool.length (o.pool.flatMap E8)) (hvl : o.pool.length ≤ 1000) (hk : o.kind = 1) :
  Fn PR B5 21 #[r.val, o.val v, .int .i64 now] w (fun u w' => u = .tuple #[(if N5 o.pool = 0 then { r with pv := v, pool := o.pool } else r : RmH).val, (S5 r.st o now).2.val] ∧ C0 [] w w') := by
 refine Fn.pure (M1 (TW.go (κ := false) (S := []) ?_))
 unfold H9
 rw [B5z r.st o now hk]
 obtain ⟨pa, pc, e1, _⟩ := hr.pv.form
 obtain ⟨ta, tc, e2, _⟩ := hr.tv.form
 obtain ⟨la, lc, e3, _⟩ := hr.lv.form
 obtain ⟨va, vc, rfl, _⟩ := hv.form
 unfold A3S
 simp only [RmH.val, RmH.cs, OpV.val, e1, e2, e3]
 (have hQq := trivial; repeat ((first | clear hQq | (with_reducible first | refine A3 ?_ | refine A4 fun _ => ?_ | refine A5 fun _ => ?_)); (try simp (disch := first | omega | assumption | ((repeat (first | exact A0 | exact Up.here | apply A1 | apply Up.there)); first | done | fail) | (simp; first | done | omega | fail)) [hk])))
 refine B7 A3a (fun w' hw' => B9s w' _ o.pool (by omega) (hv.ks hw'.ks (by simp))) ?_
 by_cases c1 : N5 o.pool = 0
 ·(have hQq := trivial; repeat ((first | clear hQq | (with_reducible first | refine A3 ?_ | refine A4 fun _ => ?_ | refine A5 fun _ => ?_)); (try simp (disch := first | omega | assumption | ((repeat (first | exact A0 | exact Up.here | apply A1 | apply Up.there)); first | done | fail) | (simp; first | done | omega | fail)) [c1])))
  exact A9 (by simp [AnsV.val, e2, e3])
 ·(have hQq := trivial; repeat ((first | clear hQq | (with_reducible first | refine A3 ?_ | refine A4 fun _ => ?_ | refine A5 fun _ => ?_)); (try simp (disch := first | omega | assumption | ((repeat (first | exact A0 | exact Up.here | apply A1 | apply Up.there)); first | done | fail) | (simp; first | done | omega | fail)) [c1])))
  exact A9 (by simp [AnsV.val, e1, e2, e3])
theorem C17 (hr : RmOk w r) (hv : E3 w v o.pool.length (o.pool.flatMap E8)) (hpk : o.packet.size < 2 ^ 40) (hk : o.kind = 0) (hb : (C3 o.packet).2.2 ≠ 0) :
  Fn PR B5 21 #[r.val, o.val v, .int .i64 now] w (fun u w' => u = .tuple #[r.val, (S5 r.st o now).2.val] ∧ C0 [] w w') := by
 refine Fn.pure (M1 (TW.go (κ := false) (S := []) ?_))
 unfold H9
 rw [A2D r.st o now hk]
 have e : S8 r.st o.packet now = (r.st, ⟨9, 0, false, 0⟩) := by unfold S8; simp only; rw [if_pos hb]
 rw [e]
 obtain ⟨pa, pc, e1, _⟩ := hr.pv.form
 obtain ⟨ta, tc, e2, _⟩ := hr.tv.form
 obtain ⟨la, lc, e3, _⟩ := hr.lv.form
 obtain ⟨va, vc, rfl, _⟩ := hv.form
 have hsh := hr.sh
 have hfew := hr.few
 have ef : A9f o.packet r.c.sh = .agg #[.string P6, .int .i64 0, .bool false, .int .i64 9] := by unfold A9f; rw [if_pos hb]
 simp only [RmH.val, RmH.cs, OpV.val, e1, e2, e3]
 (have hQq := trivial; repeat ((first | clear hQq | (with_reducible first | refine A3 ?_ | refine A4 fun _ => ?_ | refine A5 fun _ => ?_)); (try simp (disch := first | omega | assumption | ((repeat (first | exact A0 | exact Up.here | apply A1 | apply Up.there)); first | done | fail) | (simp; first | done | omega | fail)) [hk])))
 refine B7 x9 (fun w' hw' => B3L w' o.packet r.c.sh hpk (by omega)) ?_
 rw [ef]
 (have hQq := trivial; repeat ((first | clear hQq | (with_reducible first | refine A3 ?_ | refine A4 fun _ => ?_ | refine A5 fun _ => ?_)); (try simp (disch := first | omega | assumption | ((repeat (first | exact A0 | exact Up.here | apply A1 | apply Up.there)); first | done | fail) | (simp; first | done | omega | fail)) [])))
 exact A9 rfl
theorem C07 (ts : List (Value × List EnV)) (pl : List Nat) (h : pl.length = ts.length) : p8 ((ts.map (·.2)).zip pl) = (ts.map fun t => F3 t.2 1).sum := by
 unfold p8
 have e : ((ts.map (·.2)).zip pl).map (fun t => F3 t.1 1) = (((ts.map (·.2)).zip pl).map Prod.fst).map fun l => F3 l 1 := by rw [List.map_map]; rfl
 rw [e, List.map_fst_zip (by simp [h]), List.map_map]; rfl
theorem C2Z (l : List Nat) (i : Nat) (h : i < l.length) : (l.take (i + 1)).sum = (l.take i).sum + l[i] := by
 rw [List.take_add_one, List.getElem?_eq_getElem h, List.sum_append]; simp
theorem C4u (l : List Nat) (k : Nat) (h : ∀ x ∈ l, x ≤ k) : l.sum ≤ l.length * k := by
 induction l with
 | nil => simp
 | cons x l ih =>
  have h1 := ih fun y hy => h y (List.mem_cons_of_mem _ hy)
  have h2 := h x (List.mem_cons_self ..)
  rw [List.sum_cons, List.length_cons, Nat.add_mul]; omega
theorem C0D (hr : RmOk w r) (hv : E3 w v o.pool.length (o.pool.flatMap E8)) (hk : o.kind = 3) :
  Fn PR B5 21 #[r.val, o.val v, .int .i64 now] w (fun u w' => u = .tuple #[r.val, (S5 r.st o now).2.val] ∧ C0 [] w w') := by
 refine Fn.pure (M1 (TW.go (κ := false) (S := []) ?_))
 unfold H9
 rw [B21 r.st o now hk]
 unfold A7E
 have hlz : p8 r.st.tabs = (r.ts.map fun t => F3 t.2 1).sum := C07 r.ts r.pl hr.pl
 rw [hlz]
 have htab := hr.tab
 have hlen := hr.len
 have hfew := hr.few
 obtain ⟨pa, pc, e1, _⟩ := hr.pv.form
 obtain ⟨ta, tc, e2, htr⟩ := hr.tv.form
 obtain ⟨la, lc, e3, _⟩ := hr.lv.form
 obtain ⟨va, vc, rfl, _⟩ := hv.form
 obtain ⟨tb, tp, rfl, hrow⟩ := htr hr.pos
 simp only [RmH.val, RmH.cs, OpV.val, e1, e2, e3]
 (have hQq := trivial; repeat ((first | clear hQq | (with_reducible first | refine A3 ?_ | refine A4 fun _ => ?_ | refine A5 fun _ => ?_)); (try simp (disch := first | omega | assumption | ((repeat (first | exact A0 | exact Up.here | apply A1 | apply Up.there)); first | done | fail) | (simp; first | done | omega | fail)) [hk])))
 rename_i b1 b2 b3 b4
 refine K3 (α := Unit) r.ts.length (fun i _ => .int .i64 (((r.ts.map fun t => F3 t.2 1).take i).sum : Nat)) (fun i _ => [.pt b4 (.cells #[.int .i64 0, .int .i64 0, .bool false, .int .i64 0] 39),
  .pt b3 (.cells #[.int .i64 0, .int .i64 0, .int .i64 0, .int .i64 0, .int .i64 0, .slice none 0 0, .slice none 0 0, .slice none 0 0] 36),
  .pt b2 (.cells #[.int .i64 3, .string o.packet, .slice va o.pool.length vc, .int .i64 o.shard] 42),
  .pt b1 (.cells #[.int .i64 r.c.wk, .int .i64 r.c.sh, .int .i64 r.c.cp, .int .i64 r.c.idle, .int .i64 r.c.sl, .slice pa r.pool.length pc, .slice (some ⟨tb, tp, none⟩) r.ts.length tc, .slice la r.pl.length lc] 36)]) (fun _ _ => True) () trivial ?_
 rintro i _ hi _ L hL
 have hle : ((r.ts.map fun t => F3 t.2 1).take i).sum ≤ 1000 * 1000000 := by
  have h1 := C4u ((r.ts.map fun t => F3 t.2 1).take i) 1000000 fun x hx => by
   obtain ⟨t, ht, rfl⟩ := List.mem_map.1 (List.mem_of_mem_take hx)
   have h2 := hlen t ht
   have h3 : F3 t.2 1 ≤ t.2.length := List.countP_le_length
   omega
  have h4 : ((r.ts.map fun t => F3 t.2 1).take i).length ≤ 1000 := by simp; omega
  exact Nat.le_trans h1 (Nat.mul_le_mul_right 1000000 h4)
 by_cases hlt : i < r.ts.length
 ·have hx : r.ts[i]? = some r.ts[i] := List.getElem?_eq_getElem hlt
  have hsum := C2Z (r.ts.map fun t => F3 t.2 1) i (by simpa using hlt)
  rw [List.getElem_map] at hsum
  have h1 := hrow.get (i := i) (v := r.ts[i].1) (by rw [List.getElem?_map, hx]; rfl)
  have hmem := List.getElem_mem hlt
  have hxl := hlen _ hmem
  have hxt := htab _ hmem
  have hct : F3 r.ts[i].2 1 ≤ r.ts[i].2.length := List.countP_le_length
  have h := hL hlt () trivial
  rw [hsum] at h
  generalize r.ts[i] = x at *
  generalize ((r.ts.map fun t => F3 t.2 1).take i).sum = q at *
  (have hQq := trivial; repeat ((first | clear hQq | (with_reducible first | refine A3 ?_ | refine A4 fun _ => ?_ | refine A5 fun _ => ?_)); (try simp (disch := first | omega | assumption | ((repeat (first | exact A0 | exact Up.here | apply A1 | apply Up.there)); first | done | fail) | (simp; first | done | omega | fail)) [hlt, h1])))
  refine B7 q6 (fun w' hw' => B1p w' _ x.2 1 hxl (hxt.ks hw'.ks (by simp))) ?_
  (have hQq := trivial; repeat ((first | clear hQq | (with_reducible first | refine A3 ?_ | refine A4 fun _ => ?_ | refine A5 fun _ => ?_)); (try simp (disch := first | omega | assumption | ((repeat (first | exact A0 | exact Up.here | apply A1 | apply Up.there)); first | done | fail) | (simp; first | done | omega | fail)) [])))
  rw [show (((q + F3 x.2 1 : Nat)) : Int) = (q : Int) + (F3 x.2 1 : Nat) by omega] at h
  exact Sels.tw (by ((repeat (first | exact Sels.nil | (apply Sels.cons; · ((repeat (first | exact A0 | exact Up.here | exact Sel.here | apply A1 | apply Up.there | apply Sel.there)); first | done | fail)))); first | done | fail)) h
 ·obtain rfl : i = r.ts.length := by omega
  have e : ((r.ts.map fun t => F3 t.2 1).take r.ts.length).sum = (r.ts.map fun t => F3 t.2 1).sum := by rw [List.take_of_length_le (by simp)]
  rw [e]
  (have hQq := trivial; repeat ((first | clear hQq | (with_reducible first | refine A3 ?_ | refine A4 fun _ => ?_ | refine A5 fun _ => ?_)); (try simp (disch := first | omega | assumption | ((repeat (first | exact A0 | exact Up.here | apply A1 | apply Up.there)); first | done | fail) | (simp; first | done | omega | fail)) [])))
  exact A9 (by simp [AnsV.val])
theorem C5S (hr : RmOk w r) : r.st.tabs.length = r.ts.length := by have := hr.pl; simp [RmH.st, this]
theorem C2G (hr : RmOk w r) (hv : E3 w v o.pool.length (o.pool.flatMap E8)) (hk : o.kind = 2) (hb : o.shard < 0 ∨ r.c.sh ≤ o.shard) :
  Fn PR B5 21 #[r.val, o.val v, .int .i64 now] w (fun u w' => u = .tuple #[r.val, (S5 r.st o now).2.val] ∧ C0 [] w w') := by
 refine Fn.pure (M1 (TW.go (κ := false) (S := []) ?_))
 unfold H9
 rw [C0U r.st o now hk]
 have e : A02 r.st o.shard now = (r.st, ⟨1, 0, false, 0⟩) := by unfold A02; rw [if_pos (by rw [C5S w r hr, ← hr.sh]; exact hb)]
 rw [e]
 obtain ⟨pa, pc, e1, _⟩ := hr.pv.form
 obtain ⟨ta, tc, e2, _⟩ := hr.tv.form
 obtain ⟨la, lc, e3, _⟩ := hr.lv.form
 obtain ⟨va, vc, rfl, _⟩ := hv.form
 simp only [RmH.val, RmH.cs, OpV.val, e1, e2, e3]
 by_cases c1 : o.shard < 0
 ·(have hQq := trivial; repeat ((first | clear hQq | (with_reducible first | refine A3 ?_ | refine A4 fun _ => ?_ | refine A5 fun _ => ?_)); (try simp (disch := first | omega | assumption | ((repeat (first | exact A0 | exact Up.here | apply A1 | apply Up.there)); first | done | fail) | (simp; first | done | omega | fail)) [hk, c1])))
  exact A9 rfl
 ·have c2 : r.c.sh ≤ o.shard := by omega
  (have hQq := trivial; repeat ((first | clear hQq | (with_reducible first | refine A3 ?_ | refine A4 fun _ => ?_ | refine A5 fun _ => ?_)); (try simp (disch := first | omega | assumption | ((repeat (first | exact A0 | exact Up.here | apply A1 | apply Up.there)); first | done | fail) | (simp; first | done | omega | fail)) [hk, c1, c2])))
  exact A9 rfl
theorem B67 {l : List EnV} {f n now : Int} (h : (E6 l f n now).2.2 = 0) : (E6 l f n now).1 = l := by
 unfold E6 at h ⊢
 simp only at h ⊢
 rw [if_neg (by omega)]
 exact A90 l _ _ now h
theorem C3q {κ : Bool} {S : List Nat} {w0 : World} {H : List Res} {K0 : WP} {c : Prop} [Decidable c] {y x : Value} {l : List EnV} (hx : ∃ a n c, x = Value.slice a n c)
  (h : (∃ a n d, (if c then x else y) = Value.slice a n d) → TW κ S w0 (M2 (if c then [] else [(y, l)]) :: H) K0) : TW κ S w0 ((if c then [] else [F2 y l]) ++ H) K0 := by
 by_cases hc : c
 ·simp only [if_pos hc] at h ⊢
  exact A14 (h hx)
 ·simp only [if_neg hc] at h ⊢
  refine V5 (e := 71) (k := 4) (v := y) (q := l.length) (xs := l.flatMap E1) A0 fun a d e => ?_
  refine A14 ?_
  exact A45 (r := y) (l := l) (ts := []) (Hk := H) (Part.cons (.there .here) (Part.cons .here Part.nil)) (h ⟨a, _, d, e⟩)
theorem C2T (hr : RmOk w r) (hv : E3 w v o.pool.length (o.pool.flatMap E8)) (hk : o.kind = 2) (i : Nat) (hi : o.shard = i) (hb : i < r.ts.length) (x : Value × List EnV) (hx : r.ts[i]? = some x) (pn : Nat) (hpn : r.pl[i]? = some pn) (hsw : (E6 x.2 pn 4 now).2.1 ≤ 1000000) :
  Fn PR B5 21 #[r.val, o.val v, .int .i64 now] w (Rn [] w (fun (y : Value × Value × Value) u => u = .tuple #[RmH.val { r with tv := y.1, lv := y.2.1 }, AnsV.val ⟨0, 0, false, ((E6 x.2 pn 4 now).2.2 : Nat)⟩])
   fun y => [.own 50 1 y.1 r.ts.length ((r.ts.map (·.1)).set i (if (E6 x.2 pn 4 now).2.2 = 0 then x.1 else y.2.2)), .own 3 1 y.2.1 r.pl.length (Y1 (r.pl.set i (E6 x.2 pn 4 now).2.1)), M2 (if (E6 x.2 pn 4 now).2.2 = 0 then [] else [(y.2.2, (E6 x.2 pn 4 now).1)])]) := by
 refine M1 (TW.go (κ := false) (S := []) ?_)
 unfold H9
 have hsh := hr.sh
 have hfew := hr.few
 have hpl := hr.pl
 have hmem := List.mem_of_getElem? hx
 have hlv := hr.lv
 have hxt := hr.tab x hmem
 have hxk := hr.keys x hmem
 have hxl := hr.len x hmem
 have htv := hr.tv
 have hforms : ∀ y ∈ r.ts.map (·.1), ∃ a n c, y = Value.slice a n c := fun y hy => by
  obtain ⟨t, ht, rfl⟩ := List.mem_map.1 hy
  obtain ⟨a, c, e, _⟩ := (hr.tab t ht).form
  exact ⟨a, _, c, e⟩
 obtain ⟨pa, pc, e1, _⟩ := hr.pv.form
 obtain ⟨ta, tc, e2, htr⟩ := hr.tv.form
 obtain ⟨la, lc, e3, hlr⟩ := hr.lv.form
 obtain ⟨va, vc, rfl, _⟩ := hv.form
 obtain ⟨tb, tp, rfl, hrow⟩ := htr hr.pos
 obtain ⟨lb, lp, rfl, hrow2⟩ := hlr (by omega)
 have h1 := hrow.get (i := i) (v := x.1) (by rw [List.getElem?_map, hx]; rfl)
 have h2 := hrow2.get (i := i) (v := .int .i64 (pn : Int)) (by unfold Y1; rw [List.getElem?_map, hpn]; rfl)
 rw [e2] at htv
 rw [e3] at hlv
 simp only [RmH.val, RmH.cs, OpV.val, e1, e2, e3]
 have c1 : ¬ ((i : Nat) : Int) < 0 := by omega
 have c2 : ¬ r.c.sh ≤ ((i : Nat) : Int) := by omega
 have c3 : i < r.pl.length := by omega
 (have hQq := trivial; repeat ((first | clear hQq | (with_reducible first | refine A3 ?_ | refine A4 fun _ => ?_ | refine A5 fun _ => ?_)); (try simp (disch := first | omega | assumption | ((repeat (first | exact A0 | exact Up.here | apply A1 | apply Up.there)); first | done | fail) | (simp; first | done | omega | fail)) [hk, hi, c1, c2, h1, h2, hb, c3])))
 rename_i b1 b2 b3 b4
 refine F8 A4d (fun w' hw' => C0r w' x.1 x.2 pn 4 now hxk hxl (hxt.ks hw'.ks (by simp))) ?_
 intro y u hu
 subst hu
 generalize E6 x.2 pn 4 now = sw at *
 obtain ⟨s1, s2, s3⟩ := sw
 simp only at hsw ⊢
 refine C3q (hforms _ (List.mem_map.2 ⟨x, hmem, rfl⟩)) ?_
 generalize hnts : (if s3 = 0 then [] else [(y, s1)]) = nts
 generalize htt : (if s3 = 0 then x.1 else y) = tt
 rintro ⟨a', n', c', rfl⟩
 have hlp0 := hlv
 have hil : (Y1 r.pl).length = r.pl.length := by simp [Y1]
 have hil2 : (Y1 r.pl).all plain = true := by rw [List.all_eq_true]; intro z hz; obtain ⟨q, _, rfl⟩ := List.mem_map.1 hz; rfl
 (have hQq := trivial; repeat ((first | clear hQq | (with_reducible first | refine A3 ?_ | refine A4 fun _ => ?_ | refine A5 fun _ => ?_ | refine D4 fun _ => ?_ | refine D3 (hK := fun _ => ?_) | refine D1 (hK := fun _ => ?_) | refine D2 (hK := fun _ => ?_) | refine D6 (hK := fun _ => ?_) | refine D5 (hK := fun _ => ?_))); (try simp (disch := first | omega | assumption | ((repeat (first | exact A0 | exact Up.here | apply A1 | apply Up.there)); first | done | fail) | (simp; first | done | omega | fail)) [])))
 refine l0 (e := 3) (k := 1) (q := 0) (r := r.pl.length) (xs := []) (news := Y1 r.pl) (by ((repeat (first | exact A0 | exact Up.here | exact Sel.here | apply A1 | apply Up.there | apply Sel.there)); first | done | fail)) (fun w' hw' => hlv.ks hw'.ks (by simp)) (by decide) (by rw [hil]; omega) hil2 (by simp only [maxLen]; omega) (by omega) fun na nc => ?_
 rw [Nat.zero_add, List.nil_append]
 refine A1T (e := 3) (k := 1) (v := .slice na r.pl.length nc) (q := r.pl.length) (xs := Y1 r.pl) (by ((repeat (first | exact A0 | exact Up.here | exact Sel.here | apply A1 | apply Up.there | apply Sel.there)); first | done | fail)) (by omega) fun g gc hg => ?_
 cases hg
 (have hQq := trivial; repeat ((first | clear hQq | (with_reducible first | refine A3 ?_ | refine A4 fun _ => ?_ | refine A5 fun _ => ?_)); (try simp (disch := first | omega | assumption | ((repeat (first | exact A0 | exact Up.here | apply A1 | apply Up.there)); first | done | fail) | (simp; first | done | omega | fail)) [c3])))
 refine f8 (n := 1) (by ((repeat (first | exact A0 | exact Up.here | exact Sel.here | apply A1 | apply Up.there | apply Sel.there)); first | done | fail)) rfl (by rw [hil]; omega) rfl ?_
 have hset : A0J (Y1 r.pl) i [.int .i64 (s2 : Int)] = Y1 (r.pl.set i s2) := by
  rw [B5N (by rw [hil]; exact c3), Y1, Y1, List.map_set]
 have ev : (Value.int IntKind.i64 (s2 : Int)).cells.toList = [.int .i64 (s2 : Int)] := rfl
 rw [ev, hset]
 (have hQq := trivial; repeat ((first | clear hQq | (with_reducible first | refine A3 ?_ | refine A4 fun _ => ?_ | refine A5 fun _ => ?_)); (try simp (disch := first | omega | assumption | ((repeat (first | exact A0 | exact Up.here | apply A1 | apply Up.there)); first | done | fail) | (simp; first | done | omega | fail)) [])))
 refine F8 g9 (fun w' hw' => B3c w' r.c (.slice pa r.pool.length pc) (.slice (some ⟨tb, tp, none⟩) r.ts.length tc) (.slice (some ⟨g, 0, none⟩) r.pl.length nc) (.slice a' n' c') (r.ts.map (·.1)) i (by simpa using hfew) ⟨_, _, _, rfl⟩ ⟨_, _, _, rfl⟩ ⟨_, _, _, rfl⟩ hforms (by simpa using htv.ks hw'.ks (by simp))) ?_
 intro z u hz
 subst hz
 refine V5 (e := 50) (k := 1) (v := z) (q := (r.ts.map (·.1)).length) (xs := (r.ts.map (·.1)).set i (.slice a' n' c')) (by ((repeat (first | exact A0 | exact Up.here | exact Sel.here | apply A1 | apply Up.there | apply Sel.there)); first | done | fail)) fun za zc hz => ?_
 subst hz
 (have hQq := trivial; repeat ((first | clear hQq | (with_reducible first | refine A3 ?_ | refine A4 fun _ => ?_ | refine A5 fun _ => ?_)); (try simp (disch := first | omega | assumption | ((repeat (first | exact A0 | exact Up.here | apply A1 | apply Up.there)); first | done | fail) | (simp; first | done | omega | fail)) [])))
 refine C6 (.slice za (r.ts.map (·.1)).length zc, .slice (some ⟨g, 0, none⟩) r.pl.length nc, y) (by simp [AnsV.val]) ?_
 simp only [hnts, htt, List.length_map]
 ((repeat (first | exact Sels.nil | (apply Sels.cons; · ((repeat (first | exact A0 | exact Up.here | exact Sel.here | apply A1 | apply Up.there | apply Sel.there)); first | done | fail)))); first | done | fail)
theorem B5S {κ : Bool} {S : List Nat} {w0 : World} {H : List Res} {K0 : WP} {c : Prop} [Decidable c] {y x : Value} {l : List EnV} (hx : ∃ a n c, x = Value.slice a n c)
  (h : (∃ a n d, (if c then y else x) = Value.slice a n d) → TW κ S w0 (M2 (if c then [(y, l)] else []) :: H) K0) : TW κ S w0 ((if c then [F2 y l] else []) ++ H) K0 := by
 by_cases hc : c
 ·simp only [if_pos hc] at h ⊢
  refine V5 (e := 71) (k := 4) (v := y) (q := l.length) (xs := l.flatMap E1) A0 fun a d e => ?_
  refine A14 ?_
  exact A45 (r := y) (l := l) (ts := []) (Hk := H) (Part.cons (.there .here) (Part.cons .here Part.nil)) (h ⟨a, _, d, e⟩)
 ·simp only [if_neg hc] at h ⊢
  exact A14 (h hx)
theorem C4B (hr : RmOk w r) (hv : E3 w v o.pool.length (o.pool.flatMap E8)) (hpk : o.packet.size < 2 ^ 40) (hk : o.kind = 0) (hb : (C3 o.packet).2.2 = 0) (key : ByteArray) (cl : Bool) (hkey : U6 (C3 o.packet).1 = key) (hcl : S0 (C3 o.packet).1 (C3 o.packet).2.1 = cl) (i : Nat) (hi : M0 key r.c.sh = i)
  (x : Value × List EnV) (hx : r.ts[i]? = some x) (dv : List EnV × AnsV × Bool) (hdv : D7 x.2 r.pool key cl now r.c.idle = dv) :
  Fn PR B5 21 #[r.val, o.val v, .int .i64 now] w (Rn [] w (fun (y : Value × Value) u => u = .tuple #[RmH.val { r with tv := y.1 }, dv.2.1.val])
   fun y => [.own 50 1 y.1 r.ts.length ((r.ts.map (·.1)).set i (if dv.2.2 then y.2 else x.1)), M2 (if dv.2.2 then [(y.2, dv.1)] else [])]) := by
 refine M1 (TW.go (κ := false) (S := []) ?_)
 unfold H9
 have hsh := hr.sh
 have hfew := hr.few
 have hmem := List.mem_of_getElem? hx
 have hxt := hr.tab x hmem
 have hxk := hr.keys x hmem
 have hxl := hr.len x hmem
 have htv := hr.tv
 have hpv := hr.pv
 have hpool := hr.pool
 have hkey60 := A41 (C3 o.packet).1
 rw [hkey] at hkey60
 have hil : i < r.ts.length := (List.getElem?_eq_some_iff.1 hx).1
 have hforms : ∀ y ∈ r.ts.map (·.1), ∃ a n c, y = Value.slice a n c := fun y hy => by
  obtain ⟨t, ht, rfl⟩ := List.mem_map.1 hy
  obtain ⟨a, c, e, _⟩ := (hr.tab t ht).form
  exact ⟨a, _, c, e⟩
 obtain ⟨pa, pc, e1, _⟩ := hr.pv.form
 obtain ⟨ta, tc, e2, htr⟩ := hr.tv.form
 obtain ⟨la, lc, e3, hlr⟩ := hr.lv.form
 obtain ⟨va, vc, rfl, _⟩ := hv.form
 obtain ⟨tb, tp, rfl, hrow⟩ := htr hr.pos
 have h1 := hrow.get (i := i) (v := x.1) (by rw [List.getElem?_map, hx]; rfl)
 have hD := fun (w' : World) h1 h2 => B6s w' x.1 (.slice pa r.pool.length pc) x.2 r.pool key cl now r.c.idle hkey60 hxk hxl hpool h1 h2
 rw [hdv] at hD
 obtain ⟨d1, ⟨a1, a2, a3, a4⟩, d3⟩ := dv
 have ef : A9f o.packet r.c.sh = .agg #[.string key, .int .i64 (i : Nat), .bool cl, .int .i64 0] := by unfold A9f; rw [if_neg (by simp [hb]), hkey, hcl, hi]
 rw [e2] at htv
 rw [e1] at hpv
 simp only [RmH.val, RmH.cs, OpV.val, e1, e2, e3]
 (have hQq := trivial; repeat ((first | clear hQq | (with_reducible first | refine A3 ?_ | refine A4 fun _ => ?_ | refine A5 fun _ => ?_)); (try simp (disch := first | omega | assumption | ((repeat (first | exact A0 | exact Up.here | apply A1 | apply Up.there)); first | done | fail) | (simp; first | done | omega | fail)) [hk])))
 refine B7 x9 (fun w' hw' => B3L w' o.packet r.c.sh hpk (by omega)) ?_
 rw [ef]
 (have hQq := trivial; repeat ((first | clear hQq | (with_reducible first | refine A3 ?_ | refine A4 fun _ => ?_ | refine A5 fun _ => ?_)); (try simp (disch := first | omega | assumption | ((repeat (first | exact A0 | exact Up.here | apply A1 | apply Up.there)); first | done | fail) | (simp; first | done | omega | fail)) [h1, hil])))
 rename_i b1 b2 b3 b4 b5
 simp only at hD
 have hx1 := hforms _ (List.mem_map.2 ⟨x, hmem, rfl⟩)
 refine B15 (α := Nat × Value) (fun y => ∃ a n c, (if d3 = true then y.2 else x.1) = Value.slice a n c) (fun y => [.pt y.1 (.cells #[.int .i64 a1, .int .i64 a2, .bool a3, .int .i64 a4] 39), M2 (if d3 = true then [(y.2, d1)] else []),
  .pt b5 (.cells #[.string key, .int .i64 (i : Nat), .bool cl, .int .i64 0] 119), .pt b4 (.cells #[.int .i64 0, .int .i64 0, .bool false, .int .i64 0] 39),
  .pt b3 (.cells #[.int .i64 0, .int .i64 0, .int .i64 0, .int .i64 0, .int .i64 0, .slice none 0 0, .slice none 0 0, .slice none 0 0] 36),
  .pt b1 (.cells #[.int .i64 r.c.wk, .int .i64 r.c.sh, .int .i64 r.c.cp, .int .i64 r.c.idle, .int .i64 r.c.sl, .slice pa r.pool.length pc, .slice (some ⟨tb, tp, none⟩) r.ts.length tc, .slice la r.pl.length lc] 36)])
  (fun y => .pointer (some ⟨y.1, 0, none⟩)) (fun y => if d3 = true then y.2 else x.1) ?_ ?_
 ·rintro ⟨ba, y⟩ ⟨ta', tn', tc', hy⟩
  simp only at hy ⊢
  rw [hy]
  (have hQq := trivial; repeat ((first | clear hQq | (with_reducible first | refine A3 ?_ | refine A4 fun _ => ?_ | refine A5 fun _ => ?_)); (try simp (disch := first | omega | assumption | ((repeat (first | exact A0 | exact Up.here | apply A1 | apply Up.there)); first | done | fail) | (simp; first | done | omega | fail)) [])))
  refine F8 g9 (fun w' hw' => B3c w' r.c (.slice pa r.pool.length pc) (.slice (some ⟨tb, tp, none⟩) r.ts.length tc) (.slice la r.pl.length lc) (.slice ta' tn' tc') (r.ts.map (·.1)) i (by simpa using hfew) ⟨_, _, _, rfl⟩ ⟨_, _, _, rfl⟩ ⟨_, _, _, rfl⟩ hforms (by simpa using htv.ks hw'.ks (by simp))) ?_
  intro z u hz
  subst hz
  refine V5 (e := 50) (k := 1) (v := z) (q := (r.ts.map (·.1)).length) (xs := (r.ts.map (·.1)).set i (.slice ta' tn' tc')) (by ((repeat (first | exact A0 | exact Up.here | exact Sel.here | apply A1 | apply Up.there | apply Sel.there)); first | done | fail)) fun za zc hz => ?_
  subst hz
  rw [S6 (by ((repeat (first | exact A0 | exact Up.here | exact Sel.here | apply A1 | apply Up.there | apply Sel.there)); first | done | fail)) (by rfl)]
  (have hQq := trivial; repeat ((first | clear hQq | (with_reducible first | refine A3 ?_ | refine A4 fun _ => ?_ | refine A5 fun _ => ?_)); (try simp (disch := first | omega | assumption | ((repeat (first | exact A0 | exact Up.here | apply A1 | apply Up.there)); first | done | fail) | (simp; first | done | omega | fail)) [])))
  rw [S6 (by ((repeat (first | exact A0 | exact Up.here | exact Sel.here | apply A1 | apply Up.there | apply Sel.there)); first | done | fail)) (by rfl)]
  (have hQq := trivial; repeat ((first | clear hQq | (with_reducible first | refine A3 ?_ | refine A4 fun _ => ?_ | refine A5 fun _ => ?_)); (try simp (disch := first | omega | assumption | ((repeat (first | exact A0 | exact Up.here | apply A1 | apply Up.there)); first | done | fail) | (simp; first | done | omega | fail)) [])))
  refine C6 (.slice za (r.ts.map (·.1)).length zc, y) (by simp [AnsV.val]) ?_
  simp only [hy, List.length_map]
  ((repeat (first | exact Sels.nil | (apply Sels.cons; · ((repeat (first | exact A0 | exact Up.here | exact Sel.here | apply A1 | apply Up.there | apply Sel.there)); first | done | fail)))); first | done | fail)
 ·intro J hJ
  (have hQq := trivial; repeat ((first | clear hQq | (with_reducible first | refine A3 ?_ | refine A4 fun _ => ?_ | refine A5 fun _ => ?_)); (try simp (disch := first | omega | assumption | ((repeat (first | exact A0 | exact Up.here | apply A1 | apply Up.there)); first | done | fail) | (simp; first | done | omega | fail)) [h1, hil])))
  refine ⟨?_, ?_⟩
  ·refine F8 p5 (fun w' hw' => hD w' (hxt.ks hw'.ks (by simp)) (hpv.ks hw'.ks (by simp))) ?_
   intro y u hu
   subst hu
   refine B5S hx1 fun hy => ?_
   have hJ' := fun bx => hJ (bx, y) hy
   simp only at hJ'
   generalize (if d3 = true then y else x.1) = tt at *
   generalize (if d3 = true then [(y, d1)] else []) = nts at *
   (have hQq := trivial; repeat ((first | clear hQq | (with_reducible first | refine A3 ?_ | refine A4 fun _ => ?_ | refine A5 fun _ => ?_)); (try simp (disch := first | omega | assumption | ((repeat (first | exact A0 | exact Up.here | apply A1 | apply Up.there)); first | done | fail) | (simp; first | done | omega | fail)) [AnsV.val])))
   rename_i bx
   exact Sels.tw (by ((repeat (first | exact Sels.nil | (apply Sels.cons; · ((repeat (first | exact A0 | exact Up.here | exact Sel.here | apply A1 | apply Up.there | apply Sel.there)); first | done | fail)))); first | done | fail)) (hJ' bx)
  ·refine ⟨?_, fun _ _ => trivial⟩
   (have hQq := trivial; repeat ((first | clear hQq | (with_reducible first | refine A3 ?_ | refine A4 fun _ => ?_ | refine A5 fun _ => ?_)); (try simp (disch := first | omega | assumption | ((repeat (first | exact A0 | exact Up.here | apply A1 | apply Up.there)); first | done | fail) | (simp; first | done | omega | fail)) [h1, hil])))
   rename_i bx
   refine F8 p5 (fun w' hw' => hD w' (hxt.ks hw'.ks (by simp)) (hpv.ks hw'.ks (by simp))) ?_
   intro y u hu
   subst hu
   refine B5S hx1 fun hy => ?_
   have hJ' := hJ (bx, y) hy
   simp only at hJ'
   generalize (if d3 = true then y else x.1) = tt at *
   generalize (if d3 = true then [(y, d1)] else []) = nts at *
   (have hQq := trivial; repeat ((first | clear hQq | (with_reducible first | refine A3 ?_ | refine A4 fun _ => ?_ | refine A5 fun _ => ?_)); (try simp (disch := first | omega | assumption | ((repeat (first | exact A0 | exact Up.here | apply A1 | apply Up.there)); first | done | fail) | (simp; first | done | omega | fail)) [AnsV.val])))
   exact Sels.tw (by ((repeat (first | exact Sels.nil | (apply Sels.cons; · ((repeat (first | exact A0 | exact Up.here | exact Sel.here | apply A1 | apply Up.there | apply Sel.there)); first | done | fail)))); first | done | fail)) hJ'
end
end Go.Proofs.YtggakcpabomliaaGreat
namespace Go.Proofs.YtggakcpabomliaaGreat
open Go
def A0F (r : RmH) : List Res := [.own 50 1 r.tv r.ts.length (r.ts.map (·.1)), .own 3 1 r.lv r.pl.length (Y1 r.pl), M2 r.ts]
theorem B7T (n : Nat) : (Builtin.zeroCells (Value.int .i64 0).cells n).toList = Y1 (List.replicate n 0) := by
 have hz : (Builtin.zeroCells (Value.int .i64 0).cells n).toList.length = n := by simp [size_zeroCells]
 apply List.ext_getElem (by rw [hz]; simp [Y1])
 intro i h1 h2
 simp [Builtin.zeroCells, Y1, Nat.mod_one]
theorem C24 (w : World) (c : CfgV) (hok : V3 c = true) : Fn PR B5 19 #[c.val] w (Rn [] w (fun (y : RmH) u => u = y.val ∧ y.c = c ∧ y.pool = [] ∧ y.pv = .slice none 0 0 ∧ y.ts.map (·.2) = List.replicate c.sh.toNat (newE c.cp.toNat) ∧ y.pl = List.replicate c.sh.toNat 0) A0F) := by
 refine A61 (TW.go (κ := false) (S := []) ?_)
 unfold A1C
 simp only [CfgV.val]
 have hb : 1 ≤ c.sh ∧ c.sh ≤ 16 ∧ 1 ≤ c.cp ∧ c.cp ≤ 64 := by
  simp [V3, V2] at hok; omega
 obtain ⟨n, hn⟩ : ∃ n : Nat, c.sh = n := ⟨c.sh.toNat, by omega⟩
 obtain ⟨k, hk⟩ : ∃ k : Nat, c.cp = k := ⟨c.cp.toNat, by omega⟩
 rw [hn] at hb
 rw [hk] at hb
 rw [hn, hk]
 (have hQq := trivial; repeat ((first | clear hQq | (with_reducible first | refine A3 ?_ | refine A4 fun _ => ?_ | refine A5 fun _ => ?_)); (try simp (disch := first | omega | assumption | ((repeat (first | exact A0 | exact Up.here | apply A1 | apply Up.there)); first | done | fail) | (simp; first | done | omega | fail)) [])))
 rename_i b1 b2
 refine C3U (α := Nat × Nat) (fun _ => True) (fun y => [.pt y.1 (.cells #[.int .i64 c.wk, .int .i64 n, .int .i64 k, .int .i64 c.idle, .int .i64 c.sl, .slice none 0 0, .slice none 0 0, .slice (some ⟨y.2, 0, none⟩) n n] 36), .own 3 1 (.slice (some ⟨y.2, 0, none⟩) n n) n (Y1 (List.replicate n 0)),
  .pt b2 (.cells #[.int .i64 0, .int .i64 0, .int .i64 0, .int .i64 0, .int .i64 0, .slice none 0 0, .slice none 0 0, .slice none 0 0] 36),
  .pt b1 (.cells #[.int .i64 c.wk, .int .i64 n, .int .i64 k, .int .i64 c.idle, .int .i64 c.sl] 23)]) (fun y => .pointer (some ⟨y.1, 0, none⟩)) ?_ ?_
 ·rintro ⟨bm, bs⟩ _
  simp only
  (have hQq := trivial; repeat ((first | clear hQq | (with_reducible first | refine A3 ?_ | refine A4 fun _ => ?_ | refine A5 fun _ => ?_)); (try simp (disch := first | omega | assumption | ((repeat (first | exact A0 | exact Up.here | apply A1 | apply Up.there)); first | done | fail) | (simp; first | done | omega | fail)) [])))
  refine A14 ?_
  refine l6 50 1 ?_
  refine B2P n (fun i (y : List (Value × List EnV) × Option Addr × Nat) => [.own 50 1 (.slice y.2.1 i y.2.2) i (y.1.map (·.1)), M2 y.1,
   .pt bm (.cells #[.int .i64 c.wk, .int .i64 n, .int .i64 k, .int .i64 c.idle, .int .i64 c.sl, .slice none 0 0, .slice y.2.1 i y.2.2, .slice (some ⟨bs, 0, none⟩) n n] 36), .own 3 1 (.slice (some ⟨bs, 0, none⟩) n n) n (Y1 (List.replicate n 0)),
   .pt b2 (.cells #[.int .i64 0, .int .i64 0, .int .i64 0, .int .i64 0, .int .i64 0, .slice none 0 0, .slice none 0 0, .slice none 0 0] 36),
   .pt b1 (.cells #[.int .i64 c.wk, .int .i64 n, .int .i64 k, .int .i64 c.idle, .int .i64 c.sl] 23)]) (fun i y => y.1.length = i ∧ y.1.map (·.2) = List.replicate i (newE k)) ([], none, 0) ⟨rfl, rfl⟩ ?_
  rintro i ⟨ts, ya, yc⟩ hi ⟨hlen, hmap⟩ L hL
  simp only at hlen hmap ⊢
  by_cases hlt : i < n
  ·(have hQq := trivial; repeat ((first | clear hQq | (with_reducible first | refine A3 ?_ | refine A4 fun _ => ?_ | refine A5 fun _ => ?_)); (try simp (disch := first | omega | assumption | ((repeat (first | exact A0 | exact Up.here | apply A1 | apply Up.there)); first | done | fail) | (simp; first | done | omega | fail)) [hlt])))
   refine F8 A0U (fun w' _ => B6B w' k (by omega)) ?_
   intro y u hu
   subst hu
   refine V5 (e := 71) (k := 4) (v := u) (q := (newE k).length) (xs := (newE k).flatMap E1) (by ((repeat (first | exact A0 | exact Up.here | exact Sel.here | apply A1 | apply Up.there | apply Sel.there)); first | done | fail)) fun ua uc hu => ?_
   subst hu
   (have hQq := trivial; repeat ((first | clear hQq | (with_reducible first | refine A3 ?_ | refine A4 fun _ => ?_ | refine A5 fun _ => ?_ | refine D4 fun _ => ?_ | refine D3 (hK := fun _ => ?_) | refine D1 (hK := fun _ => ?_) | refine D2 (hK := fun _ => ?_) | refine D6 (hK := fun _ => ?_) | refine D5 (hK := fun _ => ?_))); (try simp (disch := first | omega | assumption | ((repeat (first | exact A0 | exact Up.here | apply A1 | apply Up.there)); first | done | fail) | (simp; first | done | omega | fail)) [hlt])))
   refine l0 (e := 50) (k := 1) (q := i) (r := 1) (xs := ts.map (·.1)) (news := [.slice ua (newE k).length uc]) (by ((repeat (first | exact A0 | exact Up.here | exact Sel.here | apply A1 | apply Up.there | apply Sel.there)); first | done | fail)) (K6.own (by ((repeat (first | exact A0 | exact Up.here | exact Sel.here | apply A1 | apply Up.there | apply Sel.there)); first | done | fail))) (by decide) rfl (by simp) (by simp only [maxLen]; omega) (by omega) fun a' c' => ?_
   (have hQq := trivial; repeat ((first | clear hQq | (with_reducible first | refine A3 ?_ | refine A4 fun _ => ?_ | refine A5 fun _ => ?_)); (try simp (disch := first | omega | assumption | ((repeat (first | exact A0 | exact Up.here | apply A1 | apply Up.there)); first | done | fail) | (simp; first | done | omega | fail)) [])))
   refine A45 (r := .slice ua (newE k).length uc) (l := newE k) (ts := ts) (by ((repeat (first | exact Part.nil | (apply Part.cons; · ((repeat (first | exact A0 | exact Up.here | exact Sel.here | apply A1 | apply Up.there | apply Sel.there)); first | done | fail)))); first | done | fail)) ?_
   have h := hL hlt (ts ++ [(.slice ua (newE k).length uc, newE k)], a', c') ⟨by simp [hlen], by rw [List.map_append, hmap, List.replicate_succ']; rfl⟩
   simp only [List.map_append, List.map_cons, List.map_nil] at h
   exact Sels.tw (by ((repeat (first | exact Sels.nil | (apply Sels.cons; · ((repeat (first | exact A0 | exact Up.here | exact Sel.here | apply A1 | apply Up.there | apply Sel.there)); first | done | fail)))); first | done | fail)) h
  ·obtain rfl : i = n := by omega
   (have hQq := trivial; repeat ((first | clear hQq | (with_reducible first | refine A3 ?_ | refine A4 fun _ => ?_ | refine A5 fun _ => ?_)); (try simp (disch := first | omega | assumption | ((repeat (first | exact A0 | exact Up.here | apply A1 | apply Up.there)); first | done | fail) | (simp; first | done | omega | fail)) [])))
   refine C6 ⟨.slice none 0 0, .slice ya i yc, .slice (some ⟨bs, 0, none⟩) i i, c, [], ts, List.replicate i 0⟩ ⟨by simp [RmH.val, RmH.cs, hn, hk], rfl, rfl, rfl, by simpa using hmap, by simp⟩ ?_
   simp only [A0F, hlen, List.length_replicate]
   ((repeat (first | exact Sels.nil | (apply Sels.cons; · ((repeat (first | exact A0 | exact Up.here | exact Sel.here | apply A1 | apply Up.there | apply Sel.there)); first | done | fail)))); first | done | fail)
 ·intro J hJ
  (have hQq := trivial; repeat ((first | clear hQq | (with_reducible first | refine A3 ?_ | refine A4 fun _ => ?_ | refine A5 fun _ => ?_)); (try simp (disch := first | omega | assumption | ((repeat (first | exact A0 | exact Up.here | apply A1 | apply Up.there)); first | done | fail) | (simp; first | done | omega | fail)) [])))
  refine ⟨?_, ?_⟩
  ·refine B2M (by omega) (by omega) (by omega) (by omega) fun bs => ?_
   rw [Int.toNat_natCast, B7T, S6 (by ((repeat (first | exact A0 | exact Up.here | exact Sel.here | apply A1 | apply Up.there | apply Sel.there)); first | done | fail)) (by rfl)]
   (have hQq := trivial; repeat ((first | clear hQq | (with_reducible first | refine A3 ?_ | refine A4 fun _ => ?_ | refine A5 fun _ => ?_)); (try simp (disch := first | omega | assumption | ((repeat (first | exact A0 | exact Up.here | apply A1 | apply Up.there)); first | done | fail) | (simp; first | done | omega | fail)) [])))
   rename_i bm
   rw [S6 (by ((repeat (first | exact A0 | exact Up.here | exact Sel.here | apply A1 | apply Up.there | apply Sel.there)); first | done | fail)) (by rfl)]
   (have hQq := trivial; repeat ((first | clear hQq | (with_reducible first | refine A3 ?_ | refine A4 fun _ => ?_ | refine A5 fun _ => ?_)); (try simp (disch := first | omega | assumption | ((repeat (first | exact A0 | exact Up.here | apply A1 | apply Up.there)); first | done | fail) | (simp; first | done | omega | fail)) [])))
   exact Sels.tw (by ((repeat (first | exact Sels.nil | (apply Sels.cons; · ((repeat (first | exact A0 | exact Up.here | exact Sel.here | apply A1 | apply Up.there | apply Sel.there)); first | done | fail)))); first | done | fail)) (hJ (bm, bs) trivial)
  ·refine ⟨?_, fun _ _ => trivial⟩
   (have hQq := trivial; repeat ((first | clear hQq | (with_reducible first | refine A3 ?_ | refine A4 fun _ => ?_ | refine A5 fun _ => ?_)); (try simp (disch := first | omega | assumption | ((repeat (first | exact A0 | exact Up.here | apply A1 | apply Up.there)); first | done | fail) | (simp; first | done | omega | fail)) [])))
   rename_i bm
   rw [S6 (by ((repeat (first | exact A0 | exact Up.here | exact Sel.here | apply A1 | apply Up.there | apply Sel.there)); first | done | fail)) (by rfl)]
   (have hQq := trivial; repeat ((first | clear hQq | (with_reducible first | refine A3 ?_ | refine A4 fun _ => ?_ | refine A5 fun _ => ?_)); (try simp (disch := first | omega | assumption | ((repeat (first | exact A0 | exact Up.here | apply A1 | apply Up.there)); first | done | fail) | (simp; first | done | omega | fail)) [])))
   refine B2M (by omega) (by omega) (by omega) (by omega) fun bs => ?_
   rw [Int.toNat_natCast, B7T, S6 (by ((repeat (first | exact A0 | exact Up.here | exact Sel.here | apply A1 | apply Up.there | apply Sel.there)); first | done | fail)) (by rfl)]
   (have hQq := trivial; repeat ((first | clear hQq | (with_reducible first | refine A3 ?_ | refine A4 fun _ => ?_ | refine A5 fun _ => ?_)); (try simp (disch := first | omega | assumption | ((repeat (first | exact A0 | exact Up.here | apply A1 | apply Up.there)); first | done | fail) | (simp; first | done | omega | fail)) [])))
   exact Sels.tw (by ((repeat (first | exact Sels.nil | (apply Sels.cons; · ((repeat (first | exact A0 | exact Up.here | exact Sel.here | apply A1 | apply Up.there | apply Sel.there)); first | done | fail)))); first | done | fail)) (hJ (bm, bs) trivial)
end Go.Proofs.YtggakcpabomliaaGreat
namespace Go.Proofs.YtggakcpabomliaaGreat
open Go
theorem B7J {α β : Type} (A : List α) : ∀ (B : List β) (i : Nat) (a : α) (b : β), (A.set i a).zip (B.set i b) = (A.zip B).set i (a, b) := by
 induction A with
 | nil => intro B i a b; simp
 | cons x A ih =>
  intro B i a b
  cases B with
  | nil => simp
  | cons y B => cases i with
   | zero => simp
   | succ i => simp [ih]
theorem B61 {α : Type} {l : List α} {i : Nat} {a : α} (h : l[i]? = some a) : l.set i a = l := by
 obtain ⟨h1, rfl⟩ := List.getElem?_eq_some_iff.1 h
 exact List.set_getElem_self h1
theorem C0F {p : List G5} (h : N5 p = 0) : p.length ≤ 1000 := by
 unfold N5 at h
 by_cases hc : p.length ≤ 32
 ·omega
 ·simp [hc] at h
theorem B6j (l : List EnV) (f n now : Int) (hn : l.length ≤ 1000000) : (E6 l f n now).2.1 ≤ 1000000 := by
 unfold E6
 simp only
 split
 ·have := Nat.mod_lt (G0 l f + Q2 l n) (show l.length > 0 by assumption); omega
 ·unfold G0; split <;> omega
section
variable {w0 : World} {H Hk : List Res} {K : Value → WP} {K0 : WP}
theorem C1g {κ : Bool} {S : List Nat} {ts nts ts' : List (Value × List EnV)} (hp : Part [M2 nts, M2 ts] H Hk) (hs : ∀ t ∈ ts', t ∈ nts ∨ t ∈ ts) (h : TW κ S w0 (M2 ts' :: Hk) K0) : TW κ S w0 H K0 := by
 refine A7k (r := M2 ts') hp (fun w hh => (fun t ht => ?_ : A33 ts' w)) (fun b hb => ?_) h
 ·rcases hs t ht with ht | ht
  ·exact (hh (M2 nts) (List.mem_cons_self ..) : A33 nts w) t ht
  ·exact (hh (M2 ts) (List.mem_cons_of_mem _ (List.mem_cons_self ..)) : A33 ts w) t ht
 ·have hb' : b ∈ r3 ts' := hb
  rw [r3, List.mem_flatMap] at hb'
  obtain ⟨t, ht, hbt⟩ := hb'
  rcases hs t ht with ht | ht
  ·exact N9.2 ⟨M2 nts, by simp, by show b ∈ r3 nts; rw [r3, List.mem_flatMap]; exact ⟨t, ht, hbt⟩⟩
  ·exact N9.2 ⟨M2 ts, by simp, by show b ∈ r3 ts; rw [r3, List.mem_flatMap]; exact ⟨t, ht, hbt⟩⟩
theorem B5B {r : RmH} (hpl : r.pl.length = r.ts.length) {t : Value × List EnV} (ht : t ∈ r.ts) : ∃ n, (t.2, n) ∈ r.st.tabs := by
 obtain ⟨i, hi⟩ := List.getElem?_of_mem ht
 have h1 := (List.getElem?_eq_some_iff.1 hi).1
 have h2 : r.pl[i]? = some r.pl[i] := List.getElem?_eq_getElem (by omega)
 refine ⟨r.pl[i], List.mem_of_getElem? (i := i) ?_⟩
 show ((r.ts.map (·.2)).zip r.pl)[i]? = _
 rw [List.getElem?_zip_eq_some]
 exact ⟨by rw [List.getElem?_map, hi]; rfl, h2⟩
theorem C6s {κ : Bool} {w w1 : World} {c : CfgV} {r : RmH} (hi : Inv c r.st) (hpl : r.pl.length = r.ts.length) (hpv : E3 w r.pv r.pool.length (r.pool.flatMap E8)) (hw : LW κ [] w1 H w) (hm : ∀ x ∈ A0F r, x ∈ H) : RmOk w r := by
 have hsh := hi.sh
 have hb := l7 hi.ok
 have hc : r.c = c := hi.cfg
 have hl : r.st.tabs.length = r.ts.length := by simp [RmH.st, hpl]
 rw [hl] at hsh
 refine ⟨P3.rd (hw.hold _ (hm _ A0)), P3.rd (hw.hold _ (hm _ (A1 A0))), fun t ht => r4 hw (hm _ (A1 (A1 A0))) ht, hpv, by omega, hpl, by omega, by rw [hc]; omega, fun t ht => ?_, fun t ht => ?_, C0F hi.pool⟩
 ·obtain ⟨n, hn⟩ := B5B hpl ht
  exact (hi.tab _ hn).keys
 ·obtain ⟨n, hn⟩ := B5B hpl ht
  have h1 := (hi.tab _ hn).len
  simp only at h1
  omega
theorem B5Y {r : RmH} {z v' : Value} {i : Nat} {l' : List EnV} {nts : List (Value × List EnV)} (hp : Part (.own 50 1 z r.ts.length ((r.ts.map (·.1)).set i v') :: M2 nts :: A0F r) H Hk) (hs : ∀ t ∈ r.ts.set i (v', l'), t ∈ nts ∨ t ∈ r.ts)
  (h : TW false [] w0 (A0F { r with tv := z, ts := r.ts.set i (v', l') } ++ Hk) K0) : TW false [] w0 H K0 := by
 refine TW.perm ?_ hp.perm
 simp only [A0F, List.cons_append, List.nil_append]
 refine C1g (nts := nts) (ts := r.ts) (ts' := r.ts.set i (v', l')) (by ((repeat (first | exact Part.nil | (apply Part.cons; · ((repeat (first | exact A0 | exact Up.here | exact Sel.here | apply A1 | apply Up.there | apply Sel.there)); first | done | fail)))); first | done | fail)) hs ?_
 refine C0B (r := .own 50 1 r.tv r.ts.length (r.ts.map (·.1))) (by ((repeat (first | exact A0 | exact Up.here | exact Sel.here | apply A1 | apply Up.there | apply Sel.there)); first | done | fail)) ?_
 simp only [A0F, List.map_set, List.length_set, List.cons_append, List.nil_append] at h
 exact TW.perm h (show Part [.own 50 1 z r.ts.length ((r.ts.map (·.1)).set i v'), .own 3 1 r.lv r.pl.length (Y1 r.pl), M2 (r.ts.set i (v', l'))] _ Hk by ((repeat (first | exact Part.nil | (apply Part.cons; · ((repeat (first | exact A0 | exact Up.here | exact Sel.here | apply A1 | apply Up.there | apply Sel.there)); first | done | fail)))); first | done | fail)).perm
theorem C44 {r : RmH} {o : OpV} {v : Value} {now : Int} {c : CfgV} (hi : Inv c r.st) (hpl : r.pl.length = r.ts.length) (hpv : E3 w0 r.pv r.pool.length (r.pool.flatMap E8)) (hv : E3 w0 v o.pool.length (o.pool.flatMap E8)) (hvl : o.pool.length ≤ 1000) (hpk : o.packet.size < 2 ^ 40) (hp : Part (A0F r) H Hk)
  (hK : ∀ r' : RmH, r'.st = (S5 r.st o now).1 → r'.pl.length = r'.ts.length → E3 w0 r'.pv r'.pool.length (r'.pool.flatMap E8) → TW false [] w0 (A0F r' ++ Hk) (K (.tuple #[r'.val, (S5 r.st o now).2.val]))) :
  TW false [] w0 H (B2 PR B5 21 [r.val, o.val v, .int .i64 now] K) := by
 refine TW.perm ?_ hp.perm
 have hok : ∀ w', LW false [] w0 (A0F r ++ Hk) w' → RmOk w' r := fun w' hw' => C6s hi hpl (hpv.ks hw'.ks (by simp)) hw' fun x hx => List.mem_append_left _ hx
 have hv' : ∀ w', LW false [] w0 (A0F r ++ Hk) w' → E3 w' v o.pool.length (o.pool.flatMap E8) := fun w' hw' => hv.ks hw'.ks (by simp)
 have hl : r.st.tabs.length = r.ts.length := by simp [RmH.st, hpl]
 have hsh := hi.sh
 rw [hl] at hsh
 have hcc : r.c = c := hi.cfg
 have hcs : r.c.sh = c.sh := by rw [hcc]
 have hb := l7 hi.ok
 have hget : ∀ (i : Nat) (x : Value × List EnV) (pn : Nat), r.ts[i]? = some x → r.pl[i]? = some pn → r.st.tabs[i]? = some (x.2, pn) := fun i x pn hx hpn => by
  show ((r.ts.map (·.2)).zip r.pl)[i]? = _
  rw [List.getElem?_zip_eq_some]
  exact ⟨by rw [List.getElem?_map, hx]; rfl, hpn⟩
 by_cases k0 : o.kind < 0 ∨ 3 < o.kind
 ·have e := B2x r.st o now k0
  refine B7 K8 (fun w' hw' => B9e w' r o v now (hok w' hw') (hv' w' hw') k0) ?_
  exact hK r (by rw [e]) hpl hpv
 by_cases k1 : o.kind = 1
 ·have e := B5z r.st o now k1
  refine B7 K8 (fun w' hw' => C2B w' r o v now (hok w' hw') (hv' w' hw') hvl k1) ?_
  by_cases c1 : N5 o.pool = 0
  ·rw [if_pos c1]
   exact hK { r with pv := v, pool := o.pool } (by rw [e]; unfold A3S; rw [if_pos c1]; rfl) hpl hv
  ·rw [if_neg c1]
   exact hK r (by rw [e]; unfold A3S; rw [if_neg c1]) hpl hpv
 by_cases k3 : o.kind = 3
 ·have e := B21 r.st o now k3
  refine B7 K8 (fun w' hw' => C0D w' r o v now (hok w' hw') (hv' w' hw') k3) ?_
  exact hK r (by rw [e]; rfl) hpl hpv
 by_cases k2 : o.kind = 2
 ·have e := C0U r.st o now k2
  by_cases hs : o.shard < 0 ∨ r.c.sh ≤ o.shard
  ·have e2 : A02 r.st o.shard now = (r.st, ⟨1, 0, false, 0⟩) := by unfold A02; rw [if_pos (by rw [hl]; omega)]
   refine B7 K8 (fun w' hw' => C2G w' r o v now (hok w' hw') (hv' w' hw') k2 hs) ?_
   exact hK r (by rw [e, e2]) hpl hpv
  obtain ⟨i, his⟩ : ∃ i : Nat, o.shard = i := ⟨o.shard.toNat, by omega⟩
  have hil : i < r.ts.length := by omega
  have hx : r.ts[i]? = some r.ts[i] := List.getElem?_eq_getElem hil
  have hpn : r.pl[i]? = some r.pl[i] := List.getElem?_eq_getElem (by omega)
  have hmem := List.getElem_mem hil
  generalize r.ts[i] = x at hx hmem
  generalize r.pl[i] = pn at hpn
  have hat := hget i x pn hx hpn
  have hxl : x.2.length ≤ 1000000 := by
   have := (hi.tab _ (List.mem_of_getElem? hat)).len
   simp only at this; omega
  have e2 : A02 r.st o.shard now = ({ r.st with tabs := r.st.tabs.set i ((E6 x.2 pn 4 now).1, (E6 x.2 pn 4 now).2.1) }, ⟨0, 0, false, ((E6 x.2 pn 4 now).2.2 : Nat)⟩) := by
   unfold A02
   rw [if_neg (by rw [hl]; omega), his, Int.toNat_natCast, List.getD_eq_getElem?_getD, hat]; rfl
  refine F8 K8 (fun w' hw' => C2T w' r o v now (hok w' hw') (hv' w' hw') k2 i his hil x hx pn hpn (B6j _ _ _ _ hxl)) ?_
  rintro ⟨z, lv', y⟩ u hu
  subst hu
  simp only
  have hsame : (E6 x.2 pn 4 now).2.2 = 0 → (E6 x.2 pn 4 now).1 = x.2 := B67
  have hst : RmH.st { r with tv := z, lv := lv', ts := r.ts.set i (if (E6 x.2 pn 4 now).2.2 = 0 then x.1 else y, (E6 x.2 pn 4 now).1), pl := r.pl.set i (E6 x.2 pn 4 now).2.1 } = (S5 r.st o now).1 := by
   rw [e, e2]; unfold RmH.st; simp only [List.map_set, B7J]
  have hK' := hK { r with tv := z, lv := lv', ts := r.ts.set i (if (E6 x.2 pn 4 now).2.2 = 0 then x.1 else y, (E6 x.2 pn 4 now).1), pl := r.pl.set i (E6 x.2 pn 4 now).2.1 } hst (by simpa using hpl) hpv
  rw [show (S5 r.st o now).2 = ⟨0, 0, false, ((E6 x.2 pn 4 now).2.2 : Nat)⟩ by rw [e, e2]] at hK'
  clear hst hK
  generalize E6 x.2 pn 4 now = sw at *
  obtain ⟨s1, s2, s3⟩ := sw
  simp only at hsame hK' ⊢
  simp only [A0F, List.cons_append, List.nil_append]
  refine C0B (r := .own 3 1 r.lv r.pl.length (Y1 r.pl)) (by ((repeat (first | exact A0 | exact Up.here | exact Sel.here | apply A1 | apply Up.there | apply Sel.there)); first | done | fail)) ?_
  refine B5Y (r := { r with lv := lv', pl := r.pl.set i s2 }) (z := z) (i := i) (v' := if s3 = 0 then x.1 else y) (l' := s1) (nts := if s3 = 0 then [] else [(y, s1)]) (Hk := Hk) (by simp only [A0F, List.length_set]; ((repeat (first | exact Part.nil | (apply Part.cons; · ((repeat (first | exact A0 | exact Up.here | exact Sel.here | apply A1 | apply Up.there | apply Sel.there)); first | done | fail)))); first | done | fail)) ?_ hK'
  intro t ht
  rcases List.mem_or_eq_of_mem_set ht with ht | rfl
  ·exact Or.inr ht
  ·by_cases h0 : s3 = 0
   ·right; rw [if_pos h0, hsame h0]; exact hmem
   ·left; rw [if_neg h0, if_neg h0]; exact List.mem_singleton.2 rfl
 have k : o.kind = 0 := by omega
 have e := A2D r.st o now k
 by_cases hb0 : (C3 o.packet).2.2 = 0
 case neg =>
  have e2 : S8 r.st o.packet now = (r.st, ⟨9, 0, false, 0⟩) := by unfold S8; simp only; rw [if_pos hb0]
  refine B7 K8 (fun w' hw' => C17 w' r o v now (hok w' hw') (hv' w' hw') hpk k hb0) ?_
  exact hK r (by rw [e, e2]) hpl hpv
 generalize hkey : U6 (C3 o.packet).1 = key
 generalize hcl : S0 (C3 o.packet).1 (C3 o.packet).2.1 = cl
 generalize hsi : M0 key r.c.sh = i
 have hil : i < r.ts.length := by
  rw [← hsi]; unfold M0; rw [if_neg (by omega)]
  have : r.c.sh.toNat = r.ts.length := by omega
  rw [this]; exact Nat.mod_lt _ (by omega)
 have hx : r.ts[i]? = some r.ts[i] := List.getElem?_eq_getElem hil
 have hpn : r.pl[i]? = some r.pl[i] := List.getElem?_eq_getElem (by omega)
 have hmem := List.getElem_mem hil
 generalize r.ts[i] = x at hx hmem
 generalize r.pl[i] = pn at hpn
 have hat := hget i x pn hx hpn
 generalize hdv : D7 x.2 r.pool key cl now r.c.idle = dv
 have e2 : S8 r.st o.packet now = ({ r.st with tabs := r.st.tabs.set i (dv.1, pn) }, dv.2.1) := by
  have hg : r.st.tabs.getD i ([], 0) = (x.2, pn) := by rw [List.getD_eq_getElem?_getD, hat]; rfl
  unfold S8
  simp only
  rw [if_neg (by rw [hb0]; simp), hkey, hcl, show r.st.c = r.c from rfl, hsi, hg, show r.st.pool = r.pool from rfl, hdv]
 refine F8 K8 (fun w' hw' => C4B w' r o v now (hok w' hw') (hv' w' hw') hpk k hb0 key cl hkey hcl i hsi x hx dv hdv) ?_
 rintro ⟨z, y⟩ u hu
 subst hu
 have hsame : dv.2.2 = false → dv.1 = x.2 := fun h => by rw [← hdv] at h ⊢; exact A8n h
 have hst : RmH.st { r with tv := z, ts := r.ts.set i (if dv.2.2 = true then y else x.1, dv.1) } = (S5 r.st o now).1 := by
  rw [e, e2]; unfold RmH.st; simp only [List.map_set]
  rw [← B7J, B61 hpn]
 have hK' := hK { r with tv := z, ts := r.ts.set i (if dv.2.2 = true then y else x.1, dv.1) } hst (by simpa using hpl) hpv
 rw [show (S5 r.st o now).2 = dv.2.1 by rw [e, e2]] at hK'
 simp only at hK' ⊢
 refine B5Y (r := r) (z := z) (i := i) (v' := if dv.2.2 = true then y else x.1) (l' := dv.1) (nts := if dv.2.2 = true then [(y, dv.1)] else []) (Hk := Hk) (by simp only [A0F, List.cons_append, List.nil_append]; ((repeat (first | exact Part.nil | (apply Part.cons; · ((repeat (first | exact A0 | exact Up.here | exact Sel.here | apply A1 | apply Up.there | apply Sel.there)); first | done | fail)))); first | done | fail)) ?_ hK'
 intro t ht
 rcases List.mem_or_eq_of_mem_set ht with ht | rfl
 ·exact Or.inr ht
 ·cases h0 : dv.2.2 with
  | false => right; rw [if_neg (by simp), hsame h0]; exact hmem
  | true => left; rw [if_pos rfl, if_pos rfl]; exact List.mem_singleton.2 rfl
end
structure RmS where
 pa : Option Addr
 pc : Nat
 ta : Option Addr
 tc : Nat
 la : Option Addr
 lc : Nat
 pool : List G5
 ts : List (Value × List EnV)
 pl : List Nat
def RmS.rm (c : CfgV) (x : RmS) : RmH := ⟨.slice x.pa x.pool.length x.pc, .slice x.ta x.ts.length x.tc, .slice x.la x.pl.length x.lc, c, x.pool, x.ts, x.pl⟩
def RmS.cs (c : CfgV) (x : RmS) : Array Value := #[.int .i64 c.wk, .int .i64 c.sh, .int .i64 c.cp, .int .i64 c.idle, .int .i64 c.sl, .slice x.pa x.pool.length x.pc, .slice x.ta x.ts.length x.tc, .slice x.la x.pl.length x.lc]
def N6 (x : RmS) : List Res := [.own 50 1 (.slice x.ta x.ts.length x.tc) x.ts.length (x.ts.map (·.1)), .own 3 1 (.slice x.la x.pl.length x.lc) x.pl.length (Y1 x.pl), M2 x.ts]
structure RsOk (w : World) (c : CfgV) (x : RmS) (s : MoS) : Prop where
 st : (x.rm c).st = s
 inv : Inv c s
 pl : x.pl.length = x.ts.length
 pv : E3 w (.slice x.pa x.pool.length x.pc) x.pool.length (x.pool.flatMap E8)
theorem C3Y {w0 : World} {Hk : List Res} {K0 : WP} {r : RmH} {c : CfgV} {s : MoS} (hst : r.st = s) (hi : Inv c s) (hpl : r.pl.length = r.ts.length) (hpv : E3 w0 r.pv r.pool.length (r.pool.flatMap E8))
  (hK : ∀ x : RmS, r = x.rm c → RsOk w0 c x s → TW false [] w0 (N6 x ++ Hk) K0) : TW false [] w0 (A0F r ++ Hk) K0 := by
 have hcc : r.c = c := by rw [← hst] at hi; exact hi.cfg
 obtain ⟨pv, tv, lv, rc, pool, ts, pl⟩ := r
 simp only at hcc hpl hpv
 subst hcc
 obtain ⟨pa, pc, rfl, _⟩ := hpv.form
 simp only [A0F, List.cons_append, List.nil_append]
 refine V5 (e := 50) (k := 1) (v := tv) (q := ts.length) (xs := ts.map (·.1)) A0 fun ta tc e => ?_
 subst e
 refine V5 (e := 3) (k := 1) (v := lv) (q := pl.length) (xs := Y1 pl) (A1 A0) fun la lc e => ?_
 subst e
 exact hK ⟨pa, pc, ta, tc, la, lc, pool, ts, pl⟩ rfl ⟨hst, hi, hpl, hpv⟩
theorem C3v {w0 : World} {H Hk : List Res} {K : Value → WP} {c : CfgV} {x : RmS} {s : MoS} {o : OpV} {v : Value} {now : Int} (hx : RsOk w0 c x s) (hv : E3 w0 v o.pool.length (o.pool.flatMap E8)) (hvl : o.pool.length ≤ 1000) (hpk : o.packet.size < 2 ^ 40) (hp : Part (N6 x) H Hk)
  (hK : ∀ x' : RmS, RsOk w0 c x' (S5 s o now).1 → TW false [] w0 (N6 x' ++ Hk) (K (.tuple #[.agg (x'.cs c), (S5 s o now).2.val]))) :
  TW false [] w0 H (B2 PR B5 21 [.agg (x.cs c), o.val v, .int .i64 now] K) := by
 obtain ⟨rfl, hi, hpl, hpv⟩ := hx
 refine C44 (r := x.rm c) (c := c) hi hpl hpv hv hvl hpk hp fun r' h1 h2 h3 => ?_
 refine C3Y h1 (hi.do' o now) h2 h3 fun x' e hx' => ?_
 subst e
 exact hK x' hx'
end Go.Proofs.YtggakcpabomliaaGreat
namespace Go.Proofs.YtggakcpabomliaaGreat
open Go
theorem B9V {K : Value → WP} (a b : Bool) : A2 PR (binOp .neq 4 (.bool a) (.bool b)) K = K (.bool (!(a == b))) := F4 (fun w => by
 have h : (Op.equal 4 (.bool a) (.bool b)).run PR w = .ok (a == b) w := B01 (e := 9999) ty4 w
 simp [binOp, h]) K
theorem B5s (w : World) (c : CfgV) (lv : Value) (l : List StA) (hn : l.length ≤ 9223372036854775807) (hv : E3 w lv l.length (l.flatMap A3Z)) (hs : ∀ x ∈ l, A6C w x) :
  Fn PR B5 3 #[c.val, lv] w (fun v w' => v = .bool true ∧ C0 [] w w') := by
 refine Fn.pure (A2Q (TW.go (κ := false) (S := []) ?_))
 unfold j8
 obtain ⟨la, lc, rfl, hr⟩ := hv.form
 simp only [CfgV.val]
 (have hQq := trivial; repeat ((first | clear hQq | (with_reducible first | refine A3 ?_ | refine A4 fun _ => ?_ | refine A5 fun _ => ?_)); (try simp (disch := first | omega | assumption | ((repeat (first | exact A0 | exact Up.here | apply A1 | apply Up.there)); first | done | fail) | (simp; first | done | omega | fail)) [])))
 rename_i bc
 refine B7 A3r (fun w' _ => B82 w') ?_
 (have hQq := trivial; repeat ((first | clear hQq | (with_reducible first | refine A3 ?_ | refine A4 fun _ => ?_ | refine A5 fun _ => ?_)); (try simp (disch := first | omega | assumption | ((repeat (first | exact A0 | exact Up.here | apply A1 | apply Up.there)); first | done | fail) | (simp; first | done | omega | fail)) [])))
 refine B7 A5T (fun w' hw' => C5d w' c _ l hn (hv.ks hw'.ks (by simp)) fun x hx => (hs x hx).sl) ?_
 cases hf : A7Y c (l.map (·.1.1)) with
 | false => (have hQq := trivial; repeat ((first | clear hQq | (with_reducible first | refine A3 ?_ | refine A4 fun _ => ?_ | refine A5 fun _ => ?_)); (try simp (disch := first | omega | assumption | ((repeat (first | exact A0 | exact Up.here | apply A1 | apply Up.there)); first | done | fail) | (simp; first | done | omega | fail)) []))); exact A9 rfl
 | true =>
 (have hQq := trivial; repeat ((first | clear hQq | (with_reducible first | refine A3 ?_ | refine A4 fun _ => ?_ | refine A5 fun _ => ?_)); (try simp (disch := first | omega | assumption | ((repeat (first | exact A0 | exact Up.here | apply A1 | apply Up.there)); first | done | fail) | (simp; first | done | omega | fail)) [])))
 obtain ⟨hc6, hl12, hfo⟩ := C2L hf
 have hl : l.length ≤ 12 := by simpa using hl12
 refine B7m (c := c) (fun h0 => ?_) fun m hok hst hi => ?_
 ·(have hQq := trivial; repeat ((first | clear hQq | (with_reducible first | refine A3 ?_ | refine A4 fun _ => ?_ | refine A5 fun _ => ?_)); (try simp (disch := first | omega | assumption | ((repeat (first | exact A0 | exact Up.here | apply A1 | apply Up.there)); first | done | fail) | (simp; first | done | omega | fail)) [])))
  refine B7 r6 (fun w' _ => B05 w' c) ?_
  (have hQq := trivial; repeat ((first | clear hQq | (with_reducible first | refine A3 ?_ | refine A4 fun _ => ?_ | refine A5 fun _ => ?_)); (try simp (disch := first | omega | assumption | ((repeat (first | exact A0 | exact Up.here | apply A1 | apply Up.there)); first | done | fail) | (simp; first | done | omega | fail)) [h0])))
  refine B7 A1l (fun w' _ => A8x w' c) ?_
  (have hQq := trivial; repeat ((first | clear hQq | (with_reducible first | refine A3 ?_ | refine A4 fun _ => ?_ | refine A5 fun _ => ?_)); (try simp (disch := first | omega | assumption | ((repeat (first | exact A0 | exact Up.here | apply A1 | apply Up.there)); first | done | fail) | (simp; first | done | omega | fail)) [h0, B9V])))
  exact A9 rfl
 simp only [D0, List.cons_append, List.nil_append]
 (have hQq := trivial; repeat ((first | clear hQq | (with_reducible first | refine A3 ?_ | refine A4 fun _ => ?_ | refine A5 fun _ => ?_)); (try simp (disch := first | omega | assumption | ((repeat (first | exact A0 | exact Up.here | apply A1 | apply Up.there)); first | done | fail) | (simp; first | done | omega | fail)) [])))
 refine B7 r6 (fun w' _ => B05 w' c) ?_
 (have hQq := trivial; repeat ((first | clear hQq | (with_reducible first | refine A3 ?_ | refine A4 fun _ => ?_ | refine A5 fun _ => ?_)); (try simp (disch := first | omega | assumption | ((repeat (first | exact A0 | exact Up.here | apply A1 | apply Up.there)); first | done | fail) | (simp; first | done | omega | fail)) [hok])))
 refine B7 A1l (fun w' _ => A8x w' c) ?_
 (have hQq := trivial; repeat ((first | clear hQq | (with_reducible first | refine A3 ?_ | refine A4 fun _ => ?_ | refine A5 fun _ => ?_)); (try simp (disch := first | omega | assumption | ((repeat (first | exact A0 | exact Up.here | apply A1 | apply Up.there)); first | done | fail) | (simp; first | done | omega | fail)) [hok, B9V])))
 refine F8 A5a (fun w' _ => C24 w' c hok) ?_
 rintro r u ⟨rfl, hrc, hrp, hrv, hrt, hrl⟩
 have hst0 : r.st = m.st := by
  rw [hst]
  unfold RmH.st A2K
  rw [hrc, hrp, hrt, hrl]
  congr 1
  generalize c.sh.toNat = q
  induction q with
  | zero => rfl
  | succ q ih => rw [List.replicate_succ, List.replicate_succ, List.replicate_succ, List.zip_cons_cons, ih]
 have hrpl : r.pl.length = r.ts.length := by
  have := congrArg List.length hrt
  simp only [List.length_map, List.length_replicate] at this
  rw [hrl, List.length_replicate, this]
 refine C3Y hst0 hi hrpl (by rw [hrv, hrp]; exact Or.inl ⟨rfl, rfl, none, 0, rfl⟩) fun x hrx hx => ?_
 subst hrx
 rw [show (x.rm c).val = .agg (x.cs c) from rfl]
 (have hQq := trivial; repeat ((first | clear hQq | (with_reducible first | refine A3 ?_ | refine A4 fun _ => ?_ | refine A5 fun _ => ?_)); (try simp (disch := first | omega | assumption | ((repeat (first | exact A0 | exact Up.here | apply A1 | apply Up.there)); first | done | fail) | (simp; first | done | omega | fail)) [RmS.cs])))
 rename_i b8
 refine Sels.tw (rs := D0 m ++ (N6 x ++ [.pt b8 (.cells (x.cs c) 36), .pt bc (.cells #[.int .i64 c.wk, .int .i64 c.sh, .int .i64 c.cp, .int .i64 c.idle, .int .i64 c.sl] 23)])) (by simp only [D0, N6, RmS.cs, List.cons_append, List.nil_append]; ((repeat (first | exact Sels.nil | (apply Sels.cons; · ((repeat (first | exact A0 | exact Up.here | exact Sel.here | apply A1 | apply Up.there | apply Sel.there)); first | done | fail)))); first | done | fail)) ?_
 refine K3 l.length (fun _ _ => .bool false) (fun i (y : MoH × RmS) => D0 y.1 ++ (N6 y.2 ++ [.pt b8 (.cells (y.2.cs c) 36), .pt bc (.cells #[.int .i64 c.wk, .int .i64 c.sh, .int .i64 c.cp, .int .i64 c.idle, .int .i64 c.sl] 23)])) (fun i y => y.1.b = m.b ∧ Inv c y.1.st ∧ RsOk w c y.2 y.1.st) (m, x) ⟨rfl, hi, hx⟩ ?_
 rintro i ⟨m1, x1⟩ hil ⟨hb1, hi1, hx1⟩ L hL
 simp only at hb1 hi1 hx1 ⊢
 rw [← hb1]
 by_cases hlt : i < l.length
 case neg =>
  obtain rfl : i = l.length := by omega
  (have hQq := trivial; repeat ((first | clear hQq | (with_reducible first | refine A3 ?_ | refine A4 fun _ => ?_ | refine A5 fun _ => ?_)); (try simp (disch := first | omega | assumption | ((repeat (first | exact A0 | exact Up.here | apply A1 | apply Up.there)); first | done | fail) | (simp; first | done | omega | fail)) [])))
  exact A9 rfl
 have hy := List.getElem?_eq_getElem hlt
 obtain ⟨lb, lo, rfl, hrow⟩ := hr (by omega)
 obtain ⟨h1, h2⟩ := C4Y hrow hy
 have hyp := hs l[i] (List.getElem_mem hlt)
 have hyo := hfo l[i].1.1 (List.mem_map_of_mem (List.getElem_mem hlt))
 generalize l[i] = y at *
 have hyp0 : E3 w y.1.2 y.1.1.pool.length (y.1.1.pool.flatMap E8) := hyp
 obtain ⟨ya, yc, hye⟩ := hyp.sl
 rw [r5] at h1
 rw [hye] at h1 hyp0
 generalize hdo : S5 m1.st y.1.1 y.2 = dv at *
 obtain ⟨s2, an⟩ := dv
 (have hQq := trivial; repeat ((first | clear hQq | (with_reducible first | refine A3 ?_ | refine A4 fun _ => ?_ | refine A5 fun _ => ?_)); (try simp (disch := first | omega | assumption | ((repeat (first | exact A0 | exact Up.here | apply A1 | apply Up.there)); first | done | fail) | (simp; first | done | omega | fail)) [hlt])))
 refine C3U (α := Nat × MoH) (fun z => z.2.b = m1.b ∧ z.2.st = s2 ∧ Inv c z.2.st) (fun z => .pt z.1 (.cells #[.int .i64 an.err, .int .i64 an.bk, .bool an.made, .int .i64 an.count] 39) :: (D0 z.2 ++ (N6 x1 ++ [.pt b8 (.cells (x1.cs c) 36), .pt bc (.cells #[.int .i64 c.wk, .int .i64 c.sh, .int .i64 c.cp, .int .i64 c.idle, .int .i64 c.sl] 23)]))) (fun z => .pointer (some ⟨z.1, 0, none⟩)) ?_ ?_
 case refine_2 =>
  intro J hJ
  (have hQq := trivial; repeat ((first | clear hQq | (with_reducible first | refine A3 ?_ | refine A4 fun _ => ?_ | refine A5 fun _ => ?_)); (try simp (disch := first | omega | assumption | ((repeat (first | exact A0 | exact Up.here | apply A1 | apply Up.there)); first | done | fail) | (simp; first | done | omega | fail)) [hlt, h1, h2])))
  refine ⟨?_, ?_, fun _ _ => trivial⟩
  ·refine A5Y (o := y.1.1) (v := .slice ya y.1.1.pool.length yc) (now := y.2) _ hi1 l2 (fun w' hw' => B1g hw' hyp0 (by omega)) (by omega) hdo fun m2 hb2 hst2 hi2 => ?_
   (have hQq := trivial; repeat ((first | clear hQq | (with_reducible first | refine A3 ?_ | refine A4 fun _ => ?_ | refine A5 fun _ => ?_)); (try simp (disch := first | omega | assumption | ((repeat (first | exact A0 | exact Up.here | apply A1 | apply Up.there)); first | done | fail) | (simp; first | done | omega | fail)) [AnsV.val])))
   rename_i ba
   exact hJ (ba, m2) ⟨hb2, hst2, hi2⟩
  ·(have hQq := trivial; repeat ((first | clear hQq | (with_reducible first | refine A3 ?_ | refine A4 fun _ => ?_ | refine A5 fun _ => ?_)); (try simp (disch := first | omega | assumption | ((repeat (first | exact A0 | exact Up.here | apply A1 | apply Up.there)); first | done | fail) | (simp; first | done | omega | fail)) [hlt, h1, h2])))
   rename_i ba
   refine A5Y (o := y.1.1) (v := .slice ya y.1.1.pool.length yc) (now := y.2) _ hi1 (by ((repeat (first | exact l2 | apply Part.skip)); first | done | fail)) (fun w' hw' => B1g hw' hyp0 (by omega)) (by omega) hdo fun m2 hb2 hst2 hi2 => ?_
   simp only [D0, List.cons_append, List.nil_append]
   (have hQq := trivial; repeat ((first | clear hQq | (with_reducible first | refine A3 ?_ | refine A4 fun _ => ?_ | refine A5 fun _ => ?_)); (try simp (disch := first | omega | assumption | ((repeat (first | exact A0 | exact Up.here | apply A1 | apply Up.there)); first | done | fail) | (simp; first | done | omega | fail)) [AnsV.val])))
   refine Sels.tw ?_ (hJ (ba, m2) ⟨hb2, hst2, hi2⟩)
   simp only [D0, N6, List.cons_append, List.nil_append]
   ((repeat (first | exact Sels.nil | (apply Sels.cons; · ((repeat (first | exact A0 | exact Up.here | exact Sel.here | apply A1 | apply Up.there | apply Sel.there)); first | done | fail)))); first | done | fail)
 rintro ⟨ba, m2⟩ ⟨hb2, hst2, hi2⟩
 simp only at hb2 hst2 hi2 ⊢
 rw [← hb2]
 have hD17 : ∀ {H Hk : List Res} {K : Value → WP}, Part (N6 x1) H Hk → (∀ x2 : RmS, RsOk w c x2 m2.st → TW false [] w (N6 x2 ++ Hk) (K (.tuple #[.agg (x2.cs c), an.val]))) → TW false [] w H (B2 PR B5 21 [.agg (x1.cs c), y.1.1.val (.slice ya y.1.1.pool.length yc), .int .i64 y.2] K) := by
  intro H Hk K hp hK
  refine C3v hx1 hyp0 (by omega) (by omega) hp fun x2 hx2 => ?_
  rw [hdo] at hx2 ⊢
  exact hK x2 (by rw [hst2]; exact hx2)
 have hx1l := hx1.pl
 simp only [D0, N6, RmS.cs, List.cons_append, List.nil_append]
 (have hQq := trivial; repeat ((first | clear hQq | (with_reducible first | refine A3 ?_ | refine A4 fun _ => ?_ | refine A5 fun _ => ?_)); (try simp (disch := first | omega | assumption | ((repeat (first | exact A0 | exact Up.here | apply A1 | apply Up.there)); first | done | fail) | (simp; first | done | omega | fail)) [])))
 refine B15 (α := Nat × Nat × RmS) (fun z => RsOk w c z.2.2 m2.st) (fun z => .pt z.1 (.cells (z.2.2.cs c) 36) :: .pt z.2.1 (.cells #[.int .i64 an.err, .int .i64 an.bk, .bool an.made, .int .i64 an.count] 39) :: (D0 m2 ++ (N6 z.2.2 ++ [.pt ba (.cells #[.int .i64 an.err, .int .i64 an.bk, .bool an.made, .int .i64 an.count] 39), .pt b8 (.cells (x1.cs c) 36), .pt bc (.cells #[.int .i64 c.wk, .int .i64 c.sh, .int .i64 c.cp, .int .i64 c.idle, .int .i64 c.sl] 23)]))) (fun z => .pointer (some ⟨z.1, 0, none⟩)) (fun z => .pointer (some ⟨z.2.1, 0, none⟩)) ?_ ?_
 case refine_2 =>
  intro J hJ
  (have hQq := trivial; repeat ((first | clear hQq | (with_reducible first | refine A3 ?_ | refine A4 fun _ => ?_ | refine A5 fun _ => ?_)); (try simp (disch := first | omega | assumption | ((repeat (first | exact A0 | exact Up.here | apply A1 | apply Up.there)); first | done | fail) | (simp; first | done | omega | fail)) [hlt, h1, h2])))
  refine ⟨?_, ?_, ?_, fun _ _ => trivial⟩
  ·refine hD17 (by simp only [N6]; ((repeat (first | exact Part.nil | (apply Part.cons; · ((repeat (first | exact A0 | exact Up.here | exact Sel.here | apply A1 | apply Up.there | apply Sel.there)); first | done | fail)))); first | done | fail)) fun x2 hx2 => ?_
   simp only [D0, N6, RmS.cs, List.cons_append, List.nil_append]
   (have hQq := trivial; repeat ((first | clear hQq | (with_reducible first | refine A3 ?_ | refine A4 fun _ => ?_ | refine A5 fun _ => ?_)); (try simp (disch := first | omega | assumption | ((repeat (first | exact A0 | exact Up.here | apply A1 | apply Up.there)); first | done | fail) | (simp; first | done | omega | fail)) [AnsV.val])))
   refine ⟨?_, ?_, fun _ _ => trivial⟩
   ·(have hQq := trivial; repeat ((first | clear hQq | (with_reducible first | refine A3 ?_ | refine A4 fun _ => ?_ | refine A5 fun _ => ?_)); (try simp (disch := first | omega | assumption | ((repeat (first | exact A0 | exact Up.here | apply A1 | apply Up.there)); first | done | fail) | (simp; first | done | omega | fail)) [AnsV.val])))
    rename_i b11 b12
    refine Sels.tw ?_ (hJ (b11, b12, x2) hx2)
    simp only [D0, N6, RmS.cs, List.cons_append, List.nil_append]
    ((repeat (first | exact Sels.nil | (apply Sels.cons; · ((repeat (first | exact A0 | exact Up.here | exact Sel.here | apply A1 | apply Up.there | apply Sel.there)); first | done | fail)))); first | done | fail)
   ·(have hQq := trivial; repeat ((first | clear hQq | (with_reducible first | refine A3 ?_ | refine A4 fun _ => ?_ | refine A5 fun _ => ?_)); (try simp (disch := first | omega | assumption | ((repeat (first | exact A0 | exact Up.here | apply A1 | apply Up.there)); first | done | fail) | (simp; first | done | omega | fail)) [AnsV.val])))
    rename_i b12 b11
    refine Sels.tw ?_ (hJ (b11, b12, x2) hx2)
    simp only [D0, N6, RmS.cs, List.cons_append, List.nil_append]
    ((repeat (first | exact Sels.nil | (apply Sels.cons; · ((repeat (first | exact A0 | exact Up.here | exact Sel.here | apply A1 | apply Up.there | apply Sel.there)); first | done | fail)))); first | done | fail)
  ·(have hQq := trivial; repeat ((first | clear hQq | (with_reducible first | refine A3 ?_ | refine A4 fun _ => ?_ | refine A5 fun _ => ?_)); (try simp (disch := first | omega | assumption | ((repeat (first | exact A0 | exact Up.here | apply A1 | apply Up.there)); first | done | fail) | (simp; first | done | omega | fail)) [hlt, h1, h2])))
   rename_i b11
   rw [S6 (by ((repeat (first | exact A0 | exact Up.here | exact Sel.here | apply A1 | apply Up.there | apply Sel.there)); first | done | fail)) (by rfl)]
   (have hQq := trivial; repeat ((first | clear hQq | (with_reducible first | refine A3 ?_ | refine A4 fun _ => ?_ | refine A5 fun _ => ?_)); (try simp (disch := first | omega | assumption | ((repeat (first | exact A0 | exact Up.here | apply A1 | apply Up.there)); first | done | fail) | (simp; first | done | omega | fail)) [hlt, h1, h2])))
   refine ⟨?_, ?_, fun _ _ => trivial⟩
   ·refine hD17 (by simp only [N6]; ((repeat (first | exact Part.nil | (apply Part.cons; · ((repeat (first | exact A0 | exact Up.here | exact Sel.here | apply A1 | apply Up.there | apply Sel.there)); first | done | fail)))); first | done | fail)) fun x2 hx2 => ?_
    simp only [D0, N6, RmS.cs, List.cons_append, List.nil_append]
    (have hQq := trivial; repeat ((first | clear hQq | (with_reducible first | refine A3 ?_ | refine A4 fun _ => ?_ | refine A5 fun _ => ?_)); (try simp (disch := first | omega | assumption | ((repeat (first | exact A0 | exact Up.here | apply A1 | apply Up.there)); first | done | fail) | (simp; first | done | omega | fail)) [AnsV.val])))
    rename_i b12
    refine Sels.tw ?_ (hJ (b11, b12, x2) hx2)
    simp only [D0, N6, RmS.cs, List.cons_append, List.nil_append]
    ((repeat (first | exact Sels.nil | (apply Sels.cons; · ((repeat (first | exact A0 | exact Up.here | exact Sel.here | apply A1 | apply Up.there | apply Sel.there)); first | done | fail)))); first | done | fail)
   ·(have hQq := trivial; repeat ((first | clear hQq | (with_reducible first | refine A3 ?_ | refine A4 fun _ => ?_ | refine A5 fun _ => ?_)); (try simp (disch := first | omega | assumption | ((repeat (first | exact A0 | exact Up.here | apply A1 | apply Up.there)); first | done | fail) | (simp; first | done | omega | fail)) [hlt, h1, h2])))
    rename_i b12
    rw [S6 (by ((repeat (first | exact A0 | exact Up.here | exact Sel.here | apply A1 | apply Up.there | apply Sel.there)); first | done | fail)) (by rfl)]
    (have hQq := trivial; repeat ((first | clear hQq | (with_reducible first | refine A3 ?_ | refine A4 fun _ => ?_ | refine A5 fun _ => ?_)); (try simp (disch := first | omega | assumption | ((repeat (first | exact A0 | exact Up.here | apply A1 | apply Up.there)); first | done | fail) | (simp; first | done | omega | fail)) [hlt, h1, h2])))
    refine hD17 (by simp only [N6]; ((repeat (first | exact Part.nil | (apply Part.cons; · ((repeat (first | exact A0 | exact Up.here | exact Sel.here | apply A1 | apply Up.there | apply Sel.there)); first | done | fail)))); first | done | fail)) fun x2 hx2 => ?_
    simp only [D0, N6, RmS.cs, List.cons_append, List.nil_append]
    (have hQq := trivial; repeat ((first | clear hQq | (with_reducible first | refine A3 ?_ | refine A4 fun _ => ?_ | refine A5 fun _ => ?_)); (try simp (disch := first | omega | assumption | ((repeat (first | exact A0 | exact Up.here | apply A1 | apply Up.there)); first | done | fail) | (simp; first | done | omega | fail)) [AnsV.val])))
    refine Sels.tw ?_ (hJ (b11, b12, x2) hx2)
    simp only [D0, N6, RmS.cs, List.cons_append, List.nil_append]
    ((repeat (first | exact Sels.nil | (apply Sels.cons; · ((repeat (first | exact A0 | exact Up.here | exact Sel.here | apply A1 | apply Up.there | apply Sel.there)); first | done | fail)))); first | done | fail)
  ·(have hQq := trivial; repeat ((first | clear hQq | (with_reducible first | refine A3 ?_ | refine A4 fun _ => ?_ | refine A5 fun _ => ?_)); (try simp (disch := first | omega | assumption | ((repeat (first | exact A0 | exact Up.here | apply A1 | apply Up.there)); first | done | fail) | (simp; first | done | omega | fail)) [hlt, h1, h2])))
   rename_i b12
   rw [S6 (by ((repeat (first | exact A0 | exact Up.here | exact Sel.here | apply A1 | apply Up.there | apply Sel.there)); first | done | fail)) (by rfl)]
   (have hQq := trivial; repeat ((first | clear hQq | (with_reducible first | refine A3 ?_ | refine A4 fun _ => ?_ | refine A5 fun _ => ?_)); (try simp (disch := first | omega | assumption | ((repeat (first | exact A0 | exact Up.here | apply A1 | apply Up.there)); first | done | fail) | (simp; first | done | omega | fail)) [hlt, h1, h2])))
   refine ⟨?_, ?_, fun _ _ => trivial⟩
   ·refine hD17 (by simp only [N6]; ((repeat (first | exact Part.nil | (apply Part.cons; · ((repeat (first | exact A0 | exact Up.here | exact Sel.here | apply A1 | apply Up.there | apply Sel.there)); first | done | fail)))); first | done | fail)) fun x2 hx2 => ?_
    simp only [D0, N6, RmS.cs, List.cons_append, List.nil_append]
    (have hQq := trivial; repeat ((first | clear hQq | (with_reducible first | refine A3 ?_ | refine A4 fun _ => ?_ | refine A5 fun _ => ?_)); (try simp (disch := first | omega | assumption | ((repeat (first | exact A0 | exact Up.here | apply A1 | apply Up.there)); first | done | fail) | (simp; first | done | omega | fail)) [AnsV.val])))
    rename_i b11
    refine Sels.tw ?_ (hJ (b11, b12, x2) hx2)
    simp only [D0, N6, RmS.cs, List.cons_append, List.nil_append]
    ((repeat (first | exact Sels.nil | (apply Sels.cons; · ((repeat (first | exact A0 | exact Up.here | exact Sel.here | apply A1 | apply Up.there | apply Sel.there)); first | done | fail)))); first | done | fail)
   ·(have hQq := trivial; repeat ((first | clear hQq | (with_reducible first | refine A3 ?_ | refine A4 fun _ => ?_ | refine A5 fun _ => ?_)); (try simp (disch := first | omega | assumption | ((repeat (first | exact A0 | exact Up.here | apply A1 | apply Up.there)); first | done | fail) | (simp; first | done | omega | fail)) [hlt, h1, h2])))
    rename_i b11
    rw [S6 (by ((repeat (first | exact A0 | exact Up.here | exact Sel.here | apply A1 | apply Up.there | apply Sel.there)); first | done | fail)) (by rfl)]
    (have hQq := trivial; repeat ((first | clear hQq | (with_reducible first | refine A3 ?_ | refine A4 fun _ => ?_ | refine A5 fun _ => ?_)); (try simp (disch := first | omega | assumption | ((repeat (first | exact A0 | exact Up.here | apply A1 | apply Up.there)); first | done | fail) | (simp; first | done | omega | fail)) [hlt, h1, h2])))
    refine hD17 (by simp only [N6]; ((repeat (first | exact Part.nil | (apply Part.cons; · ((repeat (first | exact A0 | exact Up.here | exact Sel.here | apply A1 | apply Up.there | apply Sel.there)); first | done | fail)))); first | done | fail)) fun x2 hx2 => ?_
    simp only [D0, N6, RmS.cs, List.cons_append, List.nil_append]
    (have hQq := trivial; repeat ((first | clear hQq | (with_reducible first | refine A3 ?_ | refine A4 fun _ => ?_ | refine A5 fun _ => ?_)); (try simp (disch := first | omega | assumption | ((repeat (first | exact A0 | exact Up.here | apply A1 | apply Up.there)); first | done | fail) | (simp; first | done | omega | fail)) [AnsV.val])))
    refine Sels.tw ?_ (hJ (b11, b12, x2) hx2)
    simp only [D0, N6, RmS.cs, List.cons_append, List.nil_append]
    ((repeat (first | exact Sels.nil | (apply Sels.cons; · ((repeat (first | exact A0 | exact Up.here | exact Sel.here | apply A1 | apply Up.there | apply Sel.there)); first | done | fail)))); first | done | fail)
 rintro ⟨b11, b12, x2⟩ hx2
 simp only at hx2 ⊢
 clear hD17 hx1l hx1 hx
 obtain ⟨pa, pc, ta, tc, ra, rc, pool, ts, pl⟩ := x2
 have hx2' := hx2
 obtain ⟨e2, _, e3, e4⟩ := hx2'
 have hpe : pool = m2.pool := congrArg MoS.pool e2
 have hte : (ts.map (·.2)).zip pl = m2.st.tabs := congrArg MoS.tabs e2
 simp only at e3 e4
 have hsh := hi2.sh
 have hcb := l7 hok
 have htl : m2.st.tabs.length = ts.length := by rw [← hte]; simp [e3]
 have hpl := hi2.ok2.pool
 simp only [D0, N6, RmS.cs, List.cons_append, List.nil_append]
 refine A1T (e := 50) (k := 1) (v := .slice ta ts.length tc) (q := ts.length) (xs := ts.map (·.1)) (by ((repeat (first | exact A0 | exact Up.here | exact Sel.here | apply A1 | apply Up.there | apply Sel.there)); first | done | fail)) (by omega) fun g gc hg => ?_
 cases hg
 (have hQq := trivial; repeat ((first | clear hQq | (with_reducible first | refine A3 ?_ | refine A4 fun _ => ?_ | refine A5 fun _ => ?_)); (try simp (disch := first | omega | assumption | ((repeat (first | exact A0 | exact Up.here | apply A1 | apply Up.there)); first | done | fail) | (simp; first | done | omega | fail)) [AnsV.val])))
 refine C06 hi2 (by simp only [D0]; ((repeat (first | exact Part.nil | (apply Part.cons; · ((repeat (first | exact A0 | exact Up.here | exact Sel.here | apply A1 | apply Up.there | apply Sel.there)); first | done | fail)))); first | done | fail)) fun r1 => ?_
 simp only [D0, N6, RmS.cs, List.cons_append, List.nil_append]
 (have hQq := trivial; repeat ((first | clear hQq | (with_reducible first | refine A3 ?_ | refine A4 fun _ => ?_ | refine A5 fun _ => ?_)); (try simp (disch := first | omega | assumption | ((repeat (first | exact A0 | exact Up.here | apply A1 | apply Up.there)); first | done | fail) | (simp; first | done | omega | fail)) [])))
 refine B7 A4Z (fun w' hw' => C1x w' r1 (.slice pa pool.length pc) m2.pool pool (by omega) (by rw [hpe]; omega) (K6.own A0 w' hw') (e4.ks hw'.ks (by simp))) ?_
 rw [hpe, decide_eq_true (rfl : m2.pool = m2.pool), ← hpe]
 (have hQq := trivial; repeat ((first | clear hQq | (with_reducible first | refine A3 ?_ | refine A4 fun _ => ?_ | refine A5 fun _ => ?_)); (try simp (disch := first | omega | assumption | ((repeat (first | exact A0 | exact Up.here | apply A1 | apply Up.there)); first | done | fail) | (simp; first | done | omega | fail)) [])))
 refine Sels.tw (rs := D0 m2 ++ [.own 50 1 (.slice (some ⟨g, 0, none⟩) ts.length tc) ts.length (ts.map (·.1)), .own 3 1 (.slice ra pl.length rc) pl.length (Y1 pl), M2 ts, .pt b8 (.cells #[.int .i64 c.wk, .int .i64 c.sh, .int .i64 c.cp, .int .i64 c.idle, .int .i64 c.sl, .slice pa pool.length pc, .slice (some ⟨g, 0, none⟩) ts.length tc, .slice ra pl.length rc] 36), .pt bc (.cells #[.int .i64 c.wk, .int .i64 c.sh, .int .i64 c.cp, .int .i64 c.idle, .int .i64 c.sl] 23)]) (by simp only [D0, N6, RmS.cs, List.cons_append, List.nil_append]; rw [← hpe]; ((repeat (first | exact Sels.nil | (apply Sels.cons; · ((repeat (first | exact A0 | exact Up.here | exact Sel.here | apply A1 | apply Up.there | apply Sel.there)); first | done | fail)))); first | done | fail)) ?_
 obtain ⟨n, hnn⟩ : ∃ n : Nat, c.sh = n := ⟨c.sh.toNat, by omega⟩
 refine K3 (α := Unit) n (fun _ _ => .bool false) (fun _ _ => D0 m2 ++ [.own 50 1 (.slice (some ⟨g, 0, none⟩) ts.length tc) ts.length (ts.map (·.1)), .own 3 1 (.slice ra pl.length rc) pl.length (Y1 pl), M2 ts, .pt b8 (.cells #[.int .i64 c.wk, .int .i64 c.sh, .int .i64 c.cp, .int .i64 c.idle, .int .i64 c.sl, .slice pa pool.length pc, .slice (some ⟨g, 0, none⟩) ts.length tc, .slice ra pl.length rc] 36), .pt bc (.cells #[.int .i64 c.wk, .int .i64 c.sh, .int .i64 c.cp, .int .i64 c.idle, .int .i64 c.sl] 23)]) (fun _ _ => True) () trivial ?_
 rintro k _ hk _ L2 hL2
 by_cases hkl : k < n
 ·have hkt : k < ts.length := by omega
  have hxk : ts[k]? = some ts[k] := List.getElem?_eq_getElem hkt
  have hmem := List.getElem_mem hkt
  have hv1 : (ts.map (·.1))[k]? = some ts[k].1 := by rw [List.getElem?_map, hxk]; rfl
  have htv : j6 m2.ts k = ts[k].2 := by
   rw [C0f (by omega), ← hte, List.getD_eq_getElem?_getD]
   have hpn : pl[k]? = some pl[k] := List.getElem?_eq_getElem (by omega)
   rw [(List.getElem?_zip_eq_some (z := (ts[k].2, pl[k]))).2 ⟨by rw [List.getElem?_map, hxk]; rfl, hpn⟩]; rfl
  have hlen : ts[k].2.length ≤ 1000000 := by
   obtain ⟨q, hq⟩ := B5B (r := ⟨.nilIface, .nilIface, .nilIface, c, pool, ts, pl⟩) e3 hmem
   have := (hi2.tab (ts[k].2, q) (by rw [← hte]; exact hq)).len
   simp only at this; omega
  have hkl' : (k : Int) < c.sh := by omega
  simp only [D0, N6, RmS.cs, List.cons_append, List.nil_append]
  (have hQq := trivial; repeat ((first | clear hQq | (with_reducible first | refine A3 ?_ | refine A4 fun _ => ?_ | refine A5 fun _ => ?_)); (try simp (disch := first | omega | assumption | ((repeat (first | exact A0 | exact Up.here | apply A1 | apply Up.there)); first | done | fail) | (simp; first | done | omega | fail)) [hkl, hkl', hkt, hv1])))
  refine B2L hi2 (by simp only [D0]; ((repeat (first | exact Part.nil | (apply Part.cons; · ((repeat (first | exact A0 | exact Up.here | exact Sel.here | apply A1 | apply Up.there | apply Sel.there)); first | done | fail)))); first | done | fail)) fun r => ?_
  rw [htv]
  simp only [D0, N6, RmS.cs, List.cons_append, List.nil_append]
  (have hQq := trivial; repeat ((first | clear hQq | (with_reducible first | refine A3 ?_ | refine A4 fun _ => ?_ | refine A5 fun _ => ?_)); (try simp (disch := first | omega | assumption | ((repeat (first | exact A0 | exact Up.here | apply A1 | apply Up.there)); first | done | fail) | (simp; first | done | omega | fail)) [hkl, hkl', hkt, hv1])))
  refine B7 A4N (fun w' hw' => B9F w' r ts[k].1 ts[k].2 ts[k].2 hlen hlen (K6.own (e := 71) (k := 4) (by ((repeat (first | exact A0 | exact Up.here | exact Sel.here | apply A1 | apply Up.there | apply Sel.there)); first | done | fail)) w' hw') (r4 (t := ts[k]) hw' (ts := ts) (by ((repeat (first | exact A0 | exact Up.here | exact Sel.here | apply A1 | apply Up.there | apply Sel.there)); first | done | fail)) hmem)) ?_
  (have hQq := trivial; repeat ((first | clear hQq | (with_reducible first | refine A3 ?_ | refine A4 fun _ => ?_ | refine A5 fun _ => ?_)); (try simp (disch := first | omega | assumption | ((repeat (first | exact A0 | exact Up.here | apply A1 | apply Up.there)); first | done | fail) | (simp; first | done | omega | fail)) [])))
  refine Sels.tw ?_ (hL2 hkl () trivial)
  simp only [D0, N6, RmS.cs, List.cons_append, List.nil_append]
  ((repeat (first | exact Sels.nil | (apply Sels.cons; · ((repeat (first | exact A0 | exact Up.here | exact Sel.here | apply A1 | apply Up.there | apply Sel.there)); first | done | fail)))); first | done | fail)
 ·obtain rfl : k = n := by omega
  have hkl' : ¬ (k : Int) < c.sh := by omega
  simp only [D0, N6, RmS.cs, List.cons_append, List.nil_append]
  (have hQq := trivial; repeat ((first | clear hQq | (with_reducible first | refine A3 ?_ | refine A4 fun _ => ?_ | refine A5 fun _ => ?_)); (try simp (disch := first | omega | assumption | ((repeat (first | exact A0 | exact Up.here | apply A1 | apply Up.there)); first | done | fail) | (simp; first | done | omega | fail)) [hkl'])))
  refine Sels.tw ?_ (hL hlt (m2, ⟨pa, pc, some ⟨g, 0, none⟩, tc, ra, rc, pool, ts, pl⟩) ⟨by rw [hb2, hb1], hi2, hx2⟩)
  simp only [D0, N6, RmS.cs, List.cons_append, List.nil_append]
  ((repeat (first | exact Sels.nil | (apply Sels.cons; · ((repeat (first | exact A0 | exact Up.here | exact Sel.here | apply A1 | apply Up.there | apply Sel.there)); first | done | fail)))); first | done | fail)
end Go.Proofs.YtggakcpabomliaaGreat
