/- The proof of a given statement, a part of it (Rf09 Makes Rf17a DecidesW). No condition but what each lemma says. -/
import Derived.Test.YtggakcpabomliaaGreatD16
set_option linter.unusedVariables false
set_option linter.unusedSimpArgs false
namespace Go.Proofs.YtggakcpabomliaaGreat
open Go
theorem byteAt_left {a b : ByteArray} {i : Nat} (h : i < a.size) : byteAt (a ++ b) i = byteAt a i := by
  unfold byteAt
  rw [ByteArray.data_append]
  simp only [Array.getD_eq_getD_getElem?]
  rw [Array.getElem?_append_left (by exact h)]
theorem byteAt_right {a b : ByteArray} {i : Nat} : byteAt (a ++ b) (a.size + i) = byteAt b i := by
  unfold byteAt
  rw [ByteArray.data_append]
  simp only [Array.getD_eq_getD_getElem?]
  rw [Array.getElem?_append_right (by show a.size ≤ a.size + i; omega)]
  have : a.size + i - a.data.size = i := by show a.size + i - a.size = i; omega
  rw [this]
theorem fnvI_left (h : Nat) (a b : ByteArray) : ∀ i, i ≤ a.size → fnvI h (a ++ b) i = fnvI h a i := by
  intro i
  induction i with
  | zero => intro _; rfl
  | succ i ih => intro hi; simp only [fnvI]; rw [ih (by omega), byteAt_left (by omega)]
theorem fnvI_right (h : Nat) (a b : ByteArray) : ∀ i, fnvI h (a ++ b) (a.size + i) = fnvI (fnvI h a a.size) b i := by
  intro i
  induction i with
  | zero => exact fnvI_left h a b _ (Nat.le_refl _)
  | succ i ih =>
    show fnvN (fnvI h (a ++ b) (a.size + i)) (byteAt (a ++ b) (a.size + i)) = fnvN (fnvI (fnvI h a a.size) b i) (byteAt b i)
    rw [ih, byteAt_right]
theorem fnvJ_app (h : Nat) (a b : ByteArray) : fnvJ h (a ++ b) = fnvJ (fnvJ h a) b := by
  unfold fnvJ
  rw [ByteArray.size_append]
  exact fnvI_right h a b _
theorem hash09_ok (w : World) (id : Int) (n : Nat) (hn : n < 2 ^ 60) : Fn PR NoX 165 #[.int .i64 id, .int .i64 (n : Int)] w (fun v w' => v = .int .u64 (hashP id n : Nat) ∧ But [] w w') := by
  refine Fn.pure (mk_gangplankref09_Hash (TW.go (κ := false) (S := []) ?_))
  unfold sh_gangplankref09_Hash
  obtain ⟨q, hq⟩ : ∃ q : Nat, IntKind.u64.wrap id = q := ⟨(IntKind.u64.wrap id).toNat, by simp only [IntKind.wrap, IntKind.bits, IntKind.signed]; simp; omega⟩
  have hql : q < 2 ^ 64 := by
    have : IntKind.u64.wrap id < 2 ^ 64 := by simp only [IntKind.wrap, IntKind.bits, IntKind.signed]; simp; omega
    omega
  (have hQq := trivial; repeat ((first | clear hQq | (with_reducible first | refine T_drw ?_ | refine T_bx fun _ => ?_ | refine s_al fun _ => ?_ | refine s_bs0 fun _ => ?_ | refine s_bs1 (hK := fun _ => ?_) | refine s_bs2 (hK := fun _ => ?_) | refine s_bs3 (hK := fun _ => ?_) | refine s_bs5 (hK := fun _ => ?_) | refine s_bs6 (hK := fun _ => ?_))); (try simp (disch := first | omega | assumption | ((repeat (first | exact mem_h | exact Up.here | apply mem_t | apply Up.there)); first | done | fail) | (simp; first | done | omega | fail)) [hq])))
  refine T_cv ent_gangplankref01_Put (fun w' hw' => put1_ok w' q 4 hql) ?_
  (have hQq := trivial; repeat ((first | clear hQq | (with_reducible first | refine T_drw ?_ | refine T_bx fun _ => ?_ | refine s_al fun _ => ?_ | refine s_bs0 fun _ => ?_ | refine s_bs1 (hK := fun _ => ?_) | refine s_bs2 (hK := fun _ => ?_) | refine s_bs3 (hK := fun _ => ?_) | refine s_bs5 (hK := fun _ => ?_) | refine s_bs6 (hK := fun _ => ?_))); (try simp (disch := first | omega | assumption | ((repeat (first | exact mem_h | exact Up.here | apply mem_t | apply Up.there)); first | done | fail) | (simp; first | done | omega | fail)) [])))
  refine T_cv ent_gangplankref01_Put (fun w' hw' => put1_ok w' n 2 (by omega)) ?_
  (have hQq := trivial; repeat ((first | clear hQq | (with_reducible first | refine T_drw ?_ | refine T_bx fun _ => ?_ | refine s_al fun _ => ?_ | refine s_bs0 fun _ => ?_ | refine s_bs1 (hK := fun _ => ?_) | refine s_bs2 (hK := fun _ => ?_) | refine s_bs3 (hK := fun _ => ?_) | refine s_bs5 (hK := fun _ => ?_) | refine s_bs6 (hK := fun _ => ?_))); (try simp (disch := first | omega | assumption | ((repeat (first | exact mem_h | exact Up.here | apply mem_t | apply Up.there)); first | done | fail) | (simp; first | done | omega | fail)) [p_addS])))
  refine T_cv ent_gangplankref02_Sum (fun w' _ => sum2_ok w' _ (by simp)) ?_
  refine T_ret ?_
  unfold hashP fnvS
  rw [hq, fnvJ_app, fnvJ_app, fnvJ_app]
  rfl
theorem less09_ok (w : World) (x y : Nat × Int) : Fn PR NoX 216 #[.agg #[.int .u64 (x.1 : Nat), .int .i64 x.2], .agg #[.int .u64 (y.1 : Nat), .int .i64 y.2]] w (fun r w' => r = .bool (!leP y x) ∧ But [] w w') := by
  refine Fn.pure (mk_gangplankref09_Less (TW.go (κ := false) (S := []) ?_))
  unfold sh_gangplankref09_Less
  by_cases c1 : x.1 < y.1
  · have c1' : (x.1 : Int) < (y.1 : Int) := by omega
    have e : leP y x = false := by unfold leP; rw [decide_eq_false_iff_not]; omega
    (have hQq := trivial; repeat ((first | clear hQq | (with_reducible first | refine T_drw ?_ | refine T_bx fun _ => ?_ | refine s_al fun _ => ?_ | refine s_bs0 fun _ => ?_ | refine s_bs1 (hK := fun _ => ?_) | refine s_bs2 (hK := fun _ => ?_) | refine s_bs3 (hK := fun _ => ?_) | refine s_bs5 (hK := fun _ => ?_) | refine s_bs6 (hK := fun _ => ?_))); (try simp (disch := first | omega | assumption | ((repeat (first | exact mem_h | exact Up.here | apply mem_t | apply Up.there)); first | done | fail) | (simp; first | done | omega | fail)) [c1, c1'])))
    exact T_ret (by rw [e]; rfl)
  have c1' : ¬ (x.1 : Int) < (y.1 : Int) := by omega
  by_cases c2 : x.1 = y.1
  · by_cases c3 : x.2 < y.2
    · have e : leP y x = false := by unfold leP; rw [decide_eq_false_iff_not]; omega
      (have hQq := trivial; repeat ((first | clear hQq | (with_reducible first | refine T_drw ?_ | refine T_bx fun _ => ?_ | refine s_al fun _ => ?_ | refine s_bs0 fun _ => ?_ | refine s_bs1 (hK := fun _ => ?_) | refine s_bs2 (hK := fun _ => ?_) | refine s_bs3 (hK := fun _ => ?_) | refine s_bs5 (hK := fun _ => ?_) | refine s_bs6 (hK := fun _ => ?_))); (try simp (disch := first | omega | assumption | ((repeat (first | exact mem_h | exact Up.here | apply mem_t | apply Up.there)); first | done | fail) | (simp; first | done | omega | fail)) [c1, c1', c2, c3])))
      exact T_ret (by rw [e]; rfl)
    · have e : leP y x = true := by unfold leP; rw [decide_eq_true_eq]; omega
      (have hQq := trivial; repeat ((first | clear hQq | (with_reducible first | refine T_drw ?_ | refine T_bx fun _ => ?_ | refine s_al fun _ => ?_ | refine s_bs0 fun _ => ?_ | refine s_bs1 (hK := fun _ => ?_) | refine s_bs2 (hK := fun _ => ?_) | refine s_bs3 (hK := fun _ => ?_) | refine s_bs5 (hK := fun _ => ?_) | refine s_bs6 (hK := fun _ => ?_))); (try simp (disch := first | omega | assumption | ((repeat (first | exact mem_h | exact Up.here | apply mem_t | apply Up.there)); first | done | fail) | (simp; first | done | omega | fail)) [c1, c1', c2, c3])))
      exact T_ret (by rw [e]; rfl)
  · have c2' : ¬ (x.1 : Int) = (y.1 : Int) := by omega
    have e : leP y x = true := by unfold leP; rw [decide_eq_true_eq]; omega
    (have hQq := trivial; repeat ((first | clear hQq | (with_reducible first | refine T_drw ?_ | refine T_bx fun _ => ?_ | refine s_al fun _ => ?_ | refine s_bs0 fun _ => ?_ | refine s_bs1 (hK := fun _ => ?_) | refine s_bs2 (hK := fun _ => ?_) | refine s_bs3 (hK := fun _ => ?_) | refine s_bs5 (hK := fun _ => ?_) | refine s_bs6 (hK := fun _ => ?_))); (try simp (disch := first | omega | assumption | ((repeat (first | exact mem_h | exact Up.here | apply mem_t | apply Up.there)); first | done | fail) | (simp; first | done | omega | fail)) [c1, c1', c2, c2'])))
    exact T_ret (by rw [e]; rfl)
abbrev ownT (v : Value) (l : List (Nat × Int)) : Res := .own 199 2 v l.length (l.flatMap encP)
theorem RdT.mono {κ : Bool} {S : List Nat} {w0 : World} {H H' : List Res} {v : Value} {n : Nat} {xs : List Value} (h : RdT κ S w0 H v n xs) (hs : H.Sublist H') : RdT κ S w0 H' v n xs := fun w hw => h w (hw.sub hs)
theorem merge_step1 {a b : List (Nat × Int)} {i k : Nat} {x : Nat × Int} (hx : a[i]? = some x) (h : b.length ≤ k ∨ ∃ y, b[k]? = some y ∧ leP x y = true) : (a.drop i).merge (b.drop k) leP = x :: (a.drop (i + 1)).merge (b.drop k) leP := by
  obtain ⟨hi, e⟩ := List.getElem?_eq_some_iff.1 hx
  rw [List.drop_eq_getElem_cons hi, e]
  rcases h with h | ⟨y, hy, hle⟩
  · rw [List.drop_of_length_le h]; simp
  · obtain ⟨hk, e2⟩ := List.getElem?_eq_some_iff.1 hy
    rw [List.drop_eq_getElem_cons hk, e2, List.cons_merge_cons, if_pos hle]
theorem merge_step2 {a b : List (Nat × Int)} {i k : Nat} {y : Nat × Int} (hy : b[k]? = some y) (h : a.length ≤ i ∨ ∃ x, a[i]? = some x ∧ ¬ leP x y = true) : (a.drop i).merge (b.drop k) leP = y :: (a.drop i).merge (b.drop (k + 1)) leP := by
  obtain ⟨hk, e⟩ := List.getElem?_eq_some_iff.1 hy
  rw [List.drop_eq_getElem_cons hk, e]
  rcases h with h | ⟨x, hx, hle⟩
  · rw [List.drop_of_length_le h]; simp
  · obtain ⟨hi, e2⟩ := List.getElem?_eq_some_iff.1 hx
    rw [List.drop_eq_getElem_cons hi, e2, List.cons_merge_cons, if_neg hle]
theorem merge09_ok (w : World) (u v : Value) (a b : List (Nat × Int)) (ha : a.length ≤ 1000000) (hb : b.length ≤ 1000000) (hu : Rd1 w u a.length (a.flatMap encP)) (hv : Rd1 w v b.length (b.flatMap encP)) :
    Fn PR NoX 196 #[u, v] w (Rn [] w (fun r x => x = r) fun r => [ownT r (a.merge b leP)]) := by
  refine mk_gangplankref09_merge (TW.go (κ := false) (S := []) ?_)
  unfold sh_gangplankref09_merge
  obtain ⟨ua, uc, rfl, hur⟩ := hu.form
  obtain ⟨va, vc, rfl, hvr⟩ := hv.form
  have hel : ∀ x : Nat × Int, (encP x).length = 2 := fun _ => rfl
  have hml : (a.merge b leP).length = a.length + b.length := List.length_merge ..
  (have hQq := trivial; repeat ((first | clear hQq | (with_reducible first | refine T_drw ?_ | refine T_bx fun _ => ?_ | refine s_al fun _ => ?_ | refine s_bs0 fun _ => ?_ | refine s_bs1 (hK := fun _ => ?_) | refine s_bs2 (hK := fun _ => ?_) | refine s_bs3 (hK := fun _ => ?_) | refine s_bs5 (hK := fun _ => ?_) | refine s_bs6 (hK := fun _ => ?_))); (try simp (disch := first | omega | assumption | ((repeat (first | exact mem_h | exact Up.here | apply mem_t | apply Up.there)); first | done | fail) | (simp; first | done | omega | fail)) [])))
  refine T_nil 199 2 ?_
  refine T_lp3 (α := Nat × Nat × List (Nat × Int) × Value) (fun s => [ownT s.2.2.2 s.2.2.1]) (fun s => s.1 ≤ a.length ∧ s.2.1 ≤ b.length ∧ s.2.2.1.length = s.1 + s.2.1 ∧ s.2.2.1 ++ (a.drop s.1).merge (b.drop s.2.1) leP = a.merge b leP) (fun s => a.length + b.length - (s.1 + s.2.1)) (0, 0, [], .slice none 0 0)
    (fun s => .int .i64 (s.1 : Nat)) (fun s => s.2.2.2) (fun s => .int .i64 (s.2.1 : Nat)) ⟨by simp, by simp, rfl, by simp⟩ ?_
  rintro ⟨i, k, out, r⟩ ⟨h1, h2, h3, h4⟩ L hL
  simp only at h1 h2 h3 h4 hL ⊢
  have hwi : IntKind.i64.wrap ((i : Int) + 1) = (i : Int) + 1 := wrap64 (by omega) (by omega)
  have hwk : IntKind.i64.wrap ((k : Int) + 1) = (k : Int) + 1 := wrap64 (by omega) (by omega)
  refine T_opn (by ((repeat (first | exact mem_h | exact Up.here | exact Sel.here | apply mem_t | apply Up.there | apply Sel.there)); first | done | fail)) fun ra rc hr => ?_
  subst hr
  have pushA : ∀ x, a[i]? = some x → (b.length ≤ k ∨ ∃ y, b[k]? = some y ∧ leP x y = true) → ∀ a' c', TW false [] w [ownT (.slice a' (out.length + 1) c') (out ++ [x])] (L (.int .i64 ((i + 1 : Nat) : Int)) (.slice a' (out.length + 1) c') (.int .i64 (k : Nat))) := fun x hx hc a' c' => by
    have hi := (List.getElem?_eq_some_iff.1 hx).1
    have := hL (i + 1, k, out ++ [x], .slice a' (out.length + 1) c') ⟨by simp only; omega, h2, by simp only [List.length_append, List.length_singleton]; omega, by simp only; rw [List.append_assoc, List.singleton_append, ← merge_step1 hx hc, h4]⟩ (by simp only; omega)
    exact this
  have pushB : ∀ y, b[k]? = some y → (a.length ≤ i ∨ ∃ x, a[i]? = some x ∧ ¬ leP x y = true) → ∀ a' c', TW false [] w [ownT (.slice a' (out.length + 1) c') (out ++ [y])] (L (.int .i64 (i : Nat)) (.slice a' (out.length + 1) c') (.int .i64 ((k + 1 : Nat) : Int))) := fun y hy hc a' c' => by
    have hk := (List.getElem?_eq_some_iff.1 hy).1
    have := hL (i, k + 1, out ++ [y], .slice a' (out.length + 1) c') ⟨h1, by simp only; omega, by simp only [List.length_append, List.length_singleton]; omega, by simp only; rw [List.append_assoc, List.singleton_append, ← merge_step2 hy hc, h4]⟩ (by simp only; omega)
    exact this
  have doA : ∀ (g : Nat) (x : Nat × Int) (K : Value → WP), (∀ a' c', TW false [] w [ownT (.slice a' (out.length + 1) c') (out ++ [x])] (K (.slice a' (out.length + 1) c'))) → TW false [] w [.own 199 2 (.slice (some ⟨g, 0, none⟩) 1 1) 1 (encP x), ownT (.slice ra out.length rc) out]
      (lou PR NoX (builtinS .append #[146, 146] 146 [.slice ra out.length rc, .slice (some ⟨g, 0, none⟩) 1 1]) K) := fun g x K hK => by
    refine s_app (e := 199) (k := 2) (q := out.length) (r := 1) (xs := out.flatMap encP) (news := encP x) (by ((repeat (first | exact mem_h | exact Up.here | exact Sel.here | apply mem_t | apply Up.there | apply Sel.there)); first | done | fail)) (RdT.own (by ((repeat (first | exact mem_h | exact Up.here | exact Sel.here | apply mem_t | apply Up.there | apply Sel.there)); first | done | fail))) (by decide) rfl (by simp [encP]) (by simp only [maxLen]; omega) (by omega) fun a' c' => ?_
    have h := hK a' c'
    simp only [ownT, List.length_append, List.length_singleton, List.flatMap_append, show [x].flatMap encP = encP x by simp] at h
    exact Sels.tw (by ((repeat (first | exact Sels.nil | (apply Sels.cons; · ((repeat (first | exact mem_h | exact Up.here | exact Sel.here | apply mem_t | apply Up.there | apply Sel.there)); first | done | fail)))); first | done | fail)) h
  by_cases ci : i < a.length
  · have hx := List.getElem?_eq_getElem ci
    obtain ⟨ub, uo, rfl, hurow⟩ := hur (by omega)
    have hra := hurow.at (f := encP) (k := 2) hel hx
    by_cases ck : k < b.length
    · have hy := List.getElem?_eq_getElem ck
      obtain ⟨vb, vo, rfl, hvrow⟩ := hvr (by omega)
      have hrb := hvrow.at (f := encP) (k := 2) hel hy
      generalize a[i] = x at *
      generalize b[k] = y at *
      rw [encP] at hra hrb
      have ck' : ¬ (b.length : Int) ≤ (k : Int) := by omega
      have ckN : ¬ b.length ≤ k := by omega
      have ci' : (i : Int) < (a.length : Int) := by omega
      (have hQq := trivial; repeat ((first | clear hQq | (with_reducible first | refine T_drw ?_ | refine T_bx fun _ => ?_ | refine s_al fun _ => ?_ | refine s_bs0 fun _ => ?_ | refine s_bs1 (hK := fun _ => ?_) | refine s_bs2 (hK := fun _ => ?_) | refine s_bs3 (hK := fun _ => ?_) | refine s_bs5 (hK := fun _ => ?_) | refine s_bs6 (hK := fun _ => ?_))); (try simp (disch := first | omega | assumption | ((repeat (first | exact mem_h | exact Up.here | apply mem_t | apply Up.there)); first | done | fail) | (simp; first | done | omega | fail)) [ci, ci', ck, ck', ckN, hra, hrb])))
      refine T_cv ent_gangplankref09_Less (fun w' _ => less09_ok w' y x) ?_
      cases hle : leP x y with
      | true =>
        (have hQq := trivial; repeat ((first | clear hQq | (with_reducible first | refine T_drw ?_ | refine T_bx fun _ => ?_ | refine s_al fun _ => ?_ | refine s_bs0 fun _ => ?_ | refine s_bs1 (hK := fun _ => ?_) | refine s_bs2 (hK := fun _ => ?_) | refine s_bs3 (hK := fun _ => ?_) | refine s_bs5 (hK := fun _ => ?_) | refine s_bs6 (hK := fun _ => ?_))); (try simp (disch := first | omega | assumption | ((repeat (first | exact mem_h | exact Up.here | apply mem_t | apply Up.there)); first | done | fail) | (simp; first | done | omega | fail)) [ci, ci', ck, ck', ckN, hra])))
        refine doA _ x _ fun a' c' => ?_
        (have hQq := trivial; repeat ((first | clear hQq | (with_reducible first | refine T_drw ?_ | refine T_bx fun _ => ?_ | refine s_al fun _ => ?_ | refine s_bs0 fun _ => ?_ | refine s_bs1 (hK := fun _ => ?_) | refine s_bs2 (hK := fun _ => ?_) | refine s_bs3 (hK := fun _ => ?_) | refine s_bs5 (hK := fun _ => ?_) | refine s_bs6 (hK := fun _ => ?_))); (try simp (disch := first | omega | assumption | ((repeat (first | exact mem_h | exact Up.here | apply mem_t | apply Up.there)); first | done | fail) | (simp; first | done | omega | fail)) [hwi])))
        exact pushA x hx (Or.inr ⟨y, hy, hle⟩) a' c'
      | false =>
        (have hQq := trivial; repeat ((first | clear hQq | (with_reducible first | refine T_drw ?_ | refine T_bx fun _ => ?_ | refine s_al fun _ => ?_ | refine s_bs0 fun _ => ?_ | refine s_bs1 (hK := fun _ => ?_) | refine s_bs2 (hK := fun _ => ?_) | refine s_bs3 (hK := fun _ => ?_) | refine s_bs5 (hK := fun _ => ?_) | refine s_bs6 (hK := fun _ => ?_))); (try simp (disch := first | omega | assumption | ((repeat (first | exact mem_h | exact Up.here | apply mem_t | apply Up.there)); first | done | fail) | (simp; first | done | omega | fail)) [ci, ci', ck, ck', ckN, hrb])))
        refine doA _ y _ fun a' c' => ?_
        (have hQq := trivial; repeat ((first | clear hQq | (with_reducible first | refine T_drw ?_ | refine T_bx fun _ => ?_ | refine s_al fun _ => ?_ | refine s_bs0 fun _ => ?_ | refine s_bs1 (hK := fun _ => ?_) | refine s_bs2 (hK := fun _ => ?_) | refine s_bs3 (hK := fun _ => ?_) | refine s_bs5 (hK := fun _ => ?_) | refine s_bs6 (hK := fun _ => ?_))); (try simp (disch := first | omega | assumption | ((repeat (first | exact mem_h | exact Up.here | apply mem_t | apply Up.there)); first | done | fail) | (simp; first | done | omega | fail)) [hwk])))
        exact pushB y hy (Or.inr ⟨x, hx, by rw [hle]; simp⟩) a' c'
    · generalize a[i] = x at *
      rw [encP] at hra
      have ck' : (b.length : Int) ≤ (k : Int) := by omega
      have ckN : b.length ≤ k := by omega
      have ci' : (i : Int) < (a.length : Int) := by omega
      (have hQq := trivial; repeat ((first | clear hQq | (with_reducible first | refine T_drw ?_ | refine T_bx fun _ => ?_ | refine s_al fun _ => ?_ | refine s_bs0 fun _ => ?_ | refine s_bs1 (hK := fun _ => ?_) | refine s_bs2 (hK := fun _ => ?_) | refine s_bs3 (hK := fun _ => ?_) | refine s_bs5 (hK := fun _ => ?_) | refine s_bs6 (hK := fun _ => ?_))); (try simp (disch := first | omega | assumption | ((repeat (first | exact mem_h | exact Up.here | apply mem_t | apply Up.there)); first | done | fail) | (simp; first | done | omega | fail)) [ci, ci', ck, ck', ckN, hra])))
      refine doA _ x _ fun a' c' => ?_
      (have hQq := trivial; repeat ((first | clear hQq | (with_reducible first | refine T_drw ?_ | refine T_bx fun _ => ?_ | refine s_al fun _ => ?_ | refine s_bs0 fun _ => ?_ | refine s_bs1 (hK := fun _ => ?_) | refine s_bs2 (hK := fun _ => ?_) | refine s_bs3 (hK := fun _ => ?_) | refine s_bs5 (hK := fun _ => ?_) | refine s_bs6 (hK := fun _ => ?_))); (try simp (disch := first | omega | assumption | ((repeat (first | exact mem_h | exact Up.here | apply mem_t | apply Up.there)); first | done | fail) | (simp; first | done | omega | fail)) [hwi])))
      exact pushA x hx (Or.inl (by omega)) a' c'
  · by_cases ck : k < b.length
    · have hy := List.getElem?_eq_getElem ck
      obtain ⟨vb, vo, rfl, hvrow⟩ := hvr (by omega)
      have hrb := hvrow.at (f := encP) (k := 2) hel hy
      generalize b[k] = y at *
      rw [encP] at hrb
      have ck' : ¬ (b.length : Int) ≤ (k : Int) := by omega
      have ci' : ¬ (i : Int) < (a.length : Int) := by omega
      have ck2 : (k : Int) < (b.length : Int) := by omega
      have ckN : ¬ b.length ≤ k := by omega
      (have hQq := trivial; repeat ((first | clear hQq | (with_reducible first | refine T_drw ?_ | refine T_bx fun _ => ?_ | refine s_al fun _ => ?_ | refine s_bs0 fun _ => ?_ | refine s_bs1 (hK := fun _ => ?_) | refine s_bs2 (hK := fun _ => ?_) | refine s_bs3 (hK := fun _ => ?_) | refine s_bs5 (hK := fun _ => ?_) | refine s_bs6 (hK := fun _ => ?_))); (try simp (disch := first | omega | assumption | ((repeat (first | exact mem_h | exact Up.here | apply mem_t | apply Up.there)); first | done | fail) | (simp; first | done | omega | fail)) [ci, ci', ck, ck', ckN, ck2, hrb])))
      refine doA _ y _ fun a' c' => ?_
      (have hQq := trivial; repeat ((first | clear hQq | (with_reducible first | refine T_drw ?_ | refine T_bx fun _ => ?_ | refine s_al fun _ => ?_ | refine s_bs0 fun _ => ?_ | refine s_bs1 (hK := fun _ => ?_) | refine s_bs2 (hK := fun _ => ?_) | refine s_bs3 (hK := fun _ => ?_) | refine s_bs5 (hK := fun _ => ?_) | refine s_bs6 (hK := fun _ => ?_))); (try simp (disch := first | omega | assumption | ((repeat (first | exact mem_h | exact Up.here | apply mem_t | apply Up.there)); first | done | fail) | (simp; first | done | omega | fail)) [hwk])))
      exact pushB y hy (Or.inl (by omega)) a' c'
    · have ci' : ¬ (i : Int) < (a.length : Int) := by omega
      have ck2 : ¬ (k : Int) < (b.length : Int) := by omega
      have he : out = a.merge b leP := by
        rw [← h4, List.drop_of_length_le (by omega), List.drop_of_length_le (by omega)]; simp
      (have hQq := trivial; repeat ((first | clear hQq | (with_reducible first | refine T_drw ?_ | refine T_bx fun _ => ?_ | refine s_al fun _ => ?_ | refine s_bs0 fun _ => ?_ | refine s_bs1 (hK := fun _ => ?_) | refine s_bs2 (hK := fun _ => ?_) | refine s_bs3 (hK := fun _ => ?_) | refine s_bs5 (hK := fun _ => ?_) | refine s_bs6 (hK := fun _ => ?_))); (try simp (disch := first | omega | assumption | ((repeat (first | exact mem_h | exact Up.here | apply mem_t | apply Up.there)); first | done | fail) | (simp; first | done | omega | fail)) [ci, ci', ck, ck2])))
      rw [← he]
      exact T_rets _ rfl (by ((repeat (first | exact Sels.nil | (apply Sels.cons; · ((repeat (first | exact mem_h | exact Up.here | exact Sel.here | apply mem_t | apply Up.there | apply Sel.there)); first | done | fail)))); first | done | fail))
theorem leP_trans (x y z : Nat × Int) (h1 : leP x y = true) (h2 : leP y z = true) : leP x z = true := by unfold leP at *; rw [decide_eq_true_eq] at *; omega
theorem leP_total (x y : Nat × Int) : (leP x y || leP y x) = true := by
  unfold leP; rw [Bool.or_eq_true, decide_eq_true_eq, decide_eq_true_eq]; omega
theorem leP_anti (x y : Nat × Int) (h1 : leP x y = true) (h2 : leP y x = true) : x = y := by
  unfold leP at *; rw [decide_eq_true_eq] at *
  exact Prod.ext (by omega) (by omega)
theorem sortP_sorted (l : List (Nat × Int)) : (sortP l).Pairwise fun a b => leP a b = true := List.pairwise_mergeSort leP_trans leP_total l
theorem sortP_perm (l : List (Nat × Int)) : (sortP l).Perm l := List.mergeSort_perm l leP
theorem sortP_merge (l m : List (Nat × Int)) : (sortP l).merge (sortP m) leP = sortP (l ++ m) := by
  refine List.Perm.eq_of_pairwise (fun a b _ _ h1 h2 => leP_anti a b h1 h2) (List.pairwise_merge leP_trans leP_total _ _ (sortP_sorted l) (sortP_sorted m)) (sortP_sorted _) ?_
  exact (List.merge_perm_append leP).trans (((sortP_perm l).append (sortP_perm m)).trans (sortP_perm _).symm)
theorem sortP_short {l : List (Nat × Int)} (h : l.length < 2) : sortP l = l := by
  match l, h with
  | [], _ => simp [sortP]
  | [a], _ => simp [sortP]
theorem row_split {w : World} {b o : Nat} {xs ys : List Value} (h : Row w b o (xs ++ ys)) : Row w b o xs ∧ Row w b (o + xs.length) ys := by
  refine ⟨fun i hi => ?_, fun i hi => ?_⟩
  · rw [h i (by simp; omega), List.getElem?_append_left hi]
  · rw [Nat.add_assoc, h (xs.length + i) (by simp; omega), List.getElem?_append_right (by omega)]; congr 1; omega
/-- a slice that is read, with room for its own -/
def RdC (w : World) (v : Value) (l : List (Nat × Int)) : Prop := Rd1 w v l.length (l.flatMap encP) ∧ ∃ a c, v = .slice a l.length c ∧ l.length ≤ c
theorem RdC.ks {w w' : World} {v : Value} {l : List (Nat × Int)} (h : RdC w v l) (hk : KS false [] w w') : RdC w' v l := ⟨h.1.ks hk (by simp), h.2⟩
theorem T_sort {w : World} {H : List Res} {K : Value → WP} {v : Value} {l : List (Nat × Int)}
    (hf : ∀ w', LW false [] w H w' → Fn PR NoX 166 #[v] w' (Rn [] w' (fun r u => u = if l.length < 2 then v else r) fun r => if l.length < 2 then [] else [ownT r (sortP l)]))
    (hv : ∀ w', LW false [] w H w' → Rd1 w' v l.length (l.flatMap encP)) (hK : ∀ u H', H.Sublist H' → RdT false [] w H' u (sortP l).length ((sortP l).flatMap encP) → TW false [] w H' (K u)) : TW false [] w H (cal PR NoX 166 [v] K) := by
  refine T_cn ent_gangplankref09_sort (fun w' hw' => hf w' hw') ?_
  rintro r _ rfl
  by_cases c : l.length < 2
  · rw [if_pos c, if_pos c]
    exact hK v H (List.Sublist.refl _) (by rw [sortP_short c]; exact hv)
  · rw [if_neg c, if_neg c]
    exact hK r _ (List.sublist_append_right _ _) (RdT.own mem_h)
theorem sort09_ok : ∀ (n : Nat) (w : World) (v : Value) (l : List (Nat × Int)), l.length ≤ n → n ≤ 1000000 → RdC w v l →
    Fn PR NoX 166 #[v] w (Rn [] w (fun r u => u = if l.length < 2 then v else r) fun r => if l.length < 2 then [] else [ownT r (sortP l)]) := by
  intro n
  induction n with
  | zero =>
    intro w v l hl hn hv
    obtain ⟨h1, a, c, rfl, hc⟩ := hv
    refine mk_gangplankref09_sort (TW.go (κ := false) (S := []) ?_)
    unfold sh_gangplankref09_sort
    have c1 : (l.length : Int) < 2 := by omega
    have c1n : l.length < 2 := by omega
    (have hQq := trivial; repeat ((first | clear hQq | (with_reducible first | refine T_drw ?_ | refine T_bx fun _ => ?_ | refine s_al fun _ => ?_ | refine s_bs0 fun _ => ?_ | refine s_bs1 (hK := fun _ => ?_) | refine s_bs2 (hK := fun _ => ?_) | refine s_bs3 (hK := fun _ => ?_) | refine s_bs5 (hK := fun _ => ?_) | refine s_bs6 (hK := fun _ => ?_))); (try simp (disch := first | omega | assumption | ((repeat (first | exact mem_h | exact Up.here | apply mem_t | apply Up.there)); first | done | fail) | (simp; first | done | omega | fail)) [c1, c1n])))
    exact T_rets .nilIface (by simp [c1n]) Sels.nil
  | succ n ih =>
    intro w v l hl hn hv
    obtain ⟨h1, a, c, rfl, hc⟩ := hv
    refine mk_gangplankref09_sort (TW.go (κ := false) (S := []) ?_)
    unfold sh_gangplankref09_sort
    by_cases c1n : l.length < 2
    · have c1 : (l.length : Int) < 2 := by omega
      (have hQq := trivial; repeat ((first | clear hQq | (with_reducible first | refine T_drw ?_ | refine T_bx fun _ => ?_ | refine s_al fun _ => ?_ | refine s_bs0 fun _ => ?_ | refine s_bs1 (hK := fun _ => ?_) | refine s_bs2 (hK := fun _ => ?_) | refine s_bs3 (hK := fun _ => ?_) | refine s_bs5 (hK := fun _ => ?_) | refine s_bs6 (hK := fun _ => ?_))); (try simp (disch := first | omega | assumption | ((repeat (first | exact mem_h | exact Up.here | apply mem_t | apply Up.there)); first | done | fail) | (simp; first | done | omega | fail)) [c1, c1n])))
      exact T_rets .nilIface (by simp [c1n]) Sels.nil
    have c1 : ¬ (l.length : Int) < 2 := by omega
    obtain ⟨h, hh⟩ : ∃ h, h = l.length / 2 := ⟨_, rfl⟩
    have e1 : IntKind.i64.wrap ((l.length : Int).tdiv 2) = (h : Nat) := by rw [Int.tdiv_eq_ediv_of_nonneg (by omega), wrap64 (by omega) (by omega)]; omega
    have hrow := h1.form
    obtain ⟨a', c', hve, hr⟩ := hrow
    cases hve
    obtain ⟨b, o, rfl, hrow⟩ := hr (by omega)
    have hlt : (l.take h).length = h := by rw [List.length_take]; omega
    have hld : (l.drop h).length = l.length - h := by rw [List.length_drop]
    have hsp : l.flatMap encP = (l.take h).flatMap encP ++ (l.drop h).flatMap encP := by rw [← List.flatMap_append, List.take_append_drop]
    rw [hsp] at hrow
    obtain ⟨r1, r2⟩ := row_split hrow
    have hl1 : ((l.take h).flatMap encP).length = h * 2 := by rw [flat_len (k := 2) fun _ => rfl, hlt]
    rw [hl1] at r2
    have rd1 : RdC w (.slice (some ⟨b, o, none⟩) h c) (l.take h) := ⟨Or.inr ⟨b, o, c, by rw [hlt], r1⟩, some ⟨b, o, none⟩, c, by rw [hlt], by omega⟩
    have rd2 : RdC w (.slice (some ⟨b, o + h * 2, none⟩) (l.length - h) (c - h)) (l.drop h) := ⟨Or.inr ⟨b, o + h * 2, c - h, by rw [hld], r2⟩, some ⟨b, o + h * 2, none⟩, c - h, by rw [hld], by omega⟩
    have e2 : ¬ c = h := by omega
    have e3 : ¬ c = 0 := by omega
    have e4 : (h : Int) ≤ (c : Int) := by omega
    have e5 : (h : Int) ≤ (l.length : Int) := by omega
    have e6 : ((l.length : Int) / 2).toNat = h := by omega
    have e7 : slc (some ⟨b, o, none⟩) h l.length c 2 = .slice (some ⟨b, o + h * 2, none⟩) (l.length - h) (c - h) := by simp [slc, e2, add_mk]
    have e8 : slc (some ⟨b, o, none⟩) 0 h c 2 = .slice (some ⟨b, o, none⟩) h c := by simp [slc, e3, add_mk]
    (have hQq := trivial; repeat ((first | clear hQq | (with_reducible first | refine T_drw ?_ | refine T_bx fun _ => ?_ | refine s_al fun _ => ?_ | refine s_bs0 fun _ => ?_ | refine s_bs1 (hK := fun _ => ?_) | refine s_bs2 (hK := fun _ => ?_) | refine s_bs3 (hK := fun _ => ?_) | refine s_bs5 (hK := fun _ => ?_) | refine s_bs6 (hK := fun _ => ?_))); (try simp (disch := first | omega | assumption | ((repeat (first | exact mem_h | exact Up.here | apply mem_t | apply Up.there)); first | done | fail) | (simp; first | done | omega | fail)) [c1, p_quo])))
    simp only [e6, e7, e8]
    refine T_sort (l := l.take h) (fun w' hw' => ih w' _ _ (by rw [hlt]; omega) (by omega) (rd1.ks hw'.ks)) (fun w' hw' => (rd1.ks hw'.ks).1) fun u1 H1 hs1 hu1 => ?_
    refine T_sort (l := l.drop h) (fun w' hw' => ih w' _ _ (by rw [hld]; omega) (by omega) (rd2.ks hw'.ks)) (fun w' hw' => (rd2.ks hw'.ks).1) fun u2 H2 hs2 hu2 => ?_
    refine T_cn ent_gangplankref09_merge (fun w' hw' => merge09_ok w' u1 u2 (sortP (l.take h)) (sortP (l.drop h)) (by rw [sortP_len]; omega) (by rw [sortP_len]; omega) (hu1.mono hs2 w' hw') (hu2 w' hw')) ?_
    intro _ r hr
    subst hr
    rw [sortP_merge, List.take_append_drop]
    refine T_rets r (by simp [c1n]) ?_
    simp only [c1n, if_false]
    exact Sels.cons Sel.here Sels.nil
theorem ptsL_next {p : List BkV} {i : Nat} {b : BkV} (h : p[i]? = some b) : ptsL (p.take (i + 1)) = ptsL (p.take i) ++ ptsB b := by
  unfold ptsL; rw [List.take_add_one, h]; simp [List.flatMap_append]
theorem ptsB_next {b : BkV} {j : Nat} (h : j < wtN b) : (ptsB b).take (j + 1) = (ptsB b).take j ++ [(hashP b.1 j, b.1)] := by
  unfold ptsB
  rw [List.take_add_one, List.getElem?_map, List.getElem?_range h]; rfl
theorem wtN_le9 (b : BkV) : wtN b ≤ 128 := by unfold wtN; omega
theorem ptsB_len (b : BkV) : (ptsB b).length = wtN b := by simp [ptsB]
theorem ptsL_le9 (p : List BkV) : (ptsL p).length ≤ p.length * 128 := by
  induction p with
  | nil => simp [ptsL]
  | cons b p ih =>
    unfold ptsL at *
    have := wtN_le9 b
    rw [List.flatMap_cons, List.length_append, ptsB_len, List.length_cons]; omega
theorem of09_ok (w : World) (v : Value) (p : List BkV) (hn : p.length ≤ 1000) (hv : Rd1 w v p.length (p.flatMap encB)) :
    Fn PR NoX 122 #[v] w (Rn [] w (fun r u => u = r) fun r => [ownT r (sortP (ptsL p))]) := by
  refine mk_gangplankref09_Of (TW.go (κ := false) (S := []) ?_)
  unfold sh_gangplankref09_Of
  obtain ⟨a, c, rfl, hr⟩ := hv.form
  (have hQq := trivial; repeat ((first | clear hQq | (with_reducible first | refine T_drw ?_ | refine T_bx fun _ => ?_ | refine s_al fun _ => ?_ | refine s_bs0 fun _ => ?_ | refine s_bs1 (hK := fun _ => ?_) | refine s_bs2 (hK := fun _ => ?_) | refine s_bs3 (hK := fun _ => ?_) | refine s_bs5 (hK := fun _ => ?_) | refine s_bs6 (hK := fun _ => ?_))); (try simp (disch := first | omega | assumption | ((repeat (first | exact mem_h | exact Up.here | apply mem_t | apply Up.there)); first | done | fail) | (simp; first | done | omega | fail)) [])))
  refine T_nil 199 2 ?_
  refine T_for1 p.length (fun i (r : Value) => r) (fun i r => [ownT r (ptsL (p.take i))]) (fun i r => True) (.slice none 0 0) trivial ?_ (by simp [ptsL])
  rintro i r hi _ L hL
  by_cases hlt : i < p.length
  · have hx : p[i]? = some p[i] := List.getElem?_eq_getElem hlt
    obtain ⟨b, o, rfl, hrow⟩ := hr (by omega)
    have h1 := hrow.cellAt (f := encB) (k := 2) (j := 0) (fun _ => rfl) hx rfl
    have h2 := hrow.cellAt (f := encB) (k := 2) (j := 1) (fun _ => rfl) hx rfl
    have hnx := ptsL_next hx
    have hle := ptsL_le9 (p.take i)
    rw [List.length_take] at hle
    rw [hnx] at hL
    generalize p[i] = y at *
    have hwl := wtN_le9 y
    have e1 : IntKind.i64.wrap (8 * max 0 (min y.2 16)) = (wtN y : Int) := by unfold wtN; rw [wrap64 (by omega) (by omega)]; omega
    (have hQq := trivial; repeat ((first | clear hQq | (with_reducible first | refine T_drw ?_ | refine T_bx fun _ => ?_ | refine s_al fun _ => ?_ | refine s_bs0 fun _ => ?_ | refine s_bs1 (hK := fun _ => ?_) | refine s_bs2 (hK := fun _ => ?_) | refine s_bs3 (hK := fun _ => ?_) | refine s_bs5 (hK := fun _ => ?_) | refine s_bs6 (hK := fun _ => ?_))); (try simp (disch := first | omega | assumption | ((repeat (first | exact mem_h | exact Up.here | apply mem_t | apply Up.there)); first | done | fail) | (simp; first | done | omega | fail)) [hlt])))
    refine T_for1 (wtN y) (fun j (r : Value) => r) (fun j r => [ownT r (ptsL (p.take i) ++ (ptsB y).take j)]) (fun j r => True) r trivial ?_ (by simp)
    rintro j r2 hj _ L2 hL2
    by_cases hjl : j < wtN y
    · have hjl' : (j : Int) < (wtN y : Int) := by omega
      have hbn := ptsB_next hjl
      have hlj : ((ptsB y).take j).length = j := by rw [List.length_take, ptsB_len]; omega
      rw [hbn, ← List.append_assoc] at hL2
      refine T_opn (by ((repeat (first | exact mem_h | exact Up.here | exact Sel.here | apply mem_t | apply Up.there | apply Sel.there)); first | done | fail)) fun ra rc hra => ?_
      subst hra
      generalize hacc : ptsL (p.take i) ++ (ptsB y).take j = acc at *
      have hal : acc.length ≤ 200000 := by rw [← hacc, List.length_append, hlj]; omega
      (have hQq := trivial; repeat ((first | clear hQq | (with_reducible first | refine T_drw ?_ | refine T_bx fun _ => ?_ | refine s_al fun _ => ?_ | refine s_bs0 fun _ => ?_ | refine s_bs1 (hK := fun _ => ?_) | refine s_bs2 (hK := fun _ => ?_) | refine s_bs3 (hK := fun _ => ?_) | refine s_bs5 (hK := fun _ => ?_) | refine s_bs6 (hK := fun _ => ?_))); (try simp (disch := first | omega | assumption | ((repeat (first | exact mem_h | exact Up.here | apply mem_t | apply Up.there)); first | done | fail) | (simp; first | done | omega | fail)) [hlt, h1, h2, e1, hjl'])))
      refine T_cv ent_gangplankref09_Hash (fun w' _ => hash09_ok w' y.1 j (by omega)) ?_
      (have hQq := trivial; repeat ((first | clear hQq | (with_reducible first | refine T_drw ?_ | refine T_bx fun _ => ?_ | refine s_al fun _ => ?_ | refine s_bs0 fun _ => ?_ | refine s_bs1 (hK := fun _ => ?_) | refine s_bs2 (hK := fun _ => ?_) | refine s_bs3 (hK := fun _ => ?_) | refine s_bs5 (hK := fun _ => ?_) | refine s_bs6 (hK := fun _ => ?_))); (try simp (disch := first | omega | assumption | ((repeat (first | exact mem_h | exact Up.here | apply mem_t | apply Up.there)); first | done | fail) | (simp; first | done | omega | fail)) [hlt, h1, h2])))
      refine s_app (e := 199) (k := 2) (q := acc.length) (r := 1) (xs := acc.flatMap encP) (news := encP (hashP y.1 j, y.1)) (by ((repeat (first | exact mem_h | exact Up.here | exact Sel.here | apply mem_t | apply Up.there | apply Sel.there)); first | done | fail)) (RdT.own (by ((repeat (first | exact mem_h | exact Up.here | exact Sel.here | apply mem_t | apply Up.there | apply Sel.there)); first | done | fail))) (by decide) rfl (by simp [encP]) (by simp only [maxLen]; omega) (by omega) fun a' c' => ?_
      (have hQq := trivial; repeat ((first | clear hQq | (with_reducible first | refine T_drw ?_ | refine T_bx fun _ => ?_ | refine s_al fun _ => ?_ | refine s_bs0 fun _ => ?_ | refine s_bs1 (hK := fun _ => ?_) | refine s_bs2 (hK := fun _ => ?_) | refine s_bs3 (hK := fun _ => ?_) | refine s_bs5 (hK := fun _ => ?_) | refine s_bs6 (hK := fun _ => ?_))); (try simp (disch := first | omega | assumption | ((repeat (first | exact mem_h | exact Up.here | apply mem_t | apply Up.there)); first | done | fail) | (simp; first | done | omega | fail)) [])))
      have h := hL2 hjl (.slice a' (acc.length + 1) c') trivial
      simp only [ownT, List.length_append, List.length_singleton, List.flatMap_append, show [(hashP y.1 j, y.1)].flatMap encP = encP (hashP y.1 j, y.1) by simp] at h
      exact Sels.tw (by ((repeat (first | exact Sels.nil | (apply Sels.cons; · ((repeat (first | exact mem_h | exact Up.here | exact Sel.here | apply mem_t | apply Up.there | apply Sel.there)); first | done | fail)))); first | done | fail)) h
    · obtain rfl : j = wtN y := by omega
      have hjl' : ¬ ((wtN y : Nat) : Int) < (wtN y : Int) := by omega
      have htk : (ptsB y).take (wtN y) = ptsB y := List.take_of_length_le (by rw [ptsB_len]; omega)
      rw [htk]
      (have hQq := trivial; repeat ((first | clear hQq | (with_reducible first | refine T_drw ?_ | refine T_bx fun _ => ?_ | refine s_al fun _ => ?_ | refine s_bs0 fun _ => ?_ | refine s_bs1 (hK := fun _ => ?_) | refine s_bs2 (hK := fun _ => ?_) | refine s_bs3 (hK := fun _ => ?_) | refine s_bs5 (hK := fun _ => ?_) | refine s_bs6 (hK := fun _ => ?_))); (try simp (disch := first | omega | assumption | ((repeat (first | exact mem_h | exact Up.here | apply mem_t | apply Up.there)); first | done | fail) | (simp; first | done | omega | fail)) [hlt, h1, h2, e1, hjl'])))
      exact Sels.tw (by ((repeat (first | exact Sels.nil | (apply Sels.cons; · ((repeat (first | exact mem_h | exact Up.here | exact Sel.here | apply mem_t | apply Up.there | apply Sel.there)); first | done | fail)))); first | done | fail)) (hL hlt r2 trivial)
  · obtain rfl : i = p.length := by omega
    rw [List.take_length]
    have hle := ptsL_le9 p
    refine T_opn (by ((repeat (first | exact mem_h | exact Up.here | exact Sel.here | apply mem_t | apply Up.there | apply Sel.there)); first | done | fail)) fun ra rc hra => ?_
    subst hra
    refine T_cap (by ((repeat (first | exact mem_h | exact Up.here | exact Sel.here | apply mem_t | apply Up.there | apply Sel.there)); first | done | fail)) fun hcap => ?_
    (have hQq := trivial; repeat ((first | clear hQq | (with_reducible first | refine T_drw ?_ | refine T_bx fun _ => ?_ | refine s_al fun _ => ?_ | refine s_bs0 fun _ => ?_ | refine s_bs1 (hK := fun _ => ?_) | refine s_bs2 (hK := fun _ => ?_) | refine s_bs3 (hK := fun _ => ?_) | refine s_bs5 (hK := fun _ => ?_) | refine s_bs6 (hK := fun _ => ?_))); (try simp (disch := first | omega | assumption | ((repeat (first | exact mem_h | exact Up.here | apply mem_t | apply Up.there)); first | done | fail) | (simp; first | done | omega | fail)) [])))
    refine T_cn ent_gangplankref09_sort (fun w' hw' => sort09_ok (ptsL p).length w' _ (ptsL p) (Nat.le_refl _) (by omega) ⟨RdT.own mem_h w' hw', _, _, rfl, hcap⟩) ?_
    rintro r2 _ rfl
    by_cases c1 : (ptsL p).length < 2
    · simp only [c1, if_true]
      rw [sortP_short c1]
      exact T_rets _ rfl (Sels.cons Sel.here Sels.nil)
    · simp only [c1, if_false]
      exact T_rets r2 rfl (Sels.cons Sel.here Sels.nil)
theorem searchV_first {f : Nat → Bool} {i j r : Nat} (h0 : i ≤ r) (h1 : r ≤ j) (h2 : ∀ q, i ≤ q → q < r → f q = false) (h3 : ∀ q, r ≤ q → q < j → f q = true) : searchV f i j = r := by
  induction i, j using searchV.induct f with
  | case1 i j hij hf ih =>
    rw [searchV, if_pos hij, if_pos hf]
    have : r ≤ (i + j) / 2 := by
      apply Classical.byContradiction
      intro hc
      have := h2 ((i + j) / 2) (by omega) (by omega)
      rw [hf] at this; cases this
    exact ih h0 this h2 fun q hq hq2 => h3 q hq (by omega)
  | case2 i j hij hf ih =>
    rw [searchV, if_pos hij, if_neg hf]
    have : (i + j) / 2 < r := by
      apply Classical.byContradiction
      intro hc
      exact hf (h3 ((i + j) / 2) (by omega) (by omega))
    exact ih (by omega) h1 (fun q hq hq2 => h2 q (by omega) hq2) h3
  | case3 i j hij => rw [searchV, if_neg hij]; omega
theorem geP_false {l : List (Nat × Int)} {h q : Nat} (hq : q < l.length) : geP l h q = false ↔ l[q].1 < h := by
  unfold geP
  rw [decide_eq_false_iff_not, List.getD_eq_getElem?_getD, List.getElem?_eq_getElem hq]
  simp
theorem geP_true {l : List (Nat × Int)} {h q : Nat} (hq : q < l.length) : geP l h q = true ↔ h ≤ l[q].1 := by
  unfold geP
  rw [decide_eq_true_eq, List.getD_eq_getElem?_getD, List.getElem?_eq_getElem hq]
  simp
theorem succP_at {l : List (Nat × Int)} {h i : Nat} (hs : l.Pairwise fun a b => leP a b = true) (hi : i < l.length) (hh : h ≤ l[i].1) (hp : ∀ j (hj : j < i), (l[j]'(by omega)).1 < h) : succP l h = l[i].2 := by
  have e : searchV (geP l h) 0 l.length = i := by
    refine searchV_first (by omega) (by omega) (fun q _ hq => (geP_false (by omega)).2 (hp q hq)) fun q hq hql => (geP_true hql).2 ?_
    by_cases c : i = q
    · subst c; exact hh
    · have := List.pairwise_iff_getElem.1 hs i q hi hql (by omega)
      unfold leP at this
      rw [decide_eq_true_eq] at this
      omega
  unfold succP
  rw [if_neg (by omega), e, Nat.mod_eq_of_lt hi, List.getD_eq_getElem?_getD, List.getElem?_eq_getElem hi]; rfl
theorem succP_none {l : List (Nat × Int)} {h : Nat} (h0 : 0 < l.length) (hp : ∀ j (hj : j < l.length), l[j].1 < h) : succP l h = l[0].2 := by
  have e : searchV (geP l h) 0 l.length = l.length := searchV_first (by omega) (Nat.le_refl _) (fun q _ hq => (geP_false hq).2 (hp q hq)) fun q hq hql => by omega
  unfold succP
  rw [if_neg (by omega), e, Nat.mod_self, List.getD_eq_getElem?_getD, List.getElem?_eq_getElem h0]; rfl
theorem succ10_ok (w : World) (v : Value) (l : List (Nat × Int)) (h : Nat) (hs : l.Pairwise fun a b => leP a b = true) (hn : l.length ≤ 1000000) (hv : Rd1 w v l.length (l.flatMap encP)) :
    Fn PR NoX 121 #[v, .int .u64 (h : Int)] w (fun r w' => r = .int .i64 (succP l h) ∧ But [] w w') := by
  refine Fn.pure (mk_gangplankref10_Succ (TW.go (κ := false) (S := []) ?_))
  unfold sh_gangplankref10_Succ
  obtain ⟨a, c, rfl, hr⟩ := hv.form
  (have hQq := trivial; repeat ((first | clear hQq | (with_reducible first | refine T_drw ?_ | refine T_bx fun _ => ?_ | refine s_al fun _ => ?_ | refine s_bs0 fun _ => ?_ | refine s_bs1 (hK := fun _ => ?_) | refine s_bs2 (hK := fun _ => ?_) | refine s_bs3 (hK := fun _ => ?_) | refine s_bs5 (hK := fun _ => ?_) | refine s_bs6 (hK := fun _ => ?_))); (try simp (disch := first | omega | assumption | ((repeat (first | exact mem_h | exact Up.here | apply mem_t | apply Up.there)); first | done | fail) | (simp; first | done | omega | fail)) [])))
  refine T_for1 (α := Unit) l.length (fun _ _ => .int .i64 0) (fun _ _ => []) (fun i _ => ∀ j (hj : j < l.length), j < i → l[j].1 < h) () (by intros; omega) ?_
  rintro i _ hi hpre L hL
  by_cases hlt : i < l.length
  · have hx : l[i]? = some l[i] := List.getElem?_eq_getElem hlt
    obtain ⟨b, o, rfl, hrow⟩ := hr (by omega)
    have h1 := hrow.cellAt (f := encP) (k := 2) (j := 0) (fun _ => rfl) hx rfl
    have h2 := hrow.cellAt (f := encP) (k := 2) (j := 1) (fun _ => rfl) hx rfl
    by_cases c1 : h ≤ l[i].1
    · have c1' : (h : Int) ≤ (l[i].1 : Int) := by omega
      (have hQq := trivial; repeat ((first | clear hQq | (with_reducible first | refine T_drw ?_ | refine T_bx fun _ => ?_ | refine s_al fun _ => ?_ | refine s_bs0 fun _ => ?_ | refine s_bs1 (hK := fun _ => ?_) | refine s_bs2 (hK := fun _ => ?_) | refine s_bs3 (hK := fun _ => ?_) | refine s_bs5 (hK := fun _ => ?_) | refine s_bs6 (hK := fun _ => ?_))); (try simp (disch := first | omega | assumption | ((repeat (first | exact mem_h | exact Up.here | apply mem_t | apply Up.there)); first | done | fail) | (simp; first | done | omega | fail)) [hlt, h1, h2, c1, c1'])))
      exact T_ret (by rw [succP_at hs hlt c1 fun j hj => hpre j (by omega) hj])
    · have c1' : ¬ (h : Int) ≤ (l[i].1 : Int) := by omega
      (have hQq := trivial; repeat ((first | clear hQq | (with_reducible first | refine T_drw ?_ | refine T_bx fun _ => ?_ | refine s_al fun _ => ?_ | refine s_bs0 fun _ => ?_ | refine s_bs1 (hK := fun _ => ?_) | refine s_bs2 (hK := fun _ => ?_) | refine s_bs3 (hK := fun _ => ?_) | refine s_bs5 (hK := fun _ => ?_) | refine s_bs6 (hK := fun _ => ?_))); (try simp (disch := first | omega | assumption | ((repeat (first | exact mem_h | exact Up.here | apply mem_t | apply Up.there)); first | done | fail) | (simp; first | done | omega | fail)) [hlt, h1, h2, c1, c1'])))
      refine hL hlt () fun j hj hji => ?_
      by_cases e : j = i
      · subst e; omega
      · exact hpre j hj (by omega)
  · obtain rfl : i = l.length := by omega
    by_cases h0 : l.length = 0
    · (have hQq := trivial; repeat ((first | clear hQq | (with_reducible first | refine T_drw ?_ | refine T_bx fun _ => ?_ | refine s_al fun _ => ?_ | refine s_bs0 fun _ => ?_ | refine s_bs1 (hK := fun _ => ?_) | refine s_bs2 (hK := fun _ => ?_) | refine s_bs3 (hK := fun _ => ?_) | refine s_bs5 (hK := fun _ => ?_) | refine s_bs6 (hK := fun _ => ?_))); (try simp (disch := first | omega | assumption | ((repeat (first | exact mem_h | exact Up.here | apply mem_t | apply Up.there)); first | done | fail) | (simp; first | done | omega | fail)) [h0])))
      exact T_ret (by unfold succP; rw [if_pos h0])
    · have hx : l[0]? = some (l[0]'(by omega)) := List.getElem?_eq_getElem (by omega)
      obtain ⟨b, o, rfl, hrow⟩ := hr (by omega)
      have h2 := hrow.cellAt (f := encP) (k := 2) (j := 1) (fun _ => rfl) hx rfl
      simp only [Nat.zero_mul, Nat.add_zero] at h2
      have h0' : (0 : Int) < (l.length : Int) := by omega
      have h0'' : ¬ (l.length : Int) = 0 := by omega
      (have hQq := trivial; repeat ((first | clear hQq | (with_reducible first | refine T_drw ?_ | refine T_bx fun _ => ?_ | refine s_al fun _ => ?_ | refine s_bs0 fun _ => ?_ | refine s_bs1 (hK := fun _ => ?_) | refine s_bs2 (hK := fun _ => ?_) | refine s_bs3 (hK := fun _ => ?_) | refine s_bs5 (hK := fun _ => ?_) | refine s_bs6 (hK := fun _ => ?_))); (try simp (disch := first | omega | assumption | ((repeat (first | exact mem_h | exact Up.here | apply mem_t | apply Up.there)); first | done | fail) | (simp; first | done | omega | fail)) [h0, h0', h0'', h2])))
      exact T_ret (by rw [succP_none (by omega) fun j hj => hpre j hj hj])
theorem pick10_ok (w : World) (v : Value) (p : List BkV) (h : Nat) (hn : p.length ≤ 1000) (hv : Rd1 w v p.length (p.flatMap encB)) :
    Fn PR NoX 77 #[v, .int .u64 (h : Int)] w (fun r w' => r = .int .i64 (pickV p h) ∧ But [] w w') := by
  refine Fn.pure (mk_gangplankref10_Pick (TW.go (κ := false) (S := []) ?_))
  unfold sh_gangplankref10_Pick
  refine T_cn ent_gangplankref09_Of (fun w' hw' => of09_ok w' v p hn (hv.ks hw'.ks (by simp))) ?_
  intro _ r hr
  subst hr
  have hle := ptsL_le9 p
  (have hQq := trivial; repeat ((first | clear hQq | (with_reducible first | refine T_drw ?_ | refine T_bx fun _ => ?_ | refine s_al fun _ => ?_ | refine s_bs0 fun _ => ?_ | refine s_bs1 (hK := fun _ => ?_) | refine s_bs2 (hK := fun _ => ?_) | refine s_bs3 (hK := fun _ => ?_) | refine s_bs5 (hK := fun _ => ?_) | refine s_bs6 (hK := fun _ => ?_))); (try simp (disch := first | omega | assumption | ((repeat (first | exact mem_h | exact Up.here | apply mem_t | apply Up.there)); first | done | fail) | (simp; first | done | omega | fail)) [])))
  refine T_cv ent_gangplankref10_Succ (fun w' hw' => succ10_ok w' r (sortP (ptsL p)) h (sortP_sorted _) (by rw [sortP_len]; omega) (RdT.own mem_h w' hw')) ?_
  exact T_ret rfl
end Go.Proofs.YtggakcpabomliaaGreat
namespace Go.Proofs.YtggakcpabomliaaGreat
open Go
theorem known_true {l : List EnV} {p : List BkV} {key : ByteArray} {now : Int} (h : (knownV l p key now).2 = true) : 0 ≤ findE l key ∧ now ≤ (atE l key).dl ∧ 0 ≤ findB p (atE l key).bk ∧ (knownV l p key now).1 = (atE l key).bk := by
  unfold knownV at *
  split at h
  · cases h
  · rename_i c
    rw [if_neg c]
    refine ⟨by omega, by omega, by omega, rfl⟩
/-- the four ways of a packet -/
theorem decide_cases (l : List EnV) (p : List BkV) (key : ByteArray) (closing : Bool) (now idle : Int) :
    ((knownV l p key now).2 = false ∧ p = [] ∧ decideV l p key closing now idle = (l, ⟨11, 0, false, 0⟩, false)) ∨
    (¬ ((knownV l p key now).2 = false ∧ p = []) ∧ closing = true ∧ decideV l p key closing now idle = (delE l key, ⟨0, pickB l p key now, false, 0⟩, (del0 l key).isSome)) ∨
    (¬ ((knownV l p key now).2 = false ∧ p = []) ∧ closing = false ∧ findE l key < 0 ∧ decideV l p key closing now idle = (l, ⟨12, 0, false, 0⟩, false)) ∨
    (¬ ((knownV l p key now).2 = false ∧ p = []) ∧ closing = false ∧ ∃ u, putE l (newX l p key now idle) = some u ∧ decideV l p key closing now idle = (u, ⟨0, pickB l p key now, !(knownV l p key now).2, 0⟩, true)) := by
  unfold decideV
  by_cases h : (knownV l p key now).2 = false ∧ p = []
  · left; exact ⟨h.1, h.2, if_pos h⟩
  right
  rw [if_neg h]
  cases closing with
  | true => left; exact ⟨h, rfl, rfl⟩
  | false =>
    right
    cases hp : putE l (newX l p key now idle) with
    | none => left; exact ⟨h, rfl, putE_none hp, rfl⟩
    | some u => right; exact ⟨h, rfl, u, rfl, rfl⟩
end Go.Proofs.YtggakcpabomliaaGreat
namespace Go.Proofs.YtggakcpabomliaaGreat
open Go
theorem find08_ok (w : World) (v : Value) (l : List BkV) (id : Int) (hn : l.length ≤ 1000000) (hv : Rd1 w v l.length (l.flatMap encB)) :
    Fn PR NoX 76 #[v, .int .i64 id] w (fun r w' => r = .int .i64 (findB l id) ∧ But [] w w') := by
  refine Fn.pure (mk_gangplankref08_Find (TW.go (κ := false) (S := []) ?_))
  unfold sh_gangplankref08_Find
  obtain ⟨a, c, rfl, hr⟩ := hv.form
  (have hQq := trivial; repeat ((first | clear hQq | (with_reducible first | refine T_drw ?_ | refine T_bx fun _ => ?_ | refine s_al fun _ => ?_)); (try simp (disch := first | omega | assumption | ((repeat (first | exact mem_h | exact Up.here | apply mem_t | apply Up.there)); first | done | fail) | (simp; first | done | omega | fail)) [])))
  refine T_for1 (α := Unit) l.length (fun _ _ => .int .i64 0) (fun _ _ => []) (fun i _ => ∀ j y, j < i → l[j]? = some y → decide (y.1 = id) = false) () (by intro j _ hj; omega) ?_
  rintro i _ hi hpre L hL
  by_cases hlt : i < l.length
  · obtain ⟨b, o, rfl, hrow⟩ := hr (by omega)
    have hx : l[i]? = some l[i] := List.getElem?_eq_getElem hlt
    have h1 := hrow.cellAt (f := encB) (k := 2) (j := 0) (fun _ => rfl) hx rfl
    by_cases c1 : l[i].1 = id
    · (have hQq := trivial; repeat ((first | clear hQq | (with_reducible first | refine T_drw ?_ | refine T_bx fun _ => ?_ | refine s_al fun _ => ?_)); (try simp (disch := first | omega | assumption | ((repeat (first | exact mem_h | exact Up.here | apply mem_t | apply Up.there)); first | done | fail) | (simp; first | done | omega | fail)) [hlt, h1, c1])))
      exact T_ret (by rw [findB, idxV_some hx (by simpa using c1) hpre])
    · (have hQq := trivial; repeat ((first | clear hQq | (with_reducible first | refine T_drw ?_ | refine T_bx fun _ => ?_ | refine s_al fun _ => ?_)); (try simp (disch := first | omega | assumption | ((repeat (first | exact mem_h | exact Up.here | apply mem_t | apply Up.there)); first | done | fail) | (simp; first | done | omega | fail)) [hlt, h1, c1])))
      refine hL hlt () fun j y hj hy => ?_
      by_cases hji : j = i
      · subst hji; rw [hx] at hy; cases hy; simpa using c1
      · exact hpre j y (by omega) hy
  · obtain rfl : i = l.length := by omega
    (have hQq := trivial; repeat ((first | clear hQq | (with_reducible first | refine T_drw ?_ | refine T_bx fun _ => ?_ | refine s_al fun _ => ?_)); (try simp (disch := first | omega | assumption | ((repeat (first | exact mem_h | exact Up.here | apply mem_t | apply Up.there)); first | done | fail) | (simp; first | done | omega | fail)) [])))
    exact T_ret (by rw [findB, idxV_none fun j y hy => hpre j y (List.getElem?_eq_some_iff.1 hy).1 hy])
theorem shard17_ok (w : World) (key : ByteArray) (n : Int) (hk : key.size < 2 ^ 60) (hn : n < 2 ^ 63) : Fn PR NoX 30 #[.string key, .int .i64 n] w (fun v w' => v = .int .i64 (shardV key n : Nat) ∧ But [] w w') := by
  refine Fn.pure (mk_gangplankref17_Shard (TW.go (κ := false) (S := []) ?_))
  unfold sh_gangplankref17_Shard
  by_cases c1 : n < 1
  · (have hQq := trivial; repeat ((first | clear hQq | (with_reducible first | refine T_drw ?_ | refine T_bx fun _ => ?_ | refine s_al fun _ => ?_)); (try simp (disch := first | omega | assumption | ((repeat (first | exact mem_h | exact Up.here | apply mem_t | apply Up.there)); first | done | fail) | (simp; first | done | omega | fail)) [c1])))
    exact T_ret (by simp [shardV, c1])
  (have hQq := trivial; repeat ((first | clear hQq | (with_reducible first | refine T_drw ?_ | refine T_bx fun _ => ?_ | refine s_al fun _ => ?_)); (try simp (disch := first | omega | assumption | ((repeat (first | exact mem_h | exact Up.here | apply mem_t | apply Up.there)); first | done | fail) | (simp; first | done | omega | fail)) [c1])))
  refine T_cv ent_gangplankref02_Sum (fun w' _ => sum2_ok w' key hk) ?_
  obtain ⟨m, rfl⟩ : ∃ m : Nat, n = m := ⟨n.toNat, by omega⟩
  have hl := fnvS_lt key
  have hm : fnvS key / 4294967296 % m < m := Nat.mod_lt _ (by omega)
  have e0 : ((fnvS key : Nat) : Int).tdiv 4294967296 = (fnvS key / 4294967296 : Nat) := by rw [Int.tdiv_eq_ediv_of_nonneg (by omega)]; omega
  have e1 : ((fnvS key / 4294967296 : Nat) : Int).tmod m = (fnvS key / 4294967296 % m : Nat) := by rw [Int.tmod_eq_emod_of_nonneg (by omega), Int.natCast_emod]
  have e2 : shardV key m = fnvS key / 4294967296 % m := by simp only [shardV, if_neg c1, Int.toNat_natCast]
  have hnz : ¬ (m : Int) = 0 := by omega
  rw [e2]
  (have hQq := trivial; repeat ((first | clear hQq | (with_reducible first | refine T_drw ?_ | refine T_bx fun _ => ?_ | refine s_al fun _ => ?_)); (try simp (disch := first | omega | assumption | ((repeat (first | exact mem_h | exact Up.here | apply mem_t | apply Up.there)); first | done | fail) | (simp; first | done | omega | fail)) [hnz, e0, p_quo, p_rem])))
  have e3 : (((fnvS key : Nat) : Int) / 4294967296).tmod m = (fnvS key / 4294967296 % m : Nat) := by rw [← e1]; congr 1
  rw [e3, wrap64 (n := ((fnvS key / 4294967296 % m : Nat) : Int)) (by omega) (by omega)]
  exact T_ret (by simp)
abbrev Dec17 (w : World) (v : Value) (l : List EnV) (p : List BkV) (key : ByteArray) (closing : Bool) (now idle : Int) : Value → WP :=
  Rn [] w (fun r x => x = .tuple #[if (decideV l p key closing now idle).2.2 then r else v, (decideV l p key closing now idle).2.1.val]) fun r => if (decideV l p key closing now idle).2.2 then [ownE r (decideV l p key closing now idle).1] else []
theorem decide17_tail (w : World) (v u : Value) (l : List EnV) (p : List BkV) (key : ByteArray) (closing : Bool) (now idle : Int) (ba : Nat) (kn : Bool) (hkn : (knownV l p key now).2 = kn) (hk : key.size < 2 ^ 60) (hks : KeysOk l) (hn : l.length ≤ 1000000) (hp : p.length ≤ 1000) (hv : Rd1 w v l.length (l.flatMap encE)) (hu : Rd1 w u p.length (p.flatMap encB)) (R : Value → WP) (hR : R = Dec17 w v l p key closing now idle) :
    TW false [] w [.pt ba (.cells #[.int .i64 0, .int .i64 0, .bool false, .int .i64 0] 39)] (
    cal PR NoX 78 [(.string key)] fun t49 =>
    cal PR NoX 77 [u, t49] fun t50 =>
    jn (n := 2) (fun t16 t12 =>
    jn (n := 1) (fun t12_1 =>
    pur PR (binOp .add 3 (.int .i64 now) (.int .i64 idle)) fun t78 =>
    cal PR NoX 80 [v, (.string key), t16, t78] fun t79 =>
    pur PR (Instr.extract t79 0) fun t80 =>
    pur PR (Instr.extract t79 1) fun t81 =>
    jn (n := 1) (fun t12_2 =>
    pur PR (Op.unary .not (.bool kn)) fun t90 =>
    pur PR (Instr.build 39 #[(1, t16), (2, t90)]) fun t91 =>
    sto PR NoX (Instr.storeAt 39 (.pointer (some ⟨ba, 0, none⟩)) t91) <|
    rds PR (finS [.v t80, .c 39 (.pointer (some ⟨ba, 0, none⟩))]) R) fun J1 =>
    pur PR (binOp .neq 28 t81 (.int .i64 0)) fun t83 =>
    cnd t83 (
    pur PR (Instr.build 39 #[(0, t81)]) fun t86 =>
    sto PR NoX (Instr.storeAt 39 (.pointer (some ⟨ba, 0, none⟩)) t86) <|
    rds PR (finS [.v v, .c 39 (.pointer (some ⟨ba, 0, none⟩))]) R) (
    J1 t12_1)) fun J2 =>
    cnd (.bool closing) (
    cal PR NoX 79 [v, (.string key)] fun t66 =>
    pur PR (Instr.extract t66 0) fun t67 =>
    pur PR (Instr.extract t66 1) fun t68 =>
    pur PR (Instr.build 39 #[(1, t16)]) fun t71 =>
    sto PR NoX (Instr.storeAt 39 (.pointer (some ⟨ba, 0, none⟩)) t71) <|
    rds PR (finS [.v t67, .c 39 (.pointer (some ⟨ba, 0, none⟩))]) R) (
    J2 t12)) fun J3 =>
    cnd (.bool kn) (
    pur PR (Instr.indexAt 50 v (.int .i64 (findE l key))) fun t54 =>
    pur PR (Instr.fieldAt 71 t54 2) fun t55 =>
    rds PR (Instr.loadAt 3 t55) fun t56 =>
    J3 t56 (.slice none 0 0)) (
    pur PR (builtinS .len #[32] 0 [u]) fun t58 =>
    pur PR (binOp .eql 3 t58 (.int .i64 0)) fun t59 =>
    cnd t59 (
    pur PR (Instr.build 39 #[(0, (.int .i64 11))]) fun t61 =>
    sto PR NoX (Instr.storeAt 39 (.pointer (some ⟨ba, 0, none⟩)) t61) <|
    rds PR (finS [.v v, .c 39 (.pointer (some ⟨ba, 0, none⟩))]) R) (
    J3 t50 (.slice none 0 0)))) := by
  subst hR
  obtain ⟨a, c, rfl, hr⟩ := hv.form
  obtain ⟨pa, pc, rfl, _⟩ := hu.form
  refine T_cv ent_gangplankref02_Sum (fun w' _ => sum2_ok w' key hk) ?_
  refine T_cv ent_gangplankref10_Pick (fun w' hw' => pick10_ok w' _ p _ hp (hu.ks hw'.ks (by simp))) ?_
  by_cases hne : (knownV l p key now).2 = false ∧ p = []
  · obtain ⟨h1, hp0⟩ := hne
    have hd : decideV l p key closing now idle = (l, ⟨11, 0, false, 0⟩, false) := by unfold decideV; rw [if_pos ⟨h1, hp0⟩]
    rw [h1] at hkn
    subst hkn hp0
    simp only [Dec17, hd]
    (have hQq := trivial; repeat ((first | clear hQq | (with_reducible first | refine T_drw ?_ | refine T_bx fun _ => ?_ | refine s_al fun _ => ?_)); (try simp (disch := first | omega | assumption | ((repeat (first | exact mem_h | exact Up.here | apply mem_t | apply Up.there)); first | done | fail) | (simp; first | done | omega | fail)) [])))
    exact T_rets .nilIface (by simp [AnsV.val]) Sels.nil
  refine T_jn2 (Hj := [.pt ba (.cells #[.int .i64 0, .int .i64 0, .bool false, .int .i64 0] 39)]) (.int .i64 (pickB l p key now)) (.slice none 0 0) ?_ ?_
  case refine_2 =>
    intro J hJ
    cases kn with
    | true =>
      obtain ⟨k1, k2, k3, k4⟩ := known_true hkn
      have e : pickB l p key now = (atE l key).bk := by unfold pickB; rw [hkn, if_pos rfl, k4]
      have hlt := findE_lt k1
      obtain ⟨b, o, rfl, hrow⟩ := hr (by omega)
      have hx := (findE_entry k1).1
      have h3 := hrow.cellAt (f := encE) (k := 4) (j := 2) (fun _ => rfl) hx rfl
      rw [e] at hJ
      generalize findE l key = q at *
      obtain ⟨j, rfl⟩ : ∃ j : Nat, q = j := ⟨q.toNat, by omega⟩
      have hlt' : j < l.length := by omega
      simp only [Int.toNat_natCast] at h3
      (have hQq := trivial; repeat ((first | clear hQq | (with_reducible first | refine T_drw ?_ | refine T_bx fun _ => ?_ | refine s_al fun _ => ?_)); (try simp (disch := first | omega | assumption | ((repeat (first | exact mem_h | exact Up.here | apply mem_t | apply Up.there)); first | done | fail) | (simp; first | done | omega | fail)) [hlt', h3])))
      exact hJ
    | false =>
      have e : pickB l p key now = pickV p (fnvS key) := by unfold pickB; rw [hkn]; rfl
      have hp0 : ¬ p = [] := fun h => hne ⟨hkn, h⟩
      have hp1 : ¬ (p.length : Int) = 0 := by have := List.length_pos_iff.2 hp0; omega
      rw [e] at hJ
      (have hQq := trivial; repeat ((first | clear hQq | (with_reducible first | refine T_drw ?_ | refine T_bx fun _ => ?_ | refine s_al fun _ => ?_)); (try simp (disch := first | omega | assumption | ((repeat (first | exact mem_h | exact Up.here | apply mem_t | apply Up.there)); first | done | fail) | (simp; first | done | omega | fail)) [hp0, hp1])))
      exact hJ
  rcases decide_cases l p key closing now idle with ⟨h1, hp0, hd⟩ | ⟨_, rfl, hd⟩ | ⟨_, rfl, hf0, hd⟩ | ⟨_, rfl, q, hpu, hd⟩
  · exact absurd ⟨h1, hp0⟩ hne
  · simp only [Dec17, hd]
    (have hQq := trivial; repeat ((first | clear hQq | (with_reducible first | refine T_drw ?_ | refine T_bx fun _ => ?_ | refine s_al fun _ => ?_)); (try simp (disch := first | omega | assumption | ((repeat (first | exact mem_h | exact Up.here | apply mem_t | apply Up.there)); first | done | fail) | (simp; first | done | omega | fail)) [])))
    refine T_cn ent_gangplankref12_Delete (fun w' hw' => delete12_ok w' _ l key hk hks hn (hv.ks hw'.ks (by simp))) ?_
    rintro r _ rfl
    cases h2 : (del0 l key).isSome with
    | true =>
      (have hQq := trivial; repeat ((first | clear hQq | (with_reducible first | refine T_drw ?_ | refine T_bx fun _ => ?_ | refine s_al fun _ => ?_)); (try simp (disch := first | omega | assumption | ((repeat (first | exact mem_h | exact Up.here | apply mem_t | apply Up.there)); first | done | fail) | (simp; first | done | omega | fail)) [])))
      exact T_rets r (by simp [AnsV.val]) (by ((repeat (first | exact Sels.nil | (apply Sels.cons; · ((repeat (first | exact mem_h | exact Up.here | exact Sel.here | apply mem_t | apply Up.there | apply Sel.there)); first | done | fail)))); first | done | fail))
    | false =>
      (have hQq := trivial; repeat ((first | clear hQq | (with_reducible first | refine T_drw ?_ | refine T_bx fun _ => ?_ | refine s_al fun _ => ?_)); (try simp (disch := first | omega | assumption | ((repeat (first | exact mem_h | exact Up.here | apply mem_t | apply Up.there)); first | done | fail) | (simp; first | done | omega | fail)) [])))
      exact T_rets r (by simp [AnsV.val]) Sels.nil
  · simp only [Dec17, hd]
    have hpn : putE l (newX l p key now idle) = none := by
      cases hq : putE l (newX l p key now idle) with
      | none => rfl
      | some u =>
        have : decideV l p key false now idle = (u, ⟨0, pickB l p key now, !(knownV l p key now).2, 0⟩, true) := by unfold decideV; rw [if_neg hne, hq]; rfl
        rw [this] at hd; cases hd
    have hpn' : putE l ⟨1, key, pickB l p key now, IntKind.i64.wrap (now + idle)⟩ = none := hpn
    (have hQq := trivial; repeat ((first | clear hQq | (with_reducible first | refine T_drw ?_ | refine T_bx fun _ => ?_ | refine s_al fun _ => ?_)); (try simp (disch := first | omega | assumption | ((repeat (first | exact mem_h | exact Up.here | apply mem_t | apply Up.there)); first | done | fail) | (simp; first | done | omega | fail)) [])))
    refine T_cn ent_gangplankref12_Put (fun w' hw' => put12_ok w' _ l key (pickB l p key now) (IntKind.i64.wrap (now + idle)) hk hn (hv.ks hw'.ks (by simp))) ?_
    rintro r _ rfl
    simp only [hpn']
    (have hQq := trivial; repeat ((first | clear hQq | (with_reducible first | refine T_drw ?_ | refine T_bx fun _ => ?_ | refine s_al fun _ => ?_)); (try simp (disch := first | omega | assumption | ((repeat (first | exact mem_h | exact Up.here | apply mem_t | apply Up.there)); first | done | fail) | (simp; first | done | omega | fail)) [])))
    exact T_rets r (by simp [AnsV.val]) Sels.nil
  · simp only [Dec17, hd]
    have hpn' : putE l ⟨1, key, pickB l p key now, IntKind.i64.wrap (now + idle)⟩ = some q := hpu
    (have hQq := trivial; repeat ((first | clear hQq | (with_reducible first | refine T_drw ?_ | refine T_bx fun _ => ?_ | refine s_al fun _ => ?_)); (try simp (disch := first | omega | assumption | ((repeat (first | exact mem_h | exact Up.here | apply mem_t | apply Up.there)); first | done | fail) | (simp; first | done | omega | fail)) [])))
    refine T_cn ent_gangplankref12_Put (fun w' hw' => put12_ok w' _ l key (pickB l p key now) (IntKind.i64.wrap (now + idle)) hk hn (hv.ks hw'.ks (by simp))) ?_
    rintro r _ rfl
    simp only [hpn']
    (have hQq := trivial; repeat ((first | clear hQq | (with_reducible first | refine T_drw ?_ | refine T_bx fun _ => ?_ | refine s_al fun _ => ?_)); (try simp (disch := first | omega | assumption | ((repeat (first | exact mem_h | exact Up.here | apply mem_t | apply Up.there)); first | done | fail) | (simp; first | done | omega | fail)) [])))
    exact T_rets r (by simp [AnsV.val, hkn]) (by ((repeat (first | exact Sels.nil | (apply Sels.cons; · ((repeat (first | exact mem_h | exact Up.here | exact Sel.here | apply mem_t | apply Up.there | apply Sel.there)); first | done | fail)))); first | done | fail))
theorem decide17_ok (w : World) (v u : Value) (l : List EnV) (p : List BkV) (key : ByteArray) (closing : Bool) (now idle : Int) (hk : key.size < 2 ^ 60) (hks : KeysOk l) (hn : l.length ≤ 1000000) (hp : p.length ≤ 1000) (hv : Rd1 w v l.length (l.flatMap encE)) (hu : Rd1 w u p.length (p.flatMap encB)) :
    Fn PR NoX 28 #[v, u, .string key, .bool closing, .int .i64 now, .int .i64 idle] w
      (Rn [] w (fun r x => x = .tuple #[if (decideV l p key closing now idle).2.2 then r else v, (decideV l p key closing now idle).2.1.val]) fun r => if (decideV l p key closing now idle).2.2 then [ownE r (decideV l p key closing now idle).1] else []) := by
  refine mk_gangplankref17_Decide (TW.go (κ := false) (S := []) ?_)
  unfold sh_gangplankref17_Decide
  obtain ⟨a, c, rfl, hr⟩ := hv.form
  obtain ⟨pa, pc, rfl, _⟩ := hu.form
  (have hQq := trivial; repeat ((first | clear hQq | (with_reducible first | refine T_drw ?_ | refine T_bx fun _ => ?_ | refine s_al fun _ => ?_)); (try simp (disch := first | omega | assumption | ((repeat (first | exact mem_h | exact Up.here | apply mem_t | apply Up.there)); first | done | fail) | (simp; first | done | omega | fail)) [])))
  rename_i ba
  refine T_cv ent_gangplankref11_Find (fun w' hw' => find11_ok w' _ l key hk hn (hv.ks hw'.ks (by simp))) ?_
  have tail := fun kn hkn => decide17_tail w (.slice a l.length c) (.slice pa p.length pc) l p key closing now idle ba kn hkn hk hks hn hp hv hu _ rfl
  by_cases c1 : findE l key < 0
  · have hkn : (knownV l p key now).2 = false := known_find c1
    have c1' : ¬ 0 ≤ findE l key := by omega
    (have hQq := trivial; repeat ((first | clear hQq | (with_reducible first | refine T_drw ?_ | refine T_bx fun _ => ?_ | refine s_al fun _ => ?_)); (try simp (disch := first | omega | assumption | ((repeat (first | exact mem_h | exact Up.here | apply mem_t | apply Up.there)); first | done | fail) | (simp; first | done | omega | fail)) [c1, c1'])))
    exact tail false hkn
  have k1 : 0 ≤ findE l key := by omega
  have hlt := findE_lt k1
  obtain ⟨b, o, rfl, hrow⟩ := hr (by omega)
  have hx := (findE_entry k1).1
  have h2 := hrow.cellAt (f := encE) (k := 4) (j := 2) (fun _ => rfl) hx rfl
  have h3 := hrow.cellAt (f := encE) (k := 4) (j := 3) (fun _ => rfl) hx rfl
  obtain ⟨j, hj⟩ : ∃ j : Nat, findE l key = j := ⟨(findE l key).toNat, by omega⟩
  rw [hj] at k1 hlt h2 h3
  rw [hj] at tail
  simp only [Int.toNat_natCast] at h2 h3 hlt
  rw [hj]
  have hkv : (knownV l p key now).2 = !(decide ((atE l key).dl < now) || decide (findB p (atE l key).bk < 0)) := by
    unfold knownV
    by_cases d1 : (atE l key).dl < now
    · rw [if_pos (Or.inr (Or.inl d1))]; simp [d1]
    · by_cases d2 : findB p (atE l key).bk < 0
      · rw [if_pos (Or.inr (Or.inr d2))]; simp [d2]
      · rw [if_neg (by omega)]; simp [d1, d2]
  by_cases c2 : now ≤ (atE l key).dl
  · have d1 : ¬ (atE l key).dl < now := by omega
    (have hQq := trivial; repeat ((first | clear hQq | (with_reducible first | refine T_drw ?_ | refine T_bx fun _ => ?_ | refine s_al fun _ => ?_)); (try simp (disch := first | omega | assumption | ((repeat (first | exact mem_h | exact Up.here | apply mem_t | apply Up.there)); first | done | fail) | (simp; first | done | omega | fail)) [k1, hlt, h2, h3, c2])))
    refine T_cv ent_gangplankref08_Find (fun w' hw' => find08_ok w' _ p _ (by omega) (hu.ks hw'.ks (by simp))) ?_
    by_cases c3 : 0 ≤ findB p (atE l key).bk
    · have d2 : ¬ findB p (atE l key).bk < 0 := by omega
      (have hQq := trivial; repeat ((first | clear hQq | (with_reducible first | refine T_drw ?_ | refine T_bx fun _ => ?_ | refine s_al fun _ => ?_)); (try simp (disch := first | omega | assumption | ((repeat (first | exact mem_h | exact Up.here | apply mem_t | apply Up.there)); first | done | fail) | (simp; first | done | omega | fail)) [k1, hlt, h2, h3, c2, c3])))
      exact tail true (by rw [hkv]; simp [d1, d2])
    · have d2 : findB p (atE l key).bk < 0 := by omega
      (have hQq := trivial; repeat ((first | clear hQq | (with_reducible first | refine T_drw ?_ | refine T_bx fun _ => ?_ | refine s_al fun _ => ?_)); (try simp (disch := first | omega | assumption | ((repeat (first | exact mem_h | exact Up.here | apply mem_t | apply Up.there)); first | done | fail) | (simp; first | done | omega | fail)) [k1, hlt, h2, h3, c2, c3])))
      exact tail false (by rw [hkv]; simp [d2])
  · have d1 : (atE l key).dl < now := by omega
    (have hQq := trivial; repeat ((first | clear hQq | (with_reducible first | refine T_drw ?_ | refine T_bx fun _ => ?_ | refine s_al fun _ => ?_)); (try simp (disch := first | omega | assumption | ((repeat (first | exact mem_h | exact Up.here | apply mem_t | apply Up.there)); first | done | fail) | (simp; first | done | omega | fail)) [k1, hlt, h2, h3, c2])))
    exact tail false (by rw [hkv]; simp [d1])
end Go.Proofs.YtggakcpabomliaaGreat
namespace Go.Proofs.YtggakcpabomliaaGreat
open Go
theorem wf_lt {a : Int} (h : (Lit.int .i64 a).wf = true) : a < 2 ^ 63 := by
  simp only [Lit.wf, Bool.and_eq_true, decide_eq_true_eq] at h
  have : IntKind.i64.max = 9223372036854775807 := rfl
  omega
theorem delE_le (l : List EnV) (key : ByteArray) : (delE l key).length ≤ l.length := by
  unfold delE
  cases h0 : del0 l key with
  | none => exact Nat.le_refl _
  | some u => have := del0_len h0; have := settle_le u; simp only; omega
theorem decideV_le (l : List EnV) (p : List BkV) (key : ByteArray) (closing : Bool) (now idle : Int) : (decideV l p key closing now idle).1.length ≤ l.length := by
  rcases decide_cases l p key closing now idle with ⟨_, hp0, hd⟩ | ⟨hne, rfl, hd⟩ | ⟨hne, rfl, hf0, hd⟩ | ⟨hne, rfl, u, hpu, hd⟩
  · rw [hd]; exact Nat.le_refl _
  · rw [hd]; exact delE_le l key
  · rw [hd]; exact Nat.le_refl _
  · rw [hd]; exact Nat.le_of_eq (putE_len hpu)
theorem ModelDecides_ok (w : World) (tv pv : Value) (l : List EnV) (p : List BkV) (key : ByteArray) (closing : Bool) (now idle n : Int) (hn : l.length ≤ 9223372036854775807) (hp : p.length ≤ 9223372036854775807) (hk : key.size ≤ 9223372036854775807) (hb : n < 2 ^ 63)
    (hv : Rd1 w tv l.length (l.flatMap encE)) (hu : Rd1 w pv p.length (p.flatMap encB)) :
    Fn PR NoX 4 #[tv, pv, .string key, .bool closing, .int .i64 now, .int .i64 idle, .int .i64 n] w (fun v w' => v = .bool true ∧ But [] w w') := by
  refine Fn.pure (mk_gangplanklaw17_ModelDecides (TW.go (κ := false) (S := []) ?_))
  unfold sh_gangplanklaw17_ModelDecides
  obtain ⟨ta, tc, rfl, hvr⟩ := hv.form
  obtain ⟨pa, pc, rfl, hur⟩ := hu.form
  refine T_cv ent_gangplanklaw17_works (fun w' _ => works17_ok w') ?_
  (have hQq := trivial; repeat ((first | clear hQq | (with_reducible first | refine T_drw ?_ | refine T_bx fun _ => ?_ | refine s_al fun _ => ?_)); (try simp (disch := first | omega | assumption | ((repeat (first | exact mem_h | exact Up.here | apply mem_t | apply Up.there)); first | done | fail) | (simp; first | done | omega | fail)) [])))
  refine T_cv ent_gangplankref11_Few (fun w' hw' => few11_ok w' _ l hn (hv.ks hw'.ks (by simp))) ?_
  cases hf : few11 l with
  | false =>
    (have hQq := trivial; repeat ((first | clear hQq | (with_reducible first | refine T_drw ?_ | refine T_bx fun _ => ?_ | refine s_al fun _ => ?_)); (try simp (disch := first | omega | assumption | ((repeat (first | exact mem_h | exact Up.here | apply mem_t | apply Up.there)); first | done | fail) | (simp; first | done | omega | fail)) [])))
    exact T_ret rfl
  | true =>
  have hks : KeysOk l := fun x hx => by
    unfold few11 at hf
    rw [Bool.and_eq_true, List.all_eq_true] at hf
    have := hf.2 x hx; simp at this; omega
  by_cases c1 : (64 : Int) < l.length
  · (have hQq := trivial; repeat ((first | clear hQq | (with_reducible first | refine T_drw ?_ | refine T_bx fun _ => ?_ | refine s_al fun _ => ?_)); (try simp (disch := first | omega | assumption | ((repeat (first | exact mem_h | exact Up.here | apply mem_t | apply Up.there)); first | done | fail) | (simp; first | done | omega | fail)) [c1])))
    exact T_ret rfl
  by_cases c2 : (8 : Int) < p.length
  · (have hQq := trivial; repeat ((first | clear hQq | (with_reducible first | refine T_drw ?_ | refine T_bx fun _ => ?_ | refine s_al fun _ => ?_)); (try simp (disch := first | omega | assumption | ((repeat (first | exact mem_h | exact Up.here | apply mem_t | apply Up.there)); first | done | fail) | (simp; first | done | omega | fail)) [c1, c2])))
    exact T_ret rfl
  by_cases c3 : (60 : Int) < key.size
  · (have hQq := trivial; repeat ((first | clear hQq | (with_reducible first | refine T_drw ?_ | refine T_bx fun _ => ?_ | refine s_al fun _ => ?_)); (try simp (disch := first | omega | assumption | ((repeat (first | exact mem_h | exact Up.here | apply mem_t | apply Up.there)); first | done | fail) | (simp; first | done | omega | fail)) [c1, c2, c3])))
    exact T_ret rfl
  (have hQq := trivial; repeat ((first | clear hQq | (with_reducible first | refine T_drw ?_ | refine T_bx fun _ => ?_ | refine s_al fun _ => ?_)); (try simp (disch := first | omega | assumption | ((repeat (first | exact mem_h | exact Up.here | apply mem_t | apply Up.there)); first | done | fail) | (simp; first | done | omega | fail)) [c1, c2, c3])))
  have hk60 : key.size < 2 ^ 60 := by omega
  have hul := decideV_le l p key closing now idle
  have D1 := fun (w' : World) h1 h2 => Decide_ok w' (.slice ta l.length tc) (.slice pa p.length pc) l p key closing now idle hk60 hks (by omega) (by omega) h1 h2
  have D2 := fun (w' : World) h1 h2 => decide17_ok w' (.slice ta l.length tc) (.slice pa p.length pc) l p key closing now idle hk60 hks (by omega) (by omega) h1 h2
  generalize decideV l p key closing now idle = d at hul D1 D2
  obtain ⟨u, ⟨a1, a2, a3, a4⟩, ch⟩ := d
  have hu2 : u.length ≤ 1000000 := by simp only at hul; omega
  refine T_cn ent_model_Decide (fun w' hw' => D1 w' (hv.ks hw'.ks (by simp)) (hu.ks hw'.ks (by simp))) ?_
  intro _ r hr; subst hr
  (have hQq := trivial; repeat ((first | clear hQq | (with_reducible first | refine T_drw ?_ | refine T_bx fun _ => ?_ | refine s_al fun _ => ?_)); (try simp (disch := first | omega | assumption | ((repeat (first | exact mem_h | exact Up.here | apply mem_t | apply Up.there)); first | done | fail) | (simp; first | done | omega | fail)) [AnsV.val])))
  refine T_cn ent_gangplankref17_Decide (fun w' hw' => D2 w' (hv.ks hw'.ks (by simp)) (hu.ks hw'.ks (by simp))) ?_
  intro _ r2 hr2; subst hr2
  cases ch with
  | false =>
    (have hQq := trivial; repeat ((first | clear hQq | (with_reducible first | refine T_drw ?_ | refine T_bx fun _ => ?_ | refine s_al fun _ => ?_)); (try simp (disch := first | omega | assumption | ((repeat (first | exact mem_h | exact Up.here | apply mem_t | apply Up.there)); first | done | fail) | (simp; first | done | omega | fail)) [AnsV.val])))
    refine T_cv ent_gangplankref11_Same (fun w' hw' => same11_ok w' _ _ l l (by omega) (by omega) (hv.ks hw'.ks (by simp)) (hv.ks hw'.ks (by simp))) ?_
    (have hQq := trivial; repeat ((first | clear hQq | (with_reducible first | refine T_drw ?_ | refine T_bx fun _ => ?_ | refine s_al fun _ => ?_)); (try simp (disch := first | omega | assumption | ((repeat (first | exact mem_h | exact Up.here | apply mem_t | apply Up.there)); first | done | fail) | (simp; first | done | omega | fail)) [])))
    refine T_cv ent_model_Shard (fun w' hw' => Shard_ok w' key n hk60 hb) ?_
    (have hQq := trivial; repeat ((first | clear hQq | (with_reducible first | refine T_drw ?_ | refine T_bx fun _ => ?_ | refine s_al fun _ => ?_)); (try simp (disch := first | omega | assumption | ((repeat (first | exact mem_h | exact Up.here | apply mem_t | apply Up.there)); first | done | fail) | (simp; first | done | omega | fail)) [])))
    refine T_cv ent_gangplankref17_Shard (fun w' hw' => shard17_ok w' key n hk60 hb) ?_
    (have hQq := trivial; repeat ((first | clear hQq | (with_reducible first | refine T_drw ?_ | refine T_bx fun _ => ?_ | refine s_al fun _ => ?_)); (try simp (disch := first | omega | assumption | ((repeat (first | exact mem_h | exact Up.here | apply mem_t | apply Up.there)); first | done | fail) | (simp; first | done | omega | fail)) [])))
    exact T_ret (by simp)
  | true =>
    (have hQq := trivial; repeat ((first | clear hQq | (with_reducible first | refine T_drw ?_ | refine T_bx fun _ => ?_ | refine s_al fun _ => ?_)); (try simp (disch := first | omega | assumption | ((repeat (first | exact mem_h | exact Up.here | apply mem_t | apply Up.there)); first | done | fail) | (simp; first | done | omega | fail)) [AnsV.val])))
    refine T_cv ent_gangplankref11_Same (fun w' hw' => same11_ok w' _ _ u u hu2 hu2 (RdT.own (by ((repeat (first | exact mem_h | exact Up.here | exact Sel.here | apply mem_t | apply Up.there | apply Sel.there)); first | done | fail)) w' hw') (RdT.own (by ((repeat (first | exact mem_h | exact Up.here | exact Sel.here | apply mem_t | apply Up.there | apply Sel.there)); first | done | fail)) w' hw')) ?_
    (have hQq := trivial; repeat ((first | clear hQq | (with_reducible first | refine T_drw ?_ | refine T_bx fun _ => ?_ | refine s_al fun _ => ?_)); (try simp (disch := first | omega | assumption | ((repeat (first | exact mem_h | exact Up.here | apply mem_t | apply Up.there)); first | done | fail) | (simp; first | done | omega | fail)) [])))
    refine T_cv ent_model_Shard (fun w' hw' => Shard_ok w' key n hk60 hb) ?_
    (have hQq := trivial; repeat ((first | clear hQq | (with_reducible first | refine T_drw ?_ | refine T_bx fun _ => ?_ | refine s_al fun _ => ?_)); (try simp (disch := first | omega | assumption | ((repeat (first | exact mem_h | exact Up.here | apply mem_t | apply Up.there)); first | done | fail) | (simp; first | done | omega | fail)) [])))
    refine T_cv ent_gangplankref17_Shard (fun w' hw' => shard17_ok w' key n hk60 hb) ?_
    (have hQq := trivial; repeat ((first | clear hQq | (with_reducible first | refine T_drw ?_ | refine T_bx fun _ => ?_ | refine s_al fun _ => ?_)); (try simp (disch := first | omega | assumption | ((repeat (first | exact mem_h | exact Up.here | apply mem_t | apply Up.there)); first | done | fail) | (simp; first | done | omega | fail)) [])))
    exact T_ret (by simp)
end Go.Proofs.YtggakcpabomliaaGreat
