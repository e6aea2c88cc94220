/- The proof of a given statement, a part of it (App). No condition but what each lemma says. -/
import Derived.Laws.AppendOwn
import Derived.Test.YtpbmephflllolaaGreatE5
set_option linter.unusedVariables false
set_option linter.unusedSimpArgs false
namespace Go.Proofs.YtpbmephflllolaaGreat
open Go
def M8 (w : World) (e : TypeId) (k : Nat) (v : Value) (n : Nat) (xs : List Value) : Prop :=
 xs.length = n * k ∧ ((v = .slice none 0 0 ∧ n = 0) ∨ ∃ g cap cur, v = .slice (some ⟨g, 0, none⟩) n cap ∧ bl w g = some (.cells cur e (0, 0)) ∧ n ≤ cap ∧ cap * k = cur.size ∧ cur.toList.take (n * k) = xs)
def G4 (v : Value) : List Nat := match v with | .slice (some a) _ _ => [a.block] | _ => []
def G1 (w : World) (v : Value) (m : Nat) (xs : List Value) : Prop := (m = 0 ∧ xs = [] ∧ ∃ a c, v = .slice a 0 c) ∨ ∃ b o c, v = .slice (some ⟨b, o, none⟩) m c ∧ K8 w b o xs
theorem M8.but {S : List Nat} {w w' : World} {e : TypeId} {k n : Nat} {v : Value} {xs : List Value} (h : M8 w e k v n xs) (hb : C4 S w w') (hn : ∀ g ∈ G4 v, g ∉ S) : M8 w' e k v n xs := by
 refine ⟨h.1, ?_⟩
 rcases h.2 with h | ⟨g, cap, cur, rfl, h2, h3⟩
 ·exact Or.inl h
 ·exact Or.inr ⟨g, cap, cur, rfl, hb.get h2 (hn g (by simp [G4])), h3⟩
theorem M8.row {w : World} {e : TypeId} {k n g cap : Nat} {xs : List Value} (h : M8 w e k (.slice (some ⟨g, 0, none⟩) n cap) n xs) : K8 w g 0 xs := by
 rcases h.2 with ⟨h, _⟩ | ⟨g', cap', cur, hv, hb, _, _, ht⟩
 ·cases h
 ·cases hv
  intro i hi
  rw [G7 hb, ← ht]
  rw [← ht] at hi
  simp only [List.length_take] at hi
  rw [List.getElem?_take_of_lt (by omega)]; simp
theorem M8.rd {w : World} {e : TypeId} {k n : Nat} {v : Value} {xs : List Value} (h : M8 w e k v n xs) : G1 w v n xs := by
 have h0 := h
 rcases h.2 with ⟨rfl, rfl⟩ | ⟨g, cap, cur, rfl, _⟩
 ·exact Or.inl ⟨rfl, List.length_eq_zero_iff.1 (by simpa using h.1), none, 0, rfl⟩
 ·exact Or.inr ⟨g, 0, cap, rfl, h0.row⟩
section
variable {P : Program} {X : Nat → Prop} {t e : TypeId} {d : TypeDesc} {n' m' k by' : Nat} {z' z : Value} {K : Value → WP} {w : World}
theorem Sk.drew (X : Nat → Prop) (w : World) : Sk X w w.drew := Sk.of_heap rfl
theorem B7b {ty : TypeId} {v x : Value} {n m : Nat} {xs news : List Value} (ht : TI P t (.slice e) n' m' z') (he : TI P e d k by' z) (hz : z.cells.size = k) (hk : 0 < k)
  (hv : M8 w e k v n xs) (hx : G1 w x m news) (hl : news.length = m * k) (hp : news.all plain = true) (h63 : n + m ≤ maxLen) (hby : (n + m) * by' ≤ 140737488355328)
  (hK : ∀ v' w', M8 w' e k v' (n + m) (xs ++ news) → C4 (G4 v) w w' → Sk (fun _ => False) w w' → (∀ g ∈ G4 v', g ∈ G4 v ∨ sz w ≤ g) → K v' w') : B1 P X (A8 .append #[t, t] ty [v, x]) K w := by
 obtain ⟨i, hi, hsize, hbytes, hzero⟩ := he.info
 have hm63 : n + m ≤ 9223372036854775807 := by simp only [maxLen] at h63; omega
 have hlen : (xs ++ news).length = (n + m) * k := by rw [List.length_append, hv.1, hl, Nat.add_mul]
 have hf0 : ∀ (a : Option Addr) (l c : Nat), (Builtin.firstCells i.size 0 (.slice a l c)).run P w = .ok #[] w := by
  intro a l c
  cases a with
  | none => exact run_firstCells_none w i.size 0 l c
  | some a => exact run_firstCells_some w i.size 0 a l c [] (by simp) (by simp)
 have hbut0 : ∀ S, C4 S w w.drew := fun S => (C4.refl S w).drew
 rcases hx with ⟨rfl, rfl, a, c, rfl⟩ | ⟨b, o, c, rfl, hr⟩
 ·-- nothing is appended
  have hrun : (Builtin.append_ #[t, t] ty #[v, .slice a 0 c]).run P w = .ok v w := by
   rcases hv.2 with ⟨rfl, rfl⟩ | ⟨g, cap, cur, rfl, hb, hc, _, _⟩
   ·simp [Builtin.append_, run_underlying ht.und, sizeOf, typeInfo, hi, Builtin.lenOf, hf0]
   ·simp [Builtin.append_, run_underlying ht.und, sizeOf, typeInfo, hi, Builtin.lenOf, hf0, hc, storeCells]
  rw [show (A8 .append #[t, t] ty [v, .slice a 0 c]) = Builtin.append_ #[t, t] ty #[v, .slice a 0 c] from rfl, T5 hrun (Sk.refl X w)]
  exact hK v w (by simpa using hv) (C4.refl _ _) (Sk.refl _ _) fun g hg => Or.inl hg
 have hnews : ∀ j u, news[j]? = some u → w.cell? ((⟨b, o, none⟩ : Addr).add j) = some u := fun j u hj => by rw [Y3]; exact hr.get hj
 have grown : ∀ (old : Nat), old < n + m → M8 (w.drew.alloc (.cells (xs.toArray ++ news.toArray ++ Builtin.zeroCells z.cells (grownCap w (n + m) old e - (n + m))) e)) e k
   (.slice (some ⟨sz w, 0, none⟩) (n + m) (grownCap w (n + m) old e)) (n + m) (xs ++ news) := by
  intro old ho
  have hge := grownCap_ge w (n + m) old e
  refine ⟨hlen, Or.inr ⟨sz w, _, _, rfl, V3 w.drew _, hge, ?_, ?_⟩⟩
  ·simp only [Array.size_append, List.size_toArray, size_zeroCells, hz, hv.1, hl, ← Nat.add_mul]
   congr 1
   omega
  ·simp only [Array.toList_append, List.append_assoc]
   rw [← List.append_assoc, ← hlen]
   exact List.take_left
 have S7 : ∀ (old : Nat), old < n + m → (Builtin.append_ #[t, t] ty #[v, .slice (some ⟨b, o, none⟩) m c]).run P w = .ok (.slice (some ⟨sz w, 0, none⟩) (n + m) (grownCap w (n + m) old e))
    (w.drew.alloc (.cells (xs.toArray ++ news.toArray ++ Builtin.zeroCells z.cells (grownCap w (n + m) old e - (n + m))) e)) → B1 P X (A8 .append #[t, t] ty [v, .slice (some ⟨b, o, none⟩) m c]) K w := by
  intro old ho hrun
  rw [show (A8 .append #[t, t] ty [v, .slice (some ⟨b, o, none⟩) m c]) = Builtin.append_ #[t, t] ty #[v, .slice (some ⟨b, o, none⟩) m c] from rfl,
   T5 hrun ((Sk.drew X w).trans (Sk.alloc X w.drew _ (Or.inr ⟨_, _, rfl⟩)))]
  exact hK _ _ (grown old ho) ((hbut0 _).alloc _) ((Sk.drew _ w).trans (Sk.alloc _ w.drew _ (Or.inr ⟨_, _, rfl⟩))) fun g hg => Or.inr (by simp [G4] at hg; omega)
 rcases hv.2 with ⟨rfl, rfl⟩ | ⟨g, cap, cur, rfl, hb, hc, hcs, htk⟩
 ·have hx0 : xs = [] := List.length_eq_zero_iff.1 (by simpa using hv.1)
  subst hx0
  by_cases hm : m = 0
  ·subst hm
   have hn0 : news = [] := List.length_eq_zero_iff.1 (by simpa using hl)
   subst hn0
   have hrun : (Builtin.append_ #[t, t] ty #[.slice none 0 0, .slice (some ⟨b, o, none⟩) 0 c]).run P w = .ok (.slice none 0 0) w := by
    simp [Builtin.append_, run_underlying ht.und, sizeOf, typeInfo, hi, Builtin.lenOf, hf0]
   rw [show (A8 .append #[t, t] ty [.slice none 0 0, .slice (some ⟨b, o, none⟩) 0 c]) = Builtin.append_ #[t, t] ty #[.slice none 0 0, .slice (some ⟨b, o, none⟩) 0 c] from rfl, T5 hrun (Sk.refl X w)]
   exact hK _ w (by simpa using hv) (C4.refl _ _) (Sk.refl _ _) fun g hg => Or.inl hg
  ·refine S7 0 (by omega) ?_
   have := run_append_nil (P := P) w t ty e i z ht.und hi hzero ⟨b, o, none⟩ m c news (by rw [hsize]; exact hl) hnews (by omega) (by omega) (by rw [hbytes]; simp at hby; omega)
   simpa [sz] using this
 ·by_cases hroom : n + m ≤ cap
  ·have hf := run_firstCells_some (P := P) w i.size m ⟨b, o, none⟩ m c news (by rw [hsize]; exact hl) hnews
   have hfit : n * k + news.length ≤ cur.size := by
    rw [hl, ← hcs, ← Nat.add_mul]; exact Nat.mul_le_mul_right k hroom
   have hst := c8 (P := P) (o0 := n * k) news 0 w cur hb (by simpa using hfit) hp
   simp only [Nat.add_zero] at hst
   have hrun : (Builtin.append_ #[t, t] ty #[.slice (some ⟨g, 0, none⟩) n cap, .slice (some ⟨b, o, none⟩) m c]).run P w = .ok (.slice (some ⟨g, 0, none⟩) (n + m) cap) (World.putb w g (.cells (E2 cur (n * k) news) e (0, 0))) := by
    rw [← hsize] at hst ⊢
    simp [Builtin.append_, run_underlying ht.und, sizeOf, typeInfo, hi, Builtin.lenOf, hroom, hf, Addr.add_lit, hst]
   rw [show (A8 .append #[t, t] ty [.slice (some ⟨g, 0, none⟩) n cap, .slice (some ⟨b, o, none⟩) m c]) = Builtin.append_ #[t, t] ty #[.slice (some ⟨g, 0, none⟩) n cap, .slice (some ⟨b, o, none⟩) m c] from rfl,
    T5 hrun (Sk.putb X hb)]
   refine hK _ _ ⟨hlen, Or.inr ⟨g, cap, _, rfl, P3 (G3 hb), hroom, by rw [C1]; exact hcs, ?_⟩⟩ (C4.putb (C4.refl _ _) _ (Or.inl (by simp [G4]))) (Sk.putb _ hb) fun g hg => Or.inl hg
   rw [A0J _ _ _ hfit, htk, ← hlen]
   exact List.take_left
  ·refine S7 cap (by omega) ?_
   have holds : ∀ j u, xs[j]? = some u → w.cell? ((⟨g, 0, none⟩ : Addr).add j) = some u := fun j u hj => by
    rw [Y3]; exact (M8.row hv).get hj
   exact run_append_grow (P := P) w t ty e i z ht.und hi hzero ⟨g, 0, none⟩ n cap xs (by rw [hsize]; exact hv.1) holds ⟨b, o, none⟩ m c news (by rw [hsize]; exact hl) hnews (by omega) (by omega)
    (growslice_fits (by omega) (by rw [hbytes]; exact hby))
theorem C1V {k1 k2 : IntKind} {l c : Int} (ht : TI P t (.slice e) n' m' z') (he : TI P e d k by' z) (hz : z.cells.size = k) (hk : 0 < k) (h0 : 0 ≤ l) (h1 : l ≤ c) (hb : c * by' ≤ 140737488355328) (hc : c ≤ 9223372036854775807) :
  B1 P X (Instr.makeSlice t (.int k1 l) (.int k2 c)) K w = K (.slice (some ⟨sz w, 0, none⟩) l.toNat c.toNat) (w.alloc (.cells (Builtin.zeroCells z.cells c.toNat) e)) := by
 obtain ⟨i, hi, hsize, hbytes, hzero⟩ := he.info
 refine T5 ?_ (Sk.alloc X w _ (Or.inr ⟨_, _, rfl⟩)) K
 have w1 : IntKind.i64.wrap l = l := y8 (by omega) (by omega)
 have w2 : IntKind.i64.wrap c = c := y8 (by omega) (by omega)
 have hb1 : (by' : Int) * c ≤ 140737488355328 := by rw [Int.mul_comm]; exact hb
 have hl1 : ¬ (281474976710656 < (by' : Int) * c) := by omega
 have g1 : ¬ c < 0 := by omega
 have g2 : ¬ l < 0 := by omega
 have g3 : ¬ c < l := by omega
 by_cases hc0 : c.toNat = 0
 ·simp [Instr.makeSlice, ht.run_und, typeInfo, hi, hbytes, asInt, asIntOf, w1, w2, hl1, g1, g2, g3, he.run_size, newRow, run_newObj, Builtin.zeroCells, hz, hc0]
  exact ⟨rfl, by rw [show Array.range 0 = #[] from by simp [Array.range]]; simp⟩
 ·have : ¬ (c.toNat * k = 0) := by simp [Nat.mul_eq_zero, hc0]; omega
  simp [Instr.makeSlice, ht.run_und, typeInfo, hi, hbytes, asInt, asIntOf, w1, w2, hl1, g1, g2, g3, he.run_size, he.run_zero, newRow, run_newObj, Builtin.zeroCells, hz]
  simp [this]

  rfl
theorem C0z (ht : TI P t (.slice e) n' m' z') (he : TI P e d k by' z) : B1 P X (Instr.buildSlice t 0 #[]) K w = K (.slice (some ⟨sz w, 0, none⟩) 0 0) (w.alloc (.cells #[] e)) := by
 refine T5 ?_ (Sk.alloc X w _ (Or.inr ⟨_, _, rfl⟩)) K
 simp [Instr.buildSlice, ht.run_und, he.run_size, Instr.fill, newRow, run_newObj]
 exact ⟨rfl, by rw [show Array.range 0 = #[] from by simp [Array.range]]; simp⟩
end
theorem M8.empty {w : World} {e : TypeId} {k : Nat} : M8 (w.alloc (.cells #[] e)) e k (.slice (some ⟨sz w, 0, none⟩) 0 0) 0 [] :=
 ⟨by simp, Or.inr ⟨sz w, 0, #[], rfl, V3 w _, Nat.le_refl _, by simp, by simp⟩⟩
theorem M8.made {w : World} {e : TypeId} {k n : Nat} {cs : Array Value} {l : List Value} (hc : cs = l.toArray) (hl : l.length = n * k) : M8 (w.alloc (.cells cs e)) e k (.slice (some ⟨sz w, 0, none⟩) n n) n l := by
 subst hc
 exact ⟨hl, Or.inr ⟨sz w, n, _, rfl, V3 w _, Nat.le_refl _, by simp [hl], by rw [← hl]; simp⟩⟩
theorem C4.step {a c d : World} {S : List Nat} (h : C4 [] a c) (h' : C4 S c d) (hb : ∀ x ∈ S, sz a ≤ x) : C4 [] a d := ((h.mono (T := S) (by simp)).trans h').fresh fun x hx => Or.inr (hb x hx)
end Go.Proofs.YtpbmephflllolaaGreat
