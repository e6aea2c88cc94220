/- The proof of a given statement, a part of it (Ord Sort ShSweep Sweep Model Tab Tab2 Wat Model2 Model3 Model4 Model5 Model6 Model7 Model8 Tab3 Rf12 ShR08 Rf01 Without Rf09 Makes Rf17a Rf03 Rf04 Rf07 Rf08 ShR13 Rf13 RdN DoT Rf17b Rf17c Rf17d ShWorld ShCells). No condition but what each lemma says. -/
import Derived.Sort.Grow
import Derived.Deep.Draws
import Derived.Test.YtpnidmkaobfhiaaGreatJ14
set_option linter.unusedVariables false
set_option linter.unusedSimpArgs false
namespace Go.Proofs.YtpnidmkaobfhiaaGreat
open Go
theorem B4Q (w : World) (a : Int) : Fn PR B6 165 #[.int .i64 a] w (fun v w' => v = .bool false ∧ w' = w) := by
 refine B2A ?_
 unfold A5S
 simp
theorem B4U (w : World) (a : Int) : Fn PR B6 164 #[.int .u64 a] w (fun v w' => v = .bool false ∧ w' = w) := by
 refine A92 ?_
 unfold A3S
 simp
def x4 (a b : Int) : Int := if a < b then -1 else if b < a then 1 else 0
theorem C25 (w : World) (a b : Int) : Fn PR B6 133 #[.int .i64 a, .int .i64 b] w (fun v w' => v = .int .i64 (x4 a b) ∧ w' = w) := by
 refine B0z ?_
 unfold A30
 refine A6T ((B4Q w a).use ?_)
 rintro _ _ ⟨rfl, rfl⟩ _
 refine A6T ((B4Q _ b).use ?_)
 rintro _ _ ⟨rfl, rfl⟩ _
 by_cases c1 : a < b
 ·simp [c1, x4]
 by_cases c2 : b < a
 ·simp [c1, c2, x4]
 ·simp [c1, c2, x4]
theorem C23 (w : World) (a b : Int) : Fn PR B6 132 #[.int .u64 a, .int .u64 b] w (fun v w' => v = .int .i64 (x4 a b) ∧ w' = w) := by
 refine A8T ?_
 unfold A2P
 refine A34 ((B4U w a).use ?_)
 rintro _ _ ⟨rfl, rfl⟩ _
 refine A34 ((B4U _ b).use ?_)
 rintro _ _ ⟨rfl, rfl⟩ _
 by_cases c1 : a < b
 ·simp [c1, x4]
 by_cases c2 : b < a
 ·simp [c1, c2, x4]
 ·simp [c1, c2, x4]
def A3Y (x y : Nat × Int) : Int := if x4 x.1 y.1 ≠ 0 then x4 x.1 y.1 else x4 x.2 y.2
theorem B9n (K : WP) (w : World) : drw K w = K w.drew := rfl
def Gr (w w' : World) : Prop := ∃ q os, w' = Sort.grow (w.drewN q) os
theorem Gr.refl (w : World) : Gr w w := ⟨0, #[], by simp [Sort.grow]; rfl⟩
theorem Gr.alloc {w w' : World} (h : Gr w w') (o : Obj) : Gr w (w'.alloc o) := by
 obtain ⟨q, os, rfl⟩ := h
 exact ⟨q, os ++ #[o], by rw [Sort.alloc_eq_grow, Sort.grow_grow]⟩
theorem Gr.drew {w w' : World} (h : Gr w w') : Gr w w'.drew := by
 obtain ⟨q, os, rfl⟩ := h
 exact ⟨q + 1, os, rfl⟩
theorem C8s (w : World) (a b : Int) (g : Nat) (h : P9 w g 0 [.int .i64 a, .int .i64 b]) : Fn PR B6 131 #[.slice (some ⟨g, 0, none⟩) 2 2] w (fun v w' => v = .int .i64 (if a ≠ 0 then a else b) ∧ w' = w) := by
 refine B5Q ?_
 unfold A9e
 simp
 refine D14 2 (fun _ i w' => w' = w ∧ (0 < i → a = 0) ∧ (1 < i → b = 0)) ⟨rfl, by omega, by omega⟩ ?_
 rintro x i w1 hi ⟨hw1, h0, h1⟩ L hL
 rw [hw1]
 have ha : w.cell? ⟨g, 0, none⟩ = some (.int .i64 a) := by have := h.get (i := 0) (v := .int .i64 a) rfl; simpa using this
 have hb : w.cell? ⟨g, 1, none⟩ = some (.int .i64 b) := by have := h.get (i := 1) (v := .int .i64 b) rfl; simpa using this
 have hi' : i = 0 ∨ i = 1 ∨ i = 2 := by omega
 rcases hi' with rfl | rfl | rfl
 ·by_cases c : a = 0
  ·simp [ha, c]
   exact hL (by omega) _ _ ⟨rfl, fun _ => c, by omega⟩
  ·simp [ha, c]
 ·have ha0 := h0 (by omega)
  by_cases c : b = 0
  ·simp [hb, c]
   exact hL (by omega) _ _ ⟨rfl, fun _ => ha0, fun _ => c⟩
  ·simp [hb, c, ha0]
 ·simp [h0 (by omega), h1 (by omega)]
theorem C2r (w : World) (x y : Nat × Int) : Fn PR B6 101 #[.agg #[.int .u64 (x.1 : Nat), .int .i64 x.2], .agg #[.int .u64 (y.1 : Nat), .int .i64 y.2]] w (fun v w' => v = .int .i64 (A3Y x y) ∧ Gr w w') := by
 refine A7s ?_
 unfold A1z
 obtain ⟨w2, hw2⟩ : ∃ w2, w2 = ((w.alloc (.cells #[.int .u64 (x.1 : Nat), .int .i64 x.2] 210)).alloc (.cells #[.int .u64 (y.1 : Nat), .int .i64 y.2] 210)).drew := ⟨_, rfl⟩
 have hA : bl w2 (sz w) = some (.cells #[.int .u64 (x.1 : Nat), .int .i64 x.2] 210) := by
  subst hw2; show bl ((w.alloc _).alloc _) (sz w) = _; rw [A47 (by simp), m8]
 have hB : bl w2 (sz w + 1) = some (.cells #[.int .u64 (y.1 : Nat), .int .i64 y.2] 210) := by
  subst hw2; show bl ((w.alloc _).alloc _) (sz w + 1) = _; rw [← B68 w, m8]
 have a0 : w2.cell? ⟨sz w, 0, none⟩ = some (.int .u64 (x.1 : Nat)) := by rw [D7 hA]; rfl
 have a1 : w2.cell? ⟨sz w, 1, none⟩ = some (.int .i64 x.2) := by rw [D7 hA]; rfl
 have b0 : w2.cell? ⟨sz w + 1, 0, none⟩ = some (.int .u64 (y.1 : Nat)) := by rw [D7 hB]; rfl
 have b1 : w2.cell? ⟨sz w + 1, 1, none⟩ = some (.int .i64 y.2) := by rw [D7 hB]; rfl
 have hg : Gr w w2 := by subst hw2; exact (((Gr.refl w).alloc _).alloc _).drew
 rw [B8Y, B8Y, B9n, B68]
 simp only [Value.cells]
 rw [← hw2]
 clear hw2 hA hB
 have r1 : (Instr.loadAt 3 (.pointer (some ⟨sz w + 1, 0 + 1, none⟩))).run PR w2 = .ok (.int .i64 y.2) w2 := A0G H4 rfl b1
 have r2 : (Instr.loadAt 3 (.pointer (some ⟨sz w, 0 + 1, none⟩))).run PR w2 = .ok (.int .i64 x.2) w2 := A0G H4 rfl a1
 simp [a0, a1, b0, b1]
 refine A8Z ((C23 w2 _ _).use ?_)
 rintro _ w3 ⟨rfl, hw3⟩ _
 rw [hw3, B2Z, B2Z, B9q]
 refine ⟨r1, r2, ?_⟩
 refine B1T ((C25 w2 _ _).use ?_)
 rintro _ w4 ⟨rfl, hw4⟩ _
 rw [hw4, B0f A3l H4 (cs := #[.int .i64 (x4 x.1 y.1), .int .i64 (x4 x.2 y.2)]) (by decide) (by decide) (by kernel_rfl)]
 have hrow : P9 (w2.alloc (.cells #[.int .i64 (x4 x.1 y.1), .int .i64 (x4 x.2 y.2)] 3)) (sz w2) 0 [.int .i64 (x4 x.1 y.1), .int .i64 (x4 x.2 y.2)] := fun i hi => by
  rw [D7 (m8 _ _)]; simp
 refine B6g ((C8s _ _ _ _ hrow).use ?_)
 rintro _ w5 ⟨rfl, hw5⟩ _
 exact ⟨by simp [A3Y], by rw [hw5]; exact hg.alloc _⟩
end Go.Proofs.YtpnidmkaobfhiaaGreat
namespace Go.Proofs.YtpnidmkaobfhiaaGreat
open Go Go.Sort Go.Lib
theorem C5C (x y : Nat × Int) : A3Y x y < 0 ↔ x.1 < y.1 ∨ (x.1 = y.1 ∧ x.2 < y.2) := by
 unfold A3Y x4
 by_cases h1 : (x.1 : Int) < y.1
 ·simp [h1]; omega
 by_cases h2 : (y.1 : Int) < x.1
 ·simp [h1, h2]; omega
 ·have : x.1 = y.1 := by omega
  by_cases h3 : x.2 < y.2
  ·simp [h1, h2, h3]; omega
  by_cases h4 : y.2 < x.2
  ·simp [h1, h2, h3, h4]; omega
  ·simp [h1, h2, h3, h4]; omega
theorem B8A (x y : Nat × Int) : ltOf A3Y x y = true ↔ x.1 < y.1 ∨ (x.1 = y.1 ∧ x.2 < y.2) := by rw [ltOf, decide_eq_true_eq, C5C]
theorem B1E (x y : Nat × Int) : ltOf A3Y x y = false ↔ ¬ (x.1 < y.1 ∨ (x.1 = y.1 ∧ x.2 < y.2)) := by rw [← B8A, Bool.not_eq_true]
theorem D2A : Sort.SWO (ltOf A3Y) := by
 refine ⟨fun x => ?_, fun x y z h1 h2 => ?_, fun x y z h1 h2 => ?_⟩
 ·rw [B1E]; omega
 ·rw [B8A] at *; omega
 ·rw [B1E] at *; omega
theorem D1D (x y : Nat × Int) (h1 : ltOf A3Y x y = false) (h2 : ltOf A3Y y x = false) : x = y := by
 rw [B1E] at *
 have e1 : x.1 = y.1 := by omega
 have e2 : x.2 = y.2 := by omega
 exact Prod.ext e1 e2
theorem C50 : (fun x y => !(ltOf A3Y) y x) = leP := by
 funext x y
 rw [Bool.eq_iff_iff, Bool.not_eq_true', B1E, leP, decide_eq_true_eq]; omega
theorem B5w (l : List (Nat × Int)) : flatK L0 2 l.toArray = (l.flatMap L0).toArray := by
 apply Array.toList_inj.1
 apply List.ext_getElem
 ·rw [Array.length_toList, size_flatK, List.toList_toArray, P0 r6]; simp
 ·intro i h1 h2
  have hi : i < l.length * 2 := by simpa using h1
  have hf := m0 (f := L0) (k := 2) r6 l (i / 2) (i % 2) (by omega)
  rw [show i / 2 * 2 + i % 2 = i by omega] at hf
  have h2' : i < (l.flatMap L0).length := by simpa using h2
  rw [List.getElem?_eq_getElem h2', List.getElem?_eq_getElem (show i / 2 < l.length by omega)] at hf
  have hg := get_flatK L0 2 l.toArray i (by simpa using hi)
  rw [getElem!_pos _ _ (by simpa using hi)] at hg
  simp only [Array.getElem_toList, List.getElem_toArray]
  rw [hg]
  simp only [Option.bind_some] at hf
  rw [getElem!_pos l.toArray (i / 2) (by simp; omega)]
  simp only [List.getElem_toArray]
  have h3 : i % 2 < (L0 l[i / 2]).length := by rw [r6]; omega
  rw [List.getElem?_eq_getElem h3] at hf
  rw [getElem!_pos (L0 l[i / 2]) (i % 2) h3]
  exact (Option.some.inj hf).symm
theorem C1m {w : World} {g : Nat} {cur : Array Value} {T : TypeId} {F : Array Value} (h : bl w g = some (.cells cur T (0, 0))) : bl (Sort.putRow id w g 0 F) g = some (.cells (Sort.putCells id 0 F cur) T (0, 0)) := by
 have h' : w.heap[g]? = some (.cells cur T (0, 0)) := h
 simp only [bl, Sort.putRow, Sort.mapBlock, Array.getElem?_modify, if_true, h', Option.map_some]; rfl
theorem A49 {w : World} {g r : Nat} {F : Array Value} (h : r ≠ g) : bl (Sort.putRow id w g 0 F) r = bl w r := by
 simp [bl, Sort.putRow, Sort.mapBlock, Array.getElem?_modify, Ne.symm h]
theorem B46 {F cur : Array Value} (h : F.size ≤ cur.size) : (Sort.putCells id 0 F cur).toList.take F.size = F.toList := by
 apply List.ext_getElem (by simp [Sort.putCells]; omega)
 intro i h1 h2
 have hi : i < F.size := by simpa using h2
 simp [Sort.putCells, hi]
theorem B1J {w : World} {os : Array Obj} {r : Nat} {o : Obj} (h : bl w r = some o) : bl (Sort.grow w os) r = some o := by
 have hr : r < w.heap.size := P7 h
 simp only [bl, Sort.grow, Array.getElem?_append_left hr]; exact h
theorem B7d (w : World) (v : Value) (l : List (Nat × Int)) (hn : l.length ≤ 1000000) (hw : LW false (B1 [A8s v l]) w [A8s v l] w) :
  Fn PR B6 128 #[v, .func (.func 101) #[] #[]] w (Rn (B1 [A8s v l]) w (fun (_ : Unit) u => u = .tuple #[]) fun _ => [A8s v (W8 l)]) := by
 have ho : U9 w 210 2 v l.length (l.flatMap L0) := hw.hold _ A1
 rcases ho.2 with ⟨rfl, hl0⟩ | ⟨g, cap, cur, rfl, hb, hc, hcs, htk⟩
 ·have hl : l = [] := List.length_eq_zero_iff.1 hl0
  subst hl
  refine Calls.mono (AnyF.slices_SortFunc_none Tryz.sortPlace none 0 (.func (.func 101) #[] #[]) w) ?_
  rintro e w' ⟨he, rfl⟩
  exact ⟨_, he, ⟨(), rfl, by simpa [W8] using hw⟩, Sk.refl _ _⟩
 ·have hg : g < w.heap.size := P7 hb
  have hH : HoldsK L0 2 w g 0 l.toArray := by
   intro j hj
   rw [B5w] at hj ⊢
   have hj' : j < (l.flatMap L0).length := by simpa using hj
   constructor
   ·rw [D7 hb, Nat.zero_add]
    rw [getElem!_pos _ _ (by simpa using hj')]
    have : cur.toList[j]? = (l.flatMap L0)[j]? := by
     rw [← htk, List.getElem?_take_of_lt (by rw [P0 r6] at hj'; exact hj')]
    rw [Array.getElem?_toList] at this
    rw [this, List.getElem?_eq_getElem hj']; rfl
   ·have hb' : w.heap[g]? = some (.cells cur 210 (0, 0)) := hb
    simp [World.frozen?, hb']
  have hcmp : CmpLays PR 101 #[] L0 2 A3Y g 0 l.toArray.size w := by
   intro m os dk _ x y
   refine Calls.mono (C2r (sortWorldK L0 2 w g 0 m dk os) x y) ?_
   rintro e w' ⟨v, he, ⟨hv, hgr⟩, _⟩
   exact ⟨by rw [he, hv], hgr⟩
  have main := AnyQ.slices_SortFunc_total Tryz.sortPlace 2 (fun w => by kernel_rfl) (fun w => A8m.run_size) L0 r6
   (by intro x u hu; simp only [L0, List.mem_cons, List.not_mem_nil, or_false] at hu; rcases hu with rfl | rfl <;> rfl) A3Y D2A 101 #[] g 0 cap l.toArray w
   A7Z hcmp hH hg (by simp; omega) D1D
  refine Calls.mono main ?_
  rintro e w' ⟨he, n, os, rfl⟩
  have e1 : sortWorldK L0 2 w g 0 n (l.toArray.toList.mergeSort fun x y => !(ltOf A3Y) y x).toArray os = Sort.grow (Sort.putRow id (Sort.ahead w n) g 0 ((W8 l).flatMap L0).toArray) os := by
   unfold sortWorldK putRowK; rw [← B5w, C50]; rfl
  rw [e1]
  have hsz : ((W8 l).flatMap L0).length = l.length * 2 := by rw [P0 r6, A16]
  have hb2 : bl (Sort.ahead w n) g = some (.cells cur 210 (0, 0)) := hb
  have hbl := B1J (os := os) (C1m (F := ((W8 l).flatMap L0).toArray) hb2)
  have hks : KS false [g] w (Sort.grow (Sort.putRow id (Sort.ahead w n) g 0 ((W8 l).flatMap L0).toArray) os) := by
   refine ⟨by simp [sz, Sort.grow, Sort.size_putRow], fun r o hr _ e => ?_, fun h => by cases h⟩
   exact B1J (by rw [A49 (by simpa using hr)]; exact e)
  refine ⟨_, he, ⟨(), rfl, ⟨hks.mono (by simp [B1, Res.foot, Q9]), ?_, ?_, by simp⟩⟩, ?_⟩
  ·simp only [List.mem_singleton, forall_eq, Res.holds]
   refine ⟨by rw [hsz, A16], Or.inr ⟨g, cap, _, by rw [A16], hbl, by rw [A16]; exact hc, by simp [Sort.putCells, hcs], ?_⟩⟩
   rw [A16]
   have := B46 (F := ((W8 l).flatMap L0).toArray) (cur := cur) (by simp only [List.size_toArray, hsz]; rw [← hcs]; omega)
   simpa [hsz] using this
  ·simp only [List.mem_singleton, forall_eq, Res.foot, Q9]
   exact ⟨Or.inl (by simp [B1, Res.foot, Q9]), P7 hbl⟩
  ·refine ⟨by simp [Sort.grow, Sort.size_putRow], fun r d e => ?_, fun r lo _ e => ?_, rfl, rfl⟩
   ·exact B1J (by rw [A49 (by rintro rfl; have h2 : some (Obj.deferred d) = some (Obj.cells cur 210 (0, 0)) := e.symm.trans hb; cases h2)]; exact e)
   ·exact B1J (by rw [A49 (by rintro rfl; have h2 : some (Obj.loop lo) = some (Obj.cells cur 210 (0, 0)) := e.symm.trans hb; cases h2)]; exact e)
theorem B5N (w : World) (b : Nat) (v : Value) (p : List G8) (hn : p.length ≤ 1000) (hv : D2 w v p.length (p.flatMap E6)) (hS : 0 < p.length → ∀ g ∈ Q9 v, g ∉ [b])
  (hw : LW false [b] w [.pt b (.cells #[v] 36)] w) :
  Fn PR B6 99 #[B2q b, .func (.func 101) #[] #[]] w (Rn [b] w (fun r u => u = r) fun r => [A8s r (W8 (M0 p))]) := by
 refine A1A (TW.goH (κ := false) (S := [b]) ?_ hw)
 unfold b8
 have hll := B3m p
 refine C0 (Hc := [.pt b (.cells #[v] 36)]) A2S (fun w' hw' hs => B84 w' b v p hn (hv.ks0 (fun h => by rw [List.length_eq_zero_iff.1 h]; rfl) hw'.ks hS) hS hs) (by (repeat' constructor)) ?_
 rintro _ r rfl
 refine C0 (Hc := [A8s r (M0 p)]) j7 (fun w' hw' hs => B7d w' r (M0 p) (by omega) hs) (by (repeat' constructor)) ?_
 rintro _ _ rfl
 exact B0 r rfl (by (repeat' constructor))
theorem C7z (w : World) (v : Value) (p : List G8) (hn : p.length ≤ 1000) (hv : D2 w v p.length (p.flatMap E6)) :
  Fn PR B6 78 #[v] w (Rn [] w (fun r u => u = r) fun r => [.own 216 2 r (W8 (M0 p)).length ((W8 (M0 p)).flatMap L0)]) := by
 refine B7D (TW.go (κ := false) (S := []) ?_)
 unfold B0C
 have hll := B3m p
 refine G7 B3J (fun w' _ => C3S w' v (by obtain ⟨a, c, rfl, _⟩ := hv.form; exact ⟨a, _, c, rfl⟩)) ?_
 rintro b _ rfl
 refine C0 (Hc := [.pt b (.cells #[v] 36)]) A0s (fun w' hw' hs => B5N w' b v p hn (hv.ks hw'.ks (by simp)) (fun h0 g hg hgb => ?_) hs) (by (repeat' constructor)) ?_
 ·obtain ⟨a, c, rfl, hr⟩ := hv.form
  obtain ⟨b', o, rfl, hrow⟩ := hr h0
  have hlen : 0 < (p.flatMap E6).length := by rw [P0 (k := 2) fun _ => rfl]; omega
  have h1 := hrow 0 hlen
  rw [List.getElem?_eq_getElem hlen] at h1
  obtain ⟨c', t', z', h2, h3⟩ := A0D h1
  have hlt : b' < sz w := P7 h2
  simp [Q9] at hg hgb
  subst hg
  rcases (hw'.own _ A1 b (by simp [Res.foot])).1 with h | h
  ·simp at h
  ·omega
 rintro _ r rfl
 have hsl : (W8 (M0 p)).length ≤ 128000 := by rw [A16]; omega
 generalize W8 (M0 p) = q at *
 refine H7 (e := 210) (k := 2) (v := r) (q := q.length) (xs := q.flatMap L0) (by (repeat constructor)) ?_
 rintro ra rc rfl
 (have zz:=trivial;repeat((first|clear zz|with_reducible first|refine A3 ?_|refine A5 fun _=>?_|refine A4 fun _=>?_);try simp(disch:=first|omega|assumption|((repeat(first|exact A1|exact uH|apply A2|apply uT));first|done|fail)|(simp;first|done|omega|fail))[]))
 refine j9 216 2 ?_
 refine Q6 (α := Option Addr × Nat) q.length (fun i x => .slice x.1 i x.2) (fun i x => [.own 216 2 (.slice x.1 i x.2) i ((q.take i).flatMap L0), A8s (.slice ra q.length rc) q]) (fun i _ => True) (none, 0) trivial ?_
 rintro i ⟨xa, xc⟩ hi _ L hL
 by_cases hlt : i < q.length
 ·obtain ⟨x, hx⟩ : ∃ x, q[i]? = some x := ⟨_, List.getElem?_eq_getElem hlt⟩
  have hrl := B4x (f := L0) (k := 2) r6 hx
  have hst : (q.take (i + 1)).flatMap L0 = (q.take i).flatMap L0 ++ L0 x := by rw [List.take_add_one, hx, List.flatMap_append]; simp
  have hL' := fun a c => hL hlt (a, c) trivial
  simp only [hst, L0] at hL'
  rw [L0] at hrl
  have hl0 : ((q.take i).flatMap L0).length = i * 2 := by rw [P0 r6, List.length_take]; congr 1; omega
  refine P8 (e := 210) (k := 2) (v := .slice ra q.length rc) (q := q.length) (xs := q.flatMap L0) (by (repeat constructor)) (by omega) ?_
  rintro g gc hg
  cases hg
  (have zz:=trivial;repeat((first|clear zz|with_reducible first|refine A3 ?_|refine A5 fun _=>?_|refine A4 fun _=>?_|refine T6 fun _=>?_|refine T0 (hK:=fun _=>?_)|refine T8 (hK:=fun _=>?_)|refine T2 (hK:=fun _=>?_)|refine T3 (hK:=fun _=>?_)|refine T7 (hK:=fun _=>?_));try simp(disch:=first|omega|assumption|((repeat(first|exact A1|exact uH|apply A2|apply uT));first|done|fail)|(simp;first|done|omega|fail))[hlt, hrl]))
  refine W9 (e := 216) (k := 2) (q := i) (r := 1) (xs := (q.take i).flatMap L0) (news := [.int .u64 (x.1 : Nat), .int .i64 x.2]) (by (repeat constructor)) (H3.own (by (repeat constructor))) (by decide) (by simp) (by simp) (by simp only [maxLen]; omega) (by omega) fun a' c' => ?_
  (have zz:=trivial;repeat((first|clear zz|with_reducible first|refine A3 ?_|refine A5 fun _=>?_|refine A4 fun _=>?_);try simp(disch:=first|omega|assumption|((repeat(first|exact A1|exact uH|apply A2|apply uT));first|done|fail)|(simp;first|done|omega|fail))[]))
  exact Sels.tw (by (repeat' constructor)) (hL' a' c')
 ·obtain rfl : i = q.length := by omega
  rw [List.take_length]
  (have zz:=trivial;repeat((first|clear zz|with_reducible first|refine A3 ?_|refine A5 fun _=>?_|refine A4 fun _=>?_);try simp(disch:=first|omega|assumption|((repeat(first|exact A1|exact uH|apply A2|apply uT));first|done|fail)|(simp;first|done|omega|fail))[]))
  exact B0 (.slice xa q.length xc) rfl (by (repeat' constructor))
end Go.Proofs.YtpnidmkaobfhiaaGreat
namespace Go.Proofs.YtpnidmkaobfhiaaGreat
open Go
def A9k (X : Nat → Prop) (t0 t1 t2 t3 : Value) (R : Value → WP) : WP :=
 jn (n := 1) (fun t1_1 =>
 A0 PR (A8 .max #[3, 3] 0 [t2, (.int .i64 0)]) fun t24 =>
 A0 PR (A8 .len #[55] 0 [t0]) fun t26 =>
 A0 PR (A8 .min #[3, 3] 0 [t24, t26]) fun t27 =>
 A0 PR (Instr.makeFunc (.func 120) #[t3] #[]) fun t29 =>
 B9 PR X (Instr.alloc 244 true (.tuple #[])) fun t11 =>
 C2 PR X (Instr.storeAt 244 t11 t29) <|
 B3 PR X 71 [t0] fun t31 =>
 B9 PR X (Instr.alloc 55 true (.tuple #[])) fun t12 =>
 B9 PR X (Instr.alloc 3 true (.tuple #[])) fun t13 =>
 C2 PR X (Instr.storeAt 55 t12 t31) <|
 C2 PR X (Instr.storeAt 3 t13 (.int .i64 0)) <|
 jn (n := 0) (
 jn (n := 0) (
 jn (n := 1) (fun t1_2 =>
 drw <|
 A6 PR (Instr.loadAt 55 t12) fun t71 =>
 A6 PR (Instr.loadAt 3 t13) fun t73 =>
 unw (R (.tuple #[t71, t1_2, t73]))) fun J1 =>
 A0 PR (A8 .len #[55] 0 [t0]) fun t63 =>
 A0 PR (binOp .gtr 3 t63 (.int .i64 0)) fun t64 =>
 B7 t64 (
 A0 PR (binOp .add 3 t1_1 t27) fun t67 =>
 A0 PR (A8 .len #[55] 0 [t0]) fun t69 =>
 A0 PR (binOp .rem 3 t67 t69) fun t70 =>
 J1 t70) (
 J1 t1_1)) fun J2 =>
 drw <|
 A6 PR (Instr.loadAt 3 t13) fun t50 =>
 A0 PR (binOp .gtr 3 t50 (.int .i64 0)) fun t51 =>
 gj t51 true (fun J => A6 PR (Instr.loadAt 55 t12) J) fun t53 =>
 gj t51 true (fun J => A6 PR (Instr.loadAt 55 t12) J) fun t56 =>
 gj t51 true (fun J => A0 PR (A8 .len #[55] 0 [t56]) J) fun t57 =>
 gj t51 true (fun J => B3 PR X 122 [t53, (.int .i64 2)] J) fun t54 =>
 watch PR [((some (t51, true)), (Instr.loadAt 55 t12), t56)] <|
 gj t51 true (fun J => A0 PR (binOp .mul 3 (.int .i64 2) t54) J) fun t55 =>
 gj t51 true (fun J => A0 PR (binOp .gtr 3 t55 t57) J) fun t58 =>
 A0 PR (do pure (if ← asBool t51 then t58 else (.bool false))) fun t59 =>
 B7 t59 (
 A6 PR (Instr.loadAt 55 t12) fun t60 =>
 B3 PR X 123 [t60] fun t61 =>
 C2 PR X (Instr.storeAt 55 t12 t61) <|
 J2) (
 J2)) fun J3 =>
 A0 PR (A8 .len #[55] 0 [t0]) fun t35 =>
 B3 PR X 121 [t1_1, t27, t35] fun t36 =>
 rng (N := 1) PR X (fun t37 K4 =>
 bgn <|
 drw <|
 A6 PR (Instr.loadAt 244 t11) fun t38 =>
 A6 PR (Instr.loadAt 55 t12) fun t39 =>
 A0 PR (Instr.indexAt 55 t39 t37) fun t41 =>
 A6 PR (Instr.loadAt 155 t41) fun t42 =>
 q6 PR (fun _ => False) t38 [t42] fun t43 =>
 B7 t43 (
 A6 PR (Instr.loadAt 55 t12) fun t44 =>
 A0 PR (Instr.build 155 #[(0, (.int .i64 2))]) fun t46 =>
 A0 PR (Instr.indexAt 55 t44 t37) fun t47 =>
 C2 PR (fun _ => False) (Instr.storeAt 155 t47 t46) <|
 A6 PR (Instr.loadAt 3 t13) fun t48 =>
 A0 PR (binOp .add 3 t48 (.int .i64 1)) fun t49 =>
 C2 PR (fun _ => False) (Instr.storeAt 3 t13 t49) <|
 K4 none) (
 K4 none)) t36 (fun j => match j with | none => (J3) | some (.exit i) => (match Nat.beq i 0 with | true => (J3) | false => (H8)) | some .ret => (unw (R (.tuple #[(.slice none 0 0), (.int .i64 0), (.int .i64 0)]))) | some _ => H8)) fun J5 =>
 A0 PR (binOp .lss 3 t1 (.int .i64 0)) fun t16 =>
 gj t16 false (fun J => J t1) fun t18 =>
 gj t16 false (fun J => J t0) fun t19 =>
 gj t16 false (fun J => A0 PR (A8 .len #[55] 0 [t19]) J) fun t20 =>
 gj t16 false (fun J => A0 PR (binOp .geq 3 t18 t20) J) fun t21 =>
 A0 PR (do pure (if ← asBool t16 then (.bool true) else t21)) fun t22 =>
 B7 t22 (
 J5 (.int .i64 0)) (
 J5 t1)
theorem B36 : B2 PR 95 := A7 Tryz.func95 (by kernel_rfl) rfl
theorem B5P {X : Nat → Prop} {t0 t1 t2 t3 : Value} {R : Value → WP} {w : World} (h : A9k X t0 t1 t2 t3 R w) : Fn PR X 95 #[t0, t1, t2, t3] w R := C9 (args := [t0, t1, t2, t3]) mixed Tryz.func95 (by kernel_rfl) h
def A3Q (X : Nat → Prop) (t0 t1 : Value) (R : Value → WP) : WP :=
 B9 PR X (Instr.box 155 t1) fun t3 =>
 A0 PR (Instr.fieldAt 155 t3 0) fun t5 =>
 A6 PR (Instr.loadAt 3 t5) fun t6 =>
 A0 PR (binOp .eql 3 t6 (.int .i64 1)) fun t7 =>
 gj t7 true (fun J => A0 PR (Instr.fieldAt 155 t3 3) J) fun t9 =>
 gj t7 true (fun J => A6 PR (Instr.loadAt 3 t9) J) fun t10 =>
 gj t7 true (fun J => J t0) fun t11 =>
 gj t7 true (fun J => A0 PR (binOp .lss 3 t10 t11) J) fun t12 =>
 A0 PR (do pure (if ← asBool t7 then t12 else (.bool false))) fun t13 =>
 R t13
theorem A9K : B2 PR 120 := A7 Tryz.func120 (by kernel_rfl) rfl
theorem A93 {X : Nat → Prop} {t0 t1 : Value} {R : Value → WP} {w : World} (h : A3Q X t0 t1 R w) : Fn PR X 120 #[t0, t1] w R := C9 (args := [t0, t1]) mixed Tryz.func120 (by kernel_rfl) h
def A6K (X : Nat → Prop) (t0 t1 t2 : Value) (R : Value → WP) : WP :=
 B9 PR X (Instr.box 3 t0) fun t3 =>
 B9 PR X (Instr.box 3 t1) fun t4 =>
 B9 PR X (Instr.box 3 t2) fun t5 =>
 A0 PR (Instr.makeFunc (.func 155) #[] #[t4, t3, t5]) fun t7 =>
 R t7
theorem B12 : B2 PR 121 := A7 Tryz.func121 (by kernel_rfl) rfl
theorem B2a {X : Nat → Prop} {t0 t1 t2 : Value} {R : Value → WP} {w : World} (h : A6K X t0 t1 t2 R w) : Fn PR X 121 #[t0, t1, t2] w R := C9 (args := [t0, t1, t2]) mixed Tryz.func121 (by kernel_rfl) h
def A4C (X : Nat → Prop) (t0 t1 t2 t3 : Value) (R : Value → WP) : WP :=
 A6 PR (Instr.loadAt 3 t1) fun t6 =>
 lp (n := 1) (fun L1 t7 =>
 A0 PR (binOp .lss 3 t7 t6) fun t8 =>
 jn (n := 0) (
 jn (n := 0) (
 A0 PR (binOp .add 3 t7 (.int .i64 1)) fun t18 =>
 L1 t18) fun J2 =>
 A6 PR (Instr.loadAt 3 t2) fun t11 =>
 A0 PR (binOp .add 3 t11 t7) fun t13 =>
 A6 PR (Instr.loadAt 3 t3) fun t14 =>
 A0 PR (binOp .rem 3 t13 t14) fun t15 =>
 q6 PR X t0 [t15] fun t16 =>
 A0 PR (Op.unary .not t16) fun t17 =>
 B7 t17 (
 R (.tuple #[])) (
 J2)) fun J3 =>
 B7 t8 (
 J3) (
 R (.tuple #[]))) (.int .i64 0)
theorem A9u : B2 PR 155 := A7 Tryz.func155 (by kernel_rfl) rfl
theorem B0u {X : Nat → Prop} {t0 t1 t2 t3 : Value} {R : Value → WP} {w : World} (h : A4C X t0 t1 t2 t3 R w) : Fn PR X 155 #[t0, t1, t2, t3] w R := C9 (args := [t0, t1, t2, t3]) mixed Tryz.func155 (by kernel_rfl) h
theorem B06 {X : Nat → Prop} {t0 t1 t2 t3 : Value} {K : Value → WP} {w : World} (h : Fn PR X 155 #[t0, t1, t2, t3] w K) : A2W PR X 155 [t0, t1, t2, t3] K w := ⟨A9u, h⟩
end Go.Proofs.YtpnidmkaobfhiaaGreat
namespace Go.Proofs.YtpnidmkaobfhiaaGreat
open Go
def A1j (x : EnV) (now : Int) : Bool := decide (x.st = 1) && decide (x.dl < now)
theorem C5E (w : World) (x : EnV) (now : Int) : Fn PR B6 120 #[.int .i64 now, .agg #[.int .i64 x.st, .string x.key, .int .i64 x.bk, .int .i64 x.dl]] w (fun r w' => r = .bool (A1j x now) ∧ D6 [] w w') := by
 refine Fn.pure (A93 (TW.go (κ := false) (S := []) ?_))
 unfold A3Q
 by_cases c1 : x.st = 1
 ·(have zz:=trivial;repeat((first|clear zz|with_reducible first|refine A3 ?_|refine A5 fun _=>?_|refine A4 fun _=>?_);try simp(disch:=first|omega|assumption|((repeat(first|exact A1|exact uH|apply A2|apply uT));first|done|fail)|(simp;first|done|omega|fail))[c1]))
  exact B4 (by simp [A1j, c1])
 ·(have zz:=trivial;repeat((first|clear zz|with_reducible first|refine A3 ?_|refine A5 fun _=>?_|refine A4 fun _=>?_);try simp(disch:=first|omega|assumption|((repeat(first|exact A1|exact uH|apply A2|apply uT));first|done|fail)|(simp;first|done|omega|fail))[c1]))
  exact B4 (by simp [A1j, c1])
def P4 (f n m : Nat) : List Nat := (List.range n).map fun i => (f + i) % m
def A97 (j : Nat) : List Value := [.int .i64 (j : Int)]
abbrev B8H (x : Nat × Nat × Nat) : Value := .func (.func 155) #[] #[.pointer (some ⟨x.1, 0, none⟩), .pointer (some ⟨x.2.1, 0, none⟩), .pointer (some ⟨x.2.2, 0, none⟩)]
abbrev B4A (x : Nat × Nat × Nat) (f n m : Nat) : List Res := [.pt x.1 (.cells #[.int .i64 (n : Int)] 3), .pt x.2.1 (.cells #[.int .i64 (f : Int)] 3), .pt x.2.2 (.cells #[.int .i64 (m : Int)] 3)]
theorem C1W (w : World) (f n m : Nat) : Fn PR B6 121 #[.int .i64 (f : Int), .int .i64 (n : Int), .int .i64 (m : Int)] w (Rn [] w (fun x u => u = B8H x) fun x => B4A x f n m) := by
 refine B2a (TW.go (κ := false) (S := []) ?_)
 unfold A6K
 (have zz:=trivial;repeat((first|clear zz|with_reducible first|refine A3 ?_|refine A5 fun _=>?_|refine A4 fun _=>?_);try simp(disch:=first|omega|assumption|((repeat(first|exact A1|exact uH|apply A2|apply uT));first|done|fail)|(simp;first|done|omega|fail))[]))
 rename_i b1 b2 b3
 exact B0 (b2, b1, b3) rfl (by (repeat' constructor))
theorem C0g (x : Nat × Nat × Nat) (f n m : Nat) (hf : f ≤ 1000000) (hn : n ≤ 1000000) (hm : n ≤ m) (hmm : m ≤ 1000000) : A57 (B8H x) (B4A x f n m) (fun _ _ => True) ((P4 f n m).map A97) := by
 obtain ⟨b1, b2, b3⟩ := x
 refine ⟨_, _, _, rfl, fun y J E hJ hE stJ stE hy w0 h0 => ?_⟩
 refine B06 (B0u (TW.at (κ := true) ?_ (hJ _ _ _ h0).1))
 unfold A4C
 simp only [B4A]
 (have zz:=trivial;repeat((first|clear zz|with_reducible first|refine A3 ?_|refine A5 fun _=>?_|refine A4 fun _=>?_);try simp(disch:=first|omega|assumption|((repeat(first|exact A1|exact uH|apply A2|apply uT));first|done|fail)|(simp;first|done|omega|fail))[]))
 refine A3v n (fun i => i) (fun _ => _) hJ stJ h0 fun i a hi hJi _ L hL => ?_
 by_cases hlt : i < n
 ·have e1 : ((f : Int) + (i : Nat)).tmod m = ((f + i) % m : Nat) := by rw [Int.tmod_eq_emod_of_nonneg (by omega), Int.natCast_emod, Int.natCast_add]
  have hnz : ¬ (m : Int) = 0 := by omega
  have hwi : ∀ h, ((P4 f n m).map A97)[i]'h = A97 ((f + i) % m) := by
   intro h; simp only [List.getElem_map, P4, List.getElem_range]
  (have zz:=trivial;repeat((first|clear zz|with_reducible first|refine A3 ?_|refine A5 fun _=>?_|refine A4 fun _=>?_);try simp(disch:=first|omega|assumption|((repeat(first|exact A1|exact uH|apply A2|apply uT));first|done|fail)|(simp;first|done|omega|fail))[hlt, e1, hnz, j6]))
  refine A8b hJ hE stJ hy hJi (by simpa [P4] using hlt) (by rw [hwi]; simp [A97]) (fun w3 h => ?_) (fun w3 h => ?_)
  ·(have zz:=trivial;repeat((first|clear zz|with_reducible first|refine A3 ?_|refine A5 fun _=>?_|refine A4 fun _=>?_);try simp(disch:=first|omega|assumption|((repeat(first|exact A1|exact uH|apply A2|apply uT));first|done|fail)|(simp;first|done|omega|fail))[]))
   exact fun w' hw' => hL hlt w' (stJ _ _ _ _ _ h hw')
  ·(have zz:=trivial;repeat((first|clear zz|with_reducible first|refine A3 ?_|refine A5 fun _=>?_|refine A4 fun _=>?_);try simp(disch:=first|omega|assumption|((repeat(first|exact A1|exact uH|apply A2|apply uT));first|done|fail)|(simp;first|done|omega|fail))[]))
   exact A4z stE h
 ·obtain rfl : i = n := by omega
  (have zz:=trivial;repeat((first|clear zz|with_reducible first|refine A3 ?_|refine A5 fun _=>?_|refine A4 fun _=>?_);try simp(disch:=first|omega|assumption|((repeat(first|exact A1|exact uH|apply A2|apply uT));first|done|fail)|(simp;first|done|omega|fail))[]))
  exact A5K stJ (by simpa [P4] using hJi)
def S0 (now : Int) (s : List EnV × Nat) (j : Nat) : List EnV × Nat := if A1j (s.1.getD j p7) now then (s.1.set j V9, s.2 + 1) else s
def Y4 (l : List EnV) (f n : Nat) (now : Int) : List EnV × Nat := (P4 f n l.length).foldl (S0 now) (l, 0)
def G4 (l : List EnV) (f : Int) : Nat := if f < 0 ∨ (l.length : Int) ≤ f then 0 else f.toNat
def T5 (l : List EnV) (n : Int) : Nat := min n.toNat l.length
def H5 (l : List EnV) (f n now : Int) : List EnV × Nat × Nat :=
 let s := Y4 l (G4 l f) (T5 l n) now
 (if 0 < s.2 then M5 s.1 else s.1, if 0 < l.length then (G4 l f + T5 l n) % l.length else G4 l f, s.2)
theorem B0E (now : Int) (L : List Nat) (s : List EnV × Nat) : (L.foldl (S0 now) s).1.length = s.1.length := by
 induction L generalizing s with
 | nil => rfl
 | cons j L ih => rw [List.foldl_cons, ih]; unfold S0; split <;> simp
theorem B3D (now : Int) (L : List Nat) (s : List EnV × Nat) (h : L5 s.1) : L5 (L.foldl (S0 now) s).1 := by
 induction L generalizing s with
 | nil => exact h
 | cons j L ih =>
  rw [List.foldl_cons]
  refine ih _ ?_
  unfold S0; split
  ·intro x hx
   rcases List.mem_or_eq_of_mem_set hx with hx | rfl
   ·exact h x hx
   ·simp [V9]
  ·exact h
theorem B6K (now : Int) (L : List Nat) (s : List EnV × Nat) : (L.foldl (S0 now) s).2 ≤ s.2 + L.length := by
 induction L generalizing s with
 | nil => simp
 | cons j L ih =>
  rw [List.foldl_cons]
  have := ih (S0 now s j)
  have h2 : (S0 now s j).2 ≤ s.2 + 1 := by unfold S0; split <;> simp
  simp only [List.length_cons]; omega
theorem C4N {κ : Bool} {S : List Nat} {w0 : World} {H Hj : List Res} {F : Value → WP} {A : (Value → WP) → WP} (v : Value) (hF : TW κ S w0 Hj (F v)) (hA : ∀ J : Value → WP, TW κ S w0 Hj (J v) → TW κ S w0 H (A J)) : TW κ S w0 H (jn (n := 1) F A) := hA F hF
@[simp] theorem C9n {κ : Bool} {S : List Nat} {w0 : World} {H : List Res} {K0 : WP} {t : TypeId} {z : Value} [h : TS t z] {b o : Nat} {c : Array Value} {T : TypeId} {f : Nat × Nat} {v : Value} {l : List Rd} {x y : Bool} (hm : Res.pt b (.cells c T f) ∈ H) (hv : c[o]? = some v) :
  TW κ S w0 H (watch PR ((some (.bool x, y), Instr.loadAt t (.pointer (some ⟨b, o, none⟩)), v) :: l) K0) = TW κ S w0 H (watch PR l K0) := let ⟨_, _, h, hd⟩ := h.ti; B0H fun _ w hw => A0G h hd (by rw [D7 (hw.pt hm)]; exact hv)
@[simp] theorem C8V {κ : Bool} {S : List Nat} {w0 : World} {H : List Res} {K0 : WP} {s : Sem Value} {v : Value} {l : List Rd} : TW κ S w0 H (watch PR ((some (.bool false, true), s, v) :: l) K0) = TW κ S w0 H (watch PR l K0) := B0H fun h => by cases h
theorem C5B (w : World) (v : Value) (l : List EnV) (f n now : Int) (hks : L5 l) (hn : l.length ≤ 1000000) (hv : D2 w v l.length (l.flatMap E3)) :
  Fn PR B6 95 #[v, .int .i64 f, .int .i64 n, .int .i64 now] w (Rn [] w (fun r u => u = .tuple #[r, .int .i64 ((H5 l f n now).2.1 : Nat), .int .i64 ((H5 l f n now).2.2 : Nat)]) fun r => [N2 r (H5 l f n now).1]) := by
 refine B5P (TW.go (κ := false) (S := []) ?_)
 unfold A9k
 obtain ⟨a, c, rfl, _⟩ := hv.form
 have key : ∀ g : Nat, g = G4 l f → g ≤ 1000000 → True := fun _ _ _ => trivial
 have hmax : min (max n 0) (l.length : Int) = (T5 l n : Nat) := by unfold T5; omega
 have hfl : G4 l f ≤ 1000000 := by unfold G4; split <;> omega
 refine C4N (Hj := []) (.int .i64 (G4 l f : Nat)) ?_ ?_
 case refine_2 =>
  intro J hJ
  by_cases c1 : f < 0
  ·have e : G4 l f = 0 := by unfold G4; rw [if_pos (Or.inl c1)]
   rw [e] at hJ
   (have zz:=trivial;repeat((first|clear zz|with_reducible first|refine A3 ?_|refine A5 fun _=>?_|refine A4 fun _=>?_);try simp(disch:=first|omega|assumption|((repeat(first|exact A1|exact uH|apply A2|apply uT));first|done|fail)|(simp;first|done|omega|fail))[c1]))
   exact hJ
  by_cases c2 : (l.length : Int) ≤ f
  ·have e : G4 l f = 0 := by unfold G4; rw [if_pos (Or.inr c2)]
   rw [e] at hJ
   (have zz:=trivial;repeat((first|clear zz|with_reducible first|refine A3 ?_|refine A5 fun _=>?_|refine A4 fun _=>?_);try simp(disch:=first|omega|assumption|((repeat(first|exact A1|exact uH|apply A2|apply uT));first|done|fail)|(simp;first|done|omega|fail))[c1, c2]))
   exact hJ
  ·have e : ((G4 l f : Nat) : Int) = f := by unfold G4; rw [if_neg (by omega)]; omega
   rw [e] at hJ
   (have zz:=trivial;repeat((first|clear zz|with_reducible first|refine A3 ?_|refine A5 fun _=>?_|refine A4 fun _=>?_);try simp(disch:=first|omega|assumption|((repeat(first|exact A1|exact uH|apply A2|apply uT));first|done|fail)|(simp;first|done|omega|fail))[c1, c2]))
   exact hJ
 have hml : T5 l n ≤ l.length := by unfold T5; omega
 have hlt0 : 0 < l.length → G4 l f < l.length := by unfold G4; split <;> omega
 generalize hfv : G4 l f = fv at *
 generalize hmv : T5 l n = mv at *
 (have zz:=trivial;repeat((first|clear zz|with_reducible first|refine A3 ?_|refine A5 fun _=>?_|refine A4 fun _=>?_);try simp(disch:=first|omega|assumption|((repeat(first|exact A1|exact uH|apply A2|apply uT));first|done|fail)|(simp;first|done|omega|fail))[hmax]))
 rename_i bd
 rw [hmax]
 refine G7 A0E (fun w' hw' => C1g w' (.slice a l.length c) l.length (l.flatMap E3) hn (A4p l) (C1J l) (hv.ks hw'.ks (by simp))) ?_
 rintro _ r rfl
 refine A77 (e := 155) (k := 4) (v := r) (q := l.length) (xs := l.flatMap E3) (by (repeat constructor)) fun hr1 hr2 hr3 => ?_
 (have zz:=trivial;repeat((first|clear zz|with_reducible first|refine A3 ?_|refine A5 fun _=>?_|refine A4 fun _=>?_);try simp(disch:=first|omega|assumption|((repeat(first|exact A1|exact uH|apply A2|apply uT));first|done|fail)|(simp;first|done|omega|fail))[hr1]))
 rename_i bu bg
 refine G7 B12 (fun w' hw' => C1W w' fv mv l.length) ?_
 rintro x _ rfl
 have hpl : (P4 fv mv l.length).length = mv := by simp [P4]
 refine A6M (C0g x fv mv l.length hfl (by omega) hml hn) (by intro y hy; obtain ⟨p, _, rfl⟩ := List.mem_map.1 hy; rfl) (fun i (s : List EnV × Nat) => s = ((P4 fv mv l.length).take i).foldl (S0 now) (l, 0))
  (fun i s => [.pt bg (.cells #[.int .i64 (s.2 : Int)] 3), .pt bu (.cells #[r] 55), .own 155 4 r l.length (s.1.flatMap E3), .pt bd (.cells #[.func (.func 120) #[.int .i64 now] #[]] 244)])
  (fun c (y : Unit) => False) (fun y => []) (l, 0) (by simp) ?_ ?_ ?_ ?_ (by simp)
 ·intros; trivial
 ·rintro i hi s F hψ K' hK _
  have hi' : i < (P4 fv mv l.length).length := by simpa using hi
  have hst : ((P4 fv mv l.length).take (i + 1)).foldl (S0 now) (l, 0) = S0 now s (P4 fv mv l.length)[i] := by
   rw [List.take_add_one, List.getElem?_eq_getElem hi', Option.toList_some, List.foldl_append, ← hψ]; rfl
  have hsl : s.1.length = l.length := by rw [hψ, B0E]
  have hs2 : s.2 ≤ i := by
   have := B6K now ((P4 fv mv l.length).take i) (l, 0)
   rw [← hψ] at this; simp at this; omega
  have hj : (P4 fv mv l.length)[i] < l.length := by
   simp only [P4, List.getElem_map, List.getElem_range]
   exact Nat.mod_lt _ (by rw [hpl] at hi'; omega)
  simp only [List.getElem_map]
  generalize (P4 fv mv l.length)[i] = j at *
  have hx : s.1[j]? = some (s.1.getD j p7) := by
   rw [List.getD_eq_getElem?_getD, List.getElem?_eq_getElem (by omega)]; rfl
  have hrl := B4x (f := E3) (k := 4) (fun _ => rfl) hx
  rw [E3] at hrl
  simp only [S0] at hst
  generalize s.1.getD j p7 = y at *
  simp only [A97, VF.app]
  refine P8 (e := 155) (k := 4) (v := r) (q := l.length) (xs := s.1.flatMap E3) (by (repeat constructor)) (by omega) ?_
  rintro g gc rfl
  have hst' := fun s' (h : s' = _) => hK s' (h.trans hst.symm)
  (have zz:=trivial;repeat((first|clear zz|with_reducible first|refine A3 ?_|refine A5 fun _=>?_|refine A4 fun _=>?_);try simp(disch:=first|omega|assumption|((repeat(first|exact A1|exact uH|apply A2|apply uT));first|done|fail)|(simp;first|done|omega|fail))[hj, hrl]))
  refine D4 A9K (fun w' _ => C5E w' y now) ?_
  cases hd : A1j y now with
  | true =>
   simp only [hd, if_true] at hst'
   (have zz:=trivial;repeat((first|clear zz|with_reducible first|refine A3 ?_|refine A5 fun _=>?_|refine A4 fun _=>?_);try simp(disch:=first|omega|assumption|((repeat(first|exact A1|exact uH|apply A2|apply uT));first|done|fail)|(simp;first|done|omega|fail))[hj]))
   refine N0 (by (repeat constructor)) (by simp) (by rw [A4p]; omega) (by simp) ?_
   have e := A6E (f := E3) (k := 4) (fun _ => rfl) s.1 j V9 (by omega)
   have hk' := hst' _ rfl
   simp only [← e] at hk'
   (have zz:=trivial;repeat((first|clear zz|with_reducible first|refine A3 ?_|refine A5 fun _=>?_|refine A4 fun _=>?_);try simp(disch:=first|omega|assumption|((repeat(first|exact A1|exact uH|apply A2|apply uT));first|done|fail)|(simp;first|done|omega|fail))[]))
   exact TW.sub hk' (by ((try simp only [List.cons_append, List.nil_append, List.append_assoc]); (repeat (first | exact List.Sublist.refl _ | exact List.nil_sublist _ | with_reducible apply List.Sublist.cons_cons | apply List.Sublist.cons)); first | done | fail))
  | false =>
   simp only [hd, Bool.false_eq_true, if_false] at hst'
   (have zz:=trivial;repeat((first|clear zz|with_reducible first|refine A3 ?_|refine A5 fun _=>?_|refine A4 fun _=>?_);try simp(disch:=first|omega|assumption|((repeat(first|exact A1|exact uH|apply A2|apply uT));first|done|fail)|(simp;first|done|omega|fail))[]))
   exact hst' _ rfl
 ·intro s hψ
  simp only [List.length_map, List.take_length] at hψ
  have hs0 : s = Y4 l fv mv now := hψ
  have hsl : s.1.length = l.length := by rw [hψ, B0E]
  have hsk : L5 s.1 := by rw [hψ]; exact B3D _ _ _ hks
  have hs2 : s.2 ≤ 1000000 := by
   have := B6K now (P4 fv mv l.length) (l, 0)
   rw [← hψ, hpl] at this; simp at this; omega
  have hsv : H5 l f n now = (if 0 < s.2 then M5 s.1 else s.1, if 0 < l.length then (fv + mv) % l.length else fv, s.2) := by
   simp only [H5, hfv, hmv, ← hs0]
  have hcl : N3 s.1 2 ≤ s.1.length := List.countP_le_length
  rw [hsv]
  refine H7 (e := 155) (k := 4) (v := r) (q := l.length) (xs := s.1.flatMap E3) (by (repeat constructor)) ?_
  rintro ra rc rfl
  have e1 : 0 < l.length → ((fv : Int) + (mv : Nat)).tmod l.length = ((fv + mv) % l.length : Nat) := fun _ => by rw [Int.tmod_eq_emod_of_nonneg (by omega), Int.natCast_emod, Int.natCast_add]
  by_cases c1 : 0 < s.2
  ·have c1' : (0 : Int) < s.2 := by omega
   (have zz:=trivial;repeat((first|clear zz|with_reducible first|refine A3 ?_|refine A5 fun _=>?_|refine A4 fun _=>?_);try simp(disch:=first|omega|assumption|((repeat(first|exact A1|exact uH|apply A2|apply uT));first|done|fail)|(simp;first|done|omega|fail))[c1, c1']))
   refine D4 (u := .int .i64 (N3 s.1 2 : Nat)) A6D (fun w' hw' => B6E w' _ s.1 2 (by omega) (by rw [hsl]; exact H3.own (e := 155) (k := 4) (by (repeat constructor)) w' hw')) ?_
   by_cases c2 : s.1.length < 2 * N3 s.1 2
   ·have c2' : (l.length : Int) < 2 * (N3 s.1 2 : Nat) := by omega
    have e2 : M5 s.1 = Z7 s.1 := if_pos c2
    (have zz:=trivial;repeat((first|clear zz|with_reducible first|refine A3 ?_|refine A5 fun _=>?_|refine A4 fun _=>?_);try simp(disch:=first|omega|assumption|((repeat(first|exact A1|exact uH|apply A2|apply uT));first|done|fail)|(simp;first|done|omega|fail))[c1, c1', c2']))
    refine G7 B3V (fun w' hw' => C4z w' _ s.1 hsk (by omega) (by rw [hsl]; exact H3.own (e := 155) (k := 4) (by (repeat constructor)) w' hw')) ?_
    rintro _ r rfl
    refine A77 (e := 155) (k := 4) (v := r) (q := (Z7 s.1).length) (xs := (Z7 s.1).flatMap E3) (by (repeat constructor)) fun hq1 hq2 hq3 => ?_
    simp only [if_pos c1, e2]
    (have zz:=trivial;repeat((first|clear zz|with_reducible first|refine A3 ?_|refine A5 fun _=>?_|refine A4 fun _=>?_);try simp(disch:=first|omega|assumption|((repeat(first|exact A1|exact uH|apply A2|apply uT));first|done|fail)|(simp;first|done|omega|fail))[hq1]))
    refine B8j (fun c0 => ?_) (fun c0 => ?_)
    ·have hnz : ¬ (l.length : Int) = 0 := by omega
     simp only [if_pos c0]
     (have zz:=trivial;repeat((first|clear zz|with_reducible first|refine A3 ?_|refine A5 fun _=>?_|refine A4 fun _=>?_);try simp(disch:=first|omega|assumption|((repeat(first|exact A1|exact uH|apply A2|apply uT));first|done|fail)|(simp;first|done|omega|fail))[hnz, j6, e1 c0]))
     exact B0 r rfl (by (repeat' constructor))
    ·simp only [if_neg c0]
     clear c0
     (have zz:=trivial;repeat((first|clear zz|with_reducible first|refine A3 ?_|refine A5 fun _=>?_|refine A4 fun _=>?_);try simp(disch:=first|omega|assumption|((repeat(first|exact A1|exact uH|apply A2|apply uT));first|done|fail)|(simp;first|done|omega|fail))[]))
     exact B0 r rfl (by (repeat' constructor))
   ·have c2' : ¬ (l.length : Int) < 2 * (N3 s.1 2 : Nat) := by omega
    have e2 : M5 s.1 = s.1 := if_neg c2
    simp only [if_pos c1, e2]
    (have zz:=trivial;repeat((first|clear zz|with_reducible first|refine A3 ?_|refine A5 fun _=>?_|refine A4 fun _=>?_);try simp(disch:=first|omega|assumption|((repeat(first|exact A1|exact uH|apply A2|apply uT));first|done|fail)|(simp;first|done|omega|fail))[c1, c1', c2']))
    refine B8j (fun c0 => ?_) (fun c0 => ?_)
    ·have hnz : ¬ (l.length : Int) = 0 := by omega
     simp only [if_pos c0]
     (have zz:=trivial;repeat((first|clear zz|with_reducible first|refine A3 ?_|refine A5 fun _=>?_|refine A4 fun _=>?_);try simp(disch:=first|omega|assumption|((repeat(first|exact A1|exact uH|apply A2|apply uT));first|done|fail)|(simp;first|done|omega|fail))[hnz, j6, e1 c0]))
     exact B0 (.slice ra l.length rc) rfl (by simp only [N2, hsl]; (repeat' constructor))
    ·simp only [if_neg c0]
     (have zz:=trivial;repeat((first|clear zz|with_reducible first|refine A3 ?_|refine A5 fun _=>?_|refine A4 fun _=>?_);try simp(disch:=first|omega|assumption|((repeat(first|exact A1|exact uH|apply A2|apply uT));first|done|fail)|(simp;first|done|omega|fail))[]))
     exact B0 (.slice ra l.length rc) rfl (by simp only [N2, hsl]; (repeat' constructor))
  ·have c1' : ¬ (0 : Int) < s.2 := by omega
   simp only [if_neg c1]
   have hd0 : decide ((0 : Int) < s.2) = false := decide_eq_false c1'
   (have zz:=trivial;repeat((first|clear zz|with_reducible first|refine A3 ?_|refine A5 fun _=>?_|refine A4 fun _=>?_);try simp(disch:=first|omega|assumption|((repeat(first|exact A1|exact uH|apply A2|apply uT));first|done|fail)|(simp;first|done|omega|fail))[c1, c1']))
   refine B8j (fun c0 => ?_) (fun c0 => ?_)
   ·have hnz : ¬ (l.length : Int) = 0 := by omega
    simp only [if_pos c0]
    (have zz:=trivial;repeat((first|clear zz|with_reducible first|refine A3 ?_|refine A5 fun _=>?_|refine A4 fun _=>?_);try simp(disch:=first|omega|assumption|((repeat(first|exact A1|exact uH|apply A2|apply uT));first|done|fail)|(simp;first|done|omega|fail))[hnz, j6, e1 c0]))
    exact B0 (.slice ra l.length rc) rfl (by simp only [N2, hsl]; (repeat' constructor))
   ·simp only [if_neg c0]
    (have zz:=trivial;repeat((first|clear zz|with_reducible first|refine A3 ?_|refine A5 fun _=>?_|refine A4 fun _=>?_);try simp(disch:=first|omega|assumption|((repeat(first|exact A1|exact uH|apply A2|apply uT));first|done|fail)|(simp;first|done|omega|fail))[]))
    exact B0 (.slice ra l.length rc) rfl (by simp only [N2, hsl]; (repeat' constructor))
 ·rintro _ _ h; exact h.elim
end Go.Proofs.YtpnidmkaobfhiaaGreat
namespace Go.Proofs.YtpnidmkaobfhiaaGreat
open Go
def u4 (key : ByteArray) (n : Int) : Nat := if n < 1 then 0 else A44 key / 4294967296 % n.toNat
def atE (l : List EnV) (key : ByteArray) : EnV := l.getD (F3 l key).toNat p7
def A38 (l : List EnV) (p : List G8) (key : ByteArray) (now : Int) : Int × Bool :=
 if F3 l key < 0 ∨ (atE l key).dl < now ∨ A2p p (atE l key).bk < 0 then (0, false) else ((atE l key).bk, true)
theorem A2g (w : World) (n lo hi e : Int) (b : Nat) (hw : LW false [b] w [.pt b (.cells #[.int .i64 e] 31)] w) :
  Fn PR B6 73 #[.int .i64 n, .int .i64 lo, .int .i64 hi, .pointer (some ⟨b, 0, none⟩)] w (Rn [b] w (fun (_ : Unit) u => u = .tuple #[]) fun _ => [.pt b (.cells #[.int .i64 (if e8 n lo hi then e else 1)] 31)]) := by
 refine B1V (TW.goH (κ := false) (S := [b]) ?_ hw)
 unfold A4U
 by_cases c1 : n < lo
 ·have hf : e8 n lo hi = false := by simp [e8]; omega
  (have zz:=trivial;repeat((first|clear zz|with_reducible first|refine A3 ?_|refine A5 fun _=>?_|refine A4 fun _=>?_);try simp(disch:=first|omega|assumption|((repeat(first|exact A1|exact uH|apply A2|apply uT));first|done|fail)|(simp;first|done|omega|fail))[c1]))
  exact B0 () rfl (by simp only [hf]; (repeat' constructor))
 by_cases c2 : hi < n
 ·have hf : e8 n lo hi = false := by simp [e8]; omega
  (have zz:=trivial;repeat((first|clear zz|with_reducible first|refine A3 ?_|refine A5 fun _=>?_|refine A4 fun _=>?_);try simp(disch:=first|omega|assumption|((repeat(first|exact A1|exact uH|apply A2|apply uT));first|done|fail)|(simp;first|done|omega|fail))[c1, c2]))
  exact B0 () rfl (by simp only [hf]; (repeat' constructor))
 ·have hf : e8 n lo hi = true := by simp [e8]; omega
  (have zz:=trivial;repeat((first|clear zz|with_reducible first|refine A3 ?_|refine A5 fun _=>?_|refine A4 fun _=>?_);try simp(disch:=first|omega|assumption|((repeat(first|exact A1|exact uH|apply A2|apply uT));first|done|fail)|(simp;first|done|omega|fail))[c1, c2]))
  exact B0 () rfl (by simp only [hf]; (repeat' constructor))
theorem B9s (w : World) (c : CfgV) : Fn PR B6 31 #[c.val] w (fun v w' => v = .int .i64 (if S4 c then 0 else 1) ∧ D6 [] w w') := by
 refine Fn.pure (B3U (TW.go (κ := false) (S := []) ?_))
 unfold A71
 simp only [CfgV.val]
 (have zz:=trivial;repeat((first|clear zz|with_reducible first|refine A3 ?_|refine A5 fun _=>?_|refine A4 fun _=>?_);try simp(disch:=first|omega|assumption|((repeat(first|exact A1|exact uH|apply A2|apply uT));first|done|fail)|(simp;first|done|omega|fail))[]))
 rename_i bc be
 refine C0 (Hc := [.pt be (.cells #[.int .i64 0] 31)]) Y3 (fun w' hw hs => A2g w' c.wk 1 64 0 be hs) (by (repeat' constructor)) ?_
 rintro _ _ rfl
 generalize he1 : (if e8 c.wk 1 64 = true then (0 : Int) else 1) = e1
 (have zz:=trivial;repeat((first|clear zz|with_reducible first|refine A3 ?_|refine A5 fun _=>?_|refine A4 fun _=>?_);try simp(disch:=first|omega|assumption|((repeat(first|exact A1|exact uH|apply A2|apply uT));first|done|fail)|(simp;first|done|omega|fail))[]))
 refine C0 (Hc := [.pt be (.cells #[.int .i64 e1] 31)]) Y3 (fun w' hw hs => A2g w' c.sh 1 16 e1 be hs) (by (repeat' constructor)) ?_
 rintro _ _ rfl
 generalize he2 : (if e8 c.sh 1 16 = true then e1 else 1) = e2
 (have zz:=trivial;repeat((first|clear zz|with_reducible first|refine A3 ?_|refine A5 fun _=>?_|refine A4 fun _=>?_);try simp(disch:=first|omega|assumption|((repeat(first|exact A1|exact uH|apply A2|apply uT));first|done|fail)|(simp;first|done|omega|fail))[]))
 refine C0 (Hc := [.pt be (.cells #[.int .i64 e2] 31)]) Y3 (fun w' hw hs => A2g w' c.cp 1 64 e2 be hs) (by (repeat' constructor)) ?_
 rintro _ _ rfl
 generalize he3 : (if e8 c.cp 1 64 = true then e2 else 1) = e3
 (have zz:=trivial;repeat((first|clear zz|with_reducible first|refine A3 ?_|refine A5 fun _=>?_|refine A4 fun _=>?_);try simp(disch:=first|omega|assumption|((repeat(first|exact A1|exact uH|apply A2|apply uT));first|done|fail)|(simp;first|done|omega|fail))[]))
 refine C0 (Hc := [.pt be (.cells #[.int .i64 e3] 31)]) Y3 (fun w' hw hs => A2g w' c.idle 0 1000000 e3 be hs) (by (repeat' constructor)) ?_
 rintro _ _ rfl
 generalize he4 : (if e8 c.idle 0 1000000 = true then e3 else 1) = e4
 (have zz:=trivial;repeat((first|clear zz|with_reducible first|refine A3 ?_|refine A5 fun _=>?_|refine A4 fun _=>?_);try simp(disch:=first|omega|assumption|((repeat(first|exact A1|exact uH|apply A2|apply uT));first|done|fail)|(simp;first|done|omega|fail))[]))
 refine C0 (Hc := [.pt be (.cells #[.int .i64 e4] 31)]) Y3 (fun w' hw hs => A2g w' c.sl 2 8 e4 be hs) (by (repeat' constructor)) ?_
 rintro _ _ rfl
 generalize he5 : (if e8 c.sl 2 8 = true then e4 else 1) = e5
 (have zz:=trivial;repeat((first|clear zz|with_reducible first|refine A3 ?_|refine A5 fun _=>?_|refine A4 fun _=>?_);try simp(disch:=first|omega|assumption|((repeat(first|exact A1|exact uH|apply A2|apply uT));first|done|fail)|(simp;first|done|omega|fail))[]))
 refine B4 ?_
 have : e5 = if S4 c then 0 else 1 := by
  rw [← he5, ← he4, ← he3, ← he2, ← he1]
  unfold S4
  cases e8 c.wk 1 64 <;> cases e8 c.sh 1 16 <;> cases e8 c.cp 1 64 <;> cases e8 c.idle 0 1000000 <;> cases e8 c.sl 2 8 <;> rfl
 rw [this]
def B9W (l : List EnV) (p : List G8) (key : ByteArray) (now : Int) : Int := if (A38 l p key now).2 then (A38 l p key now).1 else C7y p (A44 key)
def C2U (l : List EnV) (p : List G8) (key : ByteArray) (now idle : Int) : EnV := ⟨1, key, B9W l p key now, IntKind.i64.wrap (now + idle)⟩
def A2M (l : List EnV) (p : List G8) (key : ByteArray) (closing : Bool) (now idle : Int) : List EnV × AnsV × Bool :=
 if (A38 l p key now).2 = false ∧ p = [] then (l, ⟨11, 0, false, 0⟩, false)
 else if closing then (C6e l key, ⟨0, B9W l p key now, false, 0⟩, (B51 l key).isSome)
 else match M7 l (C2U l p key now idle) with
  | none => (l, ⟨12, 0, false, 0⟩, false)
  | some u => (u, ⟨0, B9W l p key now, !(A38 l p key now).2, 0⟩, true)
section
variable {κ : Bool} {S : List Nat} {w0 : World} {H Hj : List Res} {K : Value → WP}
end
end Go.Proofs.YtpnidmkaobfhiaaGreat
namespace Go.Proofs.YtpnidmkaobfhiaaGreat
open Go
def upW (j : Nat) (x : EnV) (p : Nat × EnV) : Nat × EnV := if p.1 = j then (j, x) else p
theorem C2d (key : ByteArray) : ∀ L, -1 ≤ L8 key L := by
 intro L
 induction L with
 | nil => simp [L8]
 | cons p L ih => (simp only [L8]; repeat' split) <;> first | omega | exact ih
theorem C3P (l : List EnV) (key : ByteArray) : -1 ≤ F3 l key := C2d _ _
theorem B8Q {key : ByteArray} {j : Nat} {x : EnV} (h1 : x.st = 1) (hk : x.key = key) : ∀ L, L8 key L = j → L8 key (L.map (upW j x)) = j := by
 intro L
 induction L with
 | nil => intro h; simp [L8] at h <;> omega
 | cons p L ih =>
  intro h
  rw [List.map_cons]
  by_cases c : p.1 = j
  ·simp [L8, upW, c, h1, hk]
  ·have hu : upW j x p = p := if_neg c
   simp only [L8] at h ⊢
   rw [hu]
   split at h
   ·omega
   ·split at h
    ·omega
    ·rename_i c0 c1
     rw [if_neg c0, if_neg c1]; exact ih h
theorem B82 {key : ByteArray} {j : Nat} {x : EnV} (h1 : x.st = 1) (hk : x.key = key) : ∀ L, L8 key L < 0 → Q0 L = j → L8 key (L.map (upW j x)) = j := by
 intro L
 induction L with
 | nil => intro _ h; simp [Q0] at h <;> omega
 | cons p L ih =>
  intro hf h
  rw [List.map_cons]
  by_cases c : p.1 = j
  ·simp [L8, upW, c, h1, hk]
  ·have hu : upW j x p = p := if_neg c
   simp only [L8, Q0] at h hf ⊢
   rw [hu]
   by_cases c1 : p.2.st = 1
   ·rw [if_pos c1] at h
    rw [if_neg (by omega)] at hf ⊢
    by_cases c2 : p.2.st = 1 ∧ p.2.key = key
    ·rw [if_pos c2] at hf; omega
    ·rw [if_neg c2] at hf ⊢; exact ih hf h
   ·rw [if_neg c1] at h; omega
theorem B1w (l : List EnV) (key : ByteArray) (j : Nat) (x : EnV) (hj : j < l.length) : P3 (l.set j x) key = (P3 l key).map (upW j x) := by
 unfold P3
 rw [List.length_set, List.map_map]
 refine List.map_congr_left fun i hi => ?_
 have hi' : i < l.length := List.mem_range.1 hi
 have hm : (G9 key l.length + i) % l.length < l.length := Nat.mod_lt _ (by omega)
 simp only [Function.comp_apply, upW]
 generalize (G9 key l.length + i) % l.length = q at *
 by_cases c : q = j
 ·subst c; simp [List.getD_eq_getElem?_getD, hm]
 ·rw [if_neg c]; simp [List.getD_eq_getElem?_getD, List.getElem?_set_ne (Ne.symm c)]
theorem C1C {key : ByteArray} {j : Nat} : ∀ L, L8 key L = j → ∃ x, (j, x) ∈ L ∧ x.st = 1 ∧ x.key = key := by
 intro L
 induction L with
 | nil => intro h; simp [L8] at h <;> omega
 | cons p L ih =>
  intro h
  simp only [L8] at h
  split at h
  ·omega
  ·split at h
   ·rename_i c
    have : p.1 = j := by omega
    exact ⟨p.2, by rw [← this]; simp, c⟩
   ·obtain ⟨x, h1, h2⟩ := ih h
    exact ⟨x, List.mem_cons_of_mem _ h1, h2⟩
theorem B2K {l : List EnV} {key : ByteArray} {p : Nat × EnV} (h : p ∈ P3 l key) : l[p.1]? = some p.2 := by
 unfold P3 at h
 obtain ⟨i, hi, rfl⟩ := List.mem_map.1 h
 have hi' : i < l.length := List.mem_range.1 hi
 exact getD_some p7 (Nat.mod_lt _ (by omega))
theorem B5n {l : List EnV} {key : ByteArray} {j : Nat} (h : F3 l key = j) : ∃ x, l[j]? = some x ∧ x.st = 1 ∧ x.key = key := by
 obtain ⟨x, h1, h2⟩ := C1C _ h
 exact ⟨x, B2K h1, h2⟩
theorem B0n {l u : List EnV} {x : EnV} (h : M7 l x = some u) (h1 : x.st = 1) : ∃ j, j < l.length ∧ u = l.set j x ∧ F3 u x.key = (j : Nat) ∧ (F3 l x.key = (j : Nat) ∨ F3 l x.key < 0 ∧ Q0 (P3 l x.key) = (j : Nat)) := by
 unfold M7 at h
 simp only at h
 by_cases c : F3 l x.key < 0
 ·rw [if_pos c] at h
  by_cases c2 : U4 l x.key < 0
  ·rw [if_pos c2] at h; cases h
  ·rw [if_neg c2] at h
   injection h with h
   have hr : U4 l x.key = Q0 (P3 l x.key) := if_neg (by omega)
   have hlt := B2Q (l := l) (key := x.key) (by omega)
   refine ⟨_, hlt, h.symm, ?_, Or.inr ⟨c, by omega⟩⟩
   subst h
   unfold F3
   rw [B1w _ _ _ _ hlt]
   exact B82 h1 rfl _ c (by omega)
 ·rw [if_neg c, if_neg c] at h
  injection h with h
  have hlt := A8j (l := l) (key := x.key) (by omega)
  refine ⟨_, hlt, h.symm, ?_, Or.inl (by omega)⟩
  subst h
  unfold F3 at *
  rw [B1w _ _ _ _ hlt]
  exact B8Q h1 rfl _ (by omega)
theorem B1x {l u : List EnV} {x : EnV} (h : M7 l x = some u) : ∃ j, j < l.length ∧ u = l.set j x := by
 unfold M7 at h
 simp only at h
 by_cases c : F3 l x.key < 0
 ·rw [if_pos c] at h
  by_cases c2 : U4 l x.key < 0
  ·rw [if_pos c2] at h; cases h
  ·rw [if_neg c2] at h
   injection h with h
   exact ⟨_, B2Q (by omega), h.symm⟩
 ·rw [if_neg c, if_neg c] at h
  injection h with h
  exact ⟨_, A8j (by omega), h.symm⟩
theorem C1S {l : List EnV} {i : Nat} {p : Nat × EnV} : p ∈ d8 i l ↔ i ≤ p.1 ∧ l[p.1 - i]? = some p.2 ∧ p.2.st = 1 := by
 induction l generalizing i with
 | nil => simp [d8]
 | cons x l ih =>
  have hs : i + 1 ≤ p.1 → (x :: l)[p.1 - i]? = l[p.1 - (i + 1)]? := fun h => by
   rw [show p.1 - i = (p.1 - (i + 1)) + 1 by omega, List.getElem?_cons_succ]
  have h0 : ∀ h : i ≤ p.1, ¬ i + 1 ≤ p.1 → p.1 = i := fun _ _ => by omega
  unfold d8
  split
  ·rename_i c
   rw [List.mem_cons, ih]
   constructor
   ·rintro (rfl | ⟨a, b, d⟩)
    ·simp [c]
    ·exact ⟨by omega, by rw [hs a]; exact b, d⟩
   ·rintro ⟨a, b, d⟩
    by_cases e : i + 1 ≤ p.1
    ·exact Or.inr ⟨e, by rw [← hs e]; exact b, d⟩
    ·have := h0 a e
     left
     rw [this] at b
     simp at b
     obtain ⟨q, y⟩ := p
     simp_all
  ·rename_i c
   rw [ih]
   constructor
   ·rintro ⟨a, b, d⟩
    exact ⟨by omega, by rw [hs a]; exact b, d⟩
   ·rintro ⟨a, b, d⟩
    by_cases e : i + 1 ≤ p.1
    ·exact ⟨e, by rw [← hs e]; exact b, d⟩
    ·have := h0 a e
     rw [this] at b
     simp at b
     rw [b] at c
     exact absurd d c
theorem A4F {l : List EnV} {p : Nat × EnV} : p ∈ Q1 l ↔ l[p.1]? = some p.2 ∧ p.2.st = 1 := by
 unfold Q1; rw [C1S]; simp
theorem A4k {l : List EnV} : W3 l = true ↔ ∀ (i : Nat) (x : EnV), l[i]? = some x → x.st = 1 → F3 l x.key = (i : Nat) := by
 unfold W3
 rw [List.all_eq_true]
 constructor
 ·intro h i x hx h1
  simpa using h (i, x) (A4F.2 ⟨hx, h1⟩)
 ·intro h p hp
  obtain ⟨h1, h2⟩ := A4F.1 hp
  simpa using h p.1 p.2 h1 h2
def V8 (l : List EnV) (key : ByteArray) : Prop := ∀ (i : Nat) (x : EnV), l[i]? = some x → x.st = 1 → x.key ≠ key
theorem V8.find {l : List EnV} {key : ByteArray} (h : V8 l key) : F3 l key < 0 := by
 have hg := C3P l key
 by_cases c : F3 l key < 0
 ·exact c
 ·obtain ⟨x, h1, h2, h3⟩ := B5n (l := l) (key := key) (j := (F3 l key).toNat) (by omega)
  exact absurd h3 (h _ _ h1 h2)
theorem getElem?_set_some {α : Type} {l : List α} {i j : Nat} {x y : α} (h : (l.set j x)[i]? = some y) : (i = j ∧ y = x) ∨ (i ≠ j ∧ l[i]? = some y) := by
 by_cases c : i = j
 ·subst c
  rw [List.getElem?_set_self'] at h
  cases hl : l[i]? with
  | none => rw [hl] at h; cases h
  | some z => rw [hl] at h; left; exact ⟨rfl, by simpa using h.symm⟩
 ·rw [List.getElem?_set_ne (Ne.symm c)] at h
  exact Or.inr ⟨c, h⟩
theorem V8.set {l : List EnV} {key : ByteArray} {j : Nat} {x : EnV} (h : V8 l key) (hx : x.st = 1 → x.key ≠ key) : V8 (l.set j x) key := fun i y hy h1 => by
 rcases getElem?_set_some hy with ⟨_, rfl⟩ | ⟨_, h2⟩
 ·exact hx h1
 ·exact h i y h2 h1
theorem V8.put {l : List EnV} {key : ByteArray} {x : EnV} (h : V8 l key) (hx : x.st = 1 → x.key ≠ key) : V8 (V7 l x) key := by
 unfold V7
 cases hp : M7 l x with
 | none => exact h
 | some u => obtain ⟨j, _, rfl⟩ := B1x hp; exact h.set hx
theorem V8.newE (n : Nat) (key : ByteArray) : V8 (newE n) key := fun i x hx h1 => by
 unfold Go.Proofs.YtpnidmkaobfhiaaGreat.newE at hx
 obtain ⟨_, h2⟩ := List.getElem?_eq_some_iff.1 hx
 rw [List.getElem_replicate] at h2
 rw [← h2] at h1; simp [p7] at h1
theorem V8.tidy {l : List EnV} {key : ByteArray} (h : V8 l key) : V8 (Z7 l) key := by
 unfold Z7
 have : ∀ (L : List (Nat × EnV)) (a : List EnV), (∀ p ∈ L, p.2.st = 1 → p.2.key ≠ key) → V8 a key → V8 (L.foldl (fun acc p => V7 acc p.2) a) key := by
  intro L
  induction L with
  | nil => intro a _ h; exact h
  | cons p L ih => intro a hL ha; rw [List.foldl_cons]; exact ih _ (fun q hq => hL q (List.mem_cons_of_mem _ hq)) (ha.put (hL p (List.mem_cons_self ..)))
 exact this _ _ (fun p hp h1 => h p.1 p.2 (A4F.1 hp).1 h1) (.newE _ _)
theorem V8.settle {l : List EnV} {key : ByteArray} (h : V8 l key) : V8 (M5 l) key := by
 unfold M5; split
 ·exact h.tidy
 ·exact h
end Go.Proofs.YtpnidmkaobfhiaaGreat
namespace Go.Proofs.YtpnidmkaobfhiaaGreat
open Go
theorem B8d {key : ByteArray} {i j : Nat} {x : EnV} (h0 : x.st ≠ 0) (h1 : ¬ (x.st = 1 ∧ x.key = key)) (hij : i ≠ j) : ∀ L, L8 key L = i → L8 key (L.map (upW j x)) = i := by
 intro L
 induction L with
 | nil => intro h; simp [L8] at h <;> omega
 | cons p L ih =>
  intro h
  rw [List.map_cons]
  simp only [L8] at h
  split at h
  ·omega
  ·rename_i c0
   split at h
   ·rename_i c1
    have : p.1 ≠ j := by omega
    rw [upW, if_neg this]
    simp only [L8]
    rw [if_neg c0, if_pos c1]; exact h
   ·rename_i c1
    by_cases c : p.1 = j
    ·rw [upW, if_pos c]
     simp only [L8]
     rw [if_neg h0, if_neg h1]; exact ih h
    ·rw [upW, if_neg c]
     simp only [L8]
     rw [if_neg c0, if_neg c1]; exact ih h
theorem B2p {l : List EnV} {key : ByteArray} {i j : Nat} {x : EnV} (hj : j < l.length) (h0 : x.st ≠ 0) (h1 : ¬ (x.st = 1 ∧ x.key = key)) (hij : i ≠ j) (h : F3 l key = i) : F3 (l.set j x) key = i := by
 unfold F3 at *
 rw [B1w _ _ _ _ hj]
 exact B8d h0 h1 hij _ h
theorem B9a {l : List EnV} {j : Nat} (hj : j < l.length) (h : W3 l = true) : W3 (l.set j V9) = true := by
 rw [A4k] at h ⊢
 intro i y hy h1
 rcases getElem?_set_some hy with ⟨_, rfl⟩ | ⟨h2, h3⟩
 ·simp [V9] at h1
 ·exact B2p hj (by simp [V9]) (by simp [V9]) h2 (h i y h3 h1)
theorem B4y {l u : List EnV} {x : EnV} (h1 : x.st = 1) (hp : M7 l x = some u) (h : W3 l = true) : W3 u = true := by
 rw [A4k] at h ⊢
 obtain ⟨j, hj, rfl, hf, hc⟩ := B0n hp h1
 intro i y hy hy1
 rcases getElem?_set_some hy with ⟨rfl, rfl⟩ | ⟨h2, h3⟩
 ·exact hf
 ·have hi := h i y h3 hy1
  have hk : x.key ≠ y.key := fun e => by rw [← e] at hi; omega
  exact B2p hj (by omega) (fun e => hk e.2) h2 hi
theorem B4k (n : Nat) : W3 (newE n) = true := by
 rw [A4k]
 intro i x hx h1
 unfold newE at hx
 obtain ⟨_, h2⟩ := List.getElem?_eq_some_iff.1 hx
 rw [List.getElem_replicate] at h2
 rw [← h2] at h1; simp [p7] at h1
theorem B8S {a : List EnV} {x : EnV} (h1 : x.st = 1) (h : W3 a = true) : W3 (V7 a x) = true := by
 unfold V7
 cases hp : M7 a x with
 | none => exact h
 | some u => exact B4y h1 hp h
theorem B8c (l : List EnV) : W3 (Z7 l) = true := by
 unfold Z7
 have : ∀ (L : List (Nat × EnV)) (a : List EnV), (∀ p ∈ L, p.2.st = 1) → W3 a = true → W3 (L.foldl (fun acc p => V7 acc p.2) a) = true := by
  intro L
  induction L with
  | nil => intro a _ h; exact h
  | cons p L ih => intro a hL ha; rw [List.foldl_cons]; exact ih _ (fun q hq => hL q (List.mem_cons_of_mem _ hq)) (B8S (hL p (List.mem_cons_self ..)) ha)
 exact this _ _ (fun p hp => (A4F.1 hp).2) (B4k _)
theorem B6l {l : List EnV} (h : W3 l = true) : W3 (M5 l) = true := by
 unfold M5; split
 ·exact B8c _
 ·exact h
def A31 (x : EnV) : Bool := decide (x.st = 1)
def D1 (l : List EnV) : List EnV := l.filter A31
def A9D (x : EnV) : List EnV := if x.st = 1 then [x] else []
theorem A3r {l : List EnV} {j : Nat} {y x : EnV} (hy : l[j]? = some y) : (A9D y ++ D1 (l.set j x)).Perm (A9D x ++ D1 l) := by
 obtain ⟨hj, e⟩ := List.getElem?_eq_some_iff.1 hy
 have h1 : l = l.take j ++ y :: l.drop (j + 1) := by rw [← e]; simp
 have h2 : l.set j x = l.take j ++ x :: l.drop (j + 1) := List.set_eq_take_append_cons_drop .. |>.trans (by rw [if_pos hj])
 have f1 : ∀ z : EnV, D1 (l.take j ++ z :: l.drop (j + 1)) = D1 (l.take j) ++ (A9D z ++ D1 (l.drop (j + 1))) := fun z => by
  unfold D1; rw [List.filter_append, List.filter_cons]
  simp only [A9D, A31, decide_eq_true_eq]
  split <;> simp
 have h3 : D1 l = D1 (l.take j) ++ (A9D y ++ D1 (l.drop (j + 1))) := by rw [← f1, ← h1]
 rw [h2, f1, h3]
 generalize D1 (l.take j) = A
 generalize D1 (l.drop (j + 1)) = B
 have p1 : ∀ (u v : List EnV), (u ++ (A ++ (v ++ B))).Perm (A ++ (u ++ (v ++ B))) := fun u v => by
  rw [← List.append_assoc, ← List.append_assoc A u]
  exact List.perm_append_comm.append_right _
 refine (p1 _ _).trans (((p1 _ _).trans ?_).symm)
 refine List.Perm.append_left _ ?_
 rw [← List.append_assoc, ← List.append_assoc]
 exact List.perm_append_comm.append_right _
theorem B6u (l : List EnV) (i : Nat) : (d8 i l).map (·.2) = D1 l := by
 induction l generalizing i with
 | nil => rfl
 | cons x l ih =>
  unfold d8 D1
  rw [List.filter_cons]
  simp only [A31, decide_eq_true_eq]
  split
  ·rw [List.map_cons, ih]; rfl
  ·rw [ih]; rfl
theorem B3M {l : List EnV} (h : W3 l = true) : ((D1 l).map (·.key)).Nodup := by
 rw [A4k] at h
 have h2 : ∀ (i : Nat) (m : List EnV), (∀ (k : Nat) (x : EnV), m[k]? = some x → x.st = 1 → F3 l x.key = (i + k : Nat)) → ((D1 m).map (·.key)).Nodup := by
  intro i m
  induction m generalizing i with
  | nil => intro _; simp [D1]
  | cons x m ih =>
   intro hm
   have ih' := ih (i + 1) fun k y hy h1 => by
    have := hm (k + 1) y (by simpa using hy) h1
    rw [this]; congr 1; omega
   unfold D1 at *
   rw [List.filter_cons]
   simp only [A31, decide_eq_true_eq] at *
   split
   ·rename_i c
    rw [List.map_cons, List.nodup_cons]
    refine ⟨fun hx => ?_, ih'⟩
    obtain ⟨y, hy, e⟩ := List.mem_map.1 hx
    obtain ⟨hy1, hy2⟩ := List.mem_filter.1 hy
    obtain ⟨k, hk, e2⟩ := List.getElem_of_mem hy1
    have a := hm 0 x (by simp) c
    have b := hm (k + 1) y (by simp [hk, e2]) (by simpa [A31] using hy2)
    rw [e, a] at b
    omega
   ·exact ih'
 exact h2 0 l fun k x hx h1 => by rw [h k x hx h1]; simp
theorem B5B {l : List EnV} {key : ByteArray} : V8 l key ↔ ∀ x ∈ D1 l, x.key ≠ key := by
 unfold V8 D1 A31
 constructor
 ·intro h x hx
  obtain ⟨h1, h2⟩ := List.mem_filter.1 hx
  obtain ⟨i, hi, e⟩ := List.getElem_of_mem h1
  exact h i x (by simp [hi, e]) (by simpa using h2)
 ·intro h i x hx h1
  exact h x (List.mem_filter.2 ⟨List.mem_of_getElem? hx, by simpa using h1⟩)
theorem C1k : ∀ L, Q0 L < 0 → ∀ p ∈ L, p.2.st = 1 := by
 intro L
 induction L with
 | nil => intro _ p hp; cases hp
 | cons q L ih =>
  intro h p hp
  simp only [Q0] at h
  split at h
  ·rename_i c
   rcases List.mem_cons.1 hp with rfl | hp
   ·exact c
   ·exact ih h p hp
  ·omega
theorem C5P {l : List EnV} (key : ByteArray) {q : Nat} {y : EnV} (hy : l[q]? = some y) : (q, y) ∈ P3 l key := by
 obtain ⟨hq, e⟩ := List.getElem?_eq_some_iff.1 hy
 unfold P3
 have hl : 0 < l.length := by omega
 have hm : G9 key l.length < l.length := Nat.mod_lt _ hl
 refine List.mem_map.2 ⟨(q + l.length - G9 key l.length) % l.length, List.mem_range.2 (Nat.mod_lt _ hl), ?_⟩
 have : (G9 key l.length + (q + l.length - G9 key l.length) % l.length) % l.length = q := by
  rw [Nat.add_mod, Nat.mod_mod, ← Nat.add_mod, show G9 key l.length + (q + l.length - G9 key l.length) = q + l.length by omega, Nat.add_mod_right, Nat.mod_eq_of_lt hq]
 rw [this]
 simp [List.getD_eq_getElem?_getD, hq, e]
theorem C22 {a : List EnV} {x : EnV} (h1 : x.st = 1) (hn : V8 a x.key) (hl : (D1 a).length < a.length) : ∃ u, M7 a x = some u ∧ (D1 u).Perm (x :: D1 a) := by
 cases hp : M7 a x with
 | none =>
  exfalso
  unfold M7 at hp
  simp only at hp
  rw [if_pos hn.find] at hp
  have hr : U4 a x.key = Q0 (P3 a x.key) := if_neg (by have := hn.find; omega)
  by_cases c : U4 a x.key < 0
  ·have h2 := C1k _ (hr ▸ c)
   have h3 : D1 a = a := List.filter_eq_self.2 fun y hy => by
    obtain ⟨q, hq, e⟩ := List.getElem_of_mem hy
    have := h2 (q, y) (C5P _ (by simp [hq, e]))
    simpa [A31] using this
   rw [h3] at hl; omega
  ·rw [if_neg c] at hp; cases hp
 | some u =>
  obtain ⟨j, hj, rfl, hf, hc⟩ := B0n hp h1
  refine ⟨_, rfl, ?_⟩
  have hj1 : a[j]? = some a[j] := List.getElem?_eq_getElem hj
  have hs := A3r (x := x) hj1
  have hnl : a[j].st ≠ 1 := fun c => by
   rcases hc with hc | ⟨_, hc⟩
   ·have := hn.find; omega
   ·have hm : ∀ L, Q0 L = (j : Nat) → ∃ y, (j, y) ∈ L ∧ y.st ≠ 1 := by
     intro L
     induction L with
     | nil => intro h; simp [Q0] at h <;> omega
     | cons p L ih =>
      intro h
      simp only [Q0] at h
      split at h
      ·obtain ⟨y, h1, h2⟩ := ih h; exact ⟨y, List.mem_cons_of_mem _ h1, h2⟩
      ·rename_i c2
       have : p.1 = j := by omega
       exact ⟨p.2, by rw [← this]; simp, c2⟩
    obtain ⟨y, h2, h3⟩ := hm _ hc
    have h4 := B2K h2
    rw [hj1] at h4
    injection h4 with h4
    exact h3 (by rw [h4] at c; exact c)
  unfold A9D at hs
  rw [if_neg hnl, if_pos h1] at hs
  simpa using hs
theorem A3u (n : Nat) : D1 (newE n) = [] := by
 unfold D1 newE
 rw [List.filter_eq_nil_iff]
 intro x hx
 rw [(List.mem_replicate.1 hx).2]; simp [A31, p7]
theorem B6B {l : List EnV} (h : W3 l = true) (hl : l.length ≤ 64) : (D1 (Z7 l)).Perm (D1 l) := by
 have hmain : ∀ (L : List (Nat × EnV)) (a : List EnV), (∀ p ∈ L, p.2.st = 1) → ((D1 a ++ L.map (·.2)).map (·.key)).Nodup → (D1 a).length + L.length ≤ a.length →
   (D1 (L.foldl (fun acc p => V7 acc p.2) a)).Perm (D1 a ++ L.map (·.2)) := by
  intro L
  induction L with
  | nil => intro a _ _ _; simp
  | cons p L ih =>
   intro a hL hn hlen
   rw [List.foldl_cons]
   simp only [List.length_cons] at hlen
   have hk : V8 a p.2.key := B5B.2 fun x hx e => by
    rw [List.map_append, List.nodup_append] at hn
    exact hn.2.2 _ (List.mem_map_of_mem hx) p.2.key (by simp) e
   obtain ⟨u, hu, hp⟩ := C22 (hL p (List.mem_cons_self ..)) hk (by omega)
   have e : V7 a p.2 = u := by simp [V7, hu]
   rw [e]
   have hlu := B1p hu
   have hpl := hp.length_eq
   have hperm : (D1 u ++ L.map (·.2)).Perm (D1 a ++ (p :: L).map (·.2)) := by
    refine (hp.append_right _).trans ?_
    rw [List.map_cons]
    exact (List.perm_middle (a := p.2) (l₁ := D1 a) (l₂ := L.map (·.2))).symm
   refine (ih u (fun q hq => hL q (List.mem_cons_of_mem _ hq)) ?_ ?_).trans hperm
   ·exact ((hperm.map _).nodup_iff).2 hn
   ·rw [hpl, List.length_cons, hlu]; omega
 unfold Z7
 have hm : (Q1 l).map (·.2) = D1 l := B6u l 0
 have h1 := hmain (Q1 l) (newE l.length) (fun p hp => (A4F.1 hp).2) (by rw [A3u, hm]; exact B3M h)
  (by
   rw [A3u, A4x]
   have : (Q1 l).length = (D1 l).length := by rw [← hm]; simp
   have h2 : (D1 l).length ≤ l.length := List.length_filter_le ..
   simp only [List.length_nil]; omega)
 rw [A3u, hm] at h1
 exact h1
theorem B3Q {l : List EnV} (h : W3 l = true) (hl : l.length ≤ 64) : (D1 (M5 l)).Perm (D1 l) := by
 unfold M5; split
 ·exact B6B h hl
 ·exact .refl _
theorem B8r {l : List EnV} (hl : l.length ≤ 64) : (M5 l).length = l.length := by
 unfold M5; split
 ·unfold Z7; rw [B1s, A4x]; omega
 ·rfl
end Go.Proofs.YtpnidmkaobfhiaaGreat
namespace Go.Proofs.YtpnidmkaobfhiaaGreat
open Go
theorem A9L {κ : Bool} {S : List Nat} {w0 : World} {H : List Res} {K0 : WP} {t : TypeId} {n : Nat} {z : Value} [h : TG t n z] {b o : Nat} {c : Array Value} {T : TypeId} {f : Nat × Nat} {xs : Array Value} {l : List Rd} (hm : Res.pt b (.cells c T f) ∈ H) (hl : Y2 c.toList o n = some xs.toList) :
  TW κ S w0 H (watch PR ((none, Instr.loadAt t (.pointer (some ⟨b, o, none⟩)), .agg xs) :: l) K0) = TW κ S w0 H (watch PR l K0) := by
 obtain ⟨_, _, h, hd⟩ := h.ti
 refine A7p fun w hw => ?_
 have hr := A4r hl (P9.bl (hw.pt hm))
 have h2 := A3m hr
 have := A6J h hd h2.1 h2.2
 simpa using this
@[simp] theorem C6W {κ : Bool} {S : List Nat} {w0 : World} {H : List Res} {K0 : WP} {t : TypeId} {n : Nat} {z : Value} [h : TG t n z] {b o : Nat} {xs : Array Value} {l : List Rd} (hc : f9 w0 b o n = some xs.toList) (hS : b ∉ S) :
  TW κ S w0 H (watch PR ((none, Instr.loadAt t (.pointer (some ⟨b, o, none⟩)), .agg xs) :: l) K0) = TW κ S w0 H (watch PR l K0) := by
 obtain ⟨_, _, h, hd⟩ := h.ti
 refine A7p fun w hw => ?_
 have h2 := A3m hc
 have := A6J h hd h2.1 (hw.ks.row hS h2.2)
 simpa using this
theorem B9v {κ : Bool} {S : List Nat} {w0 : World} {H : List Res} {K0 : WP} {t : TypeId} {n : Nat} {z : Value} [h : TG t n z] {b o : Nat} {c xs : Array Value} {T : TypeId} {f : Nat × Nat} {l : List Rd} {x y : Bool} (hm : Res.pt b (.cells c T f) ∈ H) (hl : Y2 c.toList o n = some xs.toList) :
  TW κ S w0 H (watch PR ((some (.bool x, y), Instr.loadAt t (.pointer (some ⟨b, o, none⟩)), .agg xs) :: l) K0) = TW κ S w0 H (watch PR l K0) := by
 obtain ⟨_, _, h, hd⟩ := h.ti
 refine B0H fun _ w hw => ?_
 have hr := A4r hl (P9.bl (hw.pt hm)); have h2 := A3m hr
 have := A6J h hd h2.1 h2.2
 simpa using this
theorem P9.sub {w : World} {b o : Nat} {l : List Value} (h : P9 w b o l) (j n : Nat) (hn : j + n ≤ l.length) : f9 w b (o + j) n = some ((l.drop j).take n) := by
 have hl : ((l.drop j).take n).length = n := by simp; omega
 have h1 : P9 w b (o + j) ((l.drop j).take n) := fun q hq => by
  rw [hl] at hq
  rw [Nat.add_assoc, h (j + q) (by omega), List.getElem?_take_of_lt hq, List.getElem?_drop]
 have := A7w h1
 rwa [hl] at this
end Go.Proofs.YtpnidmkaobfhiaaGreat
namespace Go.Proofs.YtpnidmkaobfhiaaGreat
open Go
def B1r (ts : List (Value × List EnV)) : List Nat := ts.flatMap fun t => Q9 t.1
def B3p (ts : List (Value × List EnV)) (w : World) : Prop := ∀ t ∈ ts, U9 w 155 4 t.1 t.2.length (t.2.flatMap E3)
def C8 (ts : List (Value × List EnV)) : Res := .ab (B1r ts) (B3p ts) fun w w' hk h t ht =>
 Res.stable (r := N2 t.1 t.2) (fun b hb => hk b (by rw [B1r, List.mem_flatMap]; exact ⟨t, ht, hb⟩)) (h t ht)
section
variable {κ : Bool} {S : List Nat} {w0 w : World} {H Hk Hc : List Res} {K0 : WP} {ts : List (Value × List EnV)}
theorem A7d (hw : LW κ S w0 H w) (hm : C8 ts ∈ H) {t : Value × List EnV} (ht : t ∈ ts) : D2 w t.1 t.2.length (t.2.flatMap E3) := U9.rd ((hw.hold _ hm : B3p ts w) t ht)
theorem A5E {r : Res} (hp : Part Hc H Hk) (hh : ∀ w, (∀ s ∈ Hc, s.holds w) → r.holds w) (hf : ∀ b ∈ r.foot, b ∈ B1 Hc) (h : TW κ S w0 (r :: Hk) K0) : TW κ S w0 H K0 := fun w hw => by
 have hw2 := hw.perm hp.perm
 refine h w ⟨hw2.ks, ?_, ?_, ?_⟩
 ·intro s hs
  rcases List.mem_cons.1 hs with rfl | hs
  ·exact hh w fun s hs => hw2.hold s (List.mem_append_left _ hs)
  ·exact hw2.hold s (List.mem_append_right _ hs)
 ·intro s hs b hb
  rcases List.mem_cons.1 hs with rfl | hs
  ·obtain ⟨q, hq, hbq⟩ := K5.1 (hf b hb)
   exact hw2.own q (List.mem_append_left _ hq) b hbq
  ·exact hw2.own s (List.mem_append_right _ hs) b hb
 ·have hd := List.pairwise_append.1 hw2.dis
  refine List.pairwise_cons.2 ⟨fun s hs b hb => ?_, hd.2.1⟩
  obtain ⟨q, hq, hbq⟩ := K5.1 (hf b hb)
  exact hd.2.2 q hq s hs b hbq
theorem B5x (h : TW κ S w0 (C8 [] :: H) K0) : TW κ S w0 H K0 :=
 A5E (r := C8 []) (Hc := []) Part.nil (fun w _ => (fun t ht => (by cases ht) : B3p [] w)) (fun b hb => (by cases (hb : b ∈ B1r []))) h
theorem A1v {r : Value} {l : List EnV} (hp : Part [N2 r l, C8 ts] H Hk) (h : TW κ S w0 (C8 (ts ++ [(r, l)]) :: Hk) K0) : TW κ S w0 H K0 := by
 refine A5E (r := C8 (ts ++ [(r, l)])) hp (fun w hh => (fun t ht => ?_ : B3p (ts ++ [(r, l)]) w)) (fun b hb => ?_) h
 ·rcases List.mem_append.1 ht with ht | ht
  ·exact (hh _ (List.mem_cons_of_mem _ (List.mem_cons_self ..)) : B3p ts w) t ht
  ·obtain rfl : t = (r, l) := by simpa using ht
   exact hh (N2 r l) (List.mem_cons_self ..)
 ·have hb' : b ∈ B1r (ts ++ [(r, l)]) := hb
  rw [B1r, List.mem_flatMap] at hb'
  obtain ⟨t, ht, hbt⟩ := hb'
  rcases List.mem_append.1 ht with ht | ht
  ·exact K5.2 ⟨C8 ts, by simp, by show b ∈ B1r ts; rw [B1r, List.mem_flatMap]; exact ⟨t, ht, hbt⟩⟩
  ·obtain rfl : t = (r, l) := by simpa using ht
   exact K5.2 ⟨N2 r l, by simp, hbt⟩
end
abbrev ShV := (Value × List EnV) × Nat
def C87 (t : ShV) : List Value := [t.1.1, .int .i64 (t.2 : Nat)]
structure MoH where
 b : Nat
 pv : Value
 sv : Value
 c : CfgV
 pool : List G8
 ts : List ShV
def C6G (m : MoH) : List Res := [.pt m.b (.cells #[.int .i64 m.c.wk, .int .i64 m.c.sh, .int .i64 m.c.cp, .int .i64 m.c.idle, .int .i64 m.c.sl, m.pv, m.sv] 130),
 .own 83 2 m.pv m.pool.length (m.pool.flatMap E6), .own 134 2 m.sv m.ts.length (m.ts.flatMap C87), C8 (m.ts.map (·.1))]
theorem B8s (l : List G8) : (l.flatMap E6).all plain = true := by
 rw [List.all_eq_true]; intro v hv; rw [List.mem_flatMap] at hv
 obtain ⟨x, _, hx⟩ := hv
 simp only [E6, List.mem_cons, List.not_mem_nil, or_false] at hx
 rcases hx with rfl | rfl <;> rfl
end Go.Proofs.YtpnidmkaobfhiaaGreat
namespace Go.Proofs.YtpnidmkaobfhiaaGreat
open Go
def B5Z (c : CfgV) : List (List EnV × Nat) := List.replicate c.sh.toNat (newE c.cp.toNat, 0)
end Go.Proofs.YtpnidmkaobfhiaaGreat
namespace Go.Proofs.YtpnidmkaobfhiaaGreat
open Go
structure MoS where
 c : CfgV
 pool : List G8
 tabs : List (List EnV × Nat)
def MoH.st (m : MoH) : MoS := ⟨m.c, m.pool, m.ts.map fun t => (t.1.2, t.2)⟩
structure PoolAt (w : World) (m : MoH) (v : Value) (p : List G8) : Prop where
 rd : D2 w v p.length (p.flatMap E6)
 off : 0 < p.length → ∀ g ∈ Q9 v, g ∉ B1 (C6G m)
 len : p.length ≤ 1000
 form : v.cells = #[v] ∧ plain v = true
theorem PoolAt.at {w w' : World} {m : MoH} {v : Value} {p : List G8} {κ : Bool} (h : PoolAt w m v p) (hk : KS κ (B1 (C6G m)) w w') : D2 w' v p.length (p.flatMap E6) :=
 h.rd.ks0 (fun e => by rw [List.length_eq_zero_iff.1 e]; rfl) hk h.off
end Go.Proofs.YtpnidmkaobfhiaaGreat
namespace Go.Proofs.YtpnidmkaobfhiaaGreat
open Go
end Go.Proofs.YtpnidmkaobfhiaaGreat
namespace Go.Proofs.YtpnidmkaobfhiaaGreat
open Go
end Go.Proofs.YtpnidmkaobfhiaaGreat
namespace Go.Proofs.YtpnidmkaobfhiaaGreat
open Go
def A3c (k : KeyV) : ByteArray := if B7p k then C0x k else noB
theorem B39 (s t : ByteArray) (o : Nat) : (A96 s o t).size ≤ o + t.size + s.size := by
 simp only [A96, ByteArray.size_append, ByteArray.size_extract]; omega
theorem B1v (x : Int) : (Z8 x 2).size ≤ 2 := by simp
theorem B4N (k : KeyV) : (A3c k).size < 2 ^ 60 := by
 unfold A3c
 split
 ·rename_i h
  simp only [B7p, decide_eq_true_eq] at h
  have hl : B2g k.v ≤ 16 := by unfold B2g; split <;> (try split) <;> omega
  have h1 := B39 (A96 (A96 z38 0 (Z8 (k.v * 256 + k.proto) 2 ++ Z8 k.fr 2 ++ Z8 k.tp 2)) 6 k.src) k.dst 22
  have h2 := B39 (A96 z38 0 (Z8 (k.v * 256 + k.proto) 2 ++ Z8 k.fr 2 ++ Z8 k.tp 2)) k.src 6
  have h3 := B39 z38 (Z8 (k.v * 256 + k.proto) 2 ++ Z8 k.fr 2 ++ Z8 k.tp 2) 0
  have h4 := B1v (k.v * 256 + k.proto)
  have h5 := B1v k.fr
  have h6 := B1v k.tp
  have h7 := C2b
  simp only [ByteArray.size_append] at h3
  unfold C0x
  omega
 ·simp
end Go.Proofs.YtpnidmkaobfhiaaGreat
namespace Go.Proofs.YtpnidmkaobfhiaaGreat
open Go
end Go.Proofs.YtpnidmkaobfhiaaGreat
namespace Go.Proofs.YtpnidmkaobfhiaaGreat
open Go
theorem B2F {l : List EnV} {j : Nat} {x : EnV} (h : L5 l) (hx : x.key.size < 2 ^ 60) : L5 (l.set j x) := fun y hy => by
 rcases List.mem_or_eq_of_mem_set hy with h1 | rfl
 ·exact h y h1
 ·exact hx
theorem B50 (n : Nat) : L5 (newE n) := fun x hx => by
 unfold newE at hx
 rw [(List.mem_replicate.1 hx).2]; simp [p7]
theorem C0G {a : List EnV} {x : EnV} (h : L5 a) (hx : x.key.size < 2 ^ 60) : L5 (V7 a x) := by
 unfold V7
 cases hp : M7 a x with
 | none => exact h
 | some u => obtain ⟨j, _, rfl⟩ := B1x hp; exact B2F h hx
theorem C0r {l : List EnV} (h : L5 l) : L5 (Z7 l) := by
 unfold Z7
 have : ∀ (L : List (Nat × EnV)) (a : List EnV), (∀ p ∈ L, p.2.key.size < 2 ^ 60) → L5 a → L5 (L.foldl (fun acc p => V7 acc p.2) a) := by
  intro L
  induction L with
  | nil => intro a _ h; exact h
  | cons p L ih => intro a hL ha; rw [List.foldl_cons]; exact ih _ (fun q hq => hL q (List.mem_cons_of_mem _ hq)) (C0G ha (hL p (List.mem_cons_self ..)))
 exact this _ _ (fun p hp => h _ (B4P p hp).1) (B50 _)
theorem B7W {l : List EnV} (h : L5 l) : L5 (M5 l) := by
 unfold M5; split
 ·exact C0r h
 ·exact h
theorem C16 : V9.key.size < 2 ^ 60 := by simp [V9]
structure TabOk (n : Nat) (l : List EnV) : Prop where
 len : l.length = n
 few : n ≤ 64
 keys : L5 l
 right : W3 l = true
theorem TabOk.new {n : Nat} (h : n ≤ 64) : TabOk n (newE n) := ⟨by rw [A4x]; omega, h, B50 _, B4k _⟩
theorem TabOk.settle {n : Nat} {l : List EnV} (h : TabOk n l) : TabOk n (M5 l) := ⟨by rw [B8r (by rw [h.len]; exact h.few), h.len], h.few, B7W h.keys, B6l h.right⟩
theorem TabOk.tomb {n : Nat} {l : List EnV} {j : Nat} (h : TabOk n l) (hj : j < l.length) : TabOk n (l.set j V9) := ⟨by rw [List.length_set, h.len], h.few, B2F h.keys C16, B9a hj h.right⟩
theorem TabOk.put {n : Nat} {l u : List EnV} {x : EnV} (h : TabOk n l) (hx : x.key.size < 2 ^ 60) (h1 : x.st = 1) (hp : M7 l x = some u) : TabOk n u :=
 ⟨by rw [B1p hp, h.len], h.few, by obtain ⟨j, _, rfl⟩ := B1x hp; exact B2F h.keys hx, B4y h1 hp h.right⟩
theorem TabOk.perm {n : Nat} {l : List EnV} (h : TabOk n l) : (D1 (M5 l)).Perm (D1 l) := B3Q h.right (by rw [h.len]; exact h.few)
theorem B1k {l : List EnV} {key : ByteArray} (h : 0 ≤ F3 l key) : l[(F3 l key).toNat]? = some (atE l key) ∧ (atE l key).st = 1 ∧ (atE l key).key = key := by
 obtain ⟨x, h1, h2, h3⟩ := B5n (l := l) (key := key) (j := (F3 l key).toNat) (by omega)
 have e : atE l key = x := by unfold atE; rw [List.getD_eq_getElem?_getD, h1]; rfl
 rw [e]; exact ⟨h1, h2, h3⟩
theorem C1N {l u : List EnV} {key : ByteArray} (h : B51 l key = some u) : 0 ≤ F3 l key ∧ (F3 l key).toNat < l.length ∧ u = l.set (F3 l key).toNat V9 ∧ (atE l key :: D1 u).Perm (D1 l) := by
 unfold B51 at h
 split at h
 ·cases h
 ·rename_i c
  injection h with h
  subst h
  have h0 : 0 ≤ F3 l key := by omega
  obtain ⟨h1, h2, h3⟩ := B1k h0
  have hs := A3r (x := V9) h1
  unfold A9D at hs
  rw [if_pos h2, if_neg (by simp [V9])] at hs
  exact ⟨h0, A8j h0, rfl, by simpa using hs⟩
theorem B89 {l u : List EnV} {x : EnV} (h1 : x.st = 1) (hp : M7 l x = some u) : (0 ≤ F3 l x.key ∧ (atE l x.key :: D1 u).Perm (x :: D1 l)) ∨ (F3 l x.key < 0 ∧ (D1 u).Perm (x :: D1 l)) := by
 obtain ⟨j, hj, rfl, hf, hc⟩ := B0n hp h1
 have hj1 : l[j]? = some l[j] := List.getElem?_eq_getElem hj
 have hs := A3r (x := x) hj1
 unfold A9D at hs
 rw [if_pos h1] at hs
 rcases hc with hc | ⟨hc, hr⟩
 ·left
  have h0 : 0 ≤ F3 l x.key := by omega
  obtain ⟨e1, e2, e3⟩ := B1k h0
  have : (F3 l x.key).toNat = j := by omega
  rw [this, hj1] at e1
  injection e1 with e1
  rw [e1, if_pos e2] at hs
  exact ⟨h0, by simpa using hs⟩
 ·right
  refine ⟨hc, ?_⟩
  have hm : ∀ L, Q0 L = (j : Nat) → ∃ y, (j, y) ∈ L ∧ y.st ≠ 1 := by
   intro L
   induction L with
   | nil => intro h; simp [Q0] at h <;> omega
   | cons p L ih =>
    intro h
    simp only [Q0] at h
    split at h
    ·obtain ⟨y, h1, h2⟩ := ih h; exact ⟨y, List.mem_cons_of_mem _ h1, h2⟩
    ·rename_i c2
     have : p.1 = j := by omega
     exact ⟨p.2, by rw [← this]; simp, c2⟩
  obtain ⟨y, h2, h3⟩ := hm _ hr
  have h4 := B2K h2
  rw [hj1] at h4
  injection h4 with h4
  rw [if_neg (by rw [h4]; exact h3)] at hs
  simpa using hs
structure Decided (l u : List EnV) (key : ByteArray) (made : Bool) : Prop where
 up : (D1 u).length ≤ (D1 l).length + 1
 down : (D1 l).length ≤ (D1 u).length + 1
 new : (D1 l).length < (D1 u).length → made = true
 from' : ∀ x ∈ D1 u, x ∈ D1 l ∨ x.key = key
theorem Decided.refl (l : List EnV) (key : ByteArray) (made : Bool) : Decided l l key made := ⟨by omega, by omega, by omega, fun x hx => Or.inl hx⟩
theorem B8x {l : List EnV} {p : List G8} {key : ByteArray} {now : Int} (h : F3 l key < 0) : (A38 l p key now).2 = false := by
 unfold A38; rw [if_pos (Or.inl h)]
theorem A9H {n : Nat} {l : List EnV} {p : List G8} {key : ByteArray} {closing : Bool} {now idle : Int} (h : TabOk n l) (hk : key.size < 2 ^ 60) :
  TabOk n (A2M l p key closing now idle).1 ∧ Decided l (A2M l p key closing now idle).1 key (A2M l p key closing now idle).2.1.made := by
 unfold A2M
 split
 ·exact ⟨h, .refl _ _ _⟩
 ·split
  ·unfold C6e
   cases hd : B51 l key with
   | none => exact ⟨h, .refl _ _ _⟩
   | some u =>
    obtain ⟨h0, hlt, rfl, hp⟩ := C1N hd
    have ht := h.tomb hlt
    have hp2 := (ht.perm.cons (atE l key)).trans hp
    have hl := hp2.length_eq
    simp only [List.length_cons] at hl
    exact ⟨ht.settle, by simp only; omega, by simp only; omega, fun h => by simp only at h; omega, fun x hx => Or.inl (hp2.subset (List.mem_cons_of_mem _ hx))⟩
  ·cases hp : M7 l (C2U l p key now idle) with
   | none => exact ⟨h, .refl _ _ _⟩
   | some u =>
    refine ⟨h.put hk rfl hp, ?_⟩
    rcases B89 (x := C2U l p key now idle) rfl hp with ⟨h0, h1⟩ | ⟨h0, h1⟩
    ·have hl := h1.length_eq
     simp only [List.length_cons] at hl
     exact ⟨by simp only; omega, by simp only; omega, fun h => by simp only at h; omega, fun x hx => by
      rcases List.mem_cons.1 (h1.subset (List.mem_cons_of_mem _ hx)) with rfl | h2
      ·exact Or.inr rfl
      ·exact Or.inl h2⟩
    ·have hl := h1.length_eq
     simp only [List.length_cons] at hl
     exact ⟨by simp only; omega, by simp only; omega, fun h => by simp [B8x (p := p) (now := now) (show F3 l key < 0 from h0)], fun x hx => by
      rcases List.mem_cons.1 (h1.subset hx) with rfl | h2
      ·exact Or.inr rfl
      ·exact Or.inl h2⟩
def A28 (now : Int) (l u : List EnV) (k : Nat) : Prop := ∃ r, (r ++ D1 u).Perm (D1 l) ∧ (∀ x ∈ r, A1j x now = true) ∧ r.length = k
theorem A28.trans {now : Int} {a b c : List EnV} {i j : Nat} (h : A28 now a b i) (h' : A28 now b c j) : A28 now a c (i + j) := by
 obtain ⟨r, h1, h2, h3⟩ := h
 obtain ⟨s, h4, h5, h6⟩ := h'
 refine ⟨r ++ s, ?_, ?_, by rw [List.length_append, h3, h6]⟩
 ·rw [List.append_assoc]; exact (h4.append_left r).trans h1
 ·intro x hx
  rcases List.mem_append.1 hx with hx | hx
  ·exact h2 x hx
  ·exact h5 x hx
theorem C26 {n : Nat} {l : List EnV} {now : Int} {c j : Nat} (h : TabOk n l) (hj : j < l.length) : TabOk n (S0 now (l, c) j).1 ∧ ∃ k, (S0 now (l, c) j).2 = c + k ∧ A28 now l (S0 now (l, c) j).1 k ∧ (∀ i x, (S0 now (l, c) j).1[i]? = some x → A1j x now = true → i ≠ j ∧ l[i]? = some x) := by
 have hj1 : l[j]? = some l[j] := List.getElem?_eq_getElem hj
 have hd : l.getD j p7 = l[j] := by rw [List.getD_eq_getElem?_getD, hj1]; rfl
 unfold S0
 simp only [hd]
 by_cases c1 : A1j l[j] now = true
 ·rw [if_pos c1]
  have hst : l[j].st = 1 := by unfold A1j at c1; simp at c1; exact c1.1
  have hs := A3r (x := V9) hj1
  unfold A9D at hs
  rw [if_pos hst, if_neg (by simp [V9])] at hs
  refine ⟨h.tomb hj, 1, rfl, ⟨[l[j]], by simpa using hs, by simpa using c1, rfl⟩, fun i x hx hdx => ?_⟩
  rcases getElem?_set_some hx with ⟨_, rfl⟩ | h2
  ·simp [A1j, V9] at hdx
  ·exact h2
 ·rw [if_neg c1]
  refine ⟨h, 0, rfl, ⟨[], by simp, by simp, rfl⟩, fun i x hx hdx => ⟨fun e => ?_, hx⟩⟩
  subst e
  rw [hj1] at hx
  injection hx with hx
  rw [hx] at c1
  exact c1 hdx
theorem C5H {n : Nat} {now : Int} : ∀ (L : List Nat) (l : List EnV) (c : Nat), TabOk n l → (∀ j ∈ L, j < n) → TabOk n (L.foldl (S0 now) (l, c)).1 ∧ ∃ k, (L.foldl (S0 now) (l, c)).2 = c + k ∧ A28 now l (L.foldl (S0 now) (l, c)).1 k ∧ (∀ i x, (L.foldl (S0 now) (l, c)).1[i]? = some x → A1j x now = true → i ∉ L ∧ l[i]? = some x) := by
 intro L
 induction L with
 | nil => intro l c h _; exact ⟨h, 0, rfl, ⟨[], by simp, by simp, rfl⟩, fun i x hx _ => ⟨by simp, hx⟩⟩
 | cons j L ih =>
  intro l c h hL
  obtain ⟨h1, k, h2, h3, h3'⟩ := C26 (now := now) (c := c) h (by rw [h.len]; exact hL j (List.mem_cons_self ..))
  obtain ⟨h4, k', h5, h6, h6'⟩ := ih (S0 now (l, c) j).1 (S0 now (l, c) j).2 h1 fun q hq => hL q (List.mem_cons_of_mem _ hq)
  rw [List.foldl_cons]
  refine ⟨h4, k + k', by rw [h5, h2]; omega, h3.trans h6, fun i x hx hd => ?_⟩
  obtain ⟨a, b⟩ := h6' i x hx hd
  obtain ⟨c, d⟩ := h3' i x b hd
  exact ⟨by simp [a, c], d⟩
theorem A28.zero {now : Int} {l u : List EnV} (h : (D1 u).Perm (D1 l)) : A28 now l u 0 := ⟨[], h, by simp, rfl⟩
theorem C0T {f n m : Nat} (hm : 0 < m) : ∀ j ∈ P4 f n m, j < m := fun j hj => by
 unfold P4 at hj
 obtain ⟨i, _, rfl⟩ := List.mem_map.1 hj
 exact Nat.mod_lt _ hm
theorem C0e {n : Nat} {l : List EnV} {f k now : Int} (h : TabOk n l) (hn : 0 < n) : TabOk n (H5 l f k now).1 ∧ A28 now l (H5 l f k now).1 (H5 l f k now).2.2 := by
 obtain ⟨h1, q, h2, h3⟩ : TabOk n (Y4 l (G4 l f) (T5 l k) now).1 ∧ ∃ q, (Y4 l (G4 l f) (T5 l k) now).2 = q ∧ A28 now l (Y4 l (G4 l f) (T5 l k) now).1 q := by
  obtain ⟨h1, q, h2, h3, _⟩ := C5H (now := now) (P4 (G4 l f) (T5 l k) l.length) l 0 h (by rw [← h.len]; exact C0T (by rw [h.len]; exact hn))
  exact ⟨h1, q, by rw [Nat.zero_add] at h2; exact h2, h3⟩
 unfold H5
 simp only
 by_cases c : 0 < (Y4 l (G4 l f) (T5 l k) now).2
 ·rw [if_pos c]
  refine ⟨h1.settle, ?_⟩
  have := h3.trans (A28.zero (now := now) h1.perm)
  rw [h2]; simpa using this
 ·rw [if_neg c]
  exact ⟨h1, by rw [h2]; exact h3⟩
structure Inv (c : CfgV) (s : MoS) : Prop where
 cfg : s.c = c
 ok : S4 c = true
 pool : G2 s.pool = 0
 sh : (s.tabs.length : Int) = c.sh
 tab : ∀ t ∈ s.tabs, TabOk c.cp.toNat t.1
 own : ∀ (i : Nat) t, s.tabs[i]? = some t → ∀ x ∈ D1 t.1, u4 x.key c.sh = i
theorem B9M {c : CfgV} (h : S4 c = true) : 1 ≤ c.wk ∧ c.wk ≤ 64 ∧ 1 ≤ c.sh ∧ c.sh ≤ 16 ∧ 1 ≤ c.cp ∧ c.cp ≤ 64 ∧ 0 ≤ c.idle ∧ c.idle ≤ 1000000 := by
 simp [S4, e8] at h; omega
theorem Inv.new {c : CfgV} (h : S4 c = true) : Inv c ⟨c, [], B5Z c⟩ := by
 have hb := B9M h
 refine ⟨rfl, h, rfl, by simp [B5Z]; omega, fun t ht => ?_, fun i t ht x hx => ?_⟩
 ·rw [B5Z] at ht
  rw [(List.mem_replicate.1 ht).2]
  exact TabOk.new (by omega)
 ·have ht := List.mem_of_getElem? ht
  rw [B5Z] at ht
  rw [(List.mem_replicate.1 ht).2, A3u] at hx
  cases hx
theorem Inv.set {c : CfgV} {s : MoS} (h : Inv c s) {i : Nat} {t u : List EnV × Nat} (ht : s.tabs[i]? = some t) (hu : TabOk c.cp.toNat u.1) (hf : ∀ x ∈ D1 u.1, x ∈ D1 t.1 ∨ u4 x.key c.sh = i) : Inv c { s with tabs := s.tabs.set i u } := by
 refine ⟨h.cfg, h.ok, h.pool, by rw [List.length_set]; exact h.sh, fun v hv => ?_, fun j v hv x hx => ?_⟩
 ·rcases List.mem_or_eq_of_mem_set hv with h1 | rfl
  ·exact h.tab v h1
  ·exact hu
 ·rcases getElem?_set_some hv with ⟨rfl, rfl⟩ | ⟨_, h2⟩
  ·rcases hf x hx with h1 | h1
   ·exact h.own j t ht x h1
   ·exact h1
  ·exact h.own j v h2 x hx
theorem Inv.at {c : CfgV} {s : MoS} (h : Inv c s) {i : Nat} (hi : i < c.sh.toNat) : s.tabs[i]? = some (s.tabs.getD i ([], 0)) := getD_some _ (by have := h.sh; omega)
end Go.Proofs.YtpnidmkaobfhiaaGreat
namespace Go.Proofs.YtpnidmkaobfhiaaGreat
open Go
theorem C3d {α : Type} {l : List α} {i at' : Nat} {x y : α} (hy : l[i]? = some y) : (l.set at' x).take (i + 1) = (l.set at' x).take i ++ [if i = at' then x else y] := by
 have hi := (List.getElem?_eq_some_iff.1 hy).1
 rw [List.take_add_one]
 by_cases c : i = at'
 ·subst c; rw [List.getElem?_set_self hi]; simp
 ·rw [List.getElem?_set_ne (Ne.symm c), hy]; simp [c]
theorem B4c (w : World) (v : Value) (l : List EnV) (at' : Nat) (x : EnV) (hn : l.length ≤ 1000000) (hv : D2 w v l.length (l.flatMap E3)) :
  Fn PR B6 135 #[v, .int .i64 (at' : Int), .agg #[.int .i64 x.st, .string x.key, .int .i64 x.bk, .int .i64 x.dl]] w (Rn [] w (fun r u => u = r) fun r => [N2 r (l.set at' x)]) := by
 refine A7J (TW.go (κ := false) (S := []) ?_)
 unfold A0v
 obtain ⟨a, c, rfl, hr⟩ := hv.form
 (have zz:=trivial;repeat((first|clear zz|with_reducible first|refine A3 ?_|refine A5 fun _=>?_|refine A4 fun _=>?_);try simp(disch:=first|omega|assumption|((repeat(first|exact A1|exact uH|apply A2|apply uT));first|done|fail)|(simp;first|done|omega|fail))[]))
 rename_i bx
 refine j9 155 4 ?_
 refine Q6 l.length (fun i (y : Option Addr × Nat) => .slice y.1 i y.2) (fun i y => [.own 155 4 (.slice y.1 i y.2) i (((l.set at' x).take i).flatMap E3), .pt bx (.cells #[.int .i64 x.st, .string x.key, .int .i64 x.bk, .int .i64 x.dl] 155)]) (fun i y => True) (none, 0) trivial ?_ (by simp)
 rintro i ⟨ya, yc⟩ hi _ L hL
 by_cases hlt : i < l.length
 ·have hx : l[i]? = some l[i] := List.getElem?_eq_getElem hlt
  obtain ⟨b, o, rfl, hrow⟩ := hr (by omega)
  have h1 := hrow.at (f := E3) (k := 4) (fun _ => rfl) hx
  rw [E3] at h1
  have hst := C3d (at' := at') (x := x) hx
  by_cases c1 : i = at'
  ·rw [if_pos c1] at hst
   subst c1
   (have zz:=trivial;repeat((first|clear zz|with_reducible first|refine A3 ?_|refine A5 fun _=>?_|refine A4 fun _=>?_|refine T6 fun _=>?_|refine T0 (hK:=fun _=>?_)|refine T8 (hK:=fun _=>?_)|refine T2 (hK:=fun _=>?_)|refine T3 (hK:=fun _=>?_)|refine T7 (hK:=fun _=>?_));try simp(disch:=first|omega|assumption|((repeat(first|exact A1|exact uH|apply A2|apply uT));first|done|fail)|(simp;first|done|omega|fail))[hlt]))
   refine W9 (e := 155) (k := 4) (q := i) (r := 1) (xs := ((l.set i x).take i).flatMap E3) (news := E3 x) (by (repeat constructor)) (H3.own (by (repeat constructor))) (by decide) rfl (by simp [E3]) (by simp only [maxLen]; omega) (by omega) fun a' c' => ?_
   (have zz:=trivial;repeat((first|clear zz|with_reducible first|refine A3 ?_|refine A5 fun _=>?_|refine A4 fun _=>?_);try simp(disch:=first|omega|assumption|((repeat(first|exact A1|exact uH|apply A2|apply uT));first|done|fail)|(simp;first|done|omega|fail))[]))
   have h2 := hL hlt (a', c') trivial
   rw [hst, List.flatMap_append, show [x].flatMap E3 = E3 x by simp] at h2
   exact Sels.tw (by (repeat' constructor)) h2
  ·rw [if_neg c1] at hst
   have c1' : ¬ (i : Int) = (at' : Int) := by omega
   (have zz:=trivial;repeat((first|clear zz|with_reducible first|refine A3 ?_|refine A5 fun _=>?_|refine A4 fun _=>?_|refine T6 fun _=>?_|refine T0 (hK:=fun _=>?_)|refine T8 (hK:=fun _=>?_)|refine T2 (hK:=fun _=>?_)|refine T3 (hK:=fun _=>?_)|refine T7 (hK:=fun _=>?_));try simp(disch:=first|omega|assumption|((repeat(first|exact A1|exact uH|apply A2|apply uT));first|done|fail)|(simp;first|done|omega|fail))[hlt, c1, c1', h1]))
   refine W9 (e := 155) (k := 4) (q := i) (r := 1) (xs := ((l.set at' x).take i).flatMap E3) (news := E3 l[i]) (by (repeat constructor)) (H3.own (by (repeat constructor))) (by decide) rfl (by simp [E3]) (by simp only [maxLen]; omega) (by omega) fun a' c' => ?_
   (have zz:=trivial;repeat((first|clear zz|with_reducible first|refine A3 ?_|refine A5 fun _=>?_|refine A4 fun _=>?_);try simp(disch:=first|omega|assumption|((repeat(first|exact A1|exact uH|apply A2|apply uT));first|done|fail)|(simp;first|done|omega|fail))[]))
   have h2 := hL hlt (a', c') trivial
   rw [hst, List.flatMap_append, show [l[i]].flatMap E3 = E3 l[i] by simp] at h2
   exact Sels.tw (by (repeat' constructor)) h2
 ·obtain rfl : i = l.length := by omega
  (have zz:=trivial;repeat((first|clear zz|with_reducible first|refine A3 ?_|refine A5 fun _=>?_|refine A4 fun _=>?_);try simp(disch:=first|omega|assumption|((repeat(first|exact A1|exact uH|apply A2|apply uT));first|done|fail)|(simp;first|done|omega|fail))[]))
  refine B0 (.slice ya l.length yc) rfl ?_
  rw [List.take_of_length_le (by simp)]
  simp only [N2, List.length_set]
  (repeat' constructor)
theorem C17 (w : World) (v : Value) (l : List EnV) (key : ByteArray) (bk dl : Int) (hk : key.size < 2 ^ 60) (hn : l.length ≤ 1000000) (hv : D2 w v l.length (l.flatMap E3)) :
  Fn PR B6 166 #[v, .string key, .int .i64 bk, .int .i64 dl] w (Rn [] w (fun r u => u = .tuple #[if (M7 l ⟨1, key, bk, dl⟩).isSome then r else v, .int .i64 (if (M7 l ⟨1, key, bk, dl⟩).isSome then 0 else 12)]) fun r => if (M7 l ⟨1, key, bk, dl⟩).isSome then [N2 r ((M7 l ⟨1, key, bk, dl⟩).getD l)] else []) := by
 refine A8F (TW.go (κ := false) (S := []) ?_)
 unfold A1s
 have hwith : ∀ (q : Nat) (K : Value → WP), M7 l ⟨1, key, bk, dl⟩ = some (l.set q ⟨1, key, bk, dl⟩) → (∀ r, TW false [] w [N2 r (l.set q ⟨1, key, bk, dl⟩)] (K r)) → TW false [] w [] (B3 PR B6 135 [v, .int .i64 (q : Int), .agg #[.int .i64 1, .string key, .int .i64 bk, .int .i64 dl]] K) := fun q K _ hK => by
  refine G7 A0a (fun w' hw' => B4c w' v l q ⟨1, key, bk, dl⟩ hn (hv.ks hw'.ks (by simp))) ?_
  intro _ r hr
  subst hr
  exact hK r
 refine D4 A0p (fun w' hw' => B4s w' _ l key hk hn (hv.ks hw'.ks (by simp))) ?_
 by_cases c1 : F3 l key < 0
 ·(have zz:=trivial;repeat((first|clear zz|with_reducible first|refine A3 ?_|refine A5 fun _=>?_|refine A4 fun _=>?_);try simp(disch:=first|omega|assumption|((repeat(first|exact A1|exact uH|apply A2|apply uT));first|done|fail)|(simp;first|done|omega|fail))[c1]))
  refine D4 A5p (fun w' hw' => B98 w' _ l key hk hn (hv.ks hw'.ks (by simp))) ?_
  by_cases c2 : U4 l key < 0
  ·have e : M7 l ⟨1, key, bk, dl⟩ = none := by unfold M7; simp only; rw [if_pos c1, if_pos c2]
   (have zz:=trivial;repeat((first|clear zz|with_reducible first|refine A3 ?_|refine A5 fun _=>?_|refine A4 fun _=>?_);try simp(disch:=first|omega|assumption|((repeat(first|exact A1|exact uH|apply A2|apply uT));first|done|fail)|(simp;first|done|omega|fail))[c2]))
   rw [e]
   exact B0 v (by simp) (by simpa using Sels.nil)
  ·have e : M7 l ⟨1, key, bk, dl⟩ = some (l.set (U4 l key).toNat ⟨1, key, bk, dl⟩) := by unfold M7; simp only; rw [if_pos c1, if_neg c2]
   (have zz:=trivial;repeat((first|clear zz|with_reducible first|refine A3 ?_|refine A5 fun _=>?_|refine A4 fun _=>?_);try simp(disch:=first|omega|assumption|((repeat(first|exact A1|exact uH|apply A2|apply uT));first|done|fail)|(simp;first|done|omega|fail))[c2]))
   rw [show U4 l key = ((U4 l key).toNat : Int) by omega]
   refine hwith _ _ e fun r => ?_
   (have zz:=trivial;repeat((first|clear zz|with_reducible first|refine A3 ?_|refine A5 fun _=>?_|refine A4 fun _=>?_);try simp(disch:=first|omega|assumption|((repeat(first|exact A1|exact uH|apply A2|apply uT));first|done|fail)|(simp;first|done|omega|fail))[]))
   rw [e]
   exact B0 r (by simp) (by simpa using Sels.cons Sel.here Sels.nil)
 ·have e : M7 l ⟨1, key, bk, dl⟩ = some (l.set (F3 l key).toNat ⟨1, key, bk, dl⟩) := by unfold M7; simp only; rw [if_neg c1, if_neg c1]
  (have zz:=trivial;repeat((first|clear zz|with_reducible first|refine A3 ?_|refine A5 fun _=>?_|refine A4 fun _=>?_);try simp(disch:=first|omega|assumption|((repeat(first|exact A1|exact uH|apply A2|apply uT));first|done|fail)|(simp;first|done|omega|fail))[c1]))
  rw [show F3 l key = ((F3 l key).toNat : Int) by omega]
  refine hwith _ _ e fun r => ?_
  (have zz:=trivial;repeat((first|clear zz|with_reducible first|refine A3 ?_|refine A5 fun _=>?_|refine A4 fun _=>?_);try simp(disch:=first|omega|assumption|((repeat(first|exact A1|exact uH|apply A2|apply uT));first|done|fail)|(simp;first|done|omega|fail))[]))
  rw [e]
  exact B0 r (by simp) (by simpa using Sels.cons Sel.here Sels.nil)
theorem B9b (w : World) (v : Value) (l : List EnV) (at' : Nat) (hn : l.length ≤ 1000000) (hv : D2 w v l.length (l.flatMap E3)) :
  Fn PR B6 108 #[v, .int .i64 (at' : Int)] w (Rn [] w (fun r u => u = r) fun r => [N2 r (l.set at' V9)]) := by
 refine A6v (TW.go (κ := false) (S := []) ?_)
 unfold A1J
 (have zz:=trivial;repeat((first|clear zz|with_reducible first|refine A3 ?_|refine A5 fun _=>?_|refine A4 fun _=>?_);try simp(disch:=first|omega|assumption|((repeat(first|exact A1|exact uH|apply A2|apply uT));first|done|fail)|(simp;first|done|omega|fail))[]))
 refine G7 A0a (fun w' hw' => B4c w' v l at' V9 hn (hv.ks hw'.ks (by simp))) ?_
 intro _ r hr
 subst hr
 exact B0 r rfl (by (repeat' constructor))
theorem B5v (w : World) (n : Nat) (hn : n ≤ 1000000) : Fn PR B6 40 #[.int .i64 (n : Int)] w (Rn [] w (fun r u => u = r) fun r => [N2 r (newE n)]) := by
 refine A8J (TW.go (κ := false) (S := []) ?_)
 unfold A1r
 have e : max 0 (min (n : Int) 64) = ((min n 64 : Nat) : Int) := by omega
 (have zz:=trivial;repeat((first|clear zz|with_reducible first|refine A3 ?_|refine A5 fun _=>?_|refine A4 fun _=>?_);try simp(disch:=first|omega|assumption|((repeat(first|exact A1|exact uH|apply A2|apply uT));first|done|fail)|(simp;first|done|omega|fail))[]))
 rw [e]
 refine A0r (by omega) (by omega) (by omega) (by omega) fun b => ?_
 rw [Int.toNat_natCast, C31]
 refine B0 _ rfl ?_
 simp only [N2, newE, List.length_replicate]
 (repeat' constructor)
def s6 (l : List EnV) (i : Nat) : List EnV := (Q1 (l.take i)).foldl (fun acc p => V7 acc p.2) (newE l.length)
theorem B8n {l : List EnV} {i : Nat} {x : EnV} (hx : l[i]? = some x) : s6 l (i + 1) = if x.st = 1 then V7 (s6 l i) x else s6 l i := by
 unfold s6
 rw [B2P hx, List.foldl_append]
 split <;> rfl
theorem C1c (l : List EnV) (i : Nat) : (s6 l i).length = min l.length 64 := by unfold s6; rw [B1s, A4x]
theorem C06 (w : World) (v : Value) (l : List EnV) (hks : L5 l) (hn : l.length ≤ 1000000) (hv : D2 w v l.length (l.flatMap E3)) :
  Fn PR B6 136 #[v] w (Rn [] w (fun r u => u = r) fun r => [N2 r (Z7 l)]) := by
 refine A6p (TW.go (κ := false) (S := []) ?_)
 unfold A0z
 obtain ⟨a, c, rfl, hr⟩ := hv.form
 (have zz:=trivial;repeat((first|clear zz|with_reducible first|refine A3 ?_|refine A5 fun _=>?_|refine A4 fun _=>?_);try simp(disch:=first|omega|assumption|((repeat(first|exact A1|exact uH|apply A2|apply uT));first|done|fail)|(simp;first|done|omega|fail))[]))
 refine G7 A1F (fun w' _ => B5v w' l.length hn) ?_
 intro _ r0 hr0
 subst hr0
 (have zz:=trivial;repeat((first|clear zz|with_reducible first|refine A3 ?_|refine A5 fun _=>?_|refine A4 fun _=>?_);try simp(disch:=first|omega|assumption|((repeat(first|exact A1|exact uH|apply A2|apply uT));first|done|fail)|(simp;first|done|omega|fail))[]))
 refine Q6 l.length (fun i (r : Value) => r) (fun i r => [N2 r (s6 l i)]) (fun i r => True) r0 trivial ?_ (by simp [s6, Q1, d8])
 rintro i r hi _ L hL
 by_cases hlt : i < l.length
 ·have hx : l[i]? = some l[i] := List.getElem?_eq_getElem hlt
  obtain ⟨b, o, rfl, hrow⟩ := hr (by omega)
  have h0 := hrow.cellAt (f := E3) (k := 4) (j := 0) (fun _ => rfl) hx rfl
  have h1 := hrow.cellAt (f := E3) (k := 4) (j := 1) (fun _ => rfl) hx rfl
  have h2 := hrow.cellAt (f := E3) (k := 4) (j := 2) (fun _ => rfl) hx rfl
  have h3 := hrow.cellAt (f := E3) (k := 4) (j := 3) (fun _ => rfl) hx rfl
  have hst := B8n hx
  have hkx : l[i].key.size < 2 ^ 60 := hks _ (List.getElem_mem hlt)
  have hlen := C1c l i
  by_cases c1 : l[i].st = 1
  ·rw [if_pos c1] at hst
   (have zz:=trivial;repeat((first|clear zz|with_reducible first|refine A3 ?_|refine A5 fun _=>?_|refine A4 fun _=>?_);try simp(disch:=first|omega|assumption|((repeat(first|exact A1|exact uH|apply A2|apply uT));first|done|fail)|(simp;first|done|omega|fail))[hlt, h0, h1, h2, h3, c1]))
   refine G7 A63 (fun w' hw' => C17 w' r (s6 l i) l[i].key l[i].bk l[i].dl hkx (by omega) (H3.own (by (repeat constructor)) w' hw')) ?_
   have hxe : (⟨1, l[i].key, l[i].bk, l[i].dl⟩ : EnV) = l[i] := by cases hl : l[i]; rw [hl] at c1; simp only at c1; subst c1; rfl
   rintro r2 _ rfl
   rw [hxe]
   cases hp : M7 (s6 l i) l[i] with
   | none =>
    have e2 : V7 (s6 l i) l[i] = s6 l i := by unfold V7; rw [hp]; rfl
    (have zz:=trivial;repeat((first|clear zz|with_reducible first|refine A3 ?_|refine A5 fun _=>?_|refine A4 fun _=>?_);try simp(disch:=first|omega|assumption|((repeat(first|exact A1|exact uH|apply A2|apply uT));first|done|fail)|(simp;first|done|omega|fail))[]))
    have h := hL hlt r trivial
    rw [hst, e2] at h
    exact Sels.tw (by (repeat' constructor)) h
   | some u =>
    have e2 : V7 (s6 l i) l[i] = u := by unfold V7; rw [hp]; rfl
    (have zz:=trivial;repeat((first|clear zz|with_reducible first|refine A3 ?_|refine A5 fun _=>?_|refine A4 fun _=>?_);try simp(disch:=first|omega|assumption|((repeat(first|exact A1|exact uH|apply A2|apply uT));first|done|fail)|(simp;first|done|omega|fail))[]))
    have h := hL hlt r2 trivial
    rw [hst, e2] at h
    exact Sels.tw (by (repeat' constructor)) h
  ·rw [if_neg c1] at hst
   (have zz:=trivial;repeat((first|clear zz|with_reducible first|refine A3 ?_|refine A5 fun _=>?_|refine A4 fun _=>?_);try simp(disch:=first|omega|assumption|((repeat(first|exact A1|exact uH|apply A2|apply uT));first|done|fail)|(simp;first|done|omega|fail))[hlt, h0, c1]))
   have h := hL hlt r trivial
   rw [hst] at h
   exact Sels.tw (by (repeat' constructor)) h
 ·obtain rfl : i = l.length := by omega
  have e : s6 l l.length = Z7 l := by unfold s6 Z7; rw [List.take_length]
  (have zz:=trivial;repeat((first|clear zz|with_reducible first|refine A3 ?_|refine A5 fun _=>?_|refine A4 fun _=>?_);try simp(disch:=first|omega|assumption|((repeat(first|exact A1|exact uH|apply A2|apply uT));first|done|fail)|(simp;first|done|omega|fail))[]))
  rw [e]
  exact B0 r rfl (by (repeat' constructor))
theorem B7f (w : World) (v : Value) (l : List EnV) (hks : L5 l) (hn : l.length ≤ 1000000) (hv : D2 w v l.length (l.flatMap E3)) :
  Fn PR B6 109 #[v] w (Rn [] w (fun r u => u = if l.length < 2 * N3 l 2 then r else v) fun r => if l.length < 2 * N3 l 2 then [N2 r (M5 l)] else []) := by
 refine A5T (TW.go (κ := false) (S := []) ?_)
 unfold y9
 obtain ⟨a, c, rfl, hr⟩ := hv.form
 refine D4 A0C (fun w' hw' => B2w w' _ l 2 hn (hv.ks hw'.ks (by simp))) ?_
 have hle : N3 l 2 ≤ l.length := List.countP_le_length
 have hw2 : IntKind.i64.wrap (2 * ((N3 l 2 : Nat) : Int)) = 2 * ((N3 l 2 : Nat) : Int) := N1 (by omega) (by omega)
 by_cases c1 : l.length < 2 * N3 l 2
 ·have c1' : (l.length : Int) < 2 * ((N3 l 2 : Nat) : Int) := by omega
  have e : M5 l = Z7 l := by unfold M5; rw [if_pos c1]
  (have zz:=trivial;repeat((first|clear zz|with_reducible first|refine A3 ?_|refine A5 fun _=>?_|refine A4 fun _=>?_);try simp(disch:=first|omega|assumption|((repeat(first|exact A1|exact uH|apply A2|apply uT));first|done|fail)|(simp;first|done|omega|fail))[hw2, c1']))
  refine G7 A5z (fun w' hw' => C06 w' _ l hks hn (hv.ks hw'.ks (by simp))) ?_
  intro _ r hr
  subst hr
  refine B0 r (by simp [c1]) ?_
  rw [if_pos c1, e]
  (repeat' constructor)
 ·have c1' : ¬ (l.length : Int) < 2 * ((N3 l 2 : Nat) : Int) := by omega
  (have zz:=trivial;repeat((first|clear zz|with_reducible first|refine A3 ?_|refine A5 fun _=>?_|refine A4 fun _=>?_);try simp(disch:=first|omega|assumption|((repeat(first|exact A1|exact uH|apply A2|apply uT));first|done|fail)|(simp;first|done|omega|fail))[hw2, c1']))
  refine B0 .nilIface (by simp [c1]) ?_
  rw [if_neg c1]
  exact Sels.nil
theorem B9C {w : World} {H : List Res} {K : Value → WP} {r : Value} {l : List EnV} (hks : L5 l) (hn : l.length ≤ 1000000) (hK : ∀ r, TW false [] w (N2 r (M5 l) :: H) (K r)) :
  TW false [] w (N2 r l :: H) (B3 PR B6 109 [r] K) := by
 refine G7 A4l (fun w' hw' => B7f w' r l hks hn (H3.own A1 w' hw')) ?_
 rintro r2 _ rfl
 by_cases c1 : l.length < 2 * N3 l 2
 ·rw [if_pos c1, if_pos c1]
  exact TW.sub (hK r2) (List.Sublist.cons_cons _ (List.sublist_cons_self ..))
 ·rw [if_neg c1, if_neg c1]
  have e : M5 l = l := by unfold M5; rw [if_neg c1]
  have := hK r
  rw [e] at this
  exact this
end Go.Proofs.YtpnidmkaobfhiaaGreat
namespace Go.Proofs.YtpnidmkaobfhiaaGreat
open Go
def A0U (X : Nat → Prop) (t0 : Value) (R : Value → WP) : WP :=
 jn (n := 1) (fun t2 =>
 jn (n := 2) (fun t2_1 t3 =>
 R (.int .i64 0)) fun J1 =>
 lp (n := 2) (fun L2 t2_2 t3_1 =>
 jn (n := 0) (
 jn (n := 1) (fun t2_3 =>
 A0 PR (binOp .add 3 t3_1 (.int .i64 1)) fun t13 =>
 L2 t2_3 t13) fun J3 =>
 A0 PR (Instr.indexAt 36 t0 t3_1) fun t16 =>
 A6 PR (Instr.loadAt 83 t16) fun t17 =>
 B9 PR X (Instr.alloc 83 true (.tuple #[])) fun t4 =>
 C2 PR X (Instr.storeAt 83 t4 t17) <|
 A0 PR (Instr.fieldAt 83 t4 0) fun t18 =>
 A6 PR (Instr.loadAt 3 t18) fun t19 =>
 A0 PR (binOp .lss 3 t19 (.int .i64 1)) fun t20 =>
 gj t20 false (fun J => A0 PR (Instr.fieldAt 83 t4 0) J) fun t22 =>
 gj t20 false (fun J => A6 PR (Instr.loadAt 3 t22) J) fun t23 =>
 gj t20 false (fun J => A0 PR (binOp .gtr 3 t23 (.int .i64 65535)) J) fun t24 =>
 A0 PR (do pure (if ← asBool t20 then (.bool true) else t24)) fun t25 =>
 gj t25 false (fun J => A0 PR (Instr.fieldAt 83 t4 1) J) fun t27 =>
 gj t25 false (fun J => A6 PR (Instr.loadAt 3 t27) J) fun t28 =>
 gj t25 false (fun J => A0 PR (binOp .lss 3 t28 (.int .i64 1)) J) fun t29 =>
 A0 PR (do pure (if ← asBool t25 then (.bool true) else t29)) fun t30 =>
 gj t30 false (fun J => A0 PR (Instr.fieldAt 83 t4 1) J) fun t32 =>
 gj t30 false (fun J => A6 PR (Instr.loadAt 3 t32) J) fun t33 =>
 gj t30 false (fun J => A0 PR (binOp .gtr 3 t33 (.int .i64 16)) J) fun t34 =>
 A0 PR (do pure (if ← asBool t30 then (.bool true) else t34)) fun t35 =>
 gj t35 false (fun J => J t0) fun t37 =>
 gj t35 false (fun J => A0 PR (Instr.fieldAt 83 t4 0) J) fun t38 =>
 gj t35 false (fun J => A6 PR (Instr.loadAt 3 t38) J) fun t39 =>
 gj t35 false (fun J => B3 PR X 102 [t37, t39] J) fun t40 =>
 gj t35 false (fun J => J t3_1) fun t41 =>
 gj t35 false (fun J => A0 PR (binOp .neq 3 t40 t41) J) fun t42 =>
 A0 PR (do pure (if ← asBool t35 then (.bool true) else t42)) fun t43 =>
 B7 t43 (
 R (.int .i64 10)) (
 J3 t2_2)) fun J4 =>
 A0 PR (A8 .len #[36] 0 [t0]) fun t10 =>
 A0 PR (binOp .lss 3 t3_1 t10) fun t11 =>
 B7 t11 (
 J4) (
 J1 t2_2 t3_1)) t2 (.int .i64 0)) fun J5 =>
 A0 PR (A8 .len #[36] 0 [t0]) fun t6 =>
 A0 PR (binOp .gtr 3 t6 (.int .i64 32)) fun t7 =>
 B7 t7 (
 R (.int .i64 10)) (
 J5 (.int .i64 0))
theorem F5 : B2 PR 81 := A7 Tryz.func81 (by kernel_rfl) rfl
theorem A5r {X : Nat → Prop} {t0 : Value} {R : Value → WP} {w : World} (h : A0U X t0 R w) : Fn PR X 81 #[t0] w R := C9 (args := [t0]) mixed Tryz.func81 (by kernel_rfl) h
def A0w (X : Nat → Prop) (t0 t1 : Value) (R : Value → WP) : WP :=
 jn (n := 1) (fun t4 =>
 jn (n := 2) (fun t4_1 t5 =>
 R (.bool true)) fun J1 =>
 lp (n := 2) (fun L2 t4_2 t5_1 =>
 jn (n := 0) (
 jn (n := 1) (fun t4_3 =>
 A0 PR (binOp .add 3 t5_1 (.int .i64 1)) fun t16 =>
 L2 t4_3 t16) fun J3 =>
 drw <|
 A0 PR (Instr.indexAt 54 t0 t5_1) fun t19 =>
 A6 PR (Instr.loadAt 3 t19) fun t20 =>
 A0 PR (Instr.indexAt 54 t1 t5_1) fun t23 =>
 A6 PR (Instr.loadAt 3 t23) fun t24 =>
 A0 PR (binOp .neq 3 t20 t24) fun t25 =>
 B7 t25 (
 R (.bool false)) (
 J3 t4_2)) fun J4 =>
 A0 PR (A8 .len #[54] 0 [t0]) fun t13 =>
 A0 PR (binOp .lss 3 t5_1 t13) fun t14 =>
 B7 t14 (
 J4) (
 J1 t4_2 t5_1)) t4 (.int .i64 0)) fun J5 =>
 A0 PR (A8 .len #[54] 0 [t0]) fun t7 =>
 A0 PR (A8 .len #[54] 0 [t1]) fun t9 =>
 A0 PR (binOp .neq 3 t7 t9) fun t10 =>
 B7 t10 (
 R (.bool false)) (
 J5 (.bool false))
theorem A5q : B2 PR 88 := A7 Tryz.func88 (by kernel_rfl) rfl
theorem A7N {X : Nat → Prop} {t0 t1 : Value} {R : Value → WP} {w : World} (h : A0w X t0 t1 R w) : Fn PR X 88 #[t0, t1] w R := C9 (args := [t0, t1]) mixed Tryz.func88 (by kernel_rfl) h
def A1S (X : Nat → Prop) (t0 t1 : Value) (R : Value → WP) : WP :=
 jn (n := 2) (fun t4 t5 =>
 R (.int .i64 (-1))) fun J1 =>
 lp (n := 2) (fun L2 t4_1 t5_1 =>
 jn (n := 0) (
 jn (n := 1) (fun t4_2 =>
 A0 PR (binOp .add 3 t5_1 (.int .i64 1)) fun t11 =>
 L2 t4_2 t11) fun J3 =>
 A0 PR (Instr.indexAt 36 t0 t5_1) fun t14 =>
 A0 PR (Instr.fieldAt 83 t14 0) fun t15 =>
 A6 PR (Instr.loadAt 3 t15) fun t16 =>
 A0 PR (binOp .eql 3 t16 t1) fun t18 =>
 B7 t18 (
 R t5_1) (
 J3 t4_1)) fun J4 =>
 A0 PR (A8 .len #[36] 0 [t0]) fun t8 =>
 A0 PR (binOp .lss 3 t5_1 t8) fun t9 =>
 B7 t9 (
 J4) (
 J1 t4_1 t5_1)) (.int .i64 0) (.int .i64 0)
theorem A5c : B2 PR 102 := A7 Tryz.func102 (by kernel_rfl) rfl
theorem A6y {X : Nat → Prop} {t0 t1 : Value} {R : Value → WP} {w : World} (h : A1S X t0 t1 R w) : Fn PR X 102 #[t0, t1] w R := C9 (args := [t0, t1]) mixed Tryz.func102 (by kernel_rfl) h
end Go.Proofs.YtpnidmkaobfhiaaGreat
namespace Go.Proofs.YtpnidmkaobfhiaaGreat
open Go
end Go.Proofs.YtpnidmkaobfhiaaGreat
namespace Go.Proofs.YtpnidmkaobfhiaaGreat
open Go
section
variable {κ : Bool} {X : Nat → Prop} {S : List Nat} {w0 : World} {H H' Hk : List Res} {K : Value → WP} {K0 : WP}
end
end Go.Proofs.YtpnidmkaobfhiaaGreat
namespace Go.Proofs.YtpnidmkaobfhiaaGreat
open Go
theorem H3.mono {κ : Bool} {S : List Nat} {w0 : World} {H H' : List Res} {v : Value} {n : Nat} {xs : List Value} (h : H3 κ S w0 H v n xs) (hs : H.Sublist H') : H3 κ S w0 H' v n xs := fun w hw => h w (hw.sub hs)
def RdC (w : World) (v : Value) (l : List (Nat × Int)) : Prop := D2 w v l.length (l.flatMap L0) ∧ ∃ a c, v = .slice a l.length c ∧ l.length ≤ c
theorem RdC.ks {w w' : World} {v : Value} {l : List (Nat × Int)} (h : RdC w v l) (hk : KS false [] w w') : RdC w' v l := ⟨h.1.ks hk (by simp), h.2⟩
end Go.Proofs.YtpnidmkaobfhiaaGreat
namespace Go.Proofs.YtpnidmkaobfhiaaGreat
open Go
end Go.Proofs.YtpnidmkaobfhiaaGreat
namespace Go.Proofs.YtpnidmkaobfhiaaGreat
open Go
theorem C1s (w : World) (v : Value) (l : List G8) (id : Int) (hn : l.length ≤ 1000000) (hv : D2 w v l.length (l.flatMap E6)) :
  Fn PR B6 102 #[v, .int .i64 id] w (fun r w' => r = .int .i64 (A2p l id) ∧ D6 [] w w') := by
 refine Fn.pure (A6y (TW.go (κ := false) (S := []) ?_))
 unfold A1S
 obtain ⟨a, c, rfl, hr⟩ := hv.form
 (have zz:=trivial;repeat((first|clear zz|with_reducible first|refine A3 ?_|refine A5 fun _=>?_|refine A4 fun _=>?_);try simp(disch:=first|omega|assumption|((repeat(first|exact A1|exact uH|apply A2|apply uT));first|done|fail)|(simp;first|done|omega|fail))[]))
 refine Q6 (α := Unit) l.length (fun _ _ => .int .i64 0) (fun _ _ => []) (fun i _ => ∀ j y, j < i → l[j]? = some y → decide (y.1 = id) = false) () (by intro j _ hj; omega) ?_
 rintro i _ hi hpre L hL
 by_cases hlt : i < l.length
 ·obtain ⟨b, o, rfl, hrow⟩ := hr (by omega)
  have hx : l[i]? = some l[i] := List.getElem?_eq_getElem hlt
  have h1 := hrow.cellAt (f := E6) (k := 2) (j := 0) (fun _ => rfl) hx rfl
  by_cases c1 : l[i].1 = id
  ·(have zz:=trivial;repeat((first|clear zz|with_reducible first|refine A3 ?_|refine A5 fun _=>?_|refine A4 fun _=>?_);try simp(disch:=first|omega|assumption|((repeat(first|exact A1|exact uH|apply A2|apply uT));first|done|fail)|(simp;first|done|omega|fail))[hlt, h1, c1]))
   exact B4 (by rw [A2p, B0l hx (by simpa using c1) hpre])
  ·(have zz:=trivial;repeat((first|clear zz|with_reducible first|refine A3 ?_|refine A5 fun _=>?_|refine A4 fun _=>?_);try simp(disch:=first|omega|assumption|((repeat(first|exact A1|exact uH|apply A2|apply uT));first|done|fail)|(simp;first|done|omega|fail))[hlt, h1, c1]))
   refine hL hlt () fun j y hj hy => ?_
   by_cases hji : j = i
   ·subst hji; rw [hx] at hy; cases hy; simpa using c1
   ·exact hpre j y (by omega) hy
 ·obtain rfl : i = l.length := by omega
  (have zz:=trivial;repeat((first|clear zz|with_reducible first|refine A3 ?_|refine A5 fun _=>?_|refine A4 fun _=>?_);try simp(disch:=first|omega|assumption|((repeat(first|exact A1|exact uH|apply A2|apply uT));first|done|fail)|(simp;first|done|omega|fail))[]))
  exact B4 (by rw [A2p, B4g fun j y hy => hpre j y (List.getElem?_eq_some_iff.1 hy).1 hy])
end Go.Proofs.YtpnidmkaobfhiaaGreat
namespace Go.Proofs.YtpnidmkaobfhiaaGreat
open Go
end Go.Proofs.YtpnidmkaobfhiaaGreat
namespace Go.Proofs.YtpnidmkaobfhiaaGreat
open Go
end Go.Proofs.YtpnidmkaobfhiaaGreat
namespace Go.Proofs.YtpnidmkaobfhiaaGreat
open Go
end Go.Proofs.YtpnidmkaobfhiaaGreat
namespace Go.Proofs.YtpnidmkaobfhiaaGreat
open Go
theorem B7Z {l : List G8} {i : Nat} {x : G8} (hx : l[i]? = some x) (h : ∀ j y, j < i → l[j]? = some y → y.1 ≠ x.1) : A2p l x.1 = (i : Nat) := by
 rw [A2p, B0l hx (by simp) fun j y hj hy => by simpa using h j y hj hy]
theorem B4Y (l : List G8) : n5 l = true ↔ ∀ i x, l[i]? = some x → A2q x = true ∧ A2p l x.1 = (i : Nat) := by
 rw [A4g]
 constructor
 ·rintro ⟨h1, h2⟩ i x hx
  exact ⟨h1 x (List.mem_of_getElem? hx), B7Z hx fun j y hj hy => C4M h2 hj hy hx⟩
 ·intro h
  refine ⟨fun b hb => ?_, List.pairwise_iff_getElem.2 fun i j hi hj hij e => ?_⟩
  ·obtain ⟨i, hi⟩ := List.getElem?_of_mem hb
   exact (h i b hi).1
  ·have h1 := (h i _ (List.getElem?_eq_getElem hi)).2
   have h2 := (h j _ (List.getElem?_eq_getElem hj)).2
   rw [e, h2] at h1
   omega
theorem q5 (w : World) (v : Value) (l : List G8) (hn : l.length ≤ 1000000) (hv : D2 w v l.length (l.flatMap E6)) :
  Fn PR B6 81 #[v] w (fun r w' => r = .int .i64 (G2 l) ∧ D6 [] w w') := by
 refine Fn.pure (A5r (TW.go (κ := false) (S := []) ?_))
 unfold A0U
 obtain ⟨a, c, rfl, hr⟩ := hv.form
 by_cases c0 : 32 < l.length
 ·have c0' : (32 : Int) < l.length := by omega
  (have zz:=trivial;repeat((first|clear zz|with_reducible first|refine A3 ?_|refine A5 fun _=>?_|refine A4 fun _=>?_);try simp(disch:=first|omega|assumption|((repeat(first|exact A1|exact uH|apply A2|apply uT));first|done|fail)|(simp;first|done|omega|fail))[c0, c0']))
  exact B4 (by simp [G2]; omega)
 have c0' : ¬ (32 : Int) < l.length := by omega
 (have zz:=trivial;repeat((first|clear zz|with_reducible first|refine A3 ?_|refine A5 fun _=>?_|refine A4 fun _=>?_);try simp(disch:=first|omega|assumption|((repeat(first|exact A1|exact uH|apply A2|apply uT));first|done|fail)|(simp;first|done|omega|fail))[c0, c0']))
 refine Q6 (α := Unit) l.length (fun _ _ => .int .i64 0) (fun _ _ => []) (fun i _ => ∀ j x, j < i → l[j]? = some x → A2q x = true ∧ A2p l x.1 = (j : Nat)) () (by intro j x hj; omega) ?_
 rintro i _ hi hpre L hL
 by_cases hlt : i < l.length
 ·obtain ⟨b, o, rfl, hrow⟩ := hr (by omega)
  have hx : l[i]? = some l[i] := List.getElem?_eq_getElem hlt
  generalize l[i] = x at hx
  have h1 := hrow.at (f := E6) (k := 2) (fun _ => rfl) hx
  rw [E6] at h1
  have bad : ¬ (A2q x = true ∧ A2p l x.1 = (i : Nat)) → G2 l = 10 := fun h => by
   have : n5 l = false := by
    rw [← Bool.not_eq_true, B4Y]
    exact fun hh => h (hh i x hx)
   simp [G2, this]
  by_cases c1 : x.1 < 1
  ·rw [bad fun h => by have := h.1; simp [A2q] at this; omega]
   (have zz:=trivial;repeat((first|clear zz|with_reducible first|refine A3 ?_|refine A5 fun _=>?_|refine A4 fun _=>?_);try simp(disch:=first|omega|assumption|((repeat(first|exact A1|exact uH|apply A2|apply uT));first|done|fail)|(simp;first|done|omega|fail))[hlt, h1, c1]))
   exact B4 rfl
  by_cases c2 : 65535 < x.1
  ·rw [bad fun h => by have := h.1; simp [A2q] at this; omega]
   (have zz:=trivial;repeat((first|clear zz|with_reducible first|refine A3 ?_|refine A5 fun _=>?_|refine A4 fun _=>?_);try simp(disch:=first|omega|assumption|((repeat(first|exact A1|exact uH|apply A2|apply uT));first|done|fail)|(simp;first|done|omega|fail))[hlt, h1, c1, c2]))
   exact B4 rfl
  by_cases c3 : x.2 < 1
  ·rw [bad fun h => by have := h.1; simp [A2q] at this; omega]
   (have zz:=trivial;repeat((first|clear zz|with_reducible first|refine A3 ?_|refine A5 fun _=>?_|refine A4 fun _=>?_);try simp(disch:=first|omega|assumption|((repeat(first|exact A1|exact uH|apply A2|apply uT));first|done|fail)|(simp;first|done|omega|fail))[hlt, h1, c1, c2, c3]))
   exact B4 rfl
  by_cases c4 : 16 < x.2
  ·rw [bad fun h => by have := h.1; simp [A2q] at this; omega]
   (have zz:=trivial;repeat((first|clear zz|with_reducible first|refine A3 ?_|refine A5 fun _=>?_|refine A4 fun _=>?_);try simp(disch:=first|omega|assumption|((repeat(first|exact A1|exact uH|apply A2|apply uT));first|done|fail)|(simp;first|done|omega|fail))[hlt, h1, c1, c2, c3, c4]))
   exact B4 rfl
  (have zz:=trivial;repeat((first|clear zz|with_reducible first|refine A3 ?_|refine A5 fun _=>?_|refine A4 fun _=>?_);try simp(disch:=first|omega|assumption|((repeat(first|exact A1|exact uH|apply A2|apply uT));first|done|fail)|(simp;first|done|omega|fail))[hlt, h1, c1, c2, c3, c4]))
  refine D4 A5c (fun w' hw' => C1s w' _ l _ hn (hv.ks hw'.ks (by simp))) ?_
  by_cases c5 : A2p l x.1 = (i : Nat)
  case neg =>
   rw [bad fun h => c5 h.2]
   (have zz:=trivial;repeat((first|clear zz|with_reducible first|refine A3 ?_|refine A5 fun _=>?_|refine A4 fun _=>?_);try simp(disch:=first|omega|assumption|((repeat(first|exact A1|exact uH|apply A2|apply uT));first|done|fail)|(simp;first|done|omega|fail))[c5]))
   exact B4 rfl
  ·(have zz:=trivial;repeat((first|clear zz|with_reducible first|refine A3 ?_|refine A5 fun _=>?_|refine A4 fun _=>?_);try simp(disch:=first|omega|assumption|((repeat(first|exact A1|exact uH|apply A2|apply uT));first|done|fail)|(simp;first|done|omega|fail))[c5]))
   refine Sels.tw .nil (hL hlt () ?_)
   intro j y hj hy
   by_cases hji : j = i
   ·subst hji
    rw [hx] at hy
    cases hy
    exact ⟨by simp [A2q]; omega, c5⟩
   ·exact hpre j y (by omega) hy
 ·obtain rfl : i = l.length := by omega
  have hok : n5 l = true := (B4Y l).2 fun j x hx => hpre j x (List.getElem?_eq_some_iff.1 hx).1 hx
  have hv : G2 l = 0 := by simp [G2, hok]; omega
  rw [hv]
  (have zz:=trivial;repeat((first|clear zz|with_reducible first|refine A3 ?_|refine A5 fun _=>?_|refine A4 fun _=>?_);try simp(disch:=first|omega|assumption|((repeat(first|exact A1|exact uH|apply A2|apply uT));first|done|fail)|(simp;first|done|omega|fail))[]))
  exact B4 rfl
end Go.Proofs.YtpnidmkaobfhiaaGreat
namespace Go.Proofs.YtpnidmkaobfhiaaGreat
open Go
def A0u (X : Nat → Prop) (t0 t1 t2 t3 : Value) (R : Value → WP) : WP :=
 jn (n := 1) (fun t1_1 =>
 A0 PR (A8 .max #[3, 3] 0 [t2, (.int .i64 0)]) fun t23 =>
 A0 PR (A8 .len #[55] 0 [t0]) fun t25 =>
 A0 PR (A8 .min #[3, 3] 0 [t23, t25]) fun t26 =>
 jn (n := 4) (fun t0_1 t12 t1_2 t13 =>
 jn (n := 1) (fun t0_2 =>
 R (.tuple #[t0_2, t1_2, t12])) fun J1 =>
 A0 PR (binOp .gtr 3 t12 (.int .i64 0)) fun t50 =>
 B7 t50 (
 B3 PR X 109 [t0_1] fun t52 =>
 J1 t52) (
 J1 t0_1)) fun J2 =>
 lp (n := 4) (fun L3 t0_3 t12_1 t1_3 t13_1 =>
 jn (n := 0) (
 jn (n := 3) (fun t0_4 t12_2 t1_4 =>
 A0 PR (binOp .add 3 t13_1 (.int .i64 1)) fun t31 =>
 L3 t0_4 t12_2 t1_4 t31) fun J4 =>
 jn (n := 2) (fun t0_5 t12_3 =>
 A0 PR (binOp .add 3 t1_3 (.int .i64 1)) fun t44 =>
 A0 PR (A8 .len #[55] 0 [t0_5]) fun t47 =>
 A0 PR (binOp .eql 3 t44 t47) fun t48 =>
 B7 t48 (
 J4 t0_5 t12_3 (.int .i64 0)) (
 J4 t0_5 t12_3 t44)) fun J5 =>
 A0 PR (Instr.indexAt 55 t0_3 t1_3) fun t34 =>
 A6 PR (Instr.loadAt 155 t34) fun t35 =>
 B3 PR X 107 [t35, t3] fun t37 =>
 B7 t37 (
 B3 PR X 108 [t0_3, t1_3] fun t40 =>
 A0 PR (binOp .add 3 t12_1 (.int .i64 1)) fun t42 =>
 J5 t40 t42) (
 J5 t0_3 t12_1)) fun J6 =>
 A0 PR (binOp .lss 3 t13_1 t26) fun t29 =>
 B7 t29 (
 J6) (
 J2 t0_3 t12_1 t1_3 t13_1)) t0 (.int .i64 0) t1_1 (.int .i64 0)) fun J7 =>
 A0 PR (binOp .lss 3 t1 (.int .i64 0)) fun t15 =>
 gj t15 false (fun J => J t1) fun t17 =>
 gj t15 false (fun J => J t0) fun t18 =>
 gj t15 false (fun J => A0 PR (A8 .len #[55] 0 [t18]) J) fun t19 =>
 gj t15 false (fun J => A0 PR (binOp .geq 3 t17 t19) J) fun t20 =>
 A0 PR (do pure (if ← asBool t15 then (.bool true) else t20)) fun t21 =>
 B7 t21 (
 J7 (.int .i64 0)) (
 J7 t1)
theorem A5f : B2 PR 84 := A7 Tryz.func84 (by kernel_rfl) rfl
theorem A6j {X : Nat → Prop} {t0 t1 t2 t3 : Value} {R : Value → WP} {w : World} (h : A0u X t0 t1 t2 t3 R w) : Fn PR X 84 #[t0, t1, t2, t3] w R := C9 (args := [t0, t1, t2, t3]) mixed Tryz.func84 (by kernel_rfl) h
def A12 (X : Nat → Prop) (t0 t1 : Value) (R : Value → WP) : WP :=
 B9 PR X (Instr.box 155 t0) fun t2 =>
 A0 PR (Instr.fieldAt 155 t2 0) fun t5 =>
 A6 PR (Instr.loadAt 3 t5) fun t6 =>
 A0 PR (binOp .eql 3 t6 (.int .i64 1)) fun t7 =>
 gj t7 true (fun J => A0 PR (Instr.fieldAt 155 t2 3) J) fun t9 =>
 gj t7 true (fun J => A6 PR (Instr.loadAt 3 t9) J) fun t10 =>
 gj t7 true (fun J => J t1) fun t11 =>
 gj t7 true (fun J => A0 PR (binOp .lss 3 t10 t11) J) fun t12 =>
 A0 PR (do pure (if ← asBool t7 then t12 else (.bool false))) fun t13 =>
 R t13
theorem A6m : B2 PR 107 := A7 Tryz.func107 (by kernel_rfl) rfl
theorem A72 {X : Nat → Prop} {t0 t1 : Value} {R : Value → WP} {w : World} (h : A12 X t0 t1 R w) : Fn PR X 107 #[t0, t1] w R := C9 (args := [t0, t1]) mixed Tryz.func107 (by kernel_rfl) h
end Go.Proofs.YtpnidmkaobfhiaaGreat
namespace Go.Proofs.YtpnidmkaobfhiaaGreat
open Go
theorem H3.slice {κ : Bool} {S : List Nat} {w0 : World} {H : List Res} {v : Value} {n : Nat} {xs : List Value} {K0 : WP} (h : H3 κ S w0 H v n xs) (hK : ∀ a c, v = .slice a n c → TW κ S w0 H K0) : TW κ S w0 H K0 := fun w hw => by
 obtain ⟨a, c, e, _⟩ := (h w hw).form
 exact hK a c e w hw
theorem C7x {κ : Bool} {S : List Nat} {w0 : World} {H : List Res} {v : Value} {l : List EnV} {i : Nat} {x : EnV} {K : Value → WP} (h : H3 κ S w0 H v l.length (l.flatMap E3)) (hx : l[i]? = some x) (hK : TW κ S w0 H (K (.agg #[.int .i64 x.st, .string x.key, .int .i64 x.bk, .int .i64 x.dl]))) :
  TW κ S w0 H (A0 PR (Instr.indexAt 55 v (.int .i64 (i : Int))) fun t => A6 PR (Instr.loadAt 155 t) K) := fun w hw => by
 have hi := (List.getElem?_eq_some_iff.1 hx).1
 rcases h w hw with ⟨h0, _⟩ | ⟨b, o, c, rfl, hr⟩
 ·omega
 refine (?_ : TW κ S w0 H _) w hw
 rw [C5Z (by omega) (by omega)]
 refine C51 hK fun w' hw' => ?_
 rcases h w' hw' with ⟨h0, _⟩ | ⟨b', o', c', e, hr'⟩
 ·omega
 cases e
 have h1 := hr'.at (f := E3) (k := 4) (fun _ => rfl) hx
 rw [E3] at h1
 simp [h1]
theorem C2a (w : World) (x : EnV) (now : Int) : Fn PR B6 107 #[.agg #[.int .i64 x.st, .string x.key, .int .i64 x.bk, .int .i64 x.dl], .int .i64 now] w (fun r w' => r = .bool (A1j x now) ∧ D6 [] w w') := by
 refine Fn.pure (A72 (TW.go (κ := false) (S := []) ?_))
 unfold A12
 by_cases c1 : x.st = 1
 ·(have zz:=trivial;repeat((first|clear zz|with_reducible first|refine A3 ?_|refine A5 fun _=>?_|refine A4 fun _=>?_);try simp(disch:=first|omega|assumption|((repeat(first|exact A1|exact uH|apply A2|apply uT));first|done|fail)|(simp;first|done|omega|fail))[c1]))
  exact B4 (by simp [A1j, c1])
 ·(have zz:=trivial;repeat((first|clear zz|with_reducible first|refine A3 ?_|refine A5 fun _=>?_|refine A4 fun _=>?_);try simp(disch:=first|omega|assumption|((repeat(first|exact A1|exact uH|apply A2|apply uT));first|done|fail)|(simp;first|done|omega|fail))[c1]))
  exact B4 (by simp [A1j, c1])
theorem B1b (l : List EnV) (f i : Nat) (now : Int) : Y4 l f (i + 1) now = S0 now (Y4 l f i now) ((f + i) % l.length) := by
 unfold Y4 P4
 rw [List.range_succ, List.map_append, List.foldl_append]; rfl
theorem B8V (l : List EnV) (f i : Nat) (now : Int) : (Y4 l f i now).1.length = l.length := B0E now _ (l, 0)
theorem B1n (l : List EnV) (f i : Nat) (now : Int) (h : (Y4 l f i now).2 = 0) : (Y4 l f i now).1 = l := by
 induction i with
 | zero => rfl
 | succ i ih =>
  rw [B1b] at h ⊢
  unfold S0 at h ⊢
  split at h
  ·simp at h
  ·rename_i hd
   rw [if_neg hd]; exact ih h
theorem B92 (w : World) (v : Value) (l : List EnV) (f n now : Int) (hks : L5 l) (hn : l.length ≤ 1000000) (hv : D2 w v l.length (l.flatMap E3)) :
  Fn PR B6 84 #[v, .int .i64 f, .int .i64 n, .int .i64 now] w (Rn [] w (fun r u => u = .tuple #[if (H5 l f n now).2.2 = 0 then v else r, .int .i64 ((H5 l f n now).2.1 : Nat), .int .i64 ((H5 l f n now).2.2 : Nat)])
   fun r => if (H5 l f n now).2.2 = 0 then [] else [N2 r (H5 l f n now).1]) := by
 refine A6j (TW.go (κ := false) (S := []) ?_)
 unfold A0u
 obtain ⟨a, c, rfl, _⟩ := hv.form
 have hmax : min (max n 0) (l.length : Int) = (T5 l n : Nat) := by unfold T5; omega
 have hfl : G4 l f ≤ 1000000 := by unfold G4; split <;> omega
 refine C4N (Hj := []) (.int .i64 (G4 l f : Nat)) ?_ ?_
 case refine_2 =>
  intro J hJ
  by_cases c1 : f < 0
  ·have e : G4 l f = 0 := by unfold G4; rw [if_pos (Or.inl c1)]
   rw [e] at hJ
   (have zz:=trivial;repeat((first|clear zz|with_reducible first|refine A3 ?_|refine A5 fun _=>?_|refine A4 fun _=>?_);try simp(disch:=first|omega|assumption|((repeat(first|exact A1|exact uH|apply A2|apply uT));first|done|fail)|(simp;first|done|omega|fail))[c1]))
   exact hJ
  by_cases c2 : (l.length : Int) ≤ f
  ·have e : G4 l f = 0 := by unfold G4; rw [if_pos (Or.inr c2)]
   rw [e] at hJ
   (have zz:=trivial;repeat((first|clear zz|with_reducible first|refine A3 ?_|refine A5 fun _=>?_|refine A4 fun _=>?_);try simp(disch:=first|omega|assumption|((repeat(first|exact A1|exact uH|apply A2|apply uT));first|done|fail)|(simp;first|done|omega|fail))[c1, c2]))
   exact hJ
  ·have e : ((G4 l f : Nat) : Int) = f := by unfold G4; rw [if_neg (by omega)]; omega
   rw [e] at hJ
   (have zz:=trivial;repeat((first|clear zz|with_reducible first|refine A3 ?_|refine A5 fun _=>?_|refine A4 fun _=>?_);try simp(disch:=first|omega|assumption|((repeat(first|exact A1|exact uH|apply A2|apply uT));first|done|fail)|(simp;first|done|omega|fail))[c1, c2]))
   exact hJ
 have hml : T5 l n ≤ l.length := by unfold T5; omega
 have hf0 : G4 l f = (G4 l f + 0) % l.length := by
  by_cases h0 : l.length = 0
  ·have : G4 l f = 0 := by unfold G4; split <;> omega
   rw [this]; simp
  ·have : G4 l f < l.length := by unfold G4; split <;> omega
   rw [Nat.add_zero, Nat.mod_eq_of_lt this]
 have hsv : H5 l f n now = (if 0 < (Y4 l (G4 l f) (T5 l n) now).2 then M5 (Y4 l (G4 l f) (T5 l n) now).1 else (Y4 l (G4 l f) (T5 l n) now).1, (G4 l f + T5 l n) % l.length, (Y4 l (G4 l f) (T5 l n) now).2) := by
  have e : (if 0 < l.length then (G4 l f + T5 l n) % l.length else G4 l f) = (G4 l f + T5 l n) % l.length := by
   split
   ·rfl
   ·have h1 : T5 l n = 0 := by omega
    rw [h1]; exact hf0
  unfold H5; rw [e]
 rw [hsv]
 generalize hfv : G4 l f = fv at *
 generalize hmv : T5 l n = mv at *
 (have zz:=trivial;repeat((first|clear zz|with_reducible first|refine A3 ?_|refine A5 fun _=>?_|refine A4 fun _=>?_);try simp(disch:=first|omega|assumption|((repeat(first|exact A1|exact uH|apply A2|apply uT));first|done|fail)|(simp;first|done|omega|fail))[hmax]))
 rw [hmax]
 refine C71 (fun p : Nat × (List EnV × Nat) × Value × Nat => if p.2.1.2 = 0 then [] else [N2 p.2.2.1 p.2.1.1]) (fun p => p.1 ≤ mv ∧ p.2.1 = Y4 l fv p.1 now ∧ p.2.1.2 ≤ p.1 ∧ p.2.2.2 = (fv + p.1) % l.length) (fun p => mv - p.1) (0, (l, 0), .nilIface, fv)
  (fun p => if p.2.1.2 = 0 then .slice a l.length c else p.2.2.1) (fun p => .int .i64 (p.2.1.2 : Nat)) (fun p => .int .i64 (p.2.2.2 : Nat)) (fun p => .int .i64 (p.1 : Nat)) ⟨Nat.zero_le _, rfl, Nat.le_refl _, hf0⟩ ?_
 rintro ⟨i, s, x, q⟩ ⟨hi, hs, hs2, hq⟩ L hL
 simp only at hi hs hs2 hq hL ⊢
 have hsl : s.1.length = l.length := by rw [hs, B8V]
 have hrd : H3 false [] w (if s.2 = 0 then [] else [N2 x s.1]) (if s.2 = 0 then .slice a l.length c else x) s.1.length (s.1.flatMap E3) := by
  by_cases h0 : s.2 = 0
  ·have e : s.1 = l := by rw [hs] at h0 ⊢; exact B1n l fv i now h0
   rw [if_pos h0, if_pos h0, e]
   exact fun w' hw' => hv.ks hw'.ks (by simp)
  ·rw [if_neg h0, if_neg h0]
   exact H3.own (by (repeat constructor))
 have hks2 : L5 s.1 := by rw [hs]; exact B3D now _ (l, 0) hks
 by_cases hlt : i < mv
 ·have hlt' : (i : Int) < mv := by omega
  have hql : q < s.1.length := by rw [hq, hsl]; exact Nat.mod_lt _ (by omega)
  have hx := List.getElem?_eq_getElem hql
  have hnext := B1b l fv i now
  rw [← hs, ← hq] at hnext
  have hgd : s.1.getD q p7 = s.1[q] := by rw [List.getD_eq_getElem?_getD, hx]; rfl
  have hqn : (fv + (i + 1)) % l.length = if q + 1 = l.length then 0 else q + 1 := by
   have h1 : q < l.length := by omega
   rw [← Nat.add_assoc, Nat.add_mod, ← hq]
   by_cases h2 : l.length = 1
   ·rw [h2] at h1 ⊢; have : q = 0 := by omega
    subst this; simp
   ·rw [Nat.mod_eq_of_lt (show 1 < l.length by omega)]
    split
    ·rename_i h3; rw [h3, Nat.mod_self]
    ·exact Nat.mod_eq_of_lt (by omega)
  unfold S0 at hnext
  rw [hgd] at hnext
  generalize s.1[q] = y at *
  generalize hT : (if s.2 = 0 then Value.slice a l.length c else x) = tv at *
  generalize hH : (if s.2 = 0 then [] else [N2 x s.1]) = H at *
  (have zz:=trivial;repeat((first|clear zz|with_reducible first|refine A3 ?_|refine A5 fun _=>?_|refine A4 fun _=>?_);try simp(disch:=first|omega|assumption|((repeat(first|exact A1|exact uH|apply A2|apply uT));first|done|fail)|(simp;first|done|omega|fail))[hlt']))
  refine C7x hrd hx ?_
  refine D4 A6m (fun w' _ => C2a w' y now) ?_
  cases hd : A1j y now with
  | true =>
   rw [hd, if_pos rfl] at hnext
   (have zz:=trivial;repeat((first|clear zz|with_reducible first|refine A3 ?_|refine A5 fun _=>?_|refine A4 fun _=>?_);try simp(disch:=first|omega|assumption|((repeat(first|exact A1|exact uH|apply A2|apply uT));first|done|fail)|(simp;first|done|omega|fail))[]))
   refine G7 A51 (fun w' hw' => B9b w' tv s.1 q (by omega) (hrd w' hw')) ?_
   intro _ r hr
   subst hr
   refine H7 (by (repeat constructor)) fun ra rc hr => ?_
   subst hr
   have hsl2 : (s.1.set q V9).length = l.length := by simpa using hsl
   have h := hL (i + 1, (s.1.set q V9, s.2 + 1), .slice ra (s.1.set q V9).length rc, (fv + (i + 1)) % l.length) ⟨by simp only; omega, hnext.symm, by simp only; omega, rfl⟩ (by simp only; omega)
   rw [hqn] at h
   have hz : ¬ s.2 + 1 = 0 := by omega
   simp only [if_neg hz, hsl2] at h ⊢
   by_cases c5 : q + 1 = l.length
   ·have c5' : (q : Int) + 1 = l.length := by omega
    rw [if_pos c5] at h
    (have zz:=trivial;repeat((first|clear zz|with_reducible first|refine A3 ?_|refine A5 fun _=>?_|refine A4 fun _=>?_);try simp(disch:=first|omega|assumption|((repeat(first|exact A1|exact uH|apply A2|apply uT));first|done|fail)|(simp;first|done|omega|fail))[c5, c5']))
    exact Sels.tw (by (repeat' constructor)) h
   ·have c5' : ¬ (q : Int) + 1 = l.length := by omega
    rw [if_neg c5] at h
    (have zz:=trivial;repeat((first|clear zz|with_reducible first|refine A3 ?_|refine A5 fun _=>?_|refine A4 fun _=>?_);try simp(disch:=first|omega|assumption|((repeat(first|exact A1|exact uH|apply A2|apply uT));first|done|fail)|(simp;first|done|omega|fail))[c5, c5']))
    exact Sels.tw (by (repeat' constructor)) h
  | false =>
   rw [hd, if_neg (by simp)] at hnext
   refine hrd.slice fun a' c' e => ?_
   have h := hL (i + 1, s, x, (fv + (i + 1)) % l.length) ⟨by simp only; omega, hnext.symm, by simp only; omega, rfl⟩ (by simp only; omega)
   rw [hqn] at h
   simp only [hT, hH] at h
   subst e
   rw [hsl] at h ⊢
   by_cases c5 : q + 1 = l.length
   ·have c5' : (q : Int) + 1 = l.length := by omega
    rw [if_pos c5] at h
    (have zz:=trivial;repeat((first|clear zz|with_reducible first|refine A3 ?_|refine A5 fun _=>?_|refine A4 fun _=>?_);try simp(disch:=first|omega|assumption|((repeat(first|exact A1|exact uH|apply A2|apply uT));first|done|fail)|(simp;first|done|omega|fail))[c5, c5']))
    exact h
   ·have c5' : ¬ (q : Int) + 1 = l.length := by omega
    rw [if_neg c5] at h
    (have zz:=trivial;repeat((first|clear zz|with_reducible first|refine A3 ?_|refine A5 fun _=>?_|refine A4 fun _=>?_);try simp(disch:=first|omega|assumption|((repeat(first|exact A1|exact uH|apply A2|apply uT));first|done|fail)|(simp;first|done|omega|fail))[c5, c5']))
    exact h
 ·obtain rfl : i = mv := by omega
  rw [← hs]
  by_cases h0 : s.2 = 0
  ·have h0' : ¬ (0 < s.2) := by omega
   simp only [if_pos h0, if_neg h0']
   (have zz:=trivial;repeat((first|clear zz|with_reducible first|refine A3 ?_|refine A5 fun _=>?_|refine A4 fun _=>?_);try simp(disch:=first|omega|assumption|((repeat(first|exact A1|exact uH|apply A2|apply uT));first|done|fail)|(simp;first|done|omega|fail))[h0, h0']))
   exact B0 .nilIface (by simp [hq]) Sels.nil
  ·have h0' : 0 < s.2 := by omega
   have h0i : (0 : Int) < (s.2 : Nat) := by omega
   simp only [if_neg h0, if_pos h0']
   (have zz:=trivial;repeat((first|clear zz|with_reducible first|refine A3 ?_|refine A5 fun _=>?_|refine A4 fun _=>?_);try simp(disch:=first|omega|assumption|((repeat(first|exact A1|exact uH|apply A2|apply uT));first|done|fail)|(simp;first|done|omega|fail))[h0, h0', h0i]))
   refine B9C hks2 (by omega) fun r => ?_
   (have zz:=trivial;repeat((first|clear zz|with_reducible first|refine A3 ?_|refine A5 fun _=>?_|refine A4 fun _=>?_);try simp(disch:=first|omega|assumption|((repeat(first|exact A1|exact uH|apply A2|apply uT));first|done|fail)|(simp;first|done|omega|fail))[]))
   exact B0 r (by simp [hq]) (by (repeat' constructor))
end Go.Proofs.YtpnidmkaobfhiaaGreat
namespace Go.Proofs.YtpnidmkaobfhiaaGreat
open Go
structure RdN (bad : List Nat) (w : World) (v : Value) (n : Nat) (xs : List Value) : Prop where
 rd : D2 w v n xs
 off : 0 < n → ∀ g ∈ Q9 v, g ∉ bad
 nil : n = 0 → xs = []
theorem RdN.ks {κ : Bool} {S bad : List Nat} {w w' : World} {v : Value} {n : Nat} {xs : List Value} (h : RdN bad w v n xs) (hk : KS κ S w w') (hs : ∀ s ∈ S, s ∈ bad) : RdN bad w' v n xs :=
 ⟨h.rd.ks0 h.nil hk fun h0 g hg hgS => h.off h0 g hg (hs g hgS), h.off, h.nil⟩
theorem RdN.sub {bad bad' : List Nat} {w : World} {v : Value} {n : Nat} {xs : List Value} (h : RdN bad w v n xs) (hs : ∀ s ∈ bad', s ∈ bad) : RdN bad' w v n xs := ⟨h.rd, fun h0 g hg hb => h.off h0 g hg (hs g hb), h.nil⟩
theorem RdN.open {bad : List Nat} {w : World} {v : Value} {n : Nat} {xs : List Value} (h : RdN bad w v n xs) : ∃ a c, v = .slice a n c ∧ (0 < n → ∃ b o, a = some ⟨b, o, none⟩ ∧ P9 w b o xs ∧ b ∉ bad) := by
 obtain ⟨a, c, e, hr⟩ := h.rd.form
 refine ⟨a, c, e, fun h0 => ?_⟩
 obtain ⟨b, o, ea, hrow⟩ := hr h0
 refine ⟨b, o, ea, hrow, h.off h0 b ?_⟩
 rw [e, ea]; simp [Q9]
end Go.Proofs.YtpnidmkaobfhiaaGreat
namespace Go.Proofs.YtpnidmkaobfhiaaGreat
open Go
section
variable {κ : Bool} {S : List Nat} {w0 w : World} {H Hk : List Res} {K : Value → WP}
theorem Part.skip {x : Res} {Hc : List Res} (h : Part Hc H Hk) : Part Hc (x :: H) (x :: Hk) := by
 induction h with
 | nil => exact Part.nil
 | cons h1 _ ih => exact Part.cons (Sel.there h1) ih
theorem Inv.tabs {c : CfgV} {m : MoH} (hi : Inv c m.st) : ∀ t ∈ m.ts, TabOk c.cp.toNat t.1.2 := fun t ht => hi.tab (t.1.2, t.2) (List.mem_map.2 ⟨t, ht, rfl⟩)
end
end Go.Proofs.YtpnidmkaobfhiaaGreat
namespace Go.Proofs.YtpnidmkaobfhiaaGreat
open Go
def C39 (s : ByteArray) (n : Int) : Value :=
 if (M2 s).2.2 ≠ 0 then .agg #[.string noB, .int .i64 0, .bool false, .int .i64 9]
 else .agg #[.string (A3c (M2 s).1), .int .i64 (u4 (A3c (M2 s).1) n : Nat), .bool (B14 (M2 s).1 (M2 s).2.1), .int .i64 0]
structure RmH where
 pv : Value
 tv : Value
 lv : Value
 c : CfgV
 pool : List G8
 ts : List (Value × List EnV)
 pl : List Nat
def RmH.cs (r : RmH) : Array Value := #[.int .i64 r.c.wk, .int .i64 r.c.sh, .int .i64 r.c.cp, .int .i64 r.c.idle, .int .i64 r.c.sl, r.pv, r.tv, r.lv]
def B8z (l : List Nat) : List Value := l.map fun n : Nat => .int .i64 (n : Int)
end Go.Proofs.YtpnidmkaobfhiaaGreat
namespace Go.Proofs.YtpnidmkaobfhiaaGreat
open Go
def RmH.val (r : RmH) : Value := .agg r.cs
def RmH.st (r : RmH) : MoS := ⟨r.c, r.pool, (r.ts.map (·.2)).zip r.pl⟩
section
variable (w : World) (r : RmH) (o : OpV) (v : Value) (now : Int)
end
end Go.Proofs.YtpnidmkaobfhiaaGreat
namespace Go.Proofs.YtpnidmkaobfhiaaGreat
open Go
theorem B7k (n : Nat) : (Builtin.zeroCells (Value.int .i64 0).cells n).toList = B8z (List.replicate n 0) := by
 have hz : (Builtin.zeroCells (Value.int .i64 0).cells n).toList.length = n := by simp [size_zeroCells]
 apply List.ext_getElem (by rw [hz]; simp [B8z])
 intro i h1 h2
 simp [Builtin.zeroCells, B8z, Nat.mod_one]
end Go.Proofs.YtpnidmkaobfhiaaGreat
namespace Go.Proofs.YtpnidmkaobfhiaaGreat
open Go
def B0M (X : Nat → Prop) (t0 : Value) (R : Value → WP) : WP :=
 B9 PR X (Instr.box 23 t0) fun t1 =>
 jn (n := 2) (fun t2 t3 =>
 A6 PR (Instr.loadAt 23 t1) fun t10 =>
 A0 PR (Instr.makeFunc (.func 33) #[] #[t1]) fun t11 =>
 A0 PR (Instr.makeFunc (.func 35) #[] #[t1]) fun t12 =>
 A0 PR (Instr.makeFunc (.func 38) #[] #[t1]) fun t13 =>
 B9 PR X (Instr.buildSlice 159 3 #[(0, t11), (1, t12), (2, t13)]) fun t14 =>
 B3 PR X 32 [t10, t14] fun t15 =>
 R (.tuple #[t15, (.int .i64 0)])) fun J1 =>
 A6 PR (Instr.loadAt 23 t1) fun t5 =>
 B3 PR X 31 [t5] fun t6 =>
 A0 PR (binOp .neq 31 t6 (.int .i64 0)) fun t8 =>
 B7 t8 (
 R (.tuple #[(.pointer none), t6])) (
 J1 (.pointer none) (.int .i64 0))
theorem A9f : B2 PR 9 := A7 Tryz.func9 (by kernel_rfl) rfl
theorem B6y {X : Nat → Prop} {t0 : Value} {R : Value → WP} {w : World} (h : B0M X t0 R w) : Fn PR X 9 #[t0] w R := C9 (args := [t0]) mixed Tryz.func9 (by kernel_rfl) h
def A9b (X : Nat → Prop) (t0 t1 : Value) (R : Value → WP) : WP :=
 B9 PR X (Instr.box 23 t0) fun t2 =>
 A6 PR (Instr.loadAt 23 t2) fun t8 =>
 A0 PR (Instr.build 74 #[(0, t8)]) fun t9 =>
 B9 PR X (Instr.box 74 t9) fun t10 =>
 jn (n := 1) (fun t13 =>
 R t10) fun J1 =>
 A0 PR (A8 .len #[159] 0 [t1]) fun t12 =>
 lp (n := 1) (fun L2 t13_1 =>
 A0 PR (binOp .lss 3 t13_1 t12) fun t14 =>
 jn (n := 0) (
 jn (n := 0) (
 A0 PR (binOp .add 3 t13_1 (.int .i64 1)) fun t20 =>
 L2 t20) fun J3 =>
 A0 PR (Instr.indexAt 159 t1 t13_1) fun t15 =>
 A6 PR (Instr.loadAt 87 t15) fun t16 =>
 q6 PR X t16 [t10] fun t19 =>
 J3) fun J4 =>
 B7 t14 (
 J4) (
 J1 t13_1)) (.int .i64 0)
theorem B3a : B2 PR 32 := A7 Tryz.func32 (by kernel_rfl) rfl
theorem B47 {X : Nat → Prop} {t0 t1 : Value} {R : Value → WP} {w : World} (h : A9b X t0 t1 R w) : Fn PR X 32 #[t0, t1] w R := C9 (args := [t0, t1]) mixed Tryz.func32 (by kernel_rfl) h
def A6b (X : Nat → Prop) (t0 t1 : Value) (R : Value → WP) : WP :=
 A0 PR (Instr.fieldAt 23 t1 0) fun t4 =>
 A6 PR (Instr.loadAt 3 t4) fun t5 =>
 A0 PR (binOp .add 3 (.int .i64 2) t5) fun t6 =>
 A0 PR (Instr.fieldAt 23 t1 1) fun t7 =>
 A6 PR (Instr.loadAt 3 t7) fun t8 =>
 B3 PR X 34 [t6, t8] fun t9 =>
 A0 PR (A9 t0) fun t10 =>
 A0 PR (Instr.fieldAt 74 t10 1) fun t11 =>
 C2 PR X (Instr.storeAt 69 t11 t9) <|
 R (.tuple #[])
theorem B10 : B2 PR 33 := A7 Tryz.func33 (by kernel_rfl) rfl
theorem B3L {X : Nat → Prop} {t0 t1 : Value} {R : Value → WP} {w : World} (h : A6b X t0 t1 R w) : Fn PR X 33 #[t0, t1] w R := C9 (args := [t0, t1]) mixed Tryz.func33 (by kernel_rfl) h
def A6W (X : Nat → Prop) (t0 t1 : Value) (R : Value → WP) : WP :=
 drw <|
 A0 PR (Instr.fieldAt 23 t1 4) fun t5 =>
 A6 PR (Instr.loadAt 3 t5) fun t6 =>
 A0 PR (Instr.fieldAt 23 t1 4) fun t8 =>
 A6 PR (Instr.loadAt 3 t8) fun t9 =>
 B3 PR X 36 [t6] fun t7 =>
 watch PR [(none, (Instr.loadAt 3 t8), t9)] <|
 B3 PR X 37 [t9] fun t10 =>
 A0 PR (A9 t0) fun t11 =>
 A0 PR (Instr.fieldAt 74 t11 2) fun t12 =>
 C2 PR X (Instr.storeAt 70 t12 t7) <|
 A0 PR (A9 t0) fun t13 =>
 A0 PR (Instr.fieldAt 74 t13 3) fun t14 =>
 C2 PR X (Instr.storeAt 71 t14 t10) <|
 R (.tuple #[])
theorem B2H : B2 PR 35 := A7 Tryz.func35 (by kernel_rfl) rfl
theorem B3F {X : Nat → Prop} {t0 t1 : Value} {R : Value → WP} {w : World} (h : A6W X t0 t1 R w) : Fn PR X 35 #[t0, t1] w R := C9 (args := [t0, t1]) mixed Tryz.func35 (by kernel_rfl) h
def A6F (X : Nat → Prop) (t0 t1 : Value) (R : Value → WP) : WP :=
 A0 PR (Instr.fieldAt 23 t1 1) fun t3 =>
 A6 PR (Instr.loadAt 3 t3) fun t4 =>
 lp (n := 1) (fun L1 t5 =>
 A0 PR (binOp .lss 3 t5 t4) fun t6 =>
 jn (n := 0) (
 jn (n := 0) (
 A0 PR (binOp .add 3 t5 (.int .i64 1)) fun t28 =>
 L1 t28) fun J2 =>
 drw <|
 A0 PR (A9 t0) fun t9 =>
 A0 PR (Instr.fieldAt 74 t9 4) fun t10 =>
 A6 PR (Instr.loadAt 72 t10) fun t11 =>
 A0 PR (Instr.fieldAt 23 t1 2) fun t12 =>
 A6 PR (Instr.loadAt 3 t12) fun t13 =>
 B3 PR X 39 [t13] fun t14 =>
 watch PR [(none, (Instr.loadAt 72 t10), t11)] <|
 B9 PR X (Instr.buildSlice 72 1 #[(0, t14)]) fun t15 =>
 watch PR [(none, (Instr.loadAt 72 t10), t11)] <|
 B9 PR X (A8 .append #[72, 72] 72 [t11, t15]) fun t16 =>
 A0 PR (A9 t0) fun t17 =>
 A0 PR (Instr.fieldAt 74 t17 4) fun t18 =>
 C2 PR X (Instr.storeAt 72 t18 t16) <|
 A0 PR (A9 t0) fun t21 =>
 A0 PR (Instr.fieldAt 74 t21 5) fun t22 =>
 A6 PR (Instr.loadAt 54 t22) fun t23 =>
 B9 PR X (Instr.buildSlice 54 1 #[(0, (.int .i64 0))]) fun t24 =>
 B9 PR X (A8 .append #[54, 54] 54 [t23, t24]) fun t25 =>
 A0 PR (A9 t0) fun t26 =>
 A0 PR (Instr.fieldAt 74 t26 5) fun t27 =>
 C2 PR X (Instr.storeAt 54 t27 t25) <|
 J2) fun J3 =>
 B7 t6 (
 J3) (
 R (.tuple #[]))) (.int .i64 0)
theorem B2L : B2 PR 38 := A7 Tryz.func38 (by kernel_rfl) rfl
theorem B2W {X : Nat → Prop} {t0 t1 : Value} {R : Value → WP} {w : World} (h : A6F X t0 t1 R w) : Fn PR X 38 #[t0, t1] w R := C9 (args := [t0, t1]) mixed Tryz.func38 (by kernel_rfl) h
def A3H (X : Nat → Prop) (t0 t1 : Value) (R : Value → WP) : WP :=
 A0 PR (binOp .geq 3 t1 (.int .i64 0)) fun t5 =>
 gj t5 true (fun J => J t1) fun t7 =>
 gj t5 true (fun J => A0 PR (binOp .leq 3 t7 (.int .i64 1000000)) J) fun t8 =>
 A0 PR (do pure (if ← asBool t5 then t8 else (.bool false))) fun t9 =>
 gj t9 true (fun J => J t0) fun t11 =>
 gj t9 true (fun J => A0 PR (A9 t11) J) fun t12 =>
 gj t9 true (fun J => A0 PR (Instr.fieldAt 74 t12 6) J) fun t13 =>
 gj t9 true (fun J => A6 PR (Instr.loadAt 3 t13) J) fun t14 =>
 gj t9 true (fun J => J t1) fun t15 =>
 gj t9 true (fun J => A0 PR (binOp .sub 3 (.int .i64 1000000000) t15) J) fun t16 =>
 gj t9 true (fun J => A0 PR (binOp .leq 3 t14 t16) J) fun t17 =>
 A0 PR (do pure (if ← asBool t9 then t17 else (.bool false))) fun t18 =>
 B7 t18 (
 A0 PR (A9 t0) fun t20 =>
 A0 PR (Instr.fieldAt 74 t20 6) fun t21 =>
 A6 PR (Instr.loadAt 3 t21) fun t22 =>
 A0 PR (binOp .add 3 t22 t1) fun t24 =>
 A0 PR (A9 t0) fun t25 =>
 A0 PR (Instr.fieldAt 74 t25 6) fun t26 =>
 C2 PR X (Instr.storeAt 3 t26 t24) <|
 R (.tuple #[])) (
 R (.tuple #[]))
theorem A81 : B2 PR 53 := A7 Tryz.func53 (by kernel_rfl) rfl
theorem A9z {X : Nat → Prop} {t0 t1 : Value} {R : Value → WP} {w : World} (h : A3H X t0 t1 R w) : Fn PR X 53 #[t0, t1] w R := C9 (args := [t0, t1]) mixed Tryz.func53 (by kernel_rfl) h
def A39 (X : Nat → Prop) (t0 t1 : Value) (R : Value → WP) : WP :=
 jn (n := 1) (fun t4 =>
 A0 PR (binOp .add 3 (.int .i64 2) t1) fun t17 =>
 A0 PR (binOp .sub 3 t17 (.int .i64 1)) fun t18 =>
 R t18) fun J1 =>
 A0 PR (binOp .lss 3 t1 (.int .i64 1)) fun t6 =>
 gj t6 false (fun J => J t1) fun t8 =>
 gj t6 false (fun J => J t0) fun t9 =>
 gj t6 false (fun J => A0 PR (A9 t9) J) fun t10 =>
 gj t6 false (fun J => A0 PR (Instr.fieldAt 74 t10 0) J) fun t11 =>
 gj t6 false (fun J => A0 PR (Instr.fieldAt 23 t11 0) J) fun t12 =>
 gj t6 false (fun J => A6 PR (Instr.loadAt 3 t12) J) fun t13 =>
 gj t6 false (fun J => A0 PR (binOp .gtr 3 t8 t13) J) fun t14 =>
 A0 PR (do pure (if ← asBool t6 then (.bool true) else t14)) fun t15 =>
 B7 t15 (
 R (.int .i64 (-1))) (
 J1 (.int .i64 0))
theorem v8 : B2 PR 87 := A7 Tryz.func87 (by kernel_rfl) rfl
theorem B0k {X : Nat → Prop} {t0 t1 : Value} {R : Value → WP} {w : World} (h : A39 X t0 t1 R w) : Fn PR X 87 #[t0, t1] w R := C9 (args := [t0, t1]) mixed Tryz.func87 (by kernel_rfl) h
def A2B (X : Nat → Prop) (t0 : Value) (R : Value → WP) : WP :=
 jn (n := 2) (fun t3 t10 =>
 R t3) fun J1 =>
 A0 PR (A9 t0) fun t6 =>
 A0 PR (Instr.fieldAt 74 t6 4) fun t7 =>
 A6 PR (Instr.loadAt 72 t7) fun t8 =>
 A0 PR (A8 .len #[72] 0 [t8]) fun t9 =>
 lp (n := 2) (fun L2 t3_1 t10_1 =>
 A0 PR (binOp .lss 3 t10_1 t9) fun t11 =>
 jn (n := 0) (
 jn (n := 1) (fun t3_2 =>
 A0 PR (binOp .add 3 t10_1 (.int .i64 1)) fun t22 =>
 L2 t3_2 t22) fun J3 =>
 A0 PR (A9 t0) fun t15 =>
 A0 PR (Instr.fieldAt 74 t15 1) fun t16 =>
 A6 PR (Instr.loadAt 69 t16) fun t17 =>
 B3 PR X 29 [t17, t10_1] fun t19 =>
 B9 PR X (Instr.buildSlice 54 1 #[(0, t19)]) fun t20 =>
 B9 PR X (A8 .append #[54, 54] 54 [t3_1, t20]) fun t21 =>
 J3 t21) fun J4 =>
 B7 t11 (
 J4) (
 J1 t3_1 t10_1)) (.slice none 0 0) (.int .i64 0)
theorem A65 : B2 PR 89 := A7 Tryz.func89 (by kernel_rfl) rfl
theorem A73 {X : Nat → Prop} {t0 : Value} {R : Value → WP} {w : World} (h : A2B X t0 R w) : Fn PR X 89 #[t0] w R := C9 (args := [t0]) mixed Tryz.func89 (by kernel_rfl) h
end Go.Proofs.YtpnidmkaobfhiaaGreat
namespace Go.Proofs.YtpnidmkaobfhiaaGreat
open Go
def A3N (X : Nat → Prop) (t0 t1 : Value) (R : Value → WP) : WP :=
 jn (n := 1) (fun t4 =>
 R (.int .i64 0)) fun J1 =>
 A0 PR (A9 t0) fun t8 =>
 A0 PR (Instr.fieldAt 147 t8 1) fun t9 =>
 A6 PR (Instr.loadAt 54 t9) fun t10 =>
 B3 PR X 68 [t0, t10, t1] fun t12 =>
 A6 PR (J0 .neq 137 (.tmp 13) (.const (.pointer none)) t12 (.pointer none)) fun t14 =>
 B7 t14 (
 A0 PR (A9 t12) fun t16 =>
 A6 PR (Instr.loadAt 3 t16) fun t17 =>
 R t17) (
 J1 (.int .i64 0))
theorem a6 : B2 PR 25 := A7 Tryz.func25 (by kernel_rfl) rfl
theorem A9s {X : Nat → Prop} {t0 t1 : Value} {R : Value → WP} {w : World} (h : A3N X t0 t1 R w) : Fn PR X 25 #[t0, t1] w R := C9 (args := [t0, t1]) mixed Tryz.func25 (by kernel_rfl) h
def A2U (X : Nat → Prop) (t0 t1 : Value) (R : Value → WP) : WP :=
 jn (n := 1) (fun t4 =>
 A0 PR (A9 t0) fun t17 =>
 A0 PR (Instr.fieldAt 147 t17 2) fun t18 =>
 A6 PR (Instr.loadAt 54 t18) fun t19 =>
 A0 PR (Instr.indexAt 54 t19 t1) fun t21 =>
 A6 PR (Instr.loadAt 3 t21) fun t22 =>
 R t22) fun J1 =>
 A0 PR (binOp .lss 3 t1 (.int .i64 0)) fun t6 =>
 gj t6 false (fun J => J t1) fun t8 =>
 gj t6 false (fun J => J t0) fun t9 =>
 gj t6 false (fun J => A0 PR (A9 t9) J) fun t10 =>
 gj t6 false (fun J => A0 PR (Instr.fieldAt 147 t10 2) J) fun t11 =>
 gj t6 false (fun J => A6 PR (Instr.loadAt 54 t11) J) fun t12 =>
 gj t6 false (fun J => A0 PR (A8 .len #[54] 0 [t12]) J) fun t13 =>
 gj t6 false (fun J => A0 PR (binOp .geq 3 t8 t13) J) fun t14 =>
 A0 PR (do pure (if ← asBool t6 then (.bool true) else t14)) fun t15 =>
 B7 t15 (
 R (.int .i64 (-1))) (
 J1 (.int .i64 0))
theorem A10 : B2 PR 29 := A7 Tryz.func29 (by kernel_rfl) rfl
theorem A8g {X : Nat → Prop} {t0 t1 : Value} {R : Value → WP} {w : World} (h : A2U X t0 t1 R w) : Fn PR X 29 #[t0, t1] w R := C9 (args := [t0, t1]) mixed Tryz.func29 (by kernel_rfl) h
def B0r (X : Nat → Prop) (t0 t1 : Value) (R : Value → WP) : WP :=
 drw <|
 kt (n := 1) (fun t5 =>
 jn (n := 1) (fun t20 =>
 R t5) fun J1 =>
 A0 PR (A9 t5) fun t16 =>
 A0 PR (Instr.fieldAt 147 t16 2) fun t17 =>
 A6 PR (Instr.loadAt 54 t17) fun t18 =>
 A0 PR (A8 .len #[54] 0 [t18]) fun t19 =>
 lp (n := 1) (fun L2 t20_1 =>
 A0 PR (binOp .lss 3 t20_1 t19) fun t21 =>
 jn (n := 0) (
 jn (n := 0) (
 A0 PR (binOp .add 3 t20_1 (.int .i64 1)) fun t29 =>
 L2 t29) fun J3 =>
 A0 PR (A9 t5) fun t24 =>
 A0 PR (Instr.fieldAt 147 t24 2) fun t25 =>
 A6 PR (Instr.loadAt 54 t25) fun t26 =>
 A0 PR (Instr.indexAt 54 t26 t20_1) fun t28 =>
 C2 PR X (Instr.storeAt 3 t28 (.int .i64 (-1))) <|
 J3) fun J4 =>
 B7 t21 (
 J4) (
 J1 t20_1)) (.int .i64 0)) fun C5 =>
 B3 PR X 74 [t0] fun t8_1 =>
 both (B9 PR X (Instr.makeSlice 54 t8_1 t8_1) fun t9_3 =>
 B3 PR X 74 [t1] fun t11_2 =>
 B9 PR X (Instr.makeSlice 54 t11_2 t11_2) fun t12_3 =>
 A0 PR (Instr.build 147 #[(1, t9_3), (2, t12_3)]) fun t13_3 =>
 B9 PR X (Instr.box 147 t13_3) fun t14_3 =>
 C5 t14_3) (both (B3 PR X 74 [t1] fun t11_1 =>
 both (B9 PR X (Instr.makeSlice 54 t8_1 t8_1) fun t9_2 =>
 B9 PR X (Instr.makeSlice 54 t11_1 t11_1) fun t12_2 =>
 A0 PR (Instr.build 147 #[(1, t9_2), (2, t12_2)]) fun t13_2 =>
 B9 PR X (Instr.box 147 t13_2) fun t14_2 =>
 C5 t14_2) (both (B9 PR X (Instr.makeSlice 54 t11_1 t11_1) fun t12_1 =>
 B9 PR X (Instr.makeSlice 54 t8_1 t8_1) fun t9_1 =>
 A0 PR (Instr.build 147 #[(1, t9_1), (2, t12_1)]) fun t13_1 =>
 B9 PR X (Instr.box 147 t13_1) fun t14_1 =>
 C5 t14_1) ((fun _ => True)))) ((fun _ => True)))
theorem B5J : B2 PR 34 := A7 Tryz.func34 (by kernel_rfl) rfl
theorem B6C {X : Nat → Prop} {t0 t1 : Value} {R : Value → WP} {w : World} (h : B0r X t0 t1 R w) : Fn PR X 34 #[t0, t1] w R := C9 (args := [t0, t1]) mixed Tryz.func34 (by kernel_rfl) h
def A3w (X : Nat → Prop) (t0 t1 t2 : Value) (R : Value → WP) : WP :=
 A0 PR (A9 t0) fun t10 =>
 A0 PR (Instr.fieldAt 147 t10 1) fun t11 =>
 A6 PR (Instr.loadAt 54 t11) fun t12 =>
 B3 PR X 68 [t0, t12, t1] fun t14 =>
 jn (n := 1) (fun t6 =>
 A0 PR (A9 t14) fun t18 =>
 A6 PR (Instr.loadAt 3 t18) fun t19 =>
 A0 PR (binOp .add 3 t19 t2) fun t21 =>
 A0 PR (A9 t14) fun t22 =>
 C2 PR X (Instr.storeAt 3 t22 t21) <|
 A0 PR (A9 t14) fun t24 =>
 A6 PR (Instr.loadAt 3 t24) fun t25 =>
 R t25) fun J1 =>
 A6 PR (J0 .eql 137 (.tmp 15) (.const (.pointer none)) t14 (.pointer none)) fun t16 =>
 B7 t16 (
 R (.int .i64 0)) (
 J1 (.int .i64 0))
theorem w8 : B2 PR 43 := A7 Tryz.func43 (by kernel_rfl) rfl
theorem B03 {X : Nat → Prop} {t0 t1 t2 : Value} {R : Value → WP} {w : World} (h : A3w X t0 t1 t2 R w) : Fn PR X 43 #[t0, t1, t2] w R := C9 (args := [t0, t1, t2]) mixed Tryz.func43 (by kernel_rfl) h
def A3G (X : Nat → Prop) (t0 t1 t2 : Value) (R : Value → WP) : WP :=
 A0 PR (A9 t0) fun t10 =>
 A0 PR (Instr.fieldAt 147 t10 2) fun t11 =>
 A6 PR (Instr.loadAt 54 t11) fun t12 =>
 B3 PR X 68 [t0, t12, t1] fun t14 =>
 A0 PR (binOp .geq 3 t2 (.int .i64 0)) fun t16 =>
 gj t16 true (fun J => J t14) fun t18 =>
 gj t16 true (fun J => J t2) fun t19 =>
 gj t16 true (fun J => B3 PR X 75 [t18, (.int .i64 (-1)), t19] J) fun t20 =>
 A0 PR (do pure (if ← asBool t16 then t20 else (.bool false))) fun t21 =>
 R t21
theorem r8 : B2 PR 44 := A7 Tryz.func44 (by kernel_rfl) rfl
theorem A9x {X : Nat → Prop} {t0 t1 t2 : Value} {R : Value → WP} {w : World} (h : A3G X t0 t1 t2 R w) : Fn PR X 44 #[t0, t1, t2] w R := C9 (args := [t0, t1, t2]) mixed Tryz.func44 (by kernel_rfl) h
def A11 (X : Nat → Prop) (t0 t1 t2 : Value) (R : Value → WP) : WP :=
 A0 PR (A9 t0) fun t10 =>
 A0 PR (Instr.fieldAt 147 t10 2) fun t11 =>
 A6 PR (Instr.loadAt 54 t11) fun t12 =>
 B3 PR X 68 [t0, t12, t1] fun t14 =>
 A0 PR (binOp .geq 3 t2 (.int .i64 0)) fun t16 =>
 gj t16 true (fun J => J t14) fun t18 =>
 gj t16 true (fun J => J t2) fun t19 =>
 gj t16 true (fun J => B3 PR X 75 [t18, t19, (.int .i64 (-1))] J) fun t20 =>
 A0 PR (do pure (if ← asBool t16 then t20 else (.bool false))) fun t21 =>
 R t21
theorem W7 : B2 PR 45 := A7 Tryz.func45 (by kernel_rfl) rfl
theorem A8Y {X : Nat → Prop} {t0 t1 t2 : Value} {R : Value → WP} {w : World} (h : A11 X t0 t1 t2 R w) : Fn PR X 45 #[t0, t1, t2] w R := C9 (args := [t0, t1, t2]) mixed Tryz.func45 (by kernel_rfl) h
def A2l (X : Nat → Prop) (t0 t1 t2 : Value) (R : Value → WP) : WP :=
 A0 PR (A9 t0) fun t9 =>
 A0 PR (Instr.fieldAt 147 t9 1) fun t10 =>
 A6 PR (Instr.loadAt 54 t10) fun t11 =>
 B3 PR X 68 [t0, t11, t1] fun t13 =>
 A6 PR (J0 .neq 137 (.tmp 14) (.const (.pointer none)) t13 (.pointer none)) fun t15 =>
 B7 t15 (
 A0 PR (A9 t13) fun t18 =>
 C2 PR X (Instr.storeAt 3 t18 t2) <|
 R (.tuple #[])) (
 R (.tuple #[]))
theorem A1x : B2 PR 52 := A7 Tryz.func52 (by kernel_rfl) rfl
theorem A85 {X : Nat → Prop} {t0 t1 t2 : Value} {R : Value → WP} {w : World} (h : A2l X t0 t1 t2 R w) : Fn PR X 52 #[t0, t1, t2] w R := C9 (args := [t0, t1, t2]) mixed Tryz.func52 (by kernel_rfl) h
def A3M (X : Nat → Prop) (t0 t1 t2 : Value) (R : Value → WP) : WP :=
 jn (n := 1) (fun t6 =>
 A0 PR (A9 t0) fun t16 =>
 A0 PR (Instr.fieldAt 147 t16 0) fun t17 =>
 B3 PR X 97 [t17] fun t18 =>
 A0 PR (Instr.indexAt 54 t1 t2) fun t21 =>
 R t21) fun J1 =>
 A0 PR (binOp .lss 3 t2 (.int .i64 0)) fun t8 =>
 gj t8 false (fun J => J t2) fun t10 =>
 gj t8 false (fun J => J t1) fun t11 =>
 gj t8 false (fun J => A0 PR (A8 .len #[54] 0 [t11]) J) fun t12 =>
 gj t8 false (fun J => A0 PR (binOp .geq 3 t10 t12) J) fun t13 =>
 A0 PR (do pure (if ← asBool t8 then (.bool true) else t13)) fun t14 =>
 B7 t14 (
 R (.pointer none)) (
 J1 (.pointer none))
theorem V2 : B2 PR 68 := A7 Tryz.func68 (by kernel_rfl) rfl
theorem A90 {X : Nat → Prop} {t0 t1 t2 : Value} {R : Value → WP} {w : World} (h : A3M X t0 t1 t2 R w) : Fn PR X 68 #[t0, t1, t2] w R := C9 (args := [t0, t1, t2]) mixed Tryz.func68 (by kernel_rfl) h
def A6N (X : Nat → Prop) (t0 : Value) (R : Value → WP) : WP :=
 A0 PR (A8 .max #[3, 3] 0 [t0, (.int .i64 0)]) fun t4 =>
 A0 PR (A8 .min #[3, 3] 0 [t4, (.int .i64 1024)]) fun t5 =>
 R t5
theorem A1f : B2 PR 74 := A7 Tryz.func74 (by kernel_rfl) rfl
theorem B2e {X : Nat → Prop} {t0 : Value} {R : Value → WP} {w : World} (h : A6N X t0 R w) : Fn PR X 74 #[t0] w R := C9 (args := [t0]) mixed Tryz.func74 (by kernel_rfl) h
def A9Y (X : Nat → Prop) (t0 t1 t2 : Value) (R : Value → WP) : WP :=
 jn (n := 1) (fun t6 =>
 A0 PR (A9 t0) fun t18 =>
 C2 PR X (Instr.storeAt 3 t18 t2) <|
 R (.bool true)) fun J1 =>
 A6 PR (J0 .eql 137 (.tmp 7) (.const (.pointer none)) t0 (.pointer none)) fun t8 =>
 gj t8 false (fun J => J t0) fun t10 =>
 gj t8 false (fun J => A0 PR (A9 t10) J) fun t11 =>
 gj t8 false (fun J => A6 PR (Instr.loadAt 3 t11) J) fun t12 =>
 gj t8 false (fun J => J t1) fun t13 =>
 gj t8 false (fun J => A0 PR (binOp .neq 3 t12 t13) J) fun t14 =>
 A0 PR (do pure (if ← asBool t8 then (.bool true) else t14)) fun t15 =>
 B7 t15 (
 R (.bool false)) (
 J1 (.bool false))
theorem A8B : B2 PR 75 := A7 Tryz.func75 (by kernel_rfl) rfl
theorem B5H {X : Nat → Prop} {t0 t1 t2 : Value} {R : Value → WP} {w : World} (h : A9Y X t0 t1 t2 R w) : Fn PR X 75 #[t0, t1, t2] w R := C9 (args := [t0, t1, t2]) mixed Tryz.func75 (by kernel_rfl) h
def A1B (X : Nat → Prop) (t0 : Value) (R : Value → WP) : WP :=
 A0 PR (A9 t0) fun t3 =>
 A0 PR (Instr.fieldAt 145 t3 0) fun t4 =>
 B3 PR X 124 [t4, (.int .i64 1)] fun t5 =>
 R (.tuple #[])
theorem A5s : B2 PR 97 := A7 Tryz.func97 (by kernel_rfl) rfl
theorem A7S {X : Nat → Prop} {t0 : Value} {R : Value → WP} {w : World} (h : A1B X t0 R w) : Fn PR X 97 #[t0] w R := C9 (args := [t0]) mixed Tryz.func97 (by kernel_rfl) h
end Go.Proofs.YtpnidmkaobfhiaaGreat
