/- The proof of a given statement, a part of it (Ord Sort ShModel Model Model2 Slo Slo2 Wor Wor2 Wor3 Con Con2 Con3 Con4 Con5 Upd Upd2 RunG UpdR RunU BusL Works20 BusyW). No condition but what each lemma says. -/
import Derived.Sort.Grow
import Derived.Deep.Draws
import Derived.Test.YtjobgnabneddjaaGreatY15
set_option linter.unusedVariables false
set_option linter.unusedSimpArgs false
namespace Go.Proofs.YtjobgnabneddjaaGreat
open Go
theorem A5J (w : World) (a : Int) : Fn PR C2 252 #[.int .i64 a] w (fun v w' => v = .bool false ∧ w' = w) := by
 refine A3e ?_
 unfold u3
 simp
theorem A5S (w : World) (a : Int) : Fn PR C2 251 #[.int .u64 a] w (fun v w' => v = .bool false ∧ w' = w) := by
 refine A10 ?_
 unfold k4
 simp
def T9 (a b : Int) : Int := if a < b then -1 else if b < a then 1 else 0
theorem B0q (w : World) (a b : Int) : Fn PR C2 218 #[.int .i64 a, .int .i64 b] w (fun v w' => v = .int .i64 (T9 a b) ∧ w' = w) := by
 refine A2p ?_
 unfold n8
 refine y8 ((A5J w a).use ?_)
 rintro _ _ ⟨rfl, rfl⟩ _
 refine y8 ((A5J _ b).use ?_)
 rintro _ _ ⟨rfl, rfl⟩ _
 by_cases c1 : a < b
 ·simp [c1, T9]
 by_cases c2 : b < a
 ·simp [c1, c2, T9]
 ·simp [c1, c2, T9]
theorem B1A (w : World) (a b : Int) : Fn PR C2 217 #[.int .u64 a, .int .u64 b] w (fun v w' => v = .int .i64 (T9 a b) ∧ w' = w) := by
 refine A01 ?_
 unfold d6
 refine p3 ((A5S w a).use ?_)
 rintro _ _ ⟨rfl, rfl⟩ _
 refine p3 ((A5S _ b).use ?_)
 rintro _ _ ⟨rfl, rfl⟩ _
 by_cases c1 : a < b
 ·simp [c1, T9]
 by_cases c2 : b < a
 ·simp [c1, c2, T9]
 ·simp [c1, c2, T9]
def l3 (x y : Nat × Int) : Int := if T9 x.1 y.1 ≠ 0 then T9 x.1 y.1 else T9 x.2 y.2
theorem A9j (K : WP) (w : World) : drw K w = K w.drew := rfl
def Gr (w w' : World) : Prop := ∃ q os, w' = Sort.grow (w.drewN q) os
theorem Gr.refl (w : World) : Gr w w := ⟨0, #[], by simp [Sort.grow]; rfl⟩
theorem Gr.alloc {w w' : World} (h : Gr w w') (o : Obj) : Gr w (w'.alloc o) := by
 obtain ⟨q, os, rfl⟩ := h
 exact ⟨q, os ++ #[o], by rw [Sort.alloc_eq_grow, Sort.grow_grow]⟩
theorem Gr.drew {w w' : World} (h : Gr w w') : Gr w w'.drew := by
 obtain ⟨q, os, rfl⟩ := h
 exact ⟨q + 1, os, rfl⟩
theorem B48 (w : World) (a b : Int) (g : Nat) (h : K7 w g 0 [.int .i64 a, .int .i64 b]) : Fn PR C2 216 #[.slice (some ⟨g, 0, none⟩) 2 2] w (fun v w' => v = .int .i64 (if a ≠ 0 then a else b) ∧ w' = w) := by
 refine A5q ?_
 unfold A1v
 simp
 refine B61 2 (fun _ i w' => w' = w ∧ (0 < i → a = 0) ∧ (1 < i → b = 0)) ⟨rfl, by omega, by omega⟩ ?_
 rintro x i w1 hi ⟨hw1, h0, h1⟩ L hL
 rw [hw1]
 have ha : w.cell? ⟨g, 0, none⟩ = some (.int .i64 a) := by have := h.get (i := 0) (v := .int .i64 a) rfl; simpa using this
 have hb : w.cell? ⟨g, 1, none⟩ = some (.int .i64 b) := by have := h.get (i := 1) (v := .int .i64 b) rfl; simpa using this
 have hi' : i = 0 ∨ i = 1 ∨ i = 2 := by omega
 rcases hi' with rfl | rfl | rfl
 ·by_cases c : a = 0
  ·simp [ha, c]
   exact hL (by omega) _ _ ⟨rfl, fun _ => c, by omega⟩
  ·simp [ha, c]
 ·have ha0 := h0 (by omega)
  by_cases c : b = 0
  ·simp [hb, c]
   exact hL (by omega) _ _ ⟨rfl, fun _ => ha0, fun _ => c⟩
  ·simp [hb, c, ha0]
 ·simp [h0 (by omega), h1 (by omega)]
theorem B1f (w : World) (x y : Nat × Int) : Fn PR C2 162 #[.agg #[.int .u64 (x.1 : Nat), .int .i64 x.2], .agg #[.int .u64 (y.1 : Nat), .int .i64 y.2]] w (fun v w' => v = .int .i64 (l3 x y) ∧ Gr w w') := by
 refine A0e ?_
 unfold a7
 obtain ⟨w2, hw2⟩ : ∃ w2, w2 = ((w.alloc (.cells #[.int .u64 (x.1 : Nat), .int .i64 x.2] 284)).alloc (.cells #[.int .u64 (y.1 : Nat), .int .i64 y.2] 284)).drew := ⟨_, rfl⟩
 have hA : bl w2 (sz w) = some (.cells #[.int .u64 (x.1 : Nat), .int .i64 x.2] 284) := by
  subst hw2; show bl ((w.alloc _).alloc _) (sz w) = _; rw [w8 (by simp), Q6]
 have hB : bl w2 (sz w + 1) = some (.cells #[.int .u64 (y.1 : Nat), .int .i64 y.2] 284) := by
  subst hw2; show bl ((w.alloc _).alloc _) (sz w + 1) = _; rw [← A6w w, Q6]
 have a0 : w2.cell? ⟨sz w, 0, none⟩ = some (.int .u64 (x.1 : Nat)) := by rw [C4 hA]; rfl
 have a1 : w2.cell? ⟨sz w, 1, none⟩ = some (.int .i64 x.2) := by rw [C4 hA]; rfl
 have b0 : w2.cell? ⟨sz w + 1, 0, none⟩ = some (.int .u64 (y.1 : Nat)) := by rw [C4 hB]; rfl
 have b1 : w2.cell? ⟨sz w + 1, 1, none⟩ = some (.int .i64 y.2) := by rw [C4 hB]; rfl
 have hg : Gr w w2 := by subst hw2; exact (((Gr.refl w).alloc _).alloc _).drew
 rw [A8H, A8H, A9j, A6w]
 simp only [Value.cells]
 rw [← hw2]
 clear hw2 hA hB
 have r1 : (Instr.loadAt 3 (.pointer (some ⟨sz w + 1, 0 + 1, none⟩))).run PR w2 = .ok (.int .i64 y.2) w2 := c6 K6 rfl b1
 have r2 : (Instr.loadAt 3 (.pointer (some ⟨sz w, 0 + 1, none⟩))).run PR w2 = .ok (.int .i64 x.2) w2 := c6 K6 rfl a1
 simp [a0, a1, b0, b1]
 refine A1N ((B1A w2 _ _).use ?_)
 rintro _ w3 ⟨rfl, hw3⟩ _
 rw [hw3, A4B, A4B, A9A]
 refine ⟨r1, r2, ?_⟩
 refine A3A ((B0q w2 _ _).use ?_)
 rintro _ w4 ⟨rfl, hw4⟩ _
 rw [hw4, A2k A1b K6 (cs := #[.int .i64 (T9 x.1 y.1), .int .i64 (T9 x.2 y.2)]) (by decide) (by decide) (by kernel_rfl)]
 have hrow : K7 (w2.alloc (.cells #[.int .i64 (T9 x.1 y.1), .int .i64 (T9 x.2 y.2)] 3)) (sz w2) 0 [.int .i64 (T9 x.1 y.1), .int .i64 (T9 x.2 y.2)] := fun i hi => by
  rw [C4 (Q6 _ _)]; simp
 refine A66 ((B48 _ _ _ _ hrow).use ?_)
 rintro _ w5 ⟨rfl, hw5⟩ _
 exact ⟨by simp [l3], by rw [hw5]; exact hg.alloc _⟩
end Go.Proofs.YtjobgnabneddjaaGreat
namespace Go.Proofs.YtjobgnabneddjaaGreat
open Go Go.Sort Go.Lib
theorem B2a (x y : Nat × Int) : l3 x y < 0 ↔ x.1 < y.1 ∨ (x.1 = y.1 ∧ x.2 < y.2) := by
 unfold l3 T9
 by_cases h1 : (x.1 : Int) < y.1
 ·simp [h1]; omega
 by_cases h2 : (y.1 : Int) < x.1
 ·simp [h1, h2]; omega
 ·have : x.1 = y.1 := by omega
  by_cases h3 : x.2 < y.2
  ·simp [h1, h2, h3]; omega
  by_cases h4 : y.2 < x.2
  ·simp [h1, h2, h3, h4]; omega
  ·simp [h1, h2, h3, h4]; omega
theorem A7v (x y : Nat × Int) : ltOf l3 x y = true ↔ x.1 < y.1 ∨ (x.1 = y.1 ∧ x.2 < y.2) := by rw [ltOf, decide_eq_true_eq, B2a]
theorem A2z (x y : Nat × Int) : ltOf l3 x y = false ↔ ¬ (x.1 < y.1 ∨ (x.1 = y.1 ∧ x.2 < y.2)) := by rw [← A7v, Bool.not_eq_true]
theorem B60 : Sort.SWO (ltOf l3) := by
 refine ⟨fun x => ?_, fun x y z h1 h2 => ?_, fun x y z h1 h2 => ?_⟩
 ·rw [A2z]; omega
 ·rw [A7v] at *; omega
 ·rw [A2z] at *; omega
theorem B7u (x y : Nat × Int) (h1 : ltOf l3 x y = false) (h2 : ltOf l3 y x = false) : x = y := by
 rw [A2z] at *
 have e1 : x.1 = y.1 := by omega
 have e2 : x.2 = y.2 := by omega
 exact Prod.ext e1 e2
theorem B3D : (fun x y => !(ltOf l3) y x) = leP := by
 funext x y
 rw [Bool.eq_iff_iff, Bool.not_eq_true', A2z, leP, decide_eq_true_eq]; omega
theorem A51 (l : List (Nat × Int)) : flatK E3 2 l.toArray = (l.flatMap E3).toArray := by
 apply Array.toList_inj.1
 apply List.ext_getElem
 ·rw [Array.length_toList, size_flatK, List.toList_toArray, H8 S6]; simp
 ·intro i h1 h2
  have hi : i < l.length * 2 := by simpa using h1
  have hf := l5 (f := E3) (k := 2) S6 l (i / 2) (i % 2) (by omega)
  rw [show i / 2 * 2 + i % 2 = i by omega] at hf
  have h2' : i < (l.flatMap E3).length := by simpa using h2
  rw [List.getElem?_eq_getElem h2', List.getElem?_eq_getElem (show i / 2 < l.length by omega)] at hf
  have hg := get_flatK E3 2 l.toArray i (by simpa using hi)
  rw [getElem!_pos _ _ (by simpa using hi)] at hg
  simp only [Array.getElem_toList, List.getElem_toArray]
  rw [hg]
  simp only [Option.bind_some] at hf
  rw [getElem!_pos l.toArray (i / 2) (by simp; omega)]
  simp only [List.getElem_toArray]
  have h3 : i % 2 < (E3 l[i / 2]).length := by rw [S6]; omega
  rw [List.getElem?_eq_getElem h3] at hf
  rw [getElem!_pos (E3 l[i / 2]) (i % 2) h3]
  exact (Option.some.inj hf).symm
theorem A9v {w : World} {g : Nat} {cur : Array Value} {T : TypeId} {F : Array Value} (h : bl w g = some (.cells cur T (0, 0))) : bl (Sort.putRow id w g 0 F) g = some (.cells (Sort.putCells id 0 F cur) T (0, 0)) := by
 have h' : w.heap[g]? = some (.cells cur T (0, 0)) := h
 simp only [bl, Sort.putRow, Sort.mapBlock, Array.getElem?_modify, if_true, h', Option.map_some]; rfl
theorem s8 {w : World} {g r : Nat} {F : Array Value} (h : r ≠ g) : bl (Sort.putRow id w g 0 F) r = bl w r := by
 simp [bl, Sort.putRow, Sort.mapBlock, Array.getElem?_modify, Ne.symm h]
theorem A5j {F cur : Array Value} (h : F.size ≤ cur.size) : (Sort.putCells id 0 F cur).toList.take F.size = F.toList := by
 apply List.ext_getElem (by simp [Sort.putCells]; omega)
 intro i h1 h2
 have hi : i < F.size := by simpa using h2
 simp [Sort.putCells, hi]
theorem A2u {w : World} {os : Array Obj} {r : Nat} {o : Obj} (h : bl w r = some o) : bl (Sort.grow w os) r = some o := by
 have hr : r < w.heap.size := F8 h
 simp only [bl, Sort.grow, Array.getElem?_append_left hr]; exact h
theorem A7D (w : World) (v : Value) (l : List (Nat × Int)) (hn : l.length ≤ 1000000) (hw : LW false (B1 [A1V v l]) w [A1V v l] w) :
  Fn PR C2 213 #[v, .func (.func 162) #[] #[]] w (Rn (B1 [A1V v l]) w (fun (_ : Unit) u => u = .tuple #[]) fun _ => [A1V v (L9 l)]) := by
 have ho : L7 w 284 2 v l.length (l.flatMap E3) := hw.hold _ A1
 rcases ho.2 with ⟨rfl, hl0⟩ | ⟨g, cap, cur, rfl, hb, hc, hcs, htk⟩
 ·have hl : l = [] := List.length_eq_zero_iff.1 hl0
  subst hl
  refine Calls.mono (AnyF.slices_SortFunc_none Tryz.sortPlace none 0 (.func (.func 162) #[] #[]) w) ?_
  rintro e w' ⟨he, rfl⟩
  exact ⟨_, he, ⟨(), rfl, by simpa [L9] using hw⟩, Sk.refl _ _⟩
 ·have hg : g < w.heap.size := F8 hb
  have hH : HoldsK E3 2 w g 0 l.toArray := by
   intro j hj
   rw [A51] at hj ⊢
   have hj' : j < (l.flatMap E3).length := by simpa using hj
   constructor
   ·rw [C4 hb, Nat.zero_add]
    rw [getElem!_pos _ _ (by simpa using hj')]
    have : cur.toList[j]? = (l.flatMap E3)[j]? := by
     rw [← htk, List.getElem?_take_of_lt (by rw [H8 S6] at hj'; exact hj')]
    rw [Array.getElem?_toList] at this
    rw [this, List.getElem?_eq_getElem hj']; rfl
   ·have hb' : w.heap[g]? = some (.cells cur 284 (0, 0)) := hb
    simp [World.frozen?, hb']
  have hcmp : CmpLays PR 162 #[] E3 2 l3 g 0 l.toArray.size w := by
   intro m os dk _ x y
   refine Calls.mono (B1f (sortWorldK E3 2 w g 0 m dk os) x y) ?_
   rintro e w' ⟨v, he, ⟨hv, hgr⟩, _⟩
   exact ⟨by rw [he, hv], hgr⟩
  have main := AnyQ.slices_SortFunc_total Tryz.sortPlace 2 (fun w => by kernel_rfl) (fun w => A1G.run_size) E3 S6
   (by intro x u hu; simp only [E3, List.mem_cons, List.not_mem_nil, or_false] at hu; rcases hu with rfl | rfl <;> rfl) l3 B60 162 #[] g 0 cap l.toArray w
   A0V hcmp hH hg (by simp; omega) B7u
  refine Calls.mono main ?_
  rintro e w' ⟨he, n, os, rfl⟩
  have e1 : sortWorldK E3 2 w g 0 n (l.toArray.toList.mergeSort fun x y => !(ltOf l3) y x).toArray os = Sort.grow (Sort.putRow id (Sort.ahead w n) g 0 ((L9 l).flatMap E3).toArray) os := by
   unfold sortWorldK putRowK; rw [← A51, B3D]; rfl
  rw [e1]
  have hsz : ((L9 l).flatMap E3).length = l.length * 2 := by rw [H8 S6, a6]
  have hb2 : bl (Sort.ahead w n) g = some (.cells cur 284 (0, 0)) := hb
  have hbl := A2u (os := os) (A9v (F := ((L9 l).flatMap E3).toArray) hb2)
  have hks : KS false [g] w (Sort.grow (Sort.putRow id (Sort.ahead w n) g 0 ((L9 l).flatMap E3).toArray) os) := by
   refine ⟨by simp [sz, Sort.grow, Sort.size_putRow], fun r o hr _ e => ?_, fun h => by cases h⟩
   exact A2u (by rw [s8 (by simpa using hr)]; exact e)
  refine ⟨_, he, ⟨(), rfl, ⟨hks.mono (by simp [B1, Res.foot, G8]), ?_, ?_, by simp⟩⟩, ?_⟩
  ·simp only [List.mem_singleton, forall_eq, Res.holds]
   refine ⟨by rw [hsz, a6], Or.inr ⟨g, cap, _, by rw [a6], hbl, by rw [a6]; exact hc, by simp [Sort.putCells, hcs], ?_⟩⟩
   rw [a6]
   have := A5j (F := ((L9 l).flatMap E3).toArray) (cur := cur) (by simp only [List.size_toArray, hsz]; rw [← hcs]; omega)
   simpa [hsz] using this
  ·simp only [List.mem_singleton, forall_eq, Res.foot, G8]
   exact ⟨Or.inl (by simp [B1, Res.foot, G8]), F8 hbl⟩
  ·refine ⟨by simp [Sort.grow, Sort.size_putRow], fun r d e => ?_, fun r lo _ e => ?_, rfl, rfl⟩
   ·exact A2u (by rw [s8 (by rintro rfl; have h2 : some (Obj.deferred d) = some (Obj.cells cur 284 (0, 0)) := e.symm.trans hb; cases h2)]; exact e)
   ·exact A2u (by rw [s8 (by rintro rfl; have h2 : some (Obj.loop lo) = some (Obj.cells cur 284 (0, 0)) := e.symm.trans hb; cases h2)]; exact e)
theorem A5g (w : World) (b : Nat) (v : Value) (p : List E8) (hn : p.length ≤ 1000) (hv : G1 w v p.length (p.flatMap F9)) (hS : 0 < p.length → ∀ g ∈ G8 v, g ∉ [b])
  (hw : LW false [b] w [.pt b (.cells #[v] 58)] w) :
  Fn PR C2 160 #[A4L b, .func (.func 162) #[] #[]] w (Rn [b] w (fun r u => u = r) fun r => [A1V r (L9 (E6 p))]) := by
 refine Y2 (TW.goH (κ := false) (S := [b]) ?_ hw)
 unfold N0
 have hll := A4b p
 refine B9 (Hc := [.pt b (.cells #[v] 58)]) d8 (fun w' hw' hs => A8u w' b v p hn (hv.ks0 (fun h => by rw [List.length_eq_zero_iff.1 h]; rfl) hw'.ks hS) hS hs) (by (repeat' constructor)) ?_
 rintro _ r rfl
 refine B9 (Hc := [A1V r (E6 p)]) P4 (fun w' hw' hs => A7D w' r (E6 p) (by omega) hs) (by (repeat' constructor)) ?_
 rintro _ _ rfl
 exact B2 r rfl (by (repeat' constructor))
theorem B4N (w : World) (v : Value) (p : List E8) (hn : p.length ≤ 1000) (hv : G1 w v p.length (p.flatMap F9)) :
  Fn PR C2 112 #[v] w (Rn [] w (fun r u => u = r) fun r => [.own 290 2 r (L9 (E6 p)).length ((L9 (E6 p)).flatMap E3)]) := by
 refine A6M (TW.go (κ := false) (S := []) ?_)
 unfold A2e
 have hll := A4b p
 refine U6 A33 (fun w' _ => B1S w' v (by obtain ⟨a, c, rfl, _⟩ := hv.form; exact ⟨a, _, c, rfl⟩)) ?_
 rintro b _ rfl
 refine B9 (Hc := [.pt b (.cells #[v] 58)]) W5 (fun w' hw' hs => A5g w' b v p hn (hv.ks hw'.ks (by simp)) (fun h0 g hg hgb => ?_) hs) (by (repeat' constructor)) ?_
 ·obtain ⟨a, c, rfl, hr⟩ := hv.form
  obtain ⟨b', o, rfl, hrow⟩ := hr h0
  have hlen : 0 < (p.flatMap F9).length := by rw [H8 (k := 2) fun _ => rfl]; omega
  have h1 := hrow 0 hlen
  rw [List.getElem?_eq_getElem hlen] at h1
  obtain ⟨c', t', z', h2, h3⟩ := V2 h1
  have hlt : b' < sz w := F8 h2
  simp [G8] at hg hgb
  subst hg
  rcases (hw'.own _ A1 b (by simp [Res.foot])).1 with h | h
  ·simp at h
  ·omega
 rintro _ r rfl
 have hsl : (L9 (E6 p)).length ≤ 128000 := by rw [a6]; omega
 generalize L9 (E6 p) = q at *
 refine q7 (e := 284) (k := 2) (v := r) (q := q.length) (xs := q.flatMap E3) (by (repeat constructor)) ?_
 rintro ra rc rfl
 (have zz:=trivial;repeat((first|clear zz|with_reducible first|refine A3 ?_|refine A5 fun _=>?_|refine A4 fun _=>?_);try simp(disch:=first|omega|assumption|((repeat(first|exact A1|exact uH|apply A2|apply uT));first|done|fail)|(simp;first|done|omega|fail))[]))
 refine r4 290 2 ?_
 refine A2M (α := Option Addr × Nat) q.length (fun i x => .slice x.1 i x.2) (fun i x => [.own 290 2 (.slice x.1 i x.2) i ((q.take i).flatMap E3), A1V (.slice ra q.length rc) q]) (fun i _ => True) (none, 0) trivial ?_
 rintro i ⟨xa, xc⟩ hi _ L hL
 by_cases hlt : i < q.length
 ·obtain ⟨x, hx⟩ : ∃ x, q[i]? = some x := ⟨_, List.getElem?_eq_getElem hlt⟩
  have hrl := A85 (f := E3) (k := 2) S6 hx
  have hst : (q.take (i + 1)).flatMap E3 = (q.take i).flatMap E3 ++ E3 x := by rw [List.take_add_one, hx, List.flatMap_append]; simp
  have hL' := fun a c => hL hlt (a, c) trivial
  simp only [hst, E3] at hL'
  rw [E3] at hrl
  have hl0 : ((q.take i).flatMap E3).length = i * 2 := by rw [H8 S6, List.length_take]; congr 1; omega
  refine A8N (e := 284) (k := 2) (v := .slice ra q.length rc) (q := q.length) (xs := q.flatMap E3) (by (repeat constructor)) (by omega) ?_
  rintro g gc hg
  cases hg
  (have zz:=trivial;repeat((first|clear zz|with_reducible first|refine A3 ?_|refine A5 fun _=>?_|refine A4 fun _=>?_|refine m5 fun _=>?_|refine m9 (hK:=fun _=>?_)|refine m7 (hK:=fun _=>?_)|refine m4 (hK:=fun _=>?_)|refine m0 (hK:=fun _=>?_)|refine l9 (hK:=fun _=>?_));try simp(disch:=first|omega|assumption|((repeat(first|exact A1|exact uH|apply A2|apply uT));first|done|fail)|(simp;first|done|omega|fail))[hlt, hrl]))
  refine A1P (e := 290) (k := 2) (q := i) (r := 1) (xs := (q.take i).flatMap E3) (news := [.int .u64 (x.1 : Nat), .int .i64 x.2]) (by (repeat constructor)) (Y8.own (by (repeat constructor))) (by decide) (by simp) (by simp) (by simp only [maxLen]; omega) (by omega) fun a' c' => ?_
  (have zz:=trivial;repeat((first|clear zz|with_reducible first|refine A3 ?_|refine A5 fun _=>?_|refine A4 fun _=>?_);try simp(disch:=first|omega|assumption|((repeat(first|exact A1|exact uH|apply A2|apply uT));first|done|fail)|(simp;first|done|omega|fail))[]))
  exact Sels.tw (by (repeat' constructor)) (hL' a' c')
 ·obtain rfl : i = q.length := by omega
  rw [List.take_length]
  (have zz:=trivial;repeat((first|clear zz|with_reducible first|refine A3 ?_|refine A5 fun _=>?_|refine A4 fun _=>?_);try simp(disch:=first|omega|assumption|((repeat(first|exact A1|exact uH|apply A2|apply uT));first|done|fail)|(simp;first|done|omega|fail))[]))
  exact B2 (.slice xa q.length xc) rfl (by (repeat' constructor))
end Go.Proofs.YtjobgnabneddjaaGreat
namespace Go.Proofs.YtjobgnabneddjaaGreat
open Go
def A0m (X : Nat → Prop) (t0 : Value) (R : Value → WP) : WP :=
 B5 PR X (Instr.box 23 t0) fun t1 =>
 B5 PR X (Instr.alloc 27 true (.tuple #[])) fun t3 =>
 E0 PR X (Instr.storeAt 27 t3 (.int .i64 0)) <|
 A0 PR (Instr.makeFunc (.func 127) #[] #[t3]) fun t5 =>
 A0 PR (Instr.fieldAt 23 t1 0) fun t7 =>
 A6 PR (Instr.loadAt 3 t7) fun t8 =>
 c7 PR X t5 [t8, (.int .i64 1), (.int .i64 64)] fun t9 =>
 A0 PR (Instr.fieldAt 23 t1 1) fun t11 =>
 A6 PR (Instr.loadAt 3 t11) fun t12 =>
 c7 PR X t5 [t12, (.int .i64 1), (.int .i64 16)] fun t13 =>
 A0 PR (Instr.fieldAt 23 t1 2) fun t15 =>
 A6 PR (Instr.loadAt 3 t15) fun t16 =>
 c7 PR X t5 [t16, (.int .i64 1), (.int .i64 64)] fun t17 =>
 A0 PR (Instr.fieldAt 23 t1 3) fun t19 =>
 A6 PR (Instr.loadAt 3 t19) fun t20 =>
 c7 PR X t5 [t20, (.int .i64 0), (.int .i64 1000000)] fun t21 =>
 A0 PR (Instr.fieldAt 23 t1 4) fun t23 =>
 A6 PR (Instr.loadAt 3 t23) fun t24 =>
 c7 PR X t5 [t24, (.int .i64 2), (.int .i64 8)] fun t25 =>
 A6 PR (Instr.loadAt 27 t3) fun t26 =>
 R t26
theorem A4S : A8 PR 65 := A7 Tryz.func65 (by kernel_rfl) rfl
theorem A4c {X : Nat → Prop} {t0 : Value} {R : Value → WP} {w : World} (h : A0m X t0 R w) : Fn PR X 65 #[t0] w R := D6 (args := [t0]) mixed Tryz.func65 (by kernel_rfl) h
def q4 (X : Nat → Prop) (t0 t1 t2 t3 : Value) (R : Value → WP) : WP :=
 A0 PR (binOp .lss 3 t0 t1) fun t9 =>
 gj t9 false (fun J => J t0) fun t11 =>
 gj t9 false (fun J => J t2) fun t12 =>
 gj t9 false (fun J => A0 PR (binOp .gtr 3 t11 t12) J) fun t13 =>
 A0 PR (do pure (if ← asBool t9 then (.bool true) else t13)) fun t14 =>
 D0 t14 (
 E0 PR X (Instr.storeAt 27 t3 (.int .i64 1)) <|
 R (.tuple #[])) (
 R (.tuple #[]))
theorem L8 : A8 PR 127 := A7 Tryz.func127 (by kernel_rfl) rfl
theorem A3E {X : Nat → Prop} {t0 t1 t2 t3 : Value} {R : Value → WP} {w : World} (h : q4 X t0 t1 t2 t3 R w) : Fn PR X 127 #[t0, t1, t2, t3] w R := D6 (args := [t0, t1, t2, t3]) mixed Tryz.func127 (by kernel_rfl) h
end Go.Proofs.YtjobgnabneddjaaGreat
namespace Go.Proofs.YtjobgnabneddjaaGreat
open Go
theorem j0 (w : World) (n lo hi e : Int) (b : Nat) (hw : LW false [b] w [.pt b (.cells #[.int .i64 e] 27)] w) :
  Fn PR C2 127 #[.int .i64 n, .int .i64 lo, .int .i64 hi, .pointer (some ⟨b, 0, none⟩)] w (Rn [b] w (fun (_ : Unit) u => u = .tuple #[]) fun _ => [.pt b (.cells #[.int .i64 (if T4 n lo hi then e else 1)] 27)]) := by
 refine A3E (TW.goH (κ := false) (S := [b]) ?_ hw)
 unfold q4
 by_cases c1 : n < lo
 ·have hf : T4 n lo hi = false := by simp [T4]; omega
  (have zz:=trivial;repeat((first|clear zz|with_reducible first|refine A3 ?_|refine A5 fun _=>?_|refine A4 fun _=>?_);try simp(disch:=first|omega|assumption|((repeat(first|exact A1|exact uH|apply A2|apply uT));first|done|fail)|(simp;first|done|omega|fail))[c1]))
  exact B2 () rfl (by simp only [hf]; (repeat' constructor))
 by_cases c2 : hi < n
 ·have hf : T4 n lo hi = false := by simp [T4]; omega
  (have zz:=trivial;repeat((first|clear zz|with_reducible first|refine A3 ?_|refine A5 fun _=>?_|refine A4 fun _=>?_);try simp(disch:=first|omega|assumption|((repeat(first|exact A1|exact uH|apply A2|apply uT));first|done|fail)|(simp;first|done|omega|fail))[c1, c2]))
  exact B2 () rfl (by simp only [hf]; (repeat' constructor))
 ·have hf : T4 n lo hi = true := by simp [T4]; omega
  (have zz:=trivial;repeat((first|clear zz|with_reducible first|refine A3 ?_|refine A5 fun _=>?_|refine A4 fun _=>?_);try simp(disch:=first|omega|assumption|((repeat(first|exact A1|exact uH|apply A2|apply uT));first|done|fail)|(simp;first|done|omega|fail))[c1, c2]))
  exact B2 () rfl (by simp only [hf]; (repeat' constructor))
theorem A9n (w : World) (c : CfgV) : Fn PR C2 65 #[c.val] w (fun v w' => v = .int .i64 (if S4 c then 0 else 1) ∧ C7 [] w w') := by
 refine Fn.pure (A4c (TW.go (κ := false) (S := []) ?_))
 unfold A0m
 simp only [CfgV.val]
 (have zz:=trivial;repeat((first|clear zz|with_reducible first|refine A3 ?_|refine A5 fun _=>?_|refine A4 fun _=>?_);try simp(disch:=first|omega|assumption|((repeat(first|exact A1|exact uH|apply A2|apply uT));first|done|fail)|(simp;first|done|omega|fail))[]))
 rename_i bc be
 refine B9 (Hc := [.pt be (.cells #[.int .i64 0] 27)]) L8 (fun w' hw hs => j0 w' c.wk 1 64 0 be hs) (by (repeat' constructor)) ?_
 rintro _ _ rfl
 generalize he1 : (if T4 c.wk 1 64 = true then (0 : Int) else 1) = e1
 (have zz:=trivial;repeat((first|clear zz|with_reducible first|refine A3 ?_|refine A5 fun _=>?_|refine A4 fun _=>?_);try simp(disch:=first|omega|assumption|((repeat(first|exact A1|exact uH|apply A2|apply uT));first|done|fail)|(simp;first|done|omega|fail))[]))
 refine B9 (Hc := [.pt be (.cells #[.int .i64 e1] 27)]) L8 (fun w' hw hs => j0 w' c.sh 1 16 e1 be hs) (by (repeat' constructor)) ?_
 rintro _ _ rfl
 generalize he2 : (if T4 c.sh 1 16 = true then e1 else 1) = e2
 (have zz:=trivial;repeat((first|clear zz|with_reducible first|refine A3 ?_|refine A5 fun _=>?_|refine A4 fun _=>?_);try simp(disch:=first|omega|assumption|((repeat(first|exact A1|exact uH|apply A2|apply uT));first|done|fail)|(simp;first|done|omega|fail))[]))
 refine B9 (Hc := [.pt be (.cells #[.int .i64 e2] 27)]) L8 (fun w' hw hs => j0 w' c.cp 1 64 e2 be hs) (by (repeat' constructor)) ?_
 rintro _ _ rfl
 generalize he3 : (if T4 c.cp 1 64 = true then e2 else 1) = e3
 (have zz:=trivial;repeat((first|clear zz|with_reducible first|refine A3 ?_|refine A5 fun _=>?_|refine A4 fun _=>?_);try simp(disch:=first|omega|assumption|((repeat(first|exact A1|exact uH|apply A2|apply uT));first|done|fail)|(simp;first|done|omega|fail))[]))
 refine B9 (Hc := [.pt be (.cells #[.int .i64 e3] 27)]) L8 (fun w' hw hs => j0 w' c.idle 0 1000000 e3 be hs) (by (repeat' constructor)) ?_
 rintro _ _ rfl
 generalize he4 : (if T4 c.idle 0 1000000 = true then e3 else 1) = e4
 (have zz:=trivial;repeat((first|clear zz|with_reducible first|refine A3 ?_|refine A5 fun _=>?_|refine A4 fun _=>?_);try simp(disch:=first|omega|assumption|((repeat(first|exact A1|exact uH|apply A2|apply uT));first|done|fail)|(simp;first|done|omega|fail))[]))
 refine B9 (Hc := [.pt be (.cells #[.int .i64 e4] 27)]) L8 (fun w' hw hs => j0 w' c.sl 2 8 e4 be hs) (by (repeat' constructor)) ?_
 rintro _ _ rfl
 generalize he5 : (if T4 c.sl 2 8 = true then e4 else 1) = e5
 (have zz:=trivial;repeat((first|clear zz|with_reducible first|refine A3 ?_|refine A5 fun _=>?_|refine A4 fun _=>?_);try simp(disch:=first|omega|assumption|((repeat(first|exact A1|exact uH|apply A2|apply uT));first|done|fail)|(simp;first|done|omega|fail))[]))
 refine D1 ?_
 have : e5 = if S4 c then 0 else 1 := by
  rw [← he5, ← he4, ← he3, ← he2, ← he1]
  unfold S4
  cases T4 c.wk 1 64 <;> cases T4 c.sh 1 16 <;> cases T4 c.cp 1 64 <;> cases T4 c.idle 0 1000000 <;> cases T4 c.sl 2 8 <;> rfl
 rw [this]
section
variable {κ : Bool} {S : List Nat} {w0 : World} {H Hj : List Res} {K : Value → WP}
end
end Go.Proofs.YtjobgnabneddjaaGreat
namespace Go.Proofs.YtjobgnabneddjaaGreat
open Go
def A3q (ts : List (Value × List EnV)) : List Nat := ts.flatMap fun t => G8 t.1
def A8S (ts : List (Value × List EnV)) (w : World) : Prop := ∀ t ∈ ts, L7 w 218 4 t.1 t.2.length (t.2.flatMap A3b)
def p8 (ts : List (Value × List EnV)) : Res := .ab (A3q ts) (A8S ts) fun w w' hk h t ht =>
 Res.stable (r := A4u t.1 t.2) (fun b hb => hk b (by rw [A3q, List.mem_flatMap]; exact ⟨t, ht, hb⟩)) (h t ht)
section
variable {κ : Bool} {S : List Nat} {w0 w : World} {H Hk Hc : List Res} {K0 : WP} {ts : List (Value × List EnV)}
theorem v8 {r : Res} (hp : Part Hc H Hk) (hh : ∀ w, (∀ s ∈ Hc, s.holds w) → r.holds w) (hf : ∀ b ∈ r.foot, b ∈ B1 Hc) (h : TW κ S w0 (r :: Hk) K0) : TW κ S w0 H K0 := fun w hw => by
 have hw2 := hw.perm hp.perm
 refine h w ⟨hw2.ks, ?_, ?_, ?_⟩
 ·intro s hs
  rcases List.mem_cons.1 hs with rfl | hs
  ·exact hh w fun s hs => hw2.hold s (List.mem_append_left _ hs)
  ·exact hw2.hold s (List.mem_append_right _ hs)
 ·intro s hs b hb
  rcases List.mem_cons.1 hs with rfl | hs
  ·obtain ⟨q, hq, hbq⟩ := F7.1 (hf b hb)
   exact hw2.own q (List.mem_append_left _ hq) b hbq
  ·exact hw2.own s (List.mem_append_right _ hs) b hb
 ·have hd := List.pairwise_append.1 hw2.dis
  refine List.pairwise_cons.2 ⟨fun s hs b hb => ?_, hd.2.1⟩
  obtain ⟨q, hq, hbq⟩ := F7.1 (hf b hb)
  exact hd.2.2 q hq s hs b hbq
theorem B0x (h : TW κ S w0 (p8 [] :: H) K0) : TW κ S w0 H K0 :=
 v8 (r := p8 []) (Hc := []) Part.nil (fun w _ => (fun t ht => (by cases ht) : A8S [] w)) (fun b hb => (by cases (hb : b ∈ A3q []))) h
theorem A9p {r : Value} {l : List EnV} (hp : Part [A4u r l, p8 ts] H Hk) (h : TW κ S w0 (p8 (ts ++ [(r, l)]) :: Hk) K0) : TW κ S w0 H K0 := by
 refine v8 (r := p8 (ts ++ [(r, l)])) hp (fun w hh => (fun t ht => ?_ : A8S (ts ++ [(r, l)]) w)) (fun b hb => ?_) h
 ·rcases List.mem_append.1 ht with ht | ht
  ·exact (hh _ (List.mem_cons_of_mem _ (List.mem_cons_self ..)) : A8S ts w) t ht
  ·obtain rfl : t = (r, l) := by simpa using ht
   exact hh (A4u r l) (List.mem_cons_self ..)
 ·have hb' : b ∈ A3q (ts ++ [(r, l)]) := hb
  rw [A3q, List.mem_flatMap] at hb'
  obtain ⟨t, ht, hbt⟩ := hb'
  rcases List.mem_append.1 ht with ht | ht
  ·exact F7.2 ⟨p8 ts, by simp, by show b ∈ A3q ts; rw [A3q, List.mem_flatMap]; exact ⟨t, ht, hbt⟩⟩
  ·obtain rfl : t = (r, l) := by simpa using ht
   exact F7.2 ⟨A4u r l, by simp, hbt⟩
end
theorem A8D (l : List E8) : (l.flatMap F9).all plain = true := by
 rw [List.all_eq_true]; intro v hv; rw [List.mem_flatMap] at hv
 obtain ⟨x, _, hx⟩ := hv
 simp only [F9, List.mem_cons, List.not_mem_nil, or_false] at hx
 rcases hx with rfl | rfl <;> rfl
end Go.Proofs.YtjobgnabneddjaaGreat
namespace Go.Proofs.YtjobgnabneddjaaGreat
open Go
section
variable {P : Program} {t x : TypeId} {d : TypeDesc} {n m : Nat} {z : Value} {K : Value → WP}
theorem B1U (h : TI P t d n m z) (hd : ∀ ms, d ≠ .interface ms) : A0 P (Instr.typeAssert .nilIface x t true) K = K (.tuple #[z, .bool false]) :=
 D9 (fun w => by
  simp only [Instr.typeAssert, Sem.run_bind, h.run_und, Result.andThen_ok]
  cases d <;> first | (simp [h.run_zero]; done) | exact absurd rfl (hd _)) K
theorem B1L (h : TI P t d n m z) (hd : ∀ ms, d ≠ .interface ms) (v : Value) : A0 P (Instr.typeAssert (.iface t v) x t true) K = K (.tuple #[v, .bool true]) :=
 D9 (fun w => by
  simp only [Instr.typeAssert, Sem.run_bind, h.run_und, Result.andThen_ok]
  cases d <;> first | (simp; done) | exact absurd rfl (hd _)) K
theorem B2G (h : TI P t d n m z) (hd : ∀ ms, d ≠ .interface ms) {u : TypeId} (hu : u ≠ t) (v : Value) : A0 P (Instr.typeAssert (.iface u v) x t true) K = K (.tuple #[z, .bool false]) :=
 D9 (fun w => by
  simp only [Instr.typeAssert, Sem.run_bind, h.run_und, Result.andThen_ok]
  cases d <;> first | (simp [hu, h.run_zero]; done) | exact absurd rfl (hd _)) K
end
@[simp] theorem B5T (x : TypeId) (K : Value → WP) : A0 PR (Instr.typeAssert .nilIface x 263 true) K = K (.tuple #[.agg #[], .bool false]) := B1U A2w (by intro ms h; cases h)
@[simp] theorem B5B (x : TypeId) (v : Value) (K : Value → WP) : A0 PR (Instr.typeAssert (.iface 263 v) x 263 true) K = K (.tuple #[v, .bool true]) := B1L A2w (by intro ms h; cases h) v
@[simp] theorem B5P (x : TypeId) (v : Value) (K : Value → WP) : A0 PR (Instr.typeAssert (.iface 195 v) x 263 true) K = K (.tuple #[.agg #[], .bool false]) := B2G A2w (by intro ms h; cases h) (by decide) v
inductive SlH where
 | no
 | bld
 | rdy (p : List E8) (pv rv : Value)
def SlH.val : SlH → Value
 | .no => .nilIface
 | .bld => .iface 263 (.agg #[])
 | .rdy _ pv rv => .iface 195 (.agg #[pv, rv])
def SlH.sp : SlH → SlV
 | .no => .no
 | .bld => .bld
 | .rdy p _ _ => .rdy p
def SlH.fo : SlH → List Nat
 | .rdy _ pv rv => G8 pv ++ G8 rv
 | _ => []
def A4T (pv : Value) (p : List E8) : Res := .own 155 2 pv p.length (p.flatMap F9)
def A3r (rv : Value) (p : List E8) : Res := .own 290 2 rv (L9 (E6 p)).length ((L9 (E6 p)).flatMap E3)
def SlH.ok (w : World) : SlH → Prop
 | .rdy p pv rv => (A4T pv p).holds w ∧ (A3r rv p).holds w ∧ p.length ≤ 32
 | _ => True
theorem SlH.keep {w w' : World} {s : SlH} (hk : ∀ b ∈ s.fo, ∀ o, A4j o = true → bl w b = some o → bl w' b = some o) (h : s.ok w) : s.ok w' := by
 cases s with
 | no => trivial
 | bld => trivial
 | rdy p pv rv =>
  refine ⟨Res.stable (fun b hb => hk b ?_) h.1, Res.stable (fun b hb => hk b ?_) h.2.1, h.2.2⟩
  ·exact List.mem_append_left _ hb
  ·exact List.mem_append_right _ hb
def Z4 (ls : List SlH) : List Nat := ls.flatMap SlH.fo
def A1e (ls : List SlH) (w : World) : Prop := ∀ s ∈ ls, s.ok w
def V4 (ls : List SlH) : Res := .ab (Z4 ls) (A1e ls) fun w w' hk h s hs => SlH.keep (fun b hb => hk b (by rw [Z4, List.mem_flatMap]; exact ⟨s, hs, hb⟩)) (h s hs)
def M4 (ls : List SlH) (i : Int) (x : SlH) : List SlH := if 0 ≤ i ∧ i < ls.length then ls.set i.toNat x else ls
theorem A6L (ls : List SlH) (i : Int) (x : SlH) : (M4 ls i x).length = ls.length := by unfold M4; split <;> simp
theorem A4W (ls : List SlH) (i : Int) (x : SlH) : (M4 ls i x).map SlH.sp = L0 (ls.map SlH.sp) i x.sp := by
 unfold M4 L0
 rw [List.length_map]
 split
 ·rw [List.map_set]
 ·rfl
theorem A1q {ls : List SlH} {i : Int} {x s : SlH} (h : s ∈ M4 ls i x) : s ∈ ls ∨ s = x := by
 unfold M4 at h
 split at h
 ·exact List.mem_or_eq_of_mem_set h
 ·exact Or.inl h
def D8 (b : Nat) (sv : Value) (ls : List SlH) : List Res := [.pt b (.cells #[sv] 231), .own 266 1 sv ls.length (ls.map SlH.val), V4 ls]
section
variable {κ : Bool} {S : List Nat} {w0 w : World} {H Hk Hc : List Res} {K0 : WP} {ls : List SlH}
theorem A7g {i : Int} {x : SlH} (hx : x.fo = [] ∧ ∀ w, x.ok w) (hp : Part [V4 ls] H Hk) (h : TW κ S w0 (V4 (M4 ls i x) :: Hk) K0) : TW κ S w0 H K0 := by
 refine v8 (r := V4 (M4 ls i x)) hp (fun w hh => (fun s hs => ?_ : A1e (M4 ls i x) w)) (fun b hb => ?_) h
 ·rcases A1q hs with hs | rfl
  ·exact (hh _ (List.mem_cons_self ..) : A1e ls w) s hs
  ·exact hx.2 w
 ·have hb' : b ∈ Z4 (M4 ls i x) := hb
  rw [Z4, List.mem_flatMap] at hb'
  obtain ⟨s, hs, hbs⟩ := hb'
  rcases A1q hs with hs | rfl
  ·exact F7.2 ⟨V4 ls, by simp, by show b ∈ Z4 ls; rw [Z4, List.mem_flatMap]; exact ⟨s, hs, hbs⟩⟩
  ·rw [hx.1] at hbs; cases hbs
theorem B2T {i : Int} {p : List E8} {pv rv : Value} (hl : p.length ≤ 32) (hp : Part [A4T pv p, A3r rv p, V4 ls] H Hk) (h : TW κ S w0 (V4 (M4 ls i (.rdy p pv rv)) :: Hk) K0) : TW κ S w0 H K0 := by
 refine v8 (r := V4 (M4 ls i (.rdy p pv rv))) hp (fun w hh => (fun s hs => ?_ : A1e (M4 ls i (.rdy p pv rv)) w)) (fun b hb => ?_) h
 ·rcases A1q hs with hs | rfl
  ·exact (hh (V4 ls) (by simp) : A1e ls w) s hs
  ·exact ⟨hh (A4T pv p) (by simp), hh (A3r rv p) (by simp), hl⟩
 ·have hb' : b ∈ Z4 (M4 ls i (.rdy p pv rv)) := hb
  rw [Z4, List.mem_flatMap] at hb'
  obtain ⟨s, hs, hbs⟩ := hb'
  rcases A1q hs with hs | rfl
  ·exact F7.2 ⟨V4 ls, by simp, by show b ∈ Z4 ls; rw [Z4, List.mem_flatMap]; exact ⟨s, hs, hbs⟩⟩
  ·rcases List.mem_append.1 hbs with hbs | hbs
   ·exact F7.2 ⟨A4T pv p, by simp, hbs⟩
   ·exact F7.2 ⟨A3r rv p, by simp, hbs⟩
end
theorem B2w (w : World) (b : Nat) (sv : Value) (xs : List Value) (i : Int) (x : Value) (hx : plain x = true) (hn : xs.length ≤ 1000) (hw : LW false (B1 [.pt b (.cells #[sv] 231), .own 266 1 sv xs.length xs]) w [.pt b (.cells #[sv] 231), .own 266 1 sv xs.length xs] w) :
  Fn PR C2 150 #[.pointer (some ⟨b, 0, none⟩), .int .i64 i, x] w (Rn (B1 [.pt b (.cells #[sv] 231), .own 266 1 sv xs.length xs]) w (fun (_ : Unit) u => u5 u) fun _ => [.pt b (.cells #[sv] 231), .own 266 1 sv xs.length (if 0 ≤ i ∧ i < xs.length then xs.set i.toNat x else xs)]) := by
 refine A2K (TW.goH (κ := false) ?_ hw)
 unfold p4
 refine q7 (e := 266) (k := 1) (v := sv) (q := xs.length) (xs := xs) (by (repeat constructor)) fun a c e => ?_
 subst e
 by_cases c1 : i < 0
 ·(have zz:=trivial;repeat((first|clear zz|with_reducible first|refine A3 ?_|refine A5 fun _=>?_|refine A4 fun _=>?_);try simp(disch:=first|omega|assumption|((repeat(first|exact A1|exact uH|apply A2|apply uT));first|done|fail)|(simp;first|done|omega|fail))[c1]))
  rw [if_neg (by omega)]
  exact B2 () (T6 _) (by (repeat' constructor))
 by_cases c2 : (xs.length : Int) ≤ i
 ·(have zz:=trivial;repeat((first|clear zz|with_reducible first|refine A3 ?_|refine A5 fun _=>?_|refine A4 fun _=>?_);try simp(disch:=first|omega|assumption|((repeat(first|exact A1|exact uH|apply A2|apply uT));first|done|fail)|(simp;first|done|omega|fail))[c1, c2]))
  rw [if_neg (by omega)]
  exact B2 () (T6 _) (by (repeat' constructor))
 obtain ⟨j, rfl⟩ : ∃ j : Nat, i = j := ⟨i.toNat, by omega⟩
 have hj : j < xs.length := by omega
 have hj2 : ¬ xs.length ≤ j := by omega
 rw [if_pos (by omega)]
 refine A8N (e := 266) (k := 1) (v := .slice a xs.length c) (q := xs.length) (xs := xs) (by (repeat constructor)) (by omega) fun g gc hg => ?_
 cases hg
 (have zz:=trivial;repeat((first|clear zz|with_reducible first|refine A3 ?_|refine A5 fun _=>?_|refine A4 fun _=>?_);try simp(disch:=first|omega|assumption|((repeat(first|exact A1|exact uH|apply A2|apply uT));first|done|fail)|(simp;first|done|omega|fail))[c1, c2, hj, hj2]))
 have hxc : x.cells = #[x] := by cases x <;> first | rfl | cases hx
 refine v7 (by (repeat constructor)) (by rw [hxc]; rfl) (by omega) (by rw [hxc]; simpa using hx) ?_
 have e : Z7 xs j x.cells.toList = xs.set j x := by
  rw [hxc, List.set_eq_take_append_cons_drop, if_pos hj]; simp [Z7]
 refine B2 () (T6 _) ?_
 rw [Int.toNat_natCast, ← e]
 (repeat' constructor)
theorem B2Y (ls : List SlH) (i : Int) (x : SlH) : (if 0 ≤ i ∧ i < (ls.map SlH.val).length then (ls.map SlH.val).set i.toNat x.val else ls.map SlH.val) = (M4 ls i x).map SlH.val := by
 unfold M4
 rw [List.length_map]
 split
 ·rw [List.map_set]
 ·rfl
theorem SlH.plain (x : SlH) : Go.Proofs.YtjobgnabneddjaaGreat.plain x.val = true := by cases x <;> rfl
theorem A2W {κ : Bool} {X : Nat → Prop} {S : List Nat} {w0 : World} {H Hk : List Res} {K : Value → WP} {b : Nat} {sv : Value} {ls : List SlH} {i : Int} {x : SlH} (hl : ls.length ≤ 1000) (hp : Part [.pt b (.cells #[sv] 231), .own 266 1 sv ls.length (ls.map SlH.val)] H Hk)
  (hK : ∀ u, u5 u → TW κ S w0 (.pt b (.cells #[sv] 231) :: .own 266 1 sv (M4 ls i x).length ((M4 ls i x).map SlH.val) :: Hk) (K u)) :
  TW κ S w0 H (B7 PR X 150 [.pointer (some ⟨b, 0, none⟩), .int .i64 i, x.val] K) := by
 have hlm : (ls.map SlH.val).length = ls.length := List.length_map ..
 refine B9 (Hc := [.pt b (.cells #[sv] 231), .own 266 1 sv ls.length (ls.map SlH.val)]) A13 (fun w' _ hs => ?_) hp (fun _ u hu => ?_) (α := Unit) (φ := fun _ u => u5 u) (Hn := fun _ => [.pt b (.cells #[sv] 231), .own 266 1 sv (M4 ls i x).length ((M4 ls i x).map SlH.val)])
 ·have := B2w w' b sv (ls.map SlH.val) i x.val x.plain (by rw [hlm]; exact hl) (by rw [hlm]; exact hs)
  rw [B2Y, hlm] at this
  rw [A6L]
  exact this
 ·exact hK u hu
theorem A83 (w : World) (b : Nat) (sv : Value) (ls : List SlH) (i : Int) (hl : ls.length ≤ 8) (hw : LW false (B1 (D8 b sv ls)) w (D8 b sv ls) w) :
  Fn PR C2 94 #[.pointer (some ⟨b, 0, none⟩), .int .i64 i] w (Rn (B1 (D8 b sv ls)) w (fun (_ : Unit) u => u5 u) fun _ => D8 b sv (M4 ls i .bld)) := by
 refine A1m (TW.goH (κ := false) ?_ hw)
 unfold e6
 simp only [D8]
 (have zz:=trivial;repeat((first|clear zz|with_reducible first|refine A3 ?_|refine A5 fun _=>?_|refine A4 fun _=>?_);try simp(disch:=first|omega|assumption|((repeat(first|exact A1|exact uH|apply A2|apply uT));first|done|fail)|(simp;first|done|omega|fail))[]))
 refine A2W (x := .bld) (ls := ls) (sv := sv) (by omega) (by (repeat' constructor)) fun u hu => ?_
 refine A7g (ls := ls) (i := i) (x := .bld) ⟨rfl, fun _ => trivial⟩ (by (repeat' constructor)) ?_
 exact B2 () hu (by (repeat' constructor))
theorem B0C (w : World) (b : Nat) (sv : Value) (ls : List SlH) (i : Int) (hl : ls.length ≤ 8) (hw : LW false (B1 (D8 b sv ls)) w (D8 b sv ls) w) :
  Fn PR C2 98 #[.pointer (some ⟨b, 0, none⟩), .int .i64 i] w (Rn (B1 (D8 b sv ls)) w (fun (_ : Unit) u => u5 u) fun _ => D8 b sv (M4 ls i .no)) := by
 refine A1Z (TW.goH (κ := false) ?_ hw)
 unfold e8
 simp only [D8]
 (have zz:=trivial;repeat((first|clear zz|with_reducible first|refine A3 ?_|refine A5 fun _=>?_|refine A4 fun _=>?_);try simp(disch:=first|omega|assumption|((repeat(first|exact A1|exact uH|apply A2|apply uT));first|done|fail)|(simp;first|done|omega|fail))[]))
 refine A2W (x := .no) (ls := ls) (sv := sv) (by omega) (by (repeat' constructor)) fun u hu => ?_
 refine A7g (ls := ls) (i := i) (x := .no) ⟨rfl, fun _ => trivial⟩ (by (repeat' constructor)) ?_
 exact B2 () hu (by (repeat' constructor))
end Go.Proofs.YtjobgnabneddjaaGreat
namespace Go.Proofs.YtjobgnabneddjaaGreat
open Go
theorem B2U {κ : Bool} {H : List Res} {r : Res} (h : r ∈ H) : Up r r H H := by
 induction H with
 | nil => cases h
 | cons a H ih =>
  rcases List.mem_cons.1 h with rfl | h
  ·exact .here
  ·exact .there (ih h)
theorem A78 {κ : Bool} {X : Nat → Prop} {S : List Nat} {w0 : World} {H : List Res} {K0 : WP} {b : Nat} (hm : Res.pt b (.cells #[] 263) ∈ H) (hK : TW κ S w0 H K0) :
  TW κ S w0 H (E0 PR X (Instr.storeAt 263 (.pointer (some ⟨b, 0, none⟩)) (.agg #[])) K0) := by
 have h := B7C (κ := κ) (X := X) (S := S) (w0 := w0) (K0 := K0) (t := 263) (v := .agg #[]) (b := b) (o := 0) (c := #[]) (T := 263) rfl (B2U (κ := κ) hm) (by simp) rfl
 exact h ▸ hK
def B0d (ls : List SlH) (i : Int) : SlH := if 0 ≤ i ∧ i < ls.length then ls.getD i.toNat .no else .no
theorem B2n (ls : List SlH) (i : Int) : w9 (ls.map SlH.sp) i = (B0d ls i).sp := by
 unfold w9 B0d
 rw [List.length_map]
 split
 ·rename_i h
  rw [List.getD_eq_getElem?_getD, List.getD_eq_getElem?_getD, List.getElem?_map, List.getElem?_eq_getElem (by omega)]; rfl
 ·rfl
theorem B2q {ls : List SlH} {i : Nat} (h : i < ls.length) : (ls.map SlH.val)[i]? = some (ls.getD i .no).val := by
 rw [List.getElem?_map, List.getD_eq_getElem?_getD, List.getElem?_eq_getElem h]; rfl
theorem B1M {l : List SlV} {i : Int} {p : List E8} (h : w9 l i ≠ .bld ∨ H0 p ≠ 0) : j1 l i p = l := by
 unfold j1
 cases hg : w9 l i with
 | no => rfl
 | rdy q => rfl
 | bld =>
  rcases h with h | h
  ·exact absurd hg h
  ·simp [h]
set_option maxHeartbeats 400000 in
theorem B0Y (w : World) (b : Nat) (sv : Value) (ls : List SlH) (i : Int) (pv : Value) (p : List E8) (hl : ls.length ≤ 8) (hp : p.length ≤ 1000) (hv : ∀ w', KS false (B1 (D8 b sv ls)) w w' → G1 w' pv p.length (p.flatMap F9)) (hw : LW false (B1 (D8 b sv ls)) w (D8 b sv ls) w) :
  Fn PR C2 95 #[.pointer (some ⟨b, 0, none⟩), .int .i64 i, pv] w (Rn (B1 (D8 b sv ls)) w (fun (ls' : List SlH) u => u5 u ∧ ls'.length = ls.length ∧ ls'.map SlH.sp = j1 (ls.map SlH.sp) i p) fun ls' => D8 b sv ls') := by
 refine A15 (TW.goH (κ := false) ?_ hw)
 unfold l2
 refine q7 (e := 266) (k := 1) (v := sv) (q := ls.length) (xs := ls.map SlH.val) (by simp only [D8]; (repeat constructor)) fun a c e => ?_
 subst e
 have no : w9 (ls.map SlH.sp) i ≠ .bld ∨ H0 p ≠ 0 → ∀ u, u5 u → u5 u ∧ ls.length = ls.length ∧ ls.map SlH.sp = j1 (ls.map SlH.sp) i p := fun h u hu => ⟨hu, rfl, (B1M h).symm⟩
 simp only [D8] at hv ⊢
 by_cases c1 : i < 0
 ·(have zz:=trivial;repeat((first|clear zz|with_reducible first|refine A3 ?_|refine A5 fun _=>?_|refine A4 fun _=>?_);try simp(disch:=first|omega|assumption|((repeat(first|exact A1|exact uH|apply A2|apply uT));first|done|fail)|(simp;first|done|omega|fail))[c1]))
  exact B2 ls (no (Or.inl (by unfold w9; rw [if_neg (by omega)]; simp)) _ (T6 _)) (by (repeat' constructor))
 by_cases c2 : (ls.length : Int) ≤ i
 ·(have zz:=trivial;repeat((first|clear zz|with_reducible first|refine A3 ?_|refine A5 fun _=>?_|refine A4 fun _=>?_);try simp(disch:=first|omega|assumption|((repeat(first|exact A1|exact uH|apply A2|apply uT));first|done|fail)|(simp;first|done|omega|fail))[c1, c2]))
  exact B2 ls (no (Or.inl (by unfold w9; rw [if_neg (by simp; omega)]; simp)) _ (T6 _)) (by (repeat' constructor))
 obtain ⟨j, rfl⟩ : ∃ j : Nat, i = j := ⟨i.toNat, by omega⟩
 have hj : j < ls.length := by omega
 have hj2 : ¬ ls.length ≤ j := by omega
 refine A8N (e := 266) (k := 1) (v := .slice a ls.length c) (q := ls.length) (xs := ls.map SlH.val) (by (repeat constructor)) (by omega) fun g gc hg => ?_
 cases hg
 (have zz:=trivial;repeat((first|clear zz|with_reducible first|refine A3 ?_|refine A5 fun _=>?_|refine A4 fun _=>?_);try simp(disch:=first|omega|assumption|((repeat(first|exact A1|exact uH|apply A2|apply uT));first|done|fail)|(simp;first|done|omega|fail))[c1, c2, hj, hj2]))
 refine F4 l7 (fun w' hw' => x5 w' pv p (by omega) (hv w' hw'.ks)) ?_
 by_cases c3 : H0 p = 0
 case neg =>
  (have zz:=trivial;repeat((first|clear zz|with_reducible first|refine A3 ?_|refine A5 fun _=>?_|refine A4 fun _=>?_);try simp(disch:=first|omega|assumption|((repeat(first|exact A1|exact uH|apply A2|apply uT));first|done|fail)|(simp;first|done|omega|fail))[c3]))
  exact B2 ls (no (Or.inr c3) _ (T6 _)) (by (repeat' constructor))
 have hat := B2q hj
 have hget : w9 (ls.map SlH.sp) j = (ls.getD j .no).sp := by rw [B2n]; unfold B0d; rw [if_pos (by omega), Int.toNat_natCast]
 obtain ⟨x, hx⟩ : ∃ x, x = ls.getD j .no := ⟨_, rfl⟩
 rw [← hx] at hat hget
 have hatt := (List.getElem?_eq_some_iff.1 hat).2
 cases x with
 | no =>
  simp only [SlH.val] at hat hatt
  (have zz:=trivial;repeat((first|clear zz|with_reducible first|refine A3 ?_|refine A5 fun _=>?_|refine A4 fun _=>?_);try simp(disch:=first|omega|assumption|((repeat(first|exact A1|exact uH|apply A2|apply uT));first|done|fail)|(simp;first|done|omega|fail))[c3, hat, hatt, hj, hj2]))
  refine A78 (by (repeat constructor)) ?_
  (have zz:=trivial;repeat((first|clear zz|with_reducible first|refine A3 ?_|refine A5 fun _=>?_|refine A4 fun _=>?_);try simp(disch:=first|omega|assumption|((repeat(first|exact A1|exact uH|apply A2|apply uT));first|done|fail)|(simp;first|done|omega|fail))[]))
  exact B2 ls (no (Or.inl (by rw [hget]; simp [SlH.sp])) _ (T6 _)) (by (repeat' constructor))
 | rdy q qv rv =>
  simp only [SlH.val] at hat hatt
  (have zz:=trivial;repeat((first|clear zz|with_reducible first|refine A3 ?_|refine A5 fun _=>?_|refine A4 fun _=>?_);try simp(disch:=first|omega|assumption|((repeat(first|exact A1|exact uH|apply A2|apply uT));first|done|fail)|(simp;first|done|omega|fail))[c3, hat, hatt, hj, hj2]))
  refine A78 (by (repeat constructor)) ?_
  (have zz:=trivial;repeat((first|clear zz|with_reducible first|refine A3 ?_|refine A5 fun _=>?_|refine A4 fun _=>?_);try simp(disch:=first|omega|assumption|((repeat(first|exact A1|exact uH|apply A2|apply uT));first|done|fail)|(simp;first|done|omega|fail))[]))
  exact B2 ls (no (Or.inl (by rw [hget]; simp [SlH.sp])) _ (T6 _)) (by (repeat' constructor))
 | bld =>
  simp only [SlH.val] at hat hatt
  have hp32 : p.length ≤ 32 := by
   unfold H0 at c3
   by_cases h : Y4 p && decide (p.length ≤ 32)
   ·simp at h; exact h.2
   ·rw [if_neg h] at c3; omega
  (have zz:=trivial;repeat((first|clear zz|with_reducible first|refine A3 ?_|refine A5 fun _=>?_|refine A4 fun _=>?_);try simp(disch:=first|omega|assumption|((repeat(first|exact A1|exact uH|apply A2|apply uT));first|done|fail)|(simp;first|done|omega|fail))[c3, hat, hatt, hj, hj2]))
  refine A78 (by (repeat constructor)) ?_
  (have zz:=trivial;repeat((first|clear zz|with_reducible first|refine A3 ?_|refine A5 fun _=>?_|refine A4 fun _=>?_);try simp(disch:=first|omega|assumption|((repeat(first|exact A1|exact uH|apply A2|apply uT));first|done|fail)|(simp;first|done|omega|fail))[]))
  refine U6 S9 (fun w' hw' => A9J w' pv p.length (p.flatMap F9) (by omega) (H8 (k := 2) (fun _ => rfl) p) (A8D p) (hv w' hw'.ks)) ?_
  rintro _ qv rfl
  refine U6 A5b (fun w' hw' => B4N w' pv p (by omega) (hv w' hw'.ks)) ?_
  rintro _ rv rfl
  refine A88 (e := 155) (k := 2) (v := qv) (q := p.length) (xs := p.flatMap F9) (by (repeat constructor)) fun hq1 hq2 hq3 => ?_
  refine A88 (e := 290) (k := 2) (v := rv) (q := (L9 (E6 p)).length) (xs := (L9 (E6 p)).flatMap E3) (by (repeat constructor)) fun hr1 hr2 hr3 => ?_
  (have zz:=trivial;repeat((first|clear zz|with_reducible first|refine A3 ?_|refine A5 fun _=>?_|refine A4 fun _=>?_);try simp(disch:=first|omega|assumption|((repeat(first|exact A1|exact uH|apply A2|apply uT));first|done|fail)|(simp;first|done|omega|fail))[hq1, hq2, hr1, hr2]))
  refine A2W (x := .rdy p qv rv) (ls := ls) (by omega) (by (repeat' constructor)) fun u hu => ?_
  refine B2T (ls := ls) (i := (j : Nat)) (p := p) (pv := qv) (rv := rv) hp32 (by unfold A4T A3r; (repeat' constructor)) ?_
  refine B2 (M4 ls (j : Nat) (.rdy p qv rv)) ⟨hu, A6L _ _ _, ?_⟩ (by (repeat' constructor))
  rw [A4W]
  unfold j1
  rw [hget]
  show L0 _ _ (.rdy p) = (if H0 p = 0 then L0 _ _ (.rdy p) else _)
  rw [if_pos c3]
def SlH.rd (w : World) : SlH → Prop
 | .rdy p pv rv => G1 w pv p.length (p.flatMap F9) ∧ G1 w rv (L9 (E6 p)).length ((L9 (E6 p)).flatMap E3) ∧ p.length ≤ 32
 | _ => True
structure SlAt (w : World) (b : Nat) (sv : Value) (ls : List SlH) : Prop where
 blk : bl w b = some (.cells #[sv] 231 (0, 0))
 rd : G1 w sv ls.length (ls.map SlH.val)
 all : ∀ s ∈ ls, s.rd w
theorem SlAt.own {κ : Bool} {S : List Nat} {w0 w : World} {H : List Res} {b : Nat} {sv : Value} {ls : List SlH} (hw : LW κ S w0 H w) (h1 : Res.pt b (.cells #[sv] 231) ∈ H) (h2 : Res.own 266 1 sv ls.length (ls.map SlH.val) ∈ H) (h3 : V4 ls ∈ H) : SlAt w b sv ls := by
 refine ⟨hw.pt h1, Y8.own (e := 266) (k := 1) h2 w hw, fun s hs => ?_⟩
 have := (hw.hold _ h3 : A1e ls w) s hs
 cases s with
 | no => trivial
 | bld => trivial
 | rdy p pv rv => exact ⟨L7.rd this.1, L7.rd this.2.1, this.2.2⟩
theorem SlAt.at {w : World} {b : Nat} {sv : Value} {ls : List SlH} (h : SlAt w b sv ls) {i : Nat} (hi : i < ls.length) : (ls.getD i .no).rd w := by
 apply h.all
 rw [List.getD_eq_getElem?_getD, List.getElem?_eq_getElem hi]
 exact List.getElem_mem hi
theorem SlH.rdks {κ : Bool} {w w' : World} {s : SlH} (hk : KS κ [] w w') (h : s.rd w) : s.rd w' := by
 cases s with
 | no => trivial
 | bld => trivial
 | rdy p pv rv => exact ⟨h.1.ks hk (by simp), h.2.1.ks hk (by simp), h.2.2⟩
theorem SlAt.ks {κ : Bool} {w w' : World} {b : Nat} {sv : Value} {ls : List SlH} (h : SlAt w b sv ls) (hk : KS κ [] w w') : SlAt w' b sv ls :=
 ⟨hk.2.1 _ _ (by simp) rfl h.blk, h.rd.ks hk (by simp), fun s hs => SlH.rdks hk (h.all s hs)⟩
theorem B3U (n : Nat) : (Builtin.zeroCells Value.nilIface.cells n).toList = (List.replicate n SlH.no).map SlH.val := by
 have hz : (Builtin.zeroCells Value.nilIface.cells n).toList.length = n := by simp [size_zeroCells, Value.cells]
 apply List.ext_getElem (by rw [hz]; simp)
 intro i h1 h2
 simp [Builtin.zeroCells, Value.cells, SlH.val, Nat.mod_one]
theorem B2r (w : World) (n : Nat) (hn : n ≤ 8) : Fn PR C2 70 #[.int .i64 (n : Nat)] w (Rn [] w (fun (x : Nat × Value) u => u = .pointer (some ⟨x.1, 0, none⟩)) fun x => D8 x.1 x.2 (List.replicate n SlH.no)) := by
 refine A6m (TW.go (κ := false) (S := []) ?_)
 unfold A2A
 have h1 : min ((n : Nat) : Int) 8 = n := by omega
 have h2 : max 0 ((n : Nat) : Int) = n := by omega
 (have zz:=trivial;repeat((first|clear zz|with_reducible first|refine A3 ?_|refine A5 fun _=>?_|refine A4 fun _=>?_);try simp(disch:=first|omega|assumption|((repeat(first|exact A1|exact uH|apply A2|apply uT));first|done|fail)|(simp;first|done|omega|fail))[h1, h2]))
 refine A1g (by omega) (by omega) (by omega) (by omega) fun bs => ?_
 rw [Int.toNat_natCast, B3U]
 (have zz:=trivial;repeat((first|clear zz|with_reducible first|refine A3 ?_|refine A5 fun _=>?_|refine A4 fun _=>?_);try simp(disch:=first|omega|assumption|((repeat(first|exact A1|exact uH|apply A2|apply uT));first|done|fail)|(simp;first|done|omega|fail))[]))
 rename_i b
 refine v8 (r := V4 (List.replicate n SlH.no)) (Hc := []) Part.nil (fun w _ => (fun s hs => by rw [List.eq_of_mem_replicate hs]; trivial : A1e _ w)) (fun b hb => ?_) ?_
 ·have hb' : b ∈ Z4 (List.replicate n SlH.no) := hb
  rw [Z4, List.mem_flatMap] at hb'
  obtain ⟨s, hs, hbs⟩ := hb'
  rw [List.eq_of_mem_replicate hs] at hbs; cases hbs
 ·refine B2 (b, .slice (some ⟨bs, 0, none⟩) n n) rfl ?_
  simp only [D8, List.length_replicate, List.map_replicate]
  (repeat' constructor)
end Go.Proofs.YtjobgnabneddjaaGreat
namespace Go.Proofs.YtjobgnabneddjaaGreat
open Go
def M5 (c : CfgV) : Array Value := #[.int .i64 c.wk, .int .i64 c.sh, .int .i64 c.cp, .int .i64 c.idle, .int .i64 c.sl]
def G2 (c : CfgV) (pc ps pk tv pv now : Value) : Array Value := #[.int .i64 c.wk, .int .i64 c.sh, .int .i64 c.cp, .int .i64 c.idle, .int .i64 c.sl, pc, ps, pk, tv, pv, now]
def E4 (b : Nat) (c : CfgV) (pc ps pk tv pv now : Value) : Res := .pt b (.cells (G2 c pc ps pk tv pv now) 39)
theorem B1q (w : World) (b b1 : Nat) (c : CfgV) (pc ps pk tv pv now : Value) (hw1 : 0 ≤ c.wk ∧ c.wk ≤ 64) (hs1 : 0 ≤ c.sh ∧ c.sh ≤ 16) (hb1 : bl w b1 = some (.cells (M5 c) 23 (0, 0))) (hne : b1 ≠ b) (hw : LW false [b] w [E4 b c pc ps pk tv pv now] w) :
  Fn PR C2 67 #[.pointer (some ⟨b, 0, none⟩), .pointer (some ⟨b1, 0, none⟩)] w (Rn [b] w (fun (x : Nat × Value × Value) u => u = .tuple #[]) fun x => E4 b c (.pointer (some ⟨x.1, 0, none⟩)) ps pk tv pv now :: C0 x.1 0 x.2.1 x.2.2 (List.replicate (2 + c.wk.toNat) 0) (List.replicate c.sh.toNat (-1))) := by
 refine A31 (TW.goH (κ := false) (S := [b]) ?_ hw)
 unfold A0A
 have h0 : w.cell? ⟨b1, 0, none⟩ = some (.int .i64 c.wk) := by rw [C4 hb1]; rfl
 have h1 : w.cell? ⟨b1, 1, none⟩ = some (.int .i64 c.sh) := by rw [C4 hb1]; rfl
 obtain ⟨n, hn⟩ : ∃ n : Nat, c.wk = n := ⟨c.wk.toNat, by omega⟩
 obtain ⟨k, hk⟩ : ∃ k : Nat, c.sh = k := ⟨c.sh.toNat, by omega⟩
 rw [hn] at h0
 rw [hk] at h1
 simp only [E4, G2, hn, hk, Int.toNat_natCast]
 (have zz:=trivial;repeat((first|clear zz|with_reducible first|refine A3 ?_|refine A5 fun _=>?_|refine A4 fun _=>?_);try simp(disch:=first|omega|assumption|((repeat(first|exact A1|exact uH|apply A2|apply uT));first|done|fail)|(simp;first|done|omega|fail))[h0, h1, hne]))
 rw [show (2 + (n : Int)) = ((2 + n : Nat) : Int) by omega]
 refine U6 A5a (fun w' _ => A7U w' (2 + n) k (by omega) (by omega)) ?_
 rintro x v rfl
 simp only [C0]
 (have zz:=trivial;repeat((first|clear zz|with_reducible first|refine A3 ?_|refine A5 fun _=>?_|refine A4 fun _=>?_);try simp(disch:=first|omega|assumption|((repeat(first|exact A1|exact uH|apply A2|apply uT));first|done|fail)|(simp;first|done|omega|fail))[]))
 exact B2 x rfl (by (repeat' constructor))
theorem B0T (w : World) (b b1 : Nat) (c : CfgV) (pc ps pk tv pv now : Value) (hsl : 0 ≤ c.sl ∧ c.sl ≤ 8) (hb1 : bl w b1 = some (.cells (M5 c) 23 (0, 0))) (hne : b1 ≠ b) (hw : LW false [b] w [E4 b c pc ps pk tv pv now] w) :
  Fn PR C2 69 #[.pointer (some ⟨b, 0, none⟩), .pointer (some ⟨b1, 0, none⟩)] w (Rn [b] w (fun (x : Nat × Value × Nat) u => u = .tuple #[]) fun x => E4 b c pc (.pointer (some ⟨x.1, 0, none⟩)) (.pointer (some ⟨x.2.2, 0, none⟩)) tv pv now :: K1 x.2.2 (List.replicate c.sl.toNat (0, 0)) :: D8 x.1 x.2.1 (List.replicate c.sl.toNat SlH.no)) := by
 refine A34 (TW.goH (κ := false) (S := [b]) ?_ hw)
 unfold A0C
 have h0 : w.cell? ⟨b1, 4, none⟩ = some (.int .i64 c.sl) := by rw [C4 hb1]; rfl
 obtain ⟨n, hn⟩ : ∃ n : Nat, c.sl = n := ⟨c.sl.toNat, by omega⟩
 rw [hn] at h0
 simp only [E4, G2, hn, Int.toNat_natCast]
 (have zz:=trivial;repeat((first|clear zz|with_reducible first|refine A3 ?_|refine A5 fun _=>?_|refine A4 fun _=>?_);try simp(disch:=first|omega|assumption|((repeat(first|exact A1|exact uH|apply A2|apply uT));first|done|fail)|(simp;first|done|omega|fail))[h0, hne]))
 refine U6 A5p (fun w' _ => B2r w' n (by omega)) ?_
 rintro x v rfl
 simp only [D8]
 (have zz:=trivial;repeat((first|clear zz|with_reducible first|refine A3 ?_|refine A5 fun _=>?_|refine A4 fun _=>?_);try simp(disch:=first|omega|assumption|((repeat(first|exact A1|exact uH|apply A2|apply uT));first|done|fail)|(simp;first|done|omega|fail))[h0, hne]))
 refine U6 A5m (fun w' _ => B2d w' n (by omega)) ?_
 rintro bk v rfl
 (have zz:=trivial;repeat((first|clear zz|with_reducible first|refine A3 ?_|refine A5 fun _=>?_|refine A4 fun _=>?_);try simp(disch:=first|omega|assumption|((repeat(first|exact A1|exact uH|apply A2|apply uT));first|done|fail)|(simp;first|done|omega|fail))[]))
 refine B2 (x.1, x.2, bk) rfl ?_
 simp only [List.length_replicate, List.map_replicate]
 (repeat' constructor)
def A2C (l : List Nat) : List Value := l.map fun n : Nat => .int .i64 (n : Int)
theorem B0P (w : World) (b b1 : Nat) (c : CfgV) (pc ps pk now : Value) (hs1 : 1 ≤ c.sh ∧ c.sh ≤ 16) (hc1 : 1 ≤ c.cp ∧ c.cp ≤ 64) (hb1 : bl w b1 = some (.cells (M5 c) 23 (0, 0))) (hne : b1 ≠ b) (hw : LW false [b] w [E4 b c pc ps pk (.slice none 0 0) (.slice none 0 0) now] w) :
  Fn PR C2 72 #[.pointer (some ⟨b, 0, none⟩), .pointer (some ⟨b1, 0, none⟩)] w (Rn [b] w (fun (x : Value × Value × List (Value × List EnV)) u => u = .tuple #[] ∧ x.2.2.map (·.2) = List.replicate c.sh.toNat (j3 c.cp.toNat)) fun x => [E4 b c pc ps pk x.1 x.2.1 now, .own 84 1 x.1 x.2.2.length (x.2.2.map (·.1)), .own 3 1 x.2.1 x.2.2.length (A2C (List.replicate c.sh.toNat 0)), p8 x.2.2]) := by
 refine A35 (TW.goH (κ := false) (S := [b]) ?_ hw)
 unfold A0B
 have h0 : w.cell? ⟨b1, 1, none⟩ = some (.int .i64 c.sh) := by rw [C4 hb1]; rfl
 have h1 : w.cell? ⟨b1, 2, none⟩ = some (.int .i64 c.cp) := by rw [C4 hb1]; rfl
 obtain ⟨n, hn⟩ : ∃ n : Nat, c.sh = n := ⟨c.sh.toNat, by omega⟩
 obtain ⟨k, hk⟩ : ∃ k : Nat, c.cp = k := ⟨c.cp.toNat, by omega⟩
 rw [hn] at h0
 rw [hk] at h1
 simp only [E4, G2, hn, hk, Int.toNat_natCast]
 (have zz:=trivial;repeat((first|clear zz|with_reducible first|refine A3 ?_|refine A5 fun _=>?_|refine A4 fun _=>?_);try simp(disch:=first|omega|assumption|((repeat(first|exact A1|exact uH|apply A2|apply uT));first|done|fail)|(simp;first|done|omega|fail))[h0, h1, hne]))
 refine r4 84 1 ?_
 refine r4 3 1 ?_
 refine B0x ?_
 refine Sels.tw (rs := [.pt b (.cells #[.int .i64 c.wk, .int .i64 (n : Nat), .int .i64 (k : Nat), .int .i64 c.idle, .int .i64 c.sl, pc, ps, pk, .slice none 0 0, .slice none 0 0, now] 39), .own 84 1 (.slice none 0 0) 0 [], .own 3 1 (.slice none 0 0) 0 [], p8 []]) (by (repeat' constructor)) ?_
 refine A4v (α := Option Addr × Nat × Option Addr × Nat × List (Value × List EnV)) n (fun i x => [.pt b (.cells #[.int .i64 c.wk, .int .i64 (n : Nat), .int .i64 (k : Nat), .int .i64 c.idle, .int .i64 c.sl, pc, ps, pk, .slice x.1 i x.2.1, .slice x.2.2.1 i x.2.2.2.1, now] 39), .own 84 1 (.slice x.1 i x.2.1) i (x.2.2.2.2.map (·.1)), .own 3 1 (.slice x.2.2.1 i x.2.2.2.1) i (A2C (List.replicate i 0)), p8 x.2.2.2.2]) (fun i x => x.2.2.2.2.length = i ∧ x.2.2.2.2.map (·.2) = List.replicate i (j3 k)) (none, 0, none, 0, []) ⟨rfl, rfl⟩ ?_
 ·rintro i ⟨ta, tc, pa, qc, ts⟩ hi ⟨hlen, hmap⟩ L hL
  simp only at hlen hmap ⊢
  by_cases hlt : i < n
  ·(have zz:=trivial;repeat((first|clear zz|with_reducible first|refine A3 ?_|refine A5 fun _=>?_|refine A4 fun _=>?_);try simp(disch:=first|omega|assumption|((repeat(first|exact A1|exact uH|apply A2|apply uT));first|done|fail)|(simp;first|done|omega|fail))[h1, hne, hlt]))
   refine U6 A5k (fun w' _ => A7M w' k (by omega)) ?_
   intro y u hu
   subst hu
   refine q7 (e := 218) (k := 4) (v := u) (q := (j3 k).length) (xs := (j3 k).flatMap A3b) (by (repeat constructor)) fun ua uc hu => ?_
   subst hu
   (have zz:=trivial;repeat((first|clear zz|with_reducible first|refine A3 ?_|refine A5 fun _=>?_|refine A4 fun _=>?_|refine m5 fun _=>?_|refine m9 (hK:=fun _=>?_)|refine m7 (hK:=fun _=>?_)|refine m4 (hK:=fun _=>?_)|refine m0 (hK:=fun _=>?_)|refine l9 (hK:=fun _=>?_));try simp(disch:=first|omega|assumption|((repeat(first|exact A1|exact uH|apply A2|apply uT));first|done|fail)|(simp;first|done|omega|fail))[h1, hne, hlt]))
   refine A1P (e := 84) (k := 1) (q := i) (r := 1) (xs := ts.map (·.1)) (news := [.slice ua (j3 k).length uc]) (by (repeat constructor)) (Y8.own (by (repeat constructor))) (by decide) (by simp [hlen]) (by simp) (by simp only [maxLen]; omega) (by omega) fun a' c' => ?_
   (have zz:=trivial;repeat((first|clear zz|with_reducible first|refine A3 ?_|refine A5 fun _=>?_|refine A4 fun _=>?_|refine m5 fun _=>?_|refine m9 (hK:=fun _=>?_)|refine m7 (hK:=fun _=>?_)|refine m4 (hK:=fun _=>?_)|refine m0 (hK:=fun _=>?_)|refine l9 (hK:=fun _=>?_));try simp(disch:=first|omega|assumption|((repeat(first|exact A1|exact uH|apply A2|apply uT));first|done|fail)|(simp;first|done|omega|fail))[h1, hne, hlt]))
   refine A1P (e := 3) (k := 1) (q := i) (r := 1) (xs := A2C (List.replicate i 0)) (news := [.int .i64 0]) (by (repeat constructor)) (Y8.own (by (repeat constructor))) (by decide) (by simp) (by simp) (by simp only [maxLen]; omega) (by omega) fun a'' c'' => ?_
   (have zz:=trivial;repeat((first|clear zz|with_reducible first|refine A3 ?_|refine A5 fun _=>?_|refine A4 fun _=>?_);try simp(disch:=first|omega|assumption|((repeat(first|exact A1|exact uH|apply A2|apply uT));first|done|fail)|(simp;first|done|omega|fail))[]))
   refine A9p (r := .slice ua (j3 k).length uc) (l := j3 k) (ts := ts) (by (repeat' constructor)) ?_
   have h := hL hlt (a', c', a'', c'', ts ++ [(.slice ua (j3 k).length uc, j3 k)]) ⟨by simp [hlen], by rw [List.map_append, hmap, List.replicate_succ']; rfl⟩
   have e : A2C (List.replicate (i + 1) 0) = A2C (List.replicate i 0) ++ [.int .i64 0] := by rw [List.replicate_succ', A2C, List.map_append]; rfl
   simp only [List.map_append, List.map_cons, List.map_nil, e] at h
   exact Sels.tw (by (repeat' constructor)) h
  ·obtain rfl : i = n := by omega
   (have zz:=trivial;repeat((first|clear zz|with_reducible first|refine A3 ?_|refine A5 fun _=>?_|refine A4 fun _=>?_);try simp(disch:=first|omega|assumption|((repeat(first|exact A1|exact uH|apply A2|apply uT));first|done|fail)|(simp;first|done|omega|fail))[]))
   refine B2 (.slice ta i tc, .slice pa i qc, ts) ⟨rfl, hmap⟩ ?_
   simp only [hlen]
   (repeat' constructor)
end Go.Proofs.YtjobgnabneddjaaGreat
namespace Go.Proofs.YtjobgnabneddjaaGreat
open Go
structure WoH where
 b : Nat
 bc : Nat
 bs : Nat
 bk : Nat
 cn : Int
 cv : Value
 ov : Value
 sv : Value
 tv : Value
 pv : Value
 c : CfgV
 cells : List Int
 own : List Int
 ls : List SlH
 keep : List (Int × Int)
 ts : List (Value × List EnV)
 pl : List Nat
 now : Int
def D7 (m : WoH) : List Res := [E4 m.b m.c (.pointer (some ⟨m.bc, 0, none⟩)) (.pointer (some ⟨m.bs, 0, none⟩)) (.pointer (some ⟨m.bk, 0, none⟩)) m.tv m.pv (.int .i64 m.now),
 .pt m.bc (.cells #[.int .i64 m.cn, m.cv, m.ov] 141), .own 3 1 m.cv m.cells.length (E7 m.cells), .own 3 1 m.ov m.own.length (E7 m.own),
 .pt m.bs (.cells #[m.sv] 231), .own 266 1 m.sv m.ls.length (m.ls.map SlH.val), V4 m.ls, K1 m.bk m.keep,
 .own 84 1 m.tv m.ts.length (m.ts.map (·.1)), .own 3 1 m.pv m.pl.length (A2C m.pl)]
def WoH.ws (m : WoH) : WS := ⟨m.c, m.cells, m.own, m.ls.map SlH.sp, m.keep, m.ts.map (·.2), m.pl, m.now⟩
def N5 (c : CfgV) : WS := ⟨c, List.replicate (2 + c.wk.toNat) 0, List.replicate c.sh.toNat (-1), List.replicate c.sl.toNat .no, List.replicate c.sl.toNat (0, 0), List.replicate c.sh.toNat (j3 c.cp.toNat), List.replicate c.sh.toNat 0, 0⟩
abbrev B2D := (Nat × Value × Value) × (Nat × Value × Nat) × (Value × Value × List (Value × List EnV))
def L6 : Value := .pointer none
def H7 : Value := .slice none 0 0
def A2s (b : Nat) (c : CfgV) : Nat → B2D → List Res
 | 0, x => [E4 b c L6 L6 L6 H7 H7 (.int .i64 0)]
 | 1, x => E4 b c (.pointer (some ⟨x.1.1, 0, none⟩)) L6 L6 H7 H7 (.int .i64 0) :: C0 x.1.1 0 x.1.2.1 x.1.2.2 (List.replicate (2 + c.wk.toNat) 0) (List.replicate c.sh.toNat (-1))
 | 2, x => E4 b c (.pointer (some ⟨x.1.1, 0, none⟩)) (.pointer (some ⟨x.2.1.1, 0, none⟩)) (.pointer (some ⟨x.2.1.2.2, 0, none⟩)) H7 H7 (.int .i64 0) :: (C0 x.1.1 0 x.1.2.1 x.1.2.2 (List.replicate (2 + c.wk.toNat) 0) (List.replicate c.sh.toNat (-1)) ++ K1 x.2.1.2.2 (List.replicate c.sl.toNat (0, 0)) :: D8 x.2.1.1 x.2.1.2.1 (List.replicate c.sl.toNat SlH.no))
 | _, x => E4 b c (.pointer (some ⟨x.1.1, 0, none⟩)) (.pointer (some ⟨x.2.1.1, 0, none⟩)) (.pointer (some ⟨x.2.1.2.2, 0, none⟩)) x.2.2.1 x.2.2.2.1 (.int .i64 0) :: (C0 x.1.1 0 x.1.2.1 x.1.2.2 (List.replicate (2 + c.wk.toNat) 0) (List.replicate c.sh.toNat (-1)) ++ K1 x.2.1.2.2 (List.replicate c.sl.toNat (0, 0)) :: (D8 x.2.1.1 x.2.1.2.1 (List.replicate c.sl.toNat SlH.no) ++ [.own 84 1 x.2.2.1 x.2.2.2.2.length (x.2.2.2.2.map (·.1)), .own 3 1 x.2.2.2.1 x.2.2.2.2.length (A2C (List.replicate c.sh.toNat 0)), p8 x.2.2.2.2]))
theorem B08 (w : World) (b1 : Nat) (c : CfgV) (pv : Value) (hok : S4 c = true) (hb1 : bl w b1 = some (.cells (M5 c) 23 (0, 0)))
  (hv : G1 w pv 3 [.func (.func 67) #[] #[.pointer (some ⟨b1, 0, none⟩)], .func (.func 69) #[] #[.pointer (some ⟨b1, 0, none⟩)], .func (.func 72) #[] #[.pointer (some ⟨b1, 0, none⟩)]]) :
  Fn PR C2 66 #[c.val, pv] w (Rn [] w (fun (y : WoH) u => u = .pointer (some ⟨y.b, 0, none⟩) ∧ y.c = c ∧ y.ws = N5 c) fun y => D7 y ++ [p8 y.ts]) := by
 refine A5d (TW.go (κ := false) (S := []) ?_)
 unfold A1x
 have hb : (1 ≤ c.wk ∧ c.wk ≤ 64) ∧ (1 ≤ c.sh ∧ c.sh ≤ 16) ∧ (1 ≤ c.cp ∧ c.cp ≤ 64) ∧ (2 ≤ c.sl ∧ c.sl ≤ 8) := by
  simp [S4, T4] at hok; omega
 obtain ⟨a, cap, rfl, hr⟩ := hv.form
 obtain ⟨g, o, rfl, hrow⟩ := hr (by omega)
 simp only [CfgV.val]
 (have zz:=trivial;repeat((first|clear zz|with_reducible first|refine A3 ?_|refine A5 fun _=>?_|refine A4 fun _=>?_);try simp(disch:=first|omega|assumption|((repeat(first|exact A1|exact uH|apply A2|apply uT));first|done|fail)|(simp;first|done|omega|fail))[]))
 rename_i b2 b
 refine A4v (α := B2D) 3 (fun i x => A2s b c i x ++ [.pt b2 (.cells (M5 c) 23)]) (fun i x => i = 3 → x.2.2.2.2.map (·.2) = List.replicate c.sh.toNat (j3 c.cp.toNat)) ((0, L6, L6), (0, L6, 0), (L6, L6, [])) (by omega) ?_ (by simp [A2s, E4, G2, M5, L6, H7])
 have r0 : w.cell? ⟨g, o, none⟩ = some (.func (.func 67) #[] #[.pointer (some ⟨b1, 0, none⟩)]) := hrow 0 (by simp)
 have r1 : w.cell? ⟨g, o + 1, none⟩ = some (.func (.func 69) #[] #[.pointer (some ⟨b1, 0, none⟩)]) := hrow 1 (by simp)
 have r2 : w.cell? ⟨g, o + 2, none⟩ = some (.func (.func 72) #[] #[.pointer (some ⟨b1, 0, none⟩)]) := hrow 2 (by simp)
 have hne : ∀ {w' : World} {A : List Res}, LW false [] w A w' → ∀ pc ps pk tv pv now, E4 b c pc ps pk tv pv now ∈ A → b1 ≠ b := fun {w' A} hw' pc ps pk tv pv now hm e => by
  have := (hw'.own _ hm b (by simp [E4, Res.foot])).1
  have h1 := F8 hb1
  rcases this with h | h
  ·cases h
  ·omega
 have hbb : ∀ w', KS false [] w w' → bl w' b1 = some (.cells (M5 c) 23 (0, 0)) := fun w' hk => hk.2.1 _ _ (by simp) rfl hb1
 rintro i ⟨⟨bc, cv, ov⟩, ⟨bs, sv, bk⟩, ⟨tv, pv', ts⟩⟩ hi hφ L hL
 have hi4 : i = 0 ∨ i = 1 ∨ i = 2 ∨ i = 3 := by omega
 rcases hi4 with rfl | rfl | rfl | rfl
 ·simp only [A2s, List.cons_append, List.nil_append, C0] at hL ⊢
  (have zz:=trivial;repeat((first|clear zz|with_reducible first|refine A3 ?_|refine A5 fun _=>?_|refine A4 fun _=>?_);try simp(disch:=first|omega|assumption|((repeat(first|exact A1|exact uH|apply A2|apply uT));first|done|fail)|(simp;first|done|omega|fail))[r0]))
  refine B9 (Hc := [E4 b c L6 L6 L6 H7 H7 (.int .i64 0)]) A3n (fun w' hw' hs => B1q w' b b1 c _ _ _ _ _ _ (by omega) (by omega) (hbb w' hw'.ks) (hne hw' _ _ _ _ _ _ (List.mem_cons_self ..)) hs) (by (repeat' constructor)) ?_
  rintro x v rfl
  simp only [C0, List.cons_append, List.nil_append]
  (have zz:=trivial;repeat((first|clear zz|with_reducible first|refine A3 ?_|refine A5 fun _=>?_|refine A4 fun _=>?_);try simp(disch:=first|omega|assumption|((repeat(first|exact A1|exact uH|apply A2|apply uT));first|done|fail)|(simp;first|done|omega|fail))[]))
  have h := hL (by omega) (x, (0, L6, 0), (L6, L6, [])) (by omega)
  simp only [List.length_replicate, List.map_replicate] at h ⊢
  exact Sels.tw (by (repeat' constructor)) h
 ·simp only [A2s, List.cons_append, List.nil_append, C0, D8] at hL ⊢
  (have zz:=trivial;repeat((first|clear zz|with_reducible first|refine A3 ?_|refine A5 fun _=>?_|refine A4 fun _=>?_);try simp(disch:=first|omega|assumption|((repeat(first|exact A1|exact uH|apply A2|apply uT));first|done|fail)|(simp;first|done|omega|fail))[r1]))
  refine B9 (Hc := [E4 b c (.pointer (some ⟨bc, 0, none⟩)) L6 L6 H7 H7 (.int .i64 0)]) A3f (fun w' hw' hs => B0T w' b b1 c _ _ _ _ _ _ (by omega) (hbb w' hw'.ks) (hne hw' _ _ _ _ _ _ (List.mem_cons_self ..)) hs) (by (repeat' constructor)) ?_
  rintro x v rfl
  simp only [D8, List.cons_append, List.nil_append]
  (have zz:=trivial;repeat((first|clear zz|with_reducible first|refine A3 ?_|refine A5 fun _=>?_|refine A4 fun _=>?_);try simp(disch:=first|omega|assumption|((repeat(first|exact A1|exact uH|apply A2|apply uT));first|done|fail)|(simp;first|done|omega|fail))[]))
  have h := hL (by omega) ((bc, cv, ov), x, (L6, L6, [])) (by omega)
  simp only [List.length_replicate, List.map_replicate] at h ⊢
  exact Sels.tw (by (repeat' constructor)) h
 ·simp only [A2s, List.cons_append, List.nil_append, C0, D8] at hL ⊢
  (have zz:=trivial;repeat((first|clear zz|with_reducible first|refine A3 ?_|refine A5 fun _=>?_|refine A4 fun _=>?_);try simp(disch:=first|omega|assumption|((repeat(first|exact A1|exact uH|apply A2|apply uT));first|done|fail)|(simp;first|done|omega|fail))[r2]))
  refine B9 (Hc := [E4 b c (.pointer (some ⟨bc, 0, none⟩)) (.pointer (some ⟨bs, 0, none⟩)) (.pointer (some ⟨bk, 0, none⟩)) H7 H7 (.int .i64 0)]) A3S (fun w' hw' hs => B0P w' b b1 c _ _ _ _ (by omega) (by omega) (hbb w' hw'.ks) (hne hw' _ _ _ _ _ _ (List.mem_cons_self ..)) hs) (by (repeat' constructor)) ?_
  rintro x v ⟨rfl, hx⟩
  simp only [List.cons_append, List.nil_append]
  (have zz:=trivial;repeat((first|clear zz|with_reducible first|refine A3 ?_|refine A5 fun _=>?_|refine A4 fun _=>?_);try simp(disch:=first|omega|assumption|((repeat(first|exact A1|exact uH|apply A2|apply uT));first|done|fail)|(simp;first|done|omega|fail))[]))
  have h := hL (by omega) ((bc, cv, ov), (bs, sv, bk), x) (fun _ => hx)
  simp only [List.length_replicate, List.map_replicate] at h ⊢
  exact Sels.tw (by (repeat' constructor)) h
 ·have ht := hφ rfl
  simp only [A2s, List.cons_append, List.nil_append, C0, D8] at ht ⊢
  have hlen : ts.length = c.sh.toNat := by
   have := congrArg List.length ht
   simpa using this
  (have zz:=trivial;repeat((first|clear zz|with_reducible first|refine A3 ?_|refine A5 fun _=>?_|refine A4 fun _=>?_);try simp(disch:=first|omega|assumption|((repeat(first|exact A1|exact uH|apply A2|apply uT));first|done|fail)|(simp;first|done|omega|fail))[]))
  refine B2 ⟨b, bc, bs, bk, 0, cv, ov, sv, tv, pv', c, List.replicate (2 + c.wk.toNat) 0, List.replicate c.sh.toNat (-1), List.replicate c.sl.toNat SlH.no, List.replicate c.sl.toNat (0, 0), ts, List.replicate c.sh.toNat 0, 0⟩ ⟨rfl, rfl, by simp [WoH.ws, N5, ht, SlH.sp]⟩ ?_
  simp only [D7, List.cons_append, List.nil_append, List.length_replicate, List.map_replicate, hlen]
  (repeat' constructor)
end Go.Proofs.YtjobgnabneddjaaGreat
namespace Go.Proofs.YtjobgnabneddjaaGreat
open Go
theorem A7n (w : World) (c : CfgV) : Fn PR C2 16 #[c.val] w (Rn [] w (fun (y : WoH) u => if S4 c then u = .tuple #[.pointer (some ⟨y.b, 0, none⟩), .int .i64 0] ∧ y.c = c ∧ y.ws = N5 c else u = .tuple #[.pointer none, .int .i64 1]) fun y => if S4 c then D7 y ++ [p8 y.ts] else []) := by
 refine A6p (TW.go (κ := false) (S := []) ?_)
 unfold A18
 simp only [CfgV.val]
 (have zz:=trivial;repeat((first|clear zz|with_reducible first|refine A3 ?_|refine A5 fun _=>?_|refine A4 fun _=>?_);try simp(disch:=first|omega|assumption|((repeat(first|exact A1|exact uH|apply A2|apply uT));first|done|fail)|(simp;first|done|omega|fail))[]))
 rename_i b1
 refine F4 A4S (fun w' _ => A9n w' c) ?_
 cases hok : S4 c with
 | false =>
  (have zz:=trivial;repeat((first|clear zz|with_reducible first|refine A3 ?_|refine A5 fun _=>?_|refine A4 fun _=>?_);try simp(disch:=first|omega|assumption|((repeat(first|exact A1|exact uH|apply A2|apply uT));first|done|fail)|(simp;first|done|omega|fail))[]))
  exact B2 ⟨0, 0, 0, 0, 0, L6, L6, L6, L6, L6, c, [], [], [], [], [], [], 0⟩ (by simp) Sels.nil
 | true =>
  (have zz:=trivial;repeat((first|clear zz|with_reducible first|refine A3 ?_|refine A5 fun _=>?_|refine A4 fun _=>?_|refine m5 fun _=>?_|refine m9 (hK:=fun _=>?_)|refine m7 (hK:=fun _=>?_)|refine m4 (hK:=fun _=>?_)|refine m0 (hK:=fun _=>?_)|refine l9 (hK:=fun _=>?_));try simp(disch:=first|omega|assumption|((repeat(first|exact A1|exact uH|apply A2|apply uT));first|done|fail)|(simp;first|done|omega|fail))[]))
  rename_i g
  refine U6 A43 (fun w' hw' => B08 w' b1 c _ hok (hw'.pt (by (repeat constructor))) (Y8.own (e := 124) (k := 1) (by (repeat constructor)) w' hw')) ?_
  rintro y v ⟨rfl, hy⟩
  (have zz:=trivial;repeat((first|clear zz|with_reducible first|refine A3 ?_|refine A5 fun _=>?_|refine A4 fun _=>?_);try simp(disch:=first|omega|assumption|((repeat(first|exact A1|exact uH|apply A2|apply uT));first|done|fail)|(simp;first|done|omega|fail))[]))
  refine B2 y ⟨rfl, hy⟩ ?_
  simp only [D7, List.cons_append, List.nil_append]
  (repeat' constructor)
theorem A7a (w : World) (b : Nat) (c : CfgV) (pc ps pk tv pv now : Value) (who : Int) (hwk : c.wk ≤ 64) (hb : bl w b = some (.cells (G2 c pc ps pk tv pv now) 39 (0, 0))) :
  Fn PR C2 57 #[.pointer (some ⟨b, 0, none⟩), .int .i64 who] w (fun u w' => u = .int .i64 (s7 c who) ∧ C7 [] w w') := by
 refine Fn.pure (A2g (TW.go (κ := false) (S := []) ?_))
 unfold n9
 have h0 : w.cell? ⟨b, 0, none⟩ = some (.int .i64 c.wk) := by rw [C4 hb]; rfl
 unfold s7
 by_cases c1 : who < 1
 ·rw [if_pos (Or.inl c1)]
  (have zz:=trivial;repeat((first|clear zz|with_reducible first|refine A3 ?_|refine A5 fun _=>?_|refine A4 fun _=>?_);try simp(disch:=first|omega|assumption|((repeat(first|exact A1|exact uH|apply A2|apply uT));first|done|fail)|(simp;first|done|omega|fail))[c1]))
  exact D1 rfl
 by_cases c2 : c.wk < who
 ·rw [if_pos (Or.inr c2)]
  (have zz:=trivial;repeat((first|clear zz|with_reducible first|refine A3 ?_|refine A5 fun _=>?_|refine A4 fun _=>?_);try simp(disch:=first|omega|assumption|((repeat(first|exact A1|exact uH|apply A2|apply uT));first|done|fail)|(simp;first|done|omega|fail))[c1, c2, h0]))
  exact D1 rfl
 rw [if_neg (by omega)]
 (have zz:=trivial;repeat((first|clear zz|with_reducible first|refine A3 ?_|refine A5 fun _=>?_|refine A4 fun _=>?_);try simp(disch:=first|omega|assumption|((repeat(first|exact A1|exact uH|apply A2|apply uT));first|done|fail)|(simp;first|done|omega|fail))[c1, c2, h0]))
 exact D1 (by congr 1; omega)
end Go.Proofs.YtjobgnabneddjaaGreat
namespace Go.Proofs.YtjobgnabneddjaaGreat
open Go
def D2 (b : JB) (rest : List Value) : Array Value := (.int .i64 b.who :: .int .i64 b.st :: .int .i64 b.ans.err :: .int .i64 b.ans.bk :: .bool b.ans.made :: .int .i64 b.ans.count :: rest).toArray
def T0 (t : r7) : Value := .agg #[.bool t.1, .bool t.2.1, .bool t.2.2]
theorem A4D (w : World) (b : Nat) (T : TypeId) (j : JB) (rest : List Value) (e : Int) (hw : LW false [b] w [.pt b (.cells (D2 j rest) T)] w) :
  Fn PR C2 320 #[.pointer (some ⟨b, 0, none⟩), .int .i64 e] w (Rn [b] w (fun (_ : Unit) u => u = T0 (true, true, false)) fun _ => [.pt b (.cells (D2 (j.refuse e) rest) T)]) := by
 refine A0N (TW.goH (κ := false) (S := [b]) ?_ hw)
 unfold Z0
 simp only [D2, JB.refuse]
 (have zz:=trivial;repeat((first|clear zz|with_reducible first|refine A3 ?_|refine A5 fun _=>?_|refine A4 fun _=>?_);try simp(disch:=first|omega|assumption|((repeat(first|exact A1|exact uH|apply A2|apply uT));first|done|fail)|(simp;first|done|omega|fail))[]))
 exact B2 () rfl (by (repeat' constructor))
theorem A3s (w : World) (b : Nat) (T : TypeId) (j : JB) (rest : List Value) (hw : LW false [b] w [.pt b (.cells (D2 j rest) T)] w) :
  Fn PR C2 323 #[.pointer (some ⟨b, 0, none⟩)] w (Rn [b] w (fun (_ : Unit) u => u = T0 (false, true, false)) fun _ => [.pt b (.cells (D2 { j with st := -1 } rest) T)]) := by
 refine A0W (TW.goH (κ := false) (S := [b]) ?_ hw)
 unfold Y3
 simp only [D2]
 (have zz:=trivial;repeat((first|clear zz|with_reducible first|refine A3 ?_|refine A5 fun _=>?_|refine A4 fun _=>?_);try simp(disch:=first|omega|assumption|((repeat(first|exact A1|exact uH|apply A2|apply uT));first|done|fail)|(simp;first|done|omega|fail))[]))
 exact B2 () rfl (by (repeat' constructor))
end Go.Proofs.YtjobgnabneddjaaGreat
namespace Go.Proofs.YtjobgnabneddjaaGreat
open Go
def E5 (b : Nat) (j : JU) (pv qv : Value) : Res := .pt b (.cells (D2 j.b [pv, qv, .int .i64 j.slot, .int .i64 j.old]) 163)
def G0 (j : JU) (qv : Value) : Res := .own 3 1 qv j.pins.length (E7 j.pins)
structure WsOk (x : WS) : Prop where
 wk : 1 ≤ x.c.wk ∧ x.c.wk ≤ 64
 cells : x.cells.length = 2 + x.c.wk.toNat
 own : x.own.length ≤ 16
 sl : x.sl.length ≤ 8
 keep : x.keep.length ≤ 8
def WoH.sk (m : WoH) (ls : List SlH) (keep : List (Int × Int)) : WoH := { m with ls := ls, keep := keep }
theorem B05 (w : World) (b : Nat) (j : JU) (pv qv : Value) (m : WoH) (hx : WsOk m.ws) (hp : j.pins.length ≤ 1000) (hst : -1 ≤ j.b.st ∧ j.b.st ≤ 1000) (hw : LW false (B1 (E5 b j pv qv :: G0 j qv :: D7 m)) w (E5 b j pv qv :: G0 j qv :: D7 m) w) :
  Fn PR C2 321 #[.pointer (some ⟨b, 0, none⟩), .pointer (some ⟨m.b, 0, none⟩)] w (Rn (B1 (E5 b j pv qv :: G0 j qv :: D7 m)) w (fun (y : List SlH × List (Int × Int)) u => u = T0 (G7 j m.ws).2.2 ∧ (m.sk y.1 y.2).ws = (G7 j m.ws).2.1) fun y => E5 b (G7 j m.ws).1 pv qv :: G0 j qv :: D7 (m.sk y.1 y.2)) := by
 refine A0J (TW.goH (κ := false) ?_ hw)
 unfold Y9
 obtain ⟨h1, h2, h3, h4, h5⟩ := hx
 simp only [WoH.ws, List.length_map] at h1 h2 h3 h4 h5
 have hkp : m.ws.keep = m.keep := rfl
 have hRipe := fun (w' : World) => B0b w' m.bk m.keep qv j.pins h5
 by_cases c1 : 0 ≤ H2 m.keep j.pins
 ·have e : G7 j m.ws = (j, { m.ws with sl := L0 m.ws.sl (H2 m.keep j.pins) .no, keep := A1T m.keep (H2 m.keep j.pins) }, false, false, false) := if_pos c1
  rw [e]
  generalize H2 m.keep j.pins = r at *
  simp only [D7, E5, D2, E4, G2, WoH.sk]
  (have zz:=trivial;repeat((first|clear zz|with_reducible first|refine A3 ?_|refine A5 fun _=>?_|refine A4 fun _=>?_);try simp(disch:=first|omega|assumption|((repeat(first|exact A1|exact uH|apply A2|apply uT));first|done|fail)|(simp;first|done|omega|fail))[]))
  refine F4 Q7 (fun w' hw' => hRipe w' (W8.own hw' (by (repeat constructor))) (Y8.own (e := 3) (k := 1) (by unfold G0; (repeat constructor)) w' hw') (by omega)) ?_
  (have zz:=trivial;repeat((first|clear zz|with_reducible first|refine A3 ?_|refine A5 fun _=>?_|refine A4 fun _=>?_);try simp(disch:=first|omega|assumption|((repeat(first|exact A1|exact uH|apply A2|apply uT));first|done|fail)|(simp;first|done|omega|fail))[c1]))
  refine B9 (Hc := D8 m.bs m.sv m.ls) A0u (fun w' _ hs => B0C w' m.bs m.sv m.ls r h4 hs) (by unfold D8; (repeat' constructor)) ?_
  intro _ v hv
  simp only [D8, List.cons_append, List.nil_append]
  (have zz:=trivial;repeat((first|clear zz|with_reducible first|refine A3 ?_|refine A5 fun _=>?_|refine A4 fun _=>?_);try simp(disch:=first|omega|assumption|((repeat(first|exact A1|exact uH|apply A2|apply uT));first|done|fail)|(simp;first|done|omega|fail))[]))
  refine B9 (Hc := [K1 m.bk m.keep]) A07 (fun w' _ hs => B0w w' m.bk m.keep r h5 hs) (by (repeat' constructor)) ?_
  intro _ v2 hv2
  simp only [List.cons_append, List.nil_append]
  (have zz:=trivial;repeat((first|clear zz|with_reducible first|refine A3 ?_|refine A5 fun _=>?_|refine A4 fun _=>?_);try simp(disch:=first|omega|assumption|((repeat(first|exact A1|exact uH|apply A2|apply uT));first|done|fail)|(simp;first|done|omega|fail))[]))
  exact B2 (M4 m.ls r .no, A1T m.keep r) ⟨rfl, by simp only [WoH.ws, A4W]; rfl⟩ (by (repeat' constructor))
 have hrneg : H2 m.keep j.pins < 0 := by omega
 by_cases c2 : D3 m.keep < 0
 ·have e : G7 j m.ws = ({ j with b := j.b.refuse 13, slot := D3 m.keep }, m.ws, true, true, false) := by unfold G7; rw [if_neg (by rw [hkp]; exact c1), if_pos (by rw [hkp]; exact c2)]; rfl
  rw [e]
  have e2 : F5 m.keep = m.keep := by unfold F5; rw [if_pos c2]
  generalize H2 m.keep j.pins = r at *
  obtain ⟨t, ht⟩ : ∃ t, t = D3 m.keep := ⟨_, rfl⟩
  rw [← ht] at c2
  simp only [D7, E5, D2, E4, G2, WoH.sk, ← ht]
  (have zz:=trivial;repeat((first|clear zz|with_reducible first|refine A3 ?_|refine A5 fun _=>?_|refine A4 fun _=>?_);try simp(disch:=first|omega|assumption|((repeat(first|exact A1|exact uH|apply A2|apply uT));first|done|fail)|(simp;first|done|omega|fail))[]))
  refine F4 Q7 (fun w' hw' => hRipe w' (W8.own hw' (by (repeat constructor))) (Y8.own (e := 3) (k := 1) (by unfold G0; (repeat constructor)) w' hw') (by omega)) ?_
  (have zz:=trivial;repeat((first|clear zz|with_reducible first|refine A3 ?_|refine A5 fun _=>?_|refine A4 fun _=>?_);try simp(disch:=first|omega|assumption|((repeat(first|exact A1|exact uH|apply A2|apply uT));first|done|fail)|(simp;first|done|omega|fail))[c1]))
  refine B9 (Hc := [K1 m.bk m.keep]) d4 (fun w' _ hs => A6y w' m.bk m.keep h5 hs) (by (repeat' constructor)) ?_
  rintro _ v rfl
  rw [e2, ← ht]
  simp only [List.cons_append, List.nil_append]
  (have zz:=trivial;repeat((first|clear zz|with_reducible first|refine A3 ?_|refine A5 fun _=>?_|refine A4 fun _=>?_);try simp(disch:=first|omega|assumption|((repeat(first|exact A1|exact uH|apply A2|apply uT));first|done|fail)|(simp;first|done|omega|fail))[c2]))
  refine B9 (Hc := [.pt b (.cells (D2 j.b [pv, qv, .int .i64 t, .int .i64 j.old]) 163)]) W3 (fun w' _ hs => A4D w' b _ j.b _ 13 hs) (by unfold D2; (repeat' constructor)) ?_
  rintro _ v rfl
  simp only [List.cons_append, List.nil_append, T0, D2]
  (have zz:=trivial;repeat((first|clear zz|with_reducible first|refine A3 ?_|refine A5 fun _=>?_|refine A4 fun _=>?_);try simp(disch:=first|omega|assumption|((repeat(first|exact A1|exact uH|apply A2|apply uT));first|done|fail)|(simp;first|done|omega|fail))[]))
  exact B2 (m.ls, m.keep) ⟨rfl, rfl⟩ (by (repeat' constructor))
 ·have e : G7 j m.ws = ({ j with slot := D3 m.keep, b := { j.b with st := j.b.st + 1 } }, { m.ws with sl := L0 m.ws.sl (D3 m.keep) .bld, keep := F5 m.keep }, false, false, false) := by unfold G7; rw [if_neg (by rw [hkp]; exact c1), if_neg (by rw [hkp]; exact c2)]; rfl
  rw [e]
  generalize H2 m.keep j.pins = r at *
  obtain ⟨t, ht⟩ : ∃ t, t = D3 m.keep := ⟨_, rfl⟩
  rw [← ht] at c2
  simp only [D7, E5, D2, E4, G2, WoH.sk, ← ht]
  (have zz:=trivial;repeat((first|clear zz|with_reducible first|refine A3 ?_|refine A5 fun _=>?_|refine A4 fun _=>?_);try simp(disch:=first|omega|assumption|((repeat(first|exact A1|exact uH|apply A2|apply uT));first|done|fail)|(simp;first|done|omega|fail))[]))
  refine F4 Q7 (fun w' hw' => hRipe w' (W8.own hw' (by (repeat constructor))) (Y8.own (e := 3) (k := 1) (by unfold G0; (repeat constructor)) w' hw') (by omega)) ?_
  (have zz:=trivial;repeat((first|clear zz|with_reducible first|refine A3 ?_|refine A5 fun _=>?_|refine A4 fun _=>?_);try simp(disch:=first|omega|assumption|((repeat(first|exact A1|exact uH|apply A2|apply uT));first|done|fail)|(simp;first|done|omega|fail))[c1]))
  refine B9 (Hc := [K1 m.bk m.keep]) d4 (fun w' _ hs => A6y w' m.bk m.keep h5 hs) (by (repeat' constructor)) ?_
  rintro _ v rfl
  rw [← ht]
  simp only [List.cons_append, List.nil_append]
  (have zz:=trivial;repeat((first|clear zz|with_reducible first|refine A3 ?_|refine A5 fun _=>?_|refine A4 fun _=>?_);try simp(disch:=first|omega|assumption|((repeat(first|exact A1|exact uH|apply A2|apply uT));first|done|fail)|(simp;first|done|omega|fail))[c2]))
  refine B9 (Hc := D8 m.bs m.sv m.ls) A0c (fun w' _ hs => A83 w' m.bs m.sv m.ls t h4 hs) (by unfold D8; (repeat' constructor)) ?_
  intro _ v hv
  simp only [D8, List.cons_append, List.nil_append]
  (have zz:=trivial;repeat((first|clear zz|with_reducible first|refine A3 ?_|refine A5 fun _=>?_|refine A4 fun _=>?_);try simp(disch:=first|omega|assumption|((repeat(first|exact A1|exact uH|apply A2|apply uT));first|done|fail)|(simp;first|done|omega|fail))[]))
  exact B2 (M4 m.ls t .bld, F5 m.keep) ⟨rfl, by simp only [WoH.ws, A4W]; rfl⟩ (by (repeat' constructor))
end Go.Proofs.YtjobgnabneddjaaGreat
namespace Go.Proofs.YtjobgnabneddjaaGreat
open Go
structure WoD where
 cn : Int
 cells : List Int
 ls : List SlH
 keep : List (Int × Int)
def WoH.up (m : WoH) (d : WoD) : WoH := { m with cn := d.cn, cells := d.cells, ls := d.ls, keep := d.keep }
def WoH.dd (m : WoH) : WoD := ⟨m.cn, m.cells, m.ls, m.keep⟩
theorem A5E (w : World) (b : Nat) (j : JU) (pv qv : Value) (hp : j.pool.length ≤ 1000) (hv : G1 w pv j.pool.length (j.pool.flatMap F9)) (hb : bl w b = some (.cells (D2 j.b [pv, qv, .int .i64 j.slot, .int .i64 j.old]) 163 (0, 0))) :
  Fn PR C2 316 #[.pointer (some ⟨b, 0, none⟩)] w (fun u w' => u = .int .i64 (J0 j) ∧ C7 [] w w') := by
 refine Fn.pure (y3 (TW.go (κ := false) (S := []) ?_))
 unfold W4
 have h0 : w.cell? ⟨b, 0, none⟩ = some (.int .i64 j.b.who) := by rw [C4 hb]; rfl
 have h6 : w.cell? ⟨b, 6, none⟩ = some pv := by rw [C4 hb]; rfl
 unfold J0
 obtain ⟨a, c, rfl, _⟩ := hv.form
 by_cases c1 : j.b.who = 0
 ·rw [if_pos c1]
  (have zz:=trivial;repeat((first|clear zz|with_reducible first|refine A3 ?_|refine A5 fun _=>?_|refine A4 fun _=>?_);try simp(disch:=first|omega|assumption|((repeat(first|exact A1|exact uH|apply A2|apply uT));first|done|fail)|(simp;first|done|omega|fail))[h0, h6, c1]))
  refine F4 l7 (fun w' hw' => x5 w' _ j.pool (by omega) (hv.ks hw'.ks (by simp))) ?_
  exact D1 rfl
 ·rw [if_neg c1]
  (have zz:=trivial;repeat((first|clear zz|with_reducible first|refine A3 ?_|refine A5 fun _=>?_|refine A4 fun _=>?_);try simp(disch:=first|omega|assumption|((repeat(first|exact A1|exact uH|apply A2|apply uT));first|done|fail)|(simp;first|done|omega|fail))[h0, h6, c1]))
  exact D1 rfl
theorem A6G (l : List Int) (x : Int) : E7 (l ++ [x]) = E7 l ++ [.int .i64 x] := by unfold E7; rw [List.map_append]; rfl
theorem A55 (j : JU) (x : WS) : (G7 j x).1.pins = j.pins := by unfold G7; split; rfl; split <;> rfl
set_option maxHeartbeats 4000000 in
theorem B0m (w : World) (b : Nat) (j : JU) (pv qv : Value) (m : WoH) (hx : WsOk m.ws) (hp : j.pins.length ≤ 500) (hpl : j.pool.length ≤ 1000) (hst : 0 ≤ j.b.st ∧ j.b.st ≤ 500) (hsl : -1 ≤ j.slot ∧ j.slot ≤ 100) (hold : 0 ≤ j.old ∧ j.old ≤ 1000)
  (hv : ∀ w', KS false (B1 (E5 b j pv qv :: G0 j qv :: D7 m)) w w' → G1 w' pv j.pool.length (j.pool.flatMap F9))
  (hw : LW false (B1 (E5 b j pv qv :: G0 j qv :: D7 m)) w (E5 b j pv qv :: G0 j qv :: D7 m) w) :
  Fn PR C2 318 #[.pointer (some ⟨b, 0, none⟩), .pointer (some ⟨m.b, 0, none⟩)] w (Rn (B1 (E5 b j pv qv :: G0 j qv :: D7 m)) w (fun (y : Value × WoD) u => u = T0 (C8 j m.ws).2.2 ∧ (m.up y.2).ws = (C8 j m.ws).2.1) fun y => E5 b (C8 j m.ws).1 pv y.1 :: G0 (C8 j m.ws).1 y.1 :: D7 (m.up y.2)) := by
 refine A0T (TW.goH (κ := false) ?_ hw)
 unfold W9
 have hxx := hx
 obtain ⟨h1, h2, h3, h4, h5⟩ := hx
 simp only [WoH.ws, List.length_map] at h1 h2 h3 h4 h5
 have hc : m.ws.c = m.c := rfl
 by_cases c1 : j.b.st = 0 ∧ J0 j ≠ 0
 ·have e : C8 j m.ws = ({ j with b := j.b.refuse (J0 j) }, m.ws, true, true, false) := if_pos c1
  rw [e]
  obtain ⟨c0, c1⟩ := c1
  generalize hbe : J0 j = be at *
  simp only [D7, E5, D2, E4, G2, WoH.up] at hv ⊢
  (have zz:=trivial;repeat((first|clear zz|with_reducible first|refine A3 ?_|refine A5 fun _=>?_|refine A4 fun _=>?_);try simp(disch:=first|omega|assumption|((repeat(first|exact A1|exact uH|apply A2|apply uT));first|done|fail)|(simp;first|done|omega|fail))[c0]))
  refine F4 U8 (fun w' hw' => by have := A5E w' b j pv qv hpl (hv w' hw'.ks) (by rw [hw'.pt (b := b) (by (repeat constructor))]; simp only [D2, c0]); rw [hbe] at this; exact this) ?_
  (have zz:=trivial;repeat((first|clear zz|with_reducible first|refine A3 ?_|refine A5 fun _=>?_|refine A4 fun _=>?_);try simp(disch:=first|omega|assumption|((repeat(first|exact A1|exact uH|apply A2|apply uT));first|done|fail)|(simp;first|done|omega|fail))[c1]))
  refine B9 (Hc := [.pt b (.cells (D2 j.b [pv, qv, .int .i64 j.slot, .int .i64 j.old]) 163)]) W3 (fun w' _ hs => A4D w' b _ j.b _ be hs) (by unfold D2; rw [c0]; (repeat' constructor)) ?_
  rintro _ v rfl
  simp only [List.cons_append, List.nil_append, T0, D2]
  (have zz:=trivial;repeat((first|clear zz|with_reducible first|refine A3 ?_|refine A5 fun _=>?_|refine A4 fun _=>?_);try simp(disch:=first|omega|assumption|((repeat(first|exact A1|exact uH|apply A2|apply uT));first|done|fail)|(simp;first|done|omega|fail))[]))
  exact B2 (qv, m.dd) ⟨rfl, rfl⟩ (by unfold WoH.dd; (repeat' constructor))
 by_cases c2 : j.b.st = 0 ∨ j.b.st - m.c.wk < 0
 ·have e : C8 j m.ws = ({ D5 j with pins := j.pins ++ [E2 m.cells (s7 m.c (j.b.st + 1))] }, m.ws, false, false, false) := by unfold C8; rw [if_neg c1, if_pos (show j.b.st = 0 ∨ j.b.st - m.ws.c.wk < 0 from c2)]; rfl
  rw [e]
  have hld : ∀ i, E2 m.ws.cells i = E2 m.cells i := fun _ => rfl
  simp only [D7, E5, D2, E4, G2, WoH.up, D5] at hv ⊢
  by_cases c0 : j.b.st = 0
  ·have hbe : J0 j = 0 := Decidable.byContradiction fun h => c1 ⟨c0, h⟩
   (have zz:=trivial;repeat((first|clear zz|with_reducible first|refine A3 ?_|refine A5 fun _=>?_|refine A4 fun _=>?_);try simp(disch:=first|omega|assumption|((repeat(first|exact A1|exact uH|apply A2|apply uT));first|done|fail)|(simp;first|done|omega|fail))[c0]))
   refine F4 U8 (fun w' hw' => by have := A5E w' b j pv qv hpl (hv w' hw'.ks) (by rw [hw'.pt (b := b) (by (repeat constructor))]; simp only [D2, c0]); rw [hbe] at this; exact this) ?_
   have c01 : j.b.st + 1 = 1 := by omega
   (have zz:=trivial;repeat((first|clear zz|with_reducible first|refine A3 ?_|refine A5 fun _=>?_|refine A4 fun _=>?_);try simp(disch:=first|omega|assumption|((repeat(first|exact A1|exact uH|apply A2|apply uT));first|done|fail)|(simp;first|done|omega|fail))[c0]))
   refine F4 k8 (fun w' hw' => A7a w' m.b m.c _ _ _ _ _ _ 1 (by omega) (hw'.pt (b := m.b) (by (repeat constructor)))) ?_
   (have zz:=trivial;repeat((first|clear zz|with_reducible first|refine A3 ?_|refine A5 fun _=>?_|refine A4 fun _=>?_);try simp(disch:=first|omega|assumption|((repeat(first|exact A1|exact uH|apply A2|apply uT));first|done|fail)|(simp;first|done|omega|fail))[]))
   refine B9 (Hc := C0 m.bc m.cn m.cv m.ov m.cells m.own) M9 (fun w' _ hs => A1S w' m.bc m.cn m.cv m.ov m.cells m.own (s7 m.c 1) (by omega) hs) (by unfold C0; (repeat' constructor)) ?_
   rintro n' v rfl
   simp only [C0, List.cons_append, List.nil_append]
   refine q7 (e := 3) (k := 1) (v := qv) (q := j.pins.length) (xs := E7 j.pins) (by unfold G0; (repeat constructor)) fun qa qc hq => ?_
   subst hq
   simp only [G0]
   (have zz:=trivial;repeat((first|clear zz|with_reducible first|refine A3 ?_|refine A5 fun _=>?_|refine A4 fun _=>?_|refine m5 fun _=>?_|refine m9 (hK:=fun _=>?_)|refine m7 (hK:=fun _=>?_)|refine m4 (hK:=fun _=>?_)|refine m0 (hK:=fun _=>?_)|refine l9 (hK:=fun _=>?_));try simp(disch:=first|omega|assumption|((repeat(first|exact A1|exact uH|apply A2|apply uT));first|done|fail)|(simp;first|done|omega|fail))[]))
   refine A1P (e := 3) (k := 1) (q := j.pins.length) (r := 1) (xs := E7 j.pins) (news := [.int .i64 (E2 m.cells (s7 m.c 1))]) (by (repeat constructor)) (Y8.own (by (repeat constructor))) (by decide) (by simp) (by simp) (by simp only [maxLen]; omega) (by omega) fun a' c' => ?_
   (have zz:=trivial;repeat((first|clear zz|with_reducible first|refine A3 ?_|refine A5 fun _=>?_|refine A4 fun _=>?_);try simp(disch:=first|omega|assumption|((repeat(first|exact A1|exact uH|apply A2|apply uT));first|done|fail)|(simp;first|done|omega|fail))[]))
   refine B2 (.slice a' (j.pins.length + 1) c', { m.dd with cn := n' }) ⟨rfl, rfl⟩ ?_
   simp only [WoH.dd, A6G, List.length_append, List.length_singleton, c0, Int.zero_add]
   (repeat' constructor)
  ·have c3 : j.b.st - m.c.wk < 0 := by omega
   have c4 : j.b.st < m.c.wk := by omega
   (have zz:=trivial;repeat((first|clear zz|with_reducible first|refine A3 ?_|refine A5 fun _=>?_|refine A4 fun _=>?_);try simp(disch:=first|omega|assumption|((repeat(first|exact A1|exact uH|apply A2|apply uT));first|done|fail)|(simp;first|done|omega|fail))[c0, c3, c4]))
   refine F4 k8 (fun w' hw' => A7a w' m.b m.c _ _ _ _ _ _ (j.b.st + 1) (by omega) (hw'.pt (b := m.b) (by (repeat constructor)))) ?_
   (have zz:=trivial;repeat((first|clear zz|with_reducible first|refine A3 ?_|refine A5 fun _=>?_|refine A4 fun _=>?_);try simp(disch:=first|omega|assumption|((repeat(first|exact A1|exact uH|apply A2|apply uT));first|done|fail)|(simp;first|done|omega|fail))[]))
   refine B9 (Hc := C0 m.bc m.cn m.cv m.ov m.cells m.own) M9 (fun w' _ hs => A1S w' m.bc m.cn m.cv m.ov m.cells m.own (s7 m.c (j.b.st + 1)) (by omega) hs) (by unfold C0; (repeat' constructor)) ?_
   rintro n' v rfl
   simp only [C0, List.cons_append, List.nil_append]
   refine q7 (e := 3) (k := 1) (v := qv) (q := j.pins.length) (xs := E7 j.pins) (by unfold G0; (repeat constructor)) fun qa qc hq => ?_
   subst hq
   simp only [G0]
   (have zz:=trivial;repeat((first|clear zz|with_reducible first|refine A3 ?_|refine A5 fun _=>?_|refine A4 fun _=>?_|refine m5 fun _=>?_|refine m9 (hK:=fun _=>?_)|refine m7 (hK:=fun _=>?_)|refine m4 (hK:=fun _=>?_)|refine m0 (hK:=fun _=>?_)|refine l9 (hK:=fun _=>?_));try simp(disch:=first|omega|assumption|((repeat(first|exact A1|exact uH|apply A2|apply uT));first|done|fail)|(simp;first|done|omega|fail))[]))
   refine A1P (e := 3) (k := 1) (q := j.pins.length) (r := 1) (xs := E7 j.pins) (news := [.int .i64 (E2 m.cells (s7 m.c (j.b.st + 1)))]) (by (repeat constructor)) (Y8.own (by (repeat constructor))) (by decide) (by simp) (by simp) (by simp only [maxLen]; omega) (by omega) fun a' c' => ?_
   (have zz:=trivial;repeat((first|clear zz|with_reducible first|refine A3 ?_|refine A5 fun _=>?_|refine A4 fun _=>?_);try simp(disch:=first|omega|assumption|((repeat(first|exact A1|exact uH|apply A2|apply uT));first|done|fail)|(simp;first|done|omega|fail))[]))
   refine B2 (.slice a' (j.pins.length + 1) c', { m.dd with cn := n' }) ⟨rfl, rfl⟩ ?_
   simp only [WoH.dd, A6G, List.length_append, List.length_singleton]
   (repeat' constructor)
 have c0 : ¬ j.b.st = 0 := fun h => c2 (Or.inl h)
 have c3 : ¬ j.b.st - m.c.wk < 0 := fun h => c2 (Or.inr h)
 have c3' : ¬ j.b.st < m.c.wk := by omega
 have hu : C8 j m.ws = if j.b.st - m.c.wk = 0 then G7 j m.ws
  else if j.b.st - m.c.wk = 1 then (D5 j, { m.ws with sl := j1 m.ws.sl j.slot j.pool }, false, false, false)
  else if j.b.st - m.c.wk = 2 then ({ D5 j with old := E2 m.cells 1 }, m.ws, false, false, false)
  else if j.b.st - m.c.wk = 3 then (D5 j, { m.ws with cells := K3 m.cells 1 (j.slot + 1) }, true, false, false)
  else A0g (D5 j) m.ws := by
  unfold C8
  rw [if_neg c1, if_neg (show ¬ (j.b.st = 0 ∨ j.b.st - m.ws.c.wk < 0) from c2)]
  rfl
 by_cases d0 : j.b.st - m.c.wk = 0
 ·rw [if_pos d0] at hu
  rw [hu]
  simp only [D7, E5, D2, E4, G2, WoH.up] at hv ⊢
  have d0' : j.b.st = m.c.wk := by omega
  have z0 : ¬ m.c.wk = 0 := by omega
  (have zz:=trivial;repeat((first|clear zz|with_reducible first|refine A3 ?_|refine A5 fun _=>?_|refine A4 fun _=>?_);try simp(disch:=first|omega|assumption|((repeat(first|exact A1|exact uH|apply A2|apply uT));first|done|fail)|(simp;first|done|omega|fail))[c0, c3, c3', d0]))
  refine B9 (Hc := E5 b j pv qv :: G0 j qv :: D7 m) x8 (fun w' _ hs => B05 w' b j pv qv m hxx (by omega) (by omega) hs) (by simp only [D7, E5, D2, E4, G2]; (repeat' constructor)) ?_
  rintro ⟨ls', k'⟩ v ⟨rfl, hv2⟩
  have hpn := A55 j m.ws
  generalize G7 j m.ws = ut at *
  simp only [D7, E5, D2, E4, G2, WoH.sk, List.cons_append, List.nil_append, T0]
  (have zz:=trivial;repeat((first|clear zz|with_reducible first|refine A3 ?_|refine A5 fun _=>?_|refine A4 fun _=>?_);try simp(disch:=first|omega|assumption|((repeat(first|exact A1|exact uH|apply A2|apply uT));first|done|fail)|(simp;first|done|omega|fail))[]))
  refine B2 (qv, { m.dd with ls := ls', keep := k' }) ⟨rfl, hv2⟩ ?_
  simp only [G0, hpn, WoH.dd]
  (repeat' constructor)
 have f0 : ¬ j.b.st = m.c.wk := by omega
 rw [if_neg d0] at hu
 by_cases d1 : j.b.st - m.c.wk = 1
 ·rw [if_pos d1] at hu
  rw [hu]
  simp only [D7, E5, D2, E4, G2, WoH.up, D5] at hv ⊢
  (have zz:=trivial;repeat((first|clear zz|with_reducible first|refine A3 ?_|refine A5 fun _=>?_|refine A4 fun _=>?_);try simp(disch:=first|omega|assumption|((repeat(first|exact A1|exact uH|apply A2|apply uT));first|done|fail)|(simp;first|done|omega|fail))[c0, c3, c3', d0, d1]))
  refine B9 (Hc := D8 m.bs m.sv m.ls) A1F (fun w' hw' hs => B0Y w' m.bs m.sv m.ls j.slot pv j.pool h4 hpl (fun w'' hk => hv w'' ?_) hs) (by unfold D8; (repeat' constructor)) ?_
  ·refine hw'.ks.then hk fun x hx => ?_
   obtain ⟨r, hr, hxr⟩ := F7.1 hx
   exact (hw'.own r (List.mem_append_left _ hr) x hxr).1
  rintro ls' v ⟨hv1, hv2, hv3⟩
  simp only [D8, List.cons_append, List.nil_append]
  (have zz:=trivial;repeat((first|clear zz|with_reducible first|refine A3 ?_|refine A5 fun _=>?_|refine A4 fun _=>?_);try simp(disch:=first|omega|assumption|((repeat(first|exact A1|exact uH|apply A2|apply uT));first|done|fail)|(simp;first|done|omega|fail))[]))
  refine B2 (qv, { m.dd with ls := ls' }) ⟨rfl, by simp only [WoH.ws, WoH.dd, hv3]⟩ ?_
  simp only [G0, WoH.dd]
  (repeat' constructor)
 rw [if_neg d1] at hu
 by_cases d2 : j.b.st - m.c.wk = 2
 ·rw [if_pos d2] at hu
  rw [hu]
  simp only [D7, E5, D2, E4, G2, WoH.up, D5] at hv ⊢
  (have zz:=trivial;repeat((first|clear zz|with_reducible first|refine A3 ?_|refine A5 fun _=>?_|refine A4 fun _=>?_);try simp(disch:=first|omega|assumption|((repeat(first|exact A1|exact uH|apply A2|apply uT));first|done|fail)|(simp;first|done|omega|fail))[c0, c3, c3', d0, d1, d2]))
  refine B9 (Hc := C0 m.bc m.cn m.cv m.ov m.cells m.own) M9 (fun w' _ hs => A1S w' m.bc m.cn m.cv m.ov m.cells m.own 1 (by omega) hs) (by unfold C0; (repeat' constructor)) ?_
  rintro n' v rfl
  simp only [C0, List.cons_append, List.nil_append]
  (have zz:=trivial;repeat((first|clear zz|with_reducible first|refine A3 ?_|refine A5 fun _=>?_|refine A4 fun _=>?_);try simp(disch:=first|omega|assumption|((repeat(first|exact A1|exact uH|apply A2|apply uT));first|done|fail)|(simp;first|done|omega|fail))[]))
  refine B2 (qv, { m.dd with cn := n' }) ⟨rfl, rfl⟩ ?_
  simp only [G0, WoH.dd]
  (repeat' constructor)
 rw [if_neg d2] at hu
 by_cases d3 : j.b.st - m.c.wk = 3
 ·rw [if_pos d3] at hu
  rw [hu]
  simp only [D7, E5, D2, E4, G2, WoH.up, D5] at hv ⊢
  (have zz:=trivial;repeat((first|clear zz|with_reducible first|refine A3 ?_|refine A5 fun _=>?_|refine A4 fun _=>?_);try simp(disch:=first|omega|assumption|((repeat(first|exact A1|exact uH|apply A2|apply uT));first|done|fail)|(simp;first|done|omega|fail))[c0, c3, c3', d0, d1, d2, d3]))
  refine B9 (Hc := C0 m.bc m.cn m.cv m.ov m.cells m.own) Q4 (fun w' _ hs => A2V w' m.bc m.cn m.cv m.ov m.cells m.own 1 (j.slot + 1) (by omega) hs) (by unfold C0; (repeat' constructor)) ?_
  rintro n' v rfl
  simp only [C0, List.cons_append, List.nil_append]
  (have zz:=trivial;repeat((first|clear zz|with_reducible first|refine A3 ?_|refine A5 fun _=>?_|refine A4 fun _=>?_);try simp(disch:=first|omega|assumption|((repeat(first|exact A1|exact uH|apply A2|apply uT));first|done|fail)|(simp;first|done|omega|fail))[]))
  refine B2 (qv, { m.dd with cn := n', cells := K3 m.cells 1 (j.slot + 1) }) ⟨rfl, rfl⟩ ?_
  simp only [G0, WoH.dd]
  (repeat' constructor)
 rw [if_neg d3] at hu
 rw [hu]
 have hcl : ∀ v, (K3 m.cells 0 v).length = m.cells.length := fun v => by unfold K3; split <;> simp
 unfold A0g
 by_cases o1 : 0 < j.old
 ·have hup : (D5 j).old = j.old := rfl
  simp only [hup]
  rw [if_pos o1]
  simp only [D7, E5, D2, E4, G2, WoH.up, D5] at hv ⊢
  (have zz:=trivial;repeat((first|clear zz|with_reducible first|refine A3 ?_|refine A5 fun _=>?_|refine A4 fun _=>?_);try simp(disch:=first|omega|assumption|((repeat(first|exact A1|exact uH|apply A2|apply uT));first|done|fail)|(simp;first|done|omega|fail))[c0, c3, c3', d0, d1, d2, d3, o1]))
  refine B9 (Hc := C0 m.bc m.cn m.cv m.ov m.cells m.own) k6 (fun w' _ hs => A7f w' m.bc m.cn m.cv m.ov m.cells m.own 0 1 (by omega) (by omega) hs) (by unfold C0; (repeat' constructor)) ?_
  rintro n' v rfl
  simp only [C0, List.cons_append, List.nil_append]
  (have zz:=trivial;repeat((first|clear zz|with_reducible first|refine A3 ?_|refine A5 fun _=>?_|refine A4 fun _=>?_);try simp(disch:=first|omega|assumption|((repeat(first|exact A1|exact uH|apply A2|apply uT));first|done|fail)|(simp;first|done|omega|fail))[o1]))
  refine B9 (Hc := [K1 m.bk m.keep]) y5 (fun w' _ hs => A8A w' m.bk m.keep (j.old - 1) (IntKind.i64.wrap (E2 m.cells 0 + 1)) h5 hs) (by (repeat' constructor)) ?_
  rintro _ v hv2
  simp only [List.cons_append, List.nil_append]
  (have zz:=trivial;repeat((first|clear zz|with_reducible first|refine A3 ?_|refine A5 fun _=>?_|refine A4 fun _=>?_);try simp(disch:=first|omega|assumption|((repeat(first|exact A1|exact uH|apply A2|apply uT));first|done|fail)|(simp;first|done|omega|fail))[]))
  refine B9 (Hc := [.pt b (.cells (D2 { j.b with st := j.b.st + 1 } [pv, qv, .int .i64 j.slot, .int .i64 j.old]) 163)]) W2 (fun w' _ hs => A3s w' b _ { j.b with st := j.b.st + 1 } _ hs) (by unfold D2; (repeat' constructor)) ?_
  rintro _ v rfl
  simp only [List.cons_append, List.nil_append, T0, D2]
  (have zz:=trivial;repeat((first|clear zz|with_reducible first|refine A3 ?_|refine A5 fun _=>?_|refine A4 fun _=>?_);try simp(disch:=first|omega|assumption|((repeat(first|exact A1|exact uH|apply A2|apply uT));first|done|fail)|(simp;first|done|omega|fail))[]))
  refine B2 (qv, { m.dd with cn := n', cells := K3 m.cells 0 (IntKind.i64.wrap (E2 m.cells 0 + 1)), keep := A2B m.keep (j.old - 1) (IntKind.i64.wrap (E2 m.cells 0 + 1)) }) ⟨rfl, rfl⟩ ?_
  simp only [G0, WoH.dd]
  (repeat' constructor)
 ·have hup : (D5 j).old = j.old := rfl
  simp only [hup]
  rw [if_neg o1]
  simp only [D7, E5, D2, E4, G2, WoH.up, D5] at hv ⊢
  (have zz:=trivial;repeat((first|clear zz|with_reducible first|refine A3 ?_|refine A5 fun _=>?_|refine A4 fun _=>?_);try simp(disch:=first|omega|assumption|((repeat(first|exact A1|exact uH|apply A2|apply uT));first|done|fail)|(simp;first|done|omega|fail))[c0, c3, c3', d0, d1, d2, d3, o1]))
  refine B9 (Hc := C0 m.bc m.cn m.cv m.ov m.cells m.own) k6 (fun w' _ hs => A7f w' m.bc m.cn m.cv m.ov m.cells m.own 0 1 (by omega) (by omega) hs) (by unfold C0; (repeat' constructor)) ?_
  rintro n' v rfl
  simp only [C0, List.cons_append, List.nil_append]
  (have zz:=trivial;repeat((first|clear zz|with_reducible first|refine A3 ?_|refine A5 fun _=>?_|refine A4 fun _=>?_);try simp(disch:=first|omega|assumption|((repeat(first|exact A1|exact uH|apply A2|apply uT));first|done|fail)|(simp;first|done|omega|fail))[o1]))
  refine B9 (Hc := [.pt b (.cells (D2 { j.b with st := j.b.st + 1 } [pv, qv, .int .i64 j.slot, .int .i64 j.old]) 163)]) W2 (fun w' _ hs => A3s w' b _ { j.b with st := j.b.st + 1 } _ hs) (by unfold D2; (repeat' constructor)) ?_
  rintro _ v rfl
  simp only [List.cons_append, List.nil_append, T0, D2]
  (have zz:=trivial;repeat((first|clear zz|with_reducible first|refine A3 ?_|refine A5 fun _=>?_|refine A4 fun _=>?_);try simp(disch:=first|omega|assumption|((repeat(first|exact A1|exact uH|apply A2|apply uT));first|done|fail)|(simp;first|done|omega|fail))[]))
  refine B2 (qv, { m.dd with cn := n', cells := K3 m.cells 0 (IntKind.i64.wrap (E2 m.cells 0 + 1)) }) ⟨rfl, rfl⟩ ?_
  simp only [G0, WoH.dd]
  (repeat' constructor)
end Go.Proofs.YtjobgnabneddjaaGreat
namespace Go.Proofs.YtjobgnabneddjaaGreat
open Go
theorem B3B {κ : Bool} {X : Nat → Prop} {S : List Nat} {w0 : World} {H Hk Hc : List Res} {K : Value → WP} {g : Value} {name : String} {args : List Value} {f : FuncId} {args' : Array Value} {α : Type} {φ : α → Value → Prop} {Hn : α → List Res} (hr : ∀ w, (callMethod g name args.toArray).run PR w = .ok (.enter f args') w)
  (hf : ∀ w, LW κ S w0 (Hc ++ Hk) w → LW false (B1 Hc) w Hc w → Fn PR C2 f args' w (Rn (B1 Hc) w φ Hn)) (hp : Part Hc H Hk) (hK : ∀ a v, φ a v → TW κ S w0 (Hn a ++ Hk) (K v)) : TW κ S w0 H (inv PR X g name args K) := fun w hw =>
 let h := hw.perm hp.perm
 ⟨f, args', hr w, (hf w h (h.sub (List.sublist_append_left _ _)).self).use fun v w' ⟨a, h1, h2⟩ hsk => hK a v h1 w' (h.part (h2.high fun _ => hsk))⟩
abbrev H3 (b : Nat) : Value := .iface 161 (.pointer (some ⟨b, 0, none⟩))
abbrev A6C (b : Nat) : Value := .iface 168 (.pointer (some ⟨b, 0, none⟩))
abbrev A6z (b : Nat) : Value := .iface 171 (.pointer (some ⟨b, 0, none⟩))
abbrev A63 (b : Nat) : Value := .iface 174 (.pointer (some ⟨b, 0, none⟩))
theorem A4l (w : World) (b : Nat) (v : Value) : (callMethod (H3 b) "gangplank/control.step" [v].toArray).run PR w = .ok (.enter 318 #[.pointer (some ⟨b, 0, none⟩), v]) w := by kernel_rfl
theorem j5 (w : World) (b : Nat) (v : Value) : (callMethod (H3 b) "gangplank/control.waits" [v].toArray).run PR w = .ok (.enter 319 #[.pointer (some ⟨b, 0, none⟩), v]) w := by kernel_rfl
theorem A3T (w : World) (b : Nat) : (callMethod (H3 b) "gangplank/control.common" ([] : List Value).toArray).run PR w = .ok (.enter 317 #[.pointer (some ⟨b, 0, none⟩)]) w := by kernel_rfl
theorem A3V (w : World) (b : Nat) : (callMethod (A6C b) "gangplank/control.common" ([] : List Value).toArray).run PR w = .ok (.enter 317 #[.pointer (some ⟨b, 0, none⟩)]) w := by kernel_rfl
theorem A3c (w : World) (b : Nat) : (callMethod (A6z b) "gangplank/control.common" ([] : List Value).toArray).run PR w = .ok (.enter 317 #[.pointer (some ⟨b, 0, none⟩)]) w := by kernel_rfl
theorem A3m (w : World) (b : Nat) : (callMethod (A63 b) "gangplank/control.common" ([] : List Value).toArray).run PR w = .ok (.enter 317 #[.pointer (some ⟨b, 0, none⟩)]) w := by kernel_rfl
theorem A5G (w : World) (v : Value) : Fn PR C2 317 #[v] w (fun u w' => u = v ∧ C7 [] w w') := by
 refine Fn.pure (A0G (TW.go (κ := false) (S := []) ?_))
 unfold Y1
 exact D1 rfl
theorem A3Q {I : Value} {b : Nat} (hI : I = H3 b ∨ I = A6C b ∨ I = A6z b ∨ I = A63 b) (w : World) : (callMethod I "gangplank/control.common" ([] : List Value).toArray).run PR w = .ok (.enter 317 #[.pointer (some ⟨b, 0, none⟩)]) w := by
 rcases hI with rfl | rfl | rfl | rfl
 ·exact A3T w b
 ·exact A3V w b
 ·exact A3c w b
 ·exact A3m w b
theorem A5K (w : World) (jb b : Nat) (I : Value) (j : JB) (rest : List Value) (T : TypeId) (hI : I = H3 b ∨ I = A6C b ∨ I = A6z b ∨ I = A63 b) (h1 : bl w jb = some (.cells #[I] 167 (0, 0))) (h2 : bl w b = some (.cells (D2 j rest) T (0, 0))) :
  Fn PR C2 38 #[.pointer (some ⟨jb, 0, none⟩)] w (fun u w' => u = .int .i64 j.st ∧ C7 [] w w') := by
 refine Fn.pure (A1n (TW.go (κ := false) (S := []) ?_))
 unfold j6
 have e1 : w.cell? ⟨jb, 0, none⟩ = some I := by rw [C4 h1]; rfl
 have e2 : w.cell? ⟨b, 1, none⟩ = some (.int .i64 j.st) := by rw [C4 h2]; rfl
 (have zz:=trivial;repeat((first|clear zz|with_reducible first|refine A3 ?_|refine A5 fun _=>?_|refine A4 fun _=>?_);try simp(disch:=first|omega|assumption|((repeat(first|exact A1|exact uH|apply A2|apply uT));first|done|fail)|(simp;first|done|omega|fail))[e1]))
 refine A8Q (A3Q hI) (fun w' _ => A5G w' _) ?_
 (have zz:=trivial;repeat((first|clear zz|with_reducible first|refine A3 ?_|refine A5 fun _=>?_|refine A4 fun _=>?_);try simp(disch:=first|omega|assumption|((repeat(first|exact A1|exact uH|apply A2|apply uT));first|done|fail)|(simp;first|done|omega|fail))[e2]))
 exact D1 rfl
theorem A1r (w : World) (jb b : Nat) (I : Value) (j : JB) (rest : List Value) (T : TypeId) (hI : I = H3 b ∨ I = A6C b ∨ I = A6z b ∨ I = A63 b) (h1 : bl w jb = some (.cells #[I] 167 (0, 0))) (h2 : bl w b = some (.cells (D2 j rest) T (0, 0))) :
  Fn PR C2 34 #[.pointer (some ⟨jb, 0, none⟩)] w (fun u w' => u = j.ans.val ∧ C7 [] w w') := by
 refine Fn.pure (A0s (TW.go (κ := false) (S := []) ?_))
 unfold b8
 have e1 : w.cell? ⟨jb, 0, none⟩ = some I := by rw [C4 h1]; rfl
 have e2 : W6 w b 2 4 = some [.int .i64 j.ans.err, .int .i64 j.ans.bk, .bool j.ans.made, .int .i64 j.ans.count] := A21 (by rfl) (K7.bl h2)
 (have zz:=trivial;repeat((first|clear zz|with_reducible first|refine A3 ?_|refine A5 fun _=>?_|refine A4 fun _=>?_);try simp(disch:=first|omega|assumption|((repeat(first|exact A1|exact uH|apply A2|apply uT));first|done|fail)|(simp;first|done|omega|fail))[e1]))
 refine A8Q (A3Q hI) (fun w' _ => A5G w' _) ?_
 (have zz:=trivial;repeat((first|clear zz|with_reducible first|refine A3 ?_|refine A5 fun _=>?_|refine A4 fun _=>?_);try simp(disch:=first|omega|assumption|((repeat(first|exact A1|exact uH|apply A2|apply uT));first|done|fail)|(simp;first|done|omega|fail))[e2]))
 exact D1 rfl
theorem A2H (w : World) (jb b : Nat) (I : Value) (j : JB) (rest : List Value) (T : TypeId) (wv : Value) (x : Bool) (f : FuncId) (args' : Array Value) (hI : I = H3 b ∨ I = A6C b ∨ I = A6z b ∨ I = A63 b) (h1 : bl w jb = some (.cells #[I] 167 (0, 0))) (h2 : bl w b = some (.cells (D2 j rest) T (0, 0)))
  (hr : ∀ w, (callMethod I "gangplank/control.waits" [wv].toArray).run PR w = .ok (.enter f args') w) (hf : ∀ w', KS false [] w w' → Fn PR C2 f args' w' (fun v w'' => v = .bool x ∧ C7 [] w' w'')) :
  Fn PR C2 39 #[.pointer (some ⟨jb, 0, none⟩), wv] w (fun u w' => u = .bool (!decide (j.st = -1) && !x) ∧ C7 [] w w') := by
 refine Fn.pure (A1C (TW.go (κ := false) (S := []) ?_))
 unfold e9
 have k1 : ∀ w', KS false [] w w' → bl w' jb = some (.cells #[I] 167 (0, 0)) := fun w' hk => hk.2.1 _ _ (by simp) rfl h1
 have k2 : ∀ w', KS false [] w w' → bl w' b = some (.cells (D2 j rest) T (0, 0)) := fun w' hk => hk.2.1 _ _ (by simp) rfl h2
 refine F4 c9 (fun w' hw' => A5K w' jb b I j rest T hI (k1 w' hw'.ks) (k2 w' hw'.ks)) ?_
 have e1 : w.cell? ⟨jb, 0, none⟩ = some I := by rw [C4 h1]; rfl
 by_cases c1 : j.st = -1
 ·(have zz:=trivial;repeat((first|clear zz|with_reducible first|refine A3 ?_|refine A5 fun _=>?_|refine A4 fun _=>?_);try simp(disch:=first|omega|assumption|((repeat(first|exact A1|exact uH|apply A2|apply uT));first|done|fail)|(simp;first|done|omega|fail))[c1]))
  exact D1 (by simp [c1])
 ·(have zz:=trivial;repeat((first|clear zz|with_reducible first|refine A3 ?_|refine A5 fun _=>?_|refine A4 fun _=>?_);try simp(disch:=first|omega|assumption|((repeat(first|exact A1|exact uH|apply A2|apply uT));first|done|fail)|(simp;first|done|omega|fail))[c1, e1]))
  refine A8Q hr (fun w' hw' => hf w' hw'.ks) ?_
  cases x
  ·(have zz:=trivial;repeat((first|clear zz|with_reducible first|refine A3 ?_|refine A5 fun _=>?_|refine A4 fun _=>?_);try simp(disch:=first|omega|assumption|((repeat(first|exact A1|exact uH|apply A2|apply uT));first|done|fail)|(simp;first|done|omega|fail))[c1]))
   exact D1 (by first | rfl | simp [c1])
  ·(have zz:=trivial;repeat((first|clear zz|with_reducible first|refine A3 ?_|refine A5 fun _=>?_|refine A4 fun _=>?_);try simp(disch:=first|omega|assumption|((repeat(first|exact A1|exact uH|apply A2|apply uT));first|done|fail)|(simp;first|done|omega|fail))[c1]))
   exact D1 (by first | rfl | simp [c1])
theorem A2c (w : World) (a b : Value) : Fn PR C2 319 #[a, b] w (fun u w' => u = .bool false ∧ C7 [] w w') := by
 refine Fn.pure (x6 (TW.go (κ := false) (S := []) ?_))
 unfold W1
 exact D1 rfl
end Go.Proofs.YtjobgnabneddjaaGreat
namespace Go.Proofs.YtjobgnabneddjaaGreat
open Go
def Q9 (jb : Nat) (I : Value) : Res := .pt jb (.cells #[I] 167)
def A4z (j : JU) (x : WS) : JU × WS × r7 := if j.b.st = -1 then (j, x, false, false, false) else C8 j x
set_option maxHeartbeats 1000000 in
theorem A8x (w : World) (jb b : Nat) (j : JU) (pv qv : Value) (m : WoH) (hx : WsOk m.ws) (hp : j.pins.length ≤ 500) (hpl : j.pool.length ≤ 1000) (hst : -1 ≤ j.b.st ∧ j.b.st ≤ 500) (hsl : -1 ≤ j.slot ∧ j.slot ≤ 100) (hold : 0 ≤ j.old ∧ j.old ≤ 1000)
  (hv : ∀ w', KS false (B1 (Q9 jb (H3 b) :: E5 b j pv qv :: G0 j qv :: D7 m)) w w' → G1 w' pv j.pool.length (j.pool.flatMap F9))
  (hw : LW false (B1 (Q9 jb (H3 b) :: E5 b j pv qv :: G0 j qv :: D7 m)) w (Q9 jb (H3 b) :: E5 b j pv qv :: G0 j qv :: D7 m) w) :
  Fn PR C2 36 #[.pointer (some ⟨jb, 0, none⟩), .pointer (some ⟨m.b, 0, none⟩)] w (Rn (B1 (Q9 jb (H3 b) :: E5 b j pv qv :: G0 j qv :: D7 m)) w (fun (y : Value × WoD) u => u = T0 (A4z j m.ws).2.2 ∧ (m.up y.2).ws = (A4z j m.ws).2.1) fun y => Q9 jb (H3 b) :: E5 b (A4z j m.ws).1 pv y.1 :: G0 (A4z j m.ws).1 y.1 :: D7 (m.up y.2)) := by
 refine A16 (TW.goH (κ := false) ?_ hw)
 unfold k9
 generalize hS : B1 (Q9 jb (H3 b) :: E5 b j pv qv :: G0 j qv :: D7 m) = S at *
 have hR := fun (w' : World) (h1 : bl w' jb = some (.cells #[H3 b] 167 (0, 0))) (h2 : bl w' b = some (.cells (D2 j.b [pv, qv, .int .i64 j.slot, .int .i64 j.old]) 163 (0, 0))) =>
  A2H w' jb b (H3 b) j.b _ _ (.pointer (some ⟨m.b, 0, none⟩)) false _ _ (Or.inl rfl) h1 h2 (fun w => j5 w b _) (fun w'' _ => A2c w'' _ _)
 (have zz:=trivial;repeat((first|clear zz|with_reducible first|refine A3 ?_|refine A5 fun _=>?_|refine A4 fun _=>?_);try simp(disch:=first|omega|assumption|((repeat(first|exact A1|exact uH|apply A2|apply uT));first|done|fail)|(simp;first|done|omega|fail))[]))
 refine F4 H4 (fun w' hw' => hR w' (hw'.pt (b := jb) (by unfold Q9; (repeat constructor))) (hw'.pt (b := b) (by unfold E5; (repeat constructor)))) ?_
 unfold A4z
 by_cases c1 : j.b.st = -1
 ·simp only [if_pos c1]
  (have zz:=trivial;repeat((first|clear zz|with_reducible first|refine A3 ?_|refine A5 fun _=>?_|refine A4 fun _=>?_);try simp(disch:=first|omega|assumption|((repeat(first|exact A1|exact uH|apply A2|apply uT));first|done|fail)|(simp;first|done|omega|fail))[c1]))
  exact B2 (qv, m.dd) ⟨rfl, rfl⟩ (by simp only [WoH.dd, WoH.up]; (repeat' constructor))
 ·simp only [if_neg c1]
  simp only [Q9]
  (have zz:=trivial;repeat((first|clear zz|with_reducible first|refine A3 ?_|refine A5 fun _=>?_|refine A4 fun _=>?_);try simp(disch:=first|omega|assumption|((repeat(first|exact A1|exact uH|apply A2|apply uT));first|done|fail)|(simp;first|done|omega|fail))[c1]))
  refine B3B (Hc := E5 b j pv qv :: G0 j qv :: D7 m) (fun w => A4l w b _) (fun w' hw' hs => B0m w' b j pv qv m hx hp hpl (by omega) hsl hold (fun w'' hk => hv w'' ?_) hs) (by simp only [D7]; (repeat' constructor)) ?_
  ·refine hw'.ks.then hk fun x hx => ?_
   obtain ⟨r, hr, hxr⟩ := F7.1 hx
   exact (hw'.own r (List.mem_append_left _ hr) x hxr).1
  rintro ⟨qv', d⟩ v ⟨rfl, hv2⟩
  generalize C8 j m.ws = us at *
  simp only [T0, D7, List.cons_append, List.nil_append]
  (have zz:=trivial;repeat((first|clear zz|with_reducible first|refine A3 ?_|refine A5 fun _=>?_|refine A4 fun _=>?_);try simp(disch:=first|omega|assumption|((repeat(first|exact A1|exact uH|apply A2|apply uT));first|done|fail)|(simp;first|done|omega|fail))[]))
  exact B2 (qv', d) ⟨rfl, hv2⟩ (by (repeat' constructor))
theorem A24 (w : World) (who : Int) (pa : Option Addr) (pn pc : Nat) (pk : ByteArray) (shard : Int) :
  Fn PR C2 32 #[.int .i64 who, .agg #[.int .i64 1, .string pk, .slice pa pn pc, .int .i64 shard]] w (Rn [] w (fun (x : Nat × Nat) u => u = .pointer (some ⟨x.1, 0, none⟩)) fun x => Q9 x.1 (H3 x.2) :: [.pt x.2 (.cells (D2 ⟨who, 0, S1⟩ [.slice pa pn pc, .slice none 0 0, .int .i64 0, .int .i64 0]) 163)]) := by
 refine A44 (TW.go (κ := false) (S := []) ?_)
 unfold A0k
 (have zz:=trivial;repeat((first|clear zz|with_reducible first|refine A3 ?_|refine A5 fun _=>?_|refine A4 fun _=>?_);try simp(disch:=first|omega|assumption|((repeat(first|exact A1|exact uH|apply A2|apply uT));first|done|fail)|(simp;first|done|omega|fail))[]))
 rename_i a1 a2 a3 a4
 refine B2 (a4, a3) rfl ?_
 simp only [Q9, D2, S1]
 (repeat' constructor)
end Go.Proofs.YtjobgnabneddjaaGreat
namespace Go.Proofs.YtjobgnabneddjaaGreat
open Go
def N8 : Nat → RunV → RunV → Prop
 | 0, r, r' => r = r'
 | k + 1, r, r' => r.j.ready r.x = true ∧ N8 k r.next r'
theorem N8.trans {r r' r'' : RunV} : ∀ {k m : Nat}, N8 k r r' → N8 m r' r'' → N8 (k + m) r r''
 | 0, m, h, h' => by cases h; simpa using h'
 | k + 1, m, h, h' => by
  rw [show k + 1 + m = k + m + 1 by omega]
  exact ⟨h.1, N8.trans h.2 h'⟩
theorem N8.run {r r' : RunV} : ∀ {k : Nat} (f : Nat), N8 k r r' → H6 (k + f) r = H6 f r'
 | 0, f, h => by cases h; simp
 | k + 1, f, h => by
  rw [show k + 1 + f = k + f + 1 by omega, H6, if_pos h.1]
  exact N8.run f h.2
theorem B2Q {r : RunV} (h : r.j.b.st = -1) : ∀ f, H6 f r = r
 | 0 => rfl
 | f + 1 => by rw [H6, if_neg (by simp [JV.ready, h])]
theorem N8.ends {r r' : RunV} {k : Nat} (h : N8 k r r') (hk : k ≤ 200) (he : r'.j.b.st = -1) : H6 200 r = r' := by
 have := h.run (200 - k)
 rw [show k + (200 - k) = 200 by omega] at this
 rw [this, B2Q he]
theorem N8.one {r : RunV} (h : r.j.ready r.x = true) : N8 1 r r.next := ⟨h, rfl⟩
theorem S0 {j : JU} {x : WS} (h : j.b.st ≠ -1) : (JV.upd j).ready x = true := by simp [JV.ready, JV.waits, JV.b, h]
theorem U9 (j : JU) (x : WS) (n t b : Nat) : RunV.next ⟨.upd j, x, n, t, b⟩ = ⟨.upd (C8 j x).1, (C8 j x).2.1, n + 1, t + (C8 j x).2.2.1.toNat, b + (C8 j x).2.2.2.2.toNat⟩ := rfl
def A22 (x : WS) (k : Nat) : List Int := (List.range k).map fun i : Nat => E2 x.cells (s7 x.c (((i : Nat) : Int) + 1))
theorem A6V {j : JU} {x : WS} (hs : j.b.st = 0) (hb : J0 j = 0) (hp : j.pins = []) : ∀ k : Nat, (k : Int) ≤ x.c.wk → N8 k ⟨.upd j, x, 0, 0, 0⟩ ⟨.upd { j with b := { j.b with st := (k : Nat) }, pins := A22 x k }, x, k, 0, 0⟩
 | 0, _ => by
  obtain ⟨⟨who, st, ans⟩, pool, pins, slot, old⟩ := j
  simp only at hs hp
  subst hs hp
  rfl
 | k + 1, hk => by
  have ih := A6V (x := x) hs hb hp k (by omega)
  have hrd : ({ j with b := { j.b with st := (k : Nat) }, pins := A22 x k } : JU).b.st ≠ -1 := by show ((k : Nat) : Int) ≠ -1; omega
  refine ih.trans ⟨S0 hrd, ?_⟩
  rw [U9]
  have hb' : ¬ (((k : Nat) : Int) = 0 ∧ J0 { j with b := { j.b with st := (k : Nat) }, pins := A22 x k } ≠ 0) := fun h => h.2 hb
  unfold C8
  simp only
  rw [if_neg hb', if_pos (by omega)]
  show (_ : RunV) = _
  simp only [D5, A22, List.range_succ, List.map_append, List.map_cons, List.map_nil, Bool.toNat_false, Nat.add_zero]
  rfl
def N1 (P : List Int) (l : List (Int × Int)) : List (Int × Int) := l.map fun s => if D4 P s then (0, 0) else s
def j8 (P : List Int) (l : List (Int × Int)) (s : List SlV) : List SlV := List.zipWith (fun k s => if D4 P k then .no else s) l s
theorem A39 (P : List Int) (l : List (Int × Int)) : (H2 l P = -1 ∧ ∀ s ∈ l, D4 P s = false) ∨ ∃ i, ∃ h : i < l.length, H2 l P = (i : Nat) ∧ D4 P l[i] = true := by
 unfold H2
 by_cases h : l.findIdx (D4 P) < l.length
 ·right
  refine ⟨_, h, by rw [if_pos h], ?_⟩
  have := List.findIdx_getElem (w := h)
  exact this
 ·left
  rw [if_neg h]
  refine ⟨rfl, fun s hs => ?_⟩
  rw [List.findIdx_lt_length] at h
  cases hr : D4 P s with
  | false => rfl
  | true => exact absurd ⟨s, hs, hr⟩ h
theorem A6f {P : List Int} {l : List (Int × Int)} (h : ∀ s ∈ l, D4 P s = false) : N1 P l = l := by
 unfold N1
 rw [List.map_congr_left (g := id) fun s hs => by rw [h s hs]; rfl]
 simp
theorem A5C {P : List Int} {l : List (Int × Int)} (h : ∀ s ∈ l, D4 P s = false) {s : List SlV} (hl : l.length = s.length) : j8 P l s = s := by
 unfold j8
 apply List.ext_getElem (by simp [hl])
 intro i h1 h2
 rw [List.getElem_zipWith, h _ (List.getElem_mem ..)]
 simp
theorem A50 (P : List Int) : D4 P (0, 0) = false := rfl
theorem A8G {P : List Int} {l : List (Int × Int)} {i : Nat} (h : i < l.length) (hr : D4 P l[i] = true) : N1 P (l.set i (0, 0)) = N1 P l := by
 unfold N1
 apply List.ext_getElem (by simp)
 intro k h1 h2
 simp only [List.getElem_map, List.getElem_set]
 by_cases e : i = k
 ·subst e; simp [hr, A50]
 ·simp [e]
theorem A8a {P : List Int} {l : List (Int × Int)} {i : Nat} (h : i < l.length) (hr : D4 P l[i] = true) {s : List SlV} (hl : l.length = s.length) : j8 P (l.set i (0, 0)) (s.set i .no) = j8 P l s := by
 unfold j8
 apply List.ext_getElem (by simp)
 intro k h1 h2
 simp only [List.getElem_zipWith, List.getElem_set]
 by_cases e : i = k
 ·subst e; simp [hr, A50]
 ·simp [e]
theorem A9q {P : List Int} {l : List (Int × Int)} {i : Nat} (h : i < l.length) (hr : D4 P l[i] = true) : (l.set i (0, 0)).countP (D4 P) + 1 = l.countP (D4 P) := by
 rw [List.countP_set h, if_pos hr]
 have h1 : 0 < l.countP (D4 P) := List.countP_pos_iff.2 ⟨_, List.getElem_mem h, hr⟩
 simp only [A50, Bool.false_eq_true, if_false]
 omega
theorem A6A {j : JU} : ∀ (m : Nat) {x : WS} {n t b : Nat}, x.keep.countP (D4 j.pins) = m → j.b.st = x.c.wk → 1 ≤ x.c.wk → x.keep.length = x.sl.length →
  N8 m ⟨.upd j, x, n, t, b⟩ ⟨.upd j, { x with sl := j8 j.pins x.keep x.sl, keep := N1 j.pins x.keep }, n + m, t, b⟩
 | m, x, n, t, b, hm, hs, hw, hl => by
  rcases A39 j.pins x.keep with ⟨h1, h2⟩ | ⟨i, hi, h1, h2⟩
  ·have : x.keep.countP (D4 j.pins) = 0 := by
    rw [List.countP_eq_zero]; intro s hs; rw [h2 s hs]; simp
   obtain rfl : m = 0 := by omega
   rw [A6f h2, A5C h2 hl]
   rfl
  ·have hc := A9q hi h2
   obtain ⟨m, rfl⟩ : ∃ q, m = q + 1 := ⟨m - 1, by omega⟩
   refine ⟨S0 (by omega), ?_⟩
   rw [U9]
   have hb' : ¬ (j.b.st = 0 ∧ J0 j ≠ 0) := fun h => by omega
   have hst : C8 j x = (j, { x with sl := x.sl.set i .no, keep := x.keep.set i (0, 0) }, false, false, false) := by
    unfold C8
    rw [if_neg hb', if_neg (by omega), if_pos (by omega)]
    unfold G7
    rw [h1, if_pos (by omega)]
    have e1 : L0 x.sl i .no = x.sl.set i .no := by unfold L0; rw [if_pos (by omega)]; simp
    have h3 : (x.keep[i]).1 = 2 := by unfold D4 at h2; simp only [Bool.and_eq_true, decide_eq_true_eq] at h2; exact h2.1
    have e3 : stK x.keep i = 2 := by
     unfold stK; rw [if_pos (by omega), Int.toNat_natCast, List.getD_eq_getElem?_getD, List.getElem?_eq_getElem hi]; exact h3
    have e2 : A1T x.keep i = x.keep.set i (0, 0) := by
     unfold A1T z8; rw [if_pos ⟨e3, by omega⟩, Int.toNat_natCast]
    rw [e1, e2]
   rw [hst]
   have ih := A6A (j := j) m (x := { x with sl := x.sl.set i .no, keep := x.keep.set i (0, 0) }) (n := n + 1) (t := t) (b := b) (by simp only; omega) hs hw (by simp [hl])
   simp only [A8G hi h2, A8a hi h2 hl] at ih
   simpa [Nat.add_assoc, Nat.add_comm 1 m] using ih
end Go.Proofs.YtjobgnabneddjaaGreat
namespace Go.Proofs.YtjobgnabneddjaaGreat
open Go
structure UInv (n : Nat) (j : JU) (x : WS) : Prop where
 ok : WsOk x
 st : -1 ≤ j.b.st ∧ j.b.st ≤ n
 pins : j.pins.length ≤ n
 slot : -1 ≤ j.slot ∧ j.slot ≤ 8
 old : 0 ≤ j.old ∧ j.old ≤ 1000
 cur : 0 ≤ E2 x.cells 1 ∧ E2 x.cells 1 ≤ 1000
theorem l4 (l : List SlV) (i : Int) (x : SlV) : (L0 l i x).length = l.length := by unfold L0; split <;> simp
theorem A9r (l : List SlV) (i : Int) (p : List E8) : (j1 l i p).length = l.length := by
 unfold j1; split
 ·split
  ·exact l4 _ _ _
  ·rfl
 ·rfl
theorem A2L (l : List (Int × Int)) (i a : Int) (s : Int × Int) : (z8 l i a s).length = l.length := by unfold z8; split <;> simp
theorem A1K (l : List (Int × Int)) : (F5 l).length = l.length := by unfold F5; split <;> simp
theorem r9 (l : List Int) (i v : Int) : (K3 l i v).length = l.length := by unfold K3; split <;> simp
theorem A02 (l : List Int) (i v : Int) : E2 (K3 l i v) i = if 0 ≤ i ∧ i < l.length then v else 0 := by
 unfold E2 K3
 by_cases h : 0 ≤ i ∧ i < l.length
 ·rw [if_pos h, if_pos h, if_pos (by rw [List.length_set]; exact h), List.getD_eq_getElem?_getD, List.getElem?_set_self (by omega)]; rfl
 ·rw [if_neg h, if_neg h, if_neg h]
theorem U4 {i k : Int} (l : List Int) (v : Int) (h : i ≠ k) : E2 (K3 l i v) k = E2 l k := by
 unfold E2 K3
 by_cases h1 : 0 ≤ i ∧ i < l.length
 ·rw [if_pos h1, List.length_set]
  by_cases h2 : 0 ≤ k ∧ k < l.length
  ·rw [if_pos h2, if_pos h2, List.getD_eq_getElem?_getD, List.getD_eq_getElem?_getD, List.getElem?_set_ne (by omega)]
  ·rw [if_neg h2, if_neg h2]
 ·rw [if_neg h1]
theorem B1Z (l : List (Int × Int)) : -1 ≤ D3 l ∧ D3 l < max 1 l.length := by
 unfold D3; split <;> omega
theorem A6W (j : JU) (x : WS) : (C8 j x).1.pool = j.pool := by
 unfold C8 G7 D5 A0g
 repeat' split
 all_goals rfl
theorem A94 {n : Nat} {j : JU} {x : WS} (h : UInv n j x) (hst : j.b.st ≠ -1) : UInv (n + 1) (C8 j x).1 (C8 j x).2.1 := by
 obtain ⟨⟨w1, w2, w3, w4, w5⟩, s1, s2, s3, s4, s5⟩ := h
 have ht := B1Z x.keep
 unfold C8
 by_cases c1 : j.b.st = 0 ∧ J0 j ≠ 0
 ·rw [if_pos c1]
  exact ⟨⟨w1, w2, w3, w4, w5⟩, by simp only [JB.refuse]; omega, by simp only; omega, s3, s4, s5⟩
 rw [if_neg c1]
 by_cases c2 : j.b.st = 0 ∨ j.b.st - x.c.wk < 0
 ·rw [if_pos c2]
  exact ⟨⟨w1, w2, w3, w4, w5⟩, by simp only [D5]; omega, by simp only [List.length_append, List.length_singleton]; omega, s3, s4, s5⟩
 rw [if_neg c2]
 by_cases d0 : j.b.st - x.c.wk = 0
 ·rw [if_pos d0]
  unfold G7
  by_cases e1 : 0 ≤ H2 x.keep j.pins
  ·rw [if_pos e1]
   exact ⟨⟨w1, w2, w3, by simp only [l4]; omega, by simp only [A1T, A2L]; omega⟩, by simp only; omega, by simp only; omega, s3, s4, s5⟩
  rw [if_neg e1]
  by_cases e2 : D3 x.keep < 0
  ·rw [if_pos e2]
   exact ⟨⟨w1, w2, w3, w4, w5⟩, by simp only [JB.refuse]; omega, by simp only; omega, by simp only; omega, s4, s5⟩
  rw [if_neg e2]
  exact ⟨⟨w1, w2, w3, by simp only [l4]; omega, by simp only [A1K]; omega⟩, by simp only; omega, by simp only; omega, by simp only; omega, s4, s5⟩
 rw [if_neg d0]
 by_cases d1 : j.b.st - x.c.wk = 1
 ·rw [if_pos d1]
  exact ⟨⟨w1, w2, w3, by simp only [A9r]; omega, w5⟩, by simp only [D5]; omega, by simp only [D5]; omega, s3, s4, s5⟩
 rw [if_neg d1]
 by_cases d2 : j.b.st - x.c.wk = 2
 ·rw [if_pos d2]
  exact ⟨⟨w1, w2, w3, w4, w5⟩, by simp only [D5]; omega, by simp only [D5]; omega, s3, s5, s5⟩
 rw [if_neg d2]
 by_cases d3 : j.b.st - x.c.wk = 3
 ·rw [if_pos d3]
  refine ⟨⟨w1, by simp only [r9]; omega, w3, w4, w5⟩, by simp only [D5]; omega, by simp only [D5]; omega, s3, s4, ?_⟩
  simp only [A02]
  split <;> omega
 rw [if_neg d3]
 unfold A0g
 refine ⟨⟨w1, by simp only [r9]; omega, w3, w4, ?_⟩, by simp only; omega, by simp only [D5]; omega, s3, s4, ?_⟩
 ·simp only
  split
  ·simp only [A2B, A2L]; omega
  ·omega
 ·simp only
  rw [U4 _ _ (by omega)]
  exact s5
end Go.Proofs.YtjobgnabneddjaaGreat
namespace Go.Proofs.YtjobgnabneddjaaGreat
open Go
theorem A2F : ∀ A : List Res, Sels A A
 | [] => Sels.nil
 | r :: A => Sels.cons Sel.here (A2F A)
theorem A5D : ∀ A : List Res, Part A A []
 | [] => Part.nil
 | r :: A => Part.cons Sel.here (A5D A)
theorem A57 (B : List Res) : ∀ A : List Res, Part A (A ++ B) B
 | [] => Part.nil
 | r :: A => Part.cons Sel.here (A57 B A)
def z7 (x : JV × WS) : JV × WS := ((x.1.step0 x.2).1, (x.1.step0 x.2).2.1)
def U0 (x : JV × WS) (n tk bad : Nat) : RunV := ⟨x.1, x.2, n, tk, bad⟩
theorem A6Q {x : JV × WS} {n tk bad : Nat} (h : x.1.ready x.2 = false) : ∀ f, H6 f (U0 x n tk bad) = U0 x n tk bad
 | 0 => rfl
 | f + 1 => by rw [H6, if_neg (by rw [show (U0 x n tk bad).j.ready (U0 x n tk bad).x = false from h]; decide)]
theorem A5Q {x : JV × WS} {n tk bad : Nat} (h : x.1.ready x.2 = true) (f : Nat) : H6 (f + 1) (U0 x n tk bad) = H6 f (U0 (z7 x) (n + 1) (tk + (x.1.step0 x.2).2.2.1.toNat) (bad + (x.1.step0 x.2).2.2.2.2.toNat)) := by
 rw [H6, if_pos (show (U0 x n tk bad).j.ready (U0 x n tk bad).x = true from h)]; rfl
abbrev B1D (α : Type) := α × Nat × Nat × Nat
def B5g (α : Type) (φ : Nat → α → Prop) (V : α → JV × WS) (R : RunV) (y : B1D α) : Prop := φ y.2.1 y.1 ∧ H6 (200 - y.2.1) (U0 (V y.1) y.2.1 y.2.2.1 y.2.2.2) = R
set_option maxHeartbeats 1000000 in
theorem B1N {α : Type} (w : World) (jp wp : Value) (Hh : α → List Res) (φ : Nat → α → Prop) (V : α → JV × WS) (a0 : α) (h0 : φ 0 a0)
  (hR : ∀ n a w', φ n a → LW false (B1 (Hh a0)) w (Hh a) w' → Fn PR C2 39 #[jp, wp] w' (fun u w'' => u = .bool ((V a).1.ready (V a).2) ∧ C7 [] w' w''))
  (hS : ∀ n a w', n < 200 → φ n a → (V a).1.ready (V a).2 = true → LW false (B1 (Hh a0)) w (Hh a) w' → LW false (B1 (Hh a)) w' (Hh a) w' → Fn PR C2 36 #[jp, wp] w' (Rn (B1 (Hh a)) w' (fun (a' : α) u => u = T0 ((V a).1.step0 (V a).2).2.2 ∧ V a' = z7 (V a) ∧ φ (n + 1) a') Hh))
  (hw : LW false (B1 (Hh a0)) w (Hh a0) w) :
  Fn PR C2 33 #[jp, wp] w (Rn (B1 (Hh a0)) w (fun (y : B1D α) u => u = .tuple #[.int .i64 (y.2.1 : Nat), .int .i64 (y.2.2.1 : Nat), .int .i64 (y.2.2.2 : Nat)] ∧ φ y.2.1 y.1 ∧ U0 (V y.1) y.2.1 y.2.2.1 y.2.2.2 = H6 200 (U0 (V a0) 0 0 0)) fun y => Hh y.1) := by
 refine A0w (TW.goH (κ := false) ?_ hw)
 unfold d5
 generalize hR0 : H6 200 (U0 (V a0) 0 0 0) = R0
 generalize hS0 : B1 (Hh a0) = S at *
 (have zz:=trivial;repeat((first|clear zz|with_reducible first|refine A3 ?_|refine A5 fun _=>?_|refine A4 fun _=>?_);try simp(disch:=first|omega|assumption|((repeat(first|exact A1|exact uH|apply A2|apply uT));first|done|fail)|(simp;first|done|omega|fail))[]))
 refine B4J (fun y : B1D α => Hh y.1) (fun y => (y.2.1 ≤ 200 ∧ y.2.2.1 ≤ y.2.1 ∧ y.2.2.2 ≤ y.2.1) ∧ B5g α φ V R0 y) (fun y => 200 - y.2.1) (a0, 0, 0, 0) (fun y => .int .i64 (y.2.1 : Nat)) (fun y => .int .i64 (y.2.2.1 : Nat)) (fun y => .int .i64 (y.2.2.2 : Nat)) ⟨⟨Nat.zero_le _, Nat.le_refl _, Nat.le_refl _⟩, h0, hR0⟩ ?_
 rintro ⟨a, n, tk, bad⟩ ⟨⟨h1, h2, h3⟩, h6, h7⟩ L hL
 simp only at h1 h2 h3 h6 h7 ⊢
 have hR' := fun w' hw' => hR n a w' h6 hw'
 have hfin : (V a).1.ready (V a).2 = false ∨ n = 200 → U0 (V a) n tk bad = R0 := fun h => by
  rcases h with h | h
  ·rw [← h7, A6Q h]
  ·rw [← h7, show 200 - n = 0 by omega]; rfl
 by_cases c1 : n < 200
 case neg =>
  have c1' : ¬ ((n : Nat) : Int) < 200 := by omega
  have c2 := hfin (Or.inr (by omega))
  clear hfin h7 hR hS hL hR0
  (have zz:=trivial;repeat((first|clear zz|with_reducible first|refine A3 ?_|refine A5 fun _=>?_|refine A4 fun _=>?_);try simp(disch:=first|omega|assumption|((repeat(first|exact A1|exact uH|apply A2|apply uT));first|done|fail)|(simp;first|done|omega|fail))[c1, c1']))
  exact B2 (a, n, tk, bad) ⟨rfl, h6, c2⟩ (A2F _)
 have hS' := fun w' hr hw' hs => hS n a w' c1 h6 hr hw' hs
 have hnx : (V a).1.ready (V a).2 = true → H6 (200 - (n + 1)) (U0 (z7 (V a)) (n + 1) (tk + ((V a).1.step0 (V a).2).2.2.1.toNat) (bad + ((V a).1.step0 (V a).2).2.2.2.2.toNat)) = R0 := fun h => by
  rw [← h7, ← A5Q h, show 200 - (n + 1) + 1 = 200 - n by omega]
 obtain ⟨told, ht⟩ : ∃ t, t = ((V a).1.step0 (V a).2).2.2 := ⟨_, rfl⟩
 rw [← ht] at hnx hS'
 obtain ⟨rd, hrd⟩ : ∃ r, r = (V a).1.ready (V a).2 := ⟨_, rfl⟩
 rw [← hrd] at hnx hR' hS' hfin
 obtain ⟨x', hx'⟩ : ∃ x, x = z7 (V a) := ⟨_, rfl⟩
 rw [← hx'] at hnx hS'
 clear hR hS hR0 h7 hrd ht hx'
 have c1' : ((n : Nat) : Int) < 200 := by omega
 (have zz:=trivial;repeat((first|clear zz|with_reducible first|refine A3 ?_|refine A5 fun _=>?_|refine A4 fun _=>?_);try simp(disch:=first|omega|assumption|((repeat(first|exact A1|exact uH|apply A2|apply uT));first|done|fail)|(simp;first|done|omega|fail))[c1, c1']))
 refine F4 H4 (fun w' hw' => hR' w' hw') ?_
 cases rd with
 | false =>
  (have zz:=trivial;repeat((first|clear zz|with_reducible first|refine A3 ?_|refine A5 fun _=>?_|refine A4 fun _=>?_);try simp(disch:=first|omega|assumption|((repeat(first|exact A1|exact uH|apply A2|apply uT));first|done|fail)|(simp;first|done|omega|fail))[c1, c1']))
  exact B2 (a, n, tk, bad) ⟨rfl, h6, hfin (Or.inl rfl)⟩ (A2F _)
 | true =>
  (have zz:=trivial;repeat((first|clear zz|with_reducible first|refine A3 ?_|refine A5 fun _=>?_|refine A4 fun _=>?_);try simp(disch:=first|omega|assumption|((repeat(first|exact A1|exact uH|apply A2|apply uT));first|done|fail)|(simp;first|done|omega|fail))[c1, c1']))
  refine B9 (Hc := Hh a) (Hk := []) S5 (fun w' hw' hs => hS' w' rfl (by simpa using hw') hs) (A5D _) ?_
  rintro a' v ⟨rfl, hv2, hv3⟩
  obtain ⟨t1, t2, t3⟩ := told
  have h := hnx rfl
  simp only at h
  rw [← hv2] at h
  simp only [T0, List.append_nil]
  cases t1 <;> cases t3
  all_goals
   (have zz:=trivial;repeat((first|clear zz|with_reducible first|refine A3 ?_|refine A5 fun _=>?_|refine A4 fun _=>?_);try simp(disch:=first|omega|assumption|((repeat(first|exact A1|exact uH|apply A2|apply uT));first|done|fail)|(simp;first|done|omega|fail))[]))
   refine TW.sub (hL (a', n + 1, _, _) ⟨⟨by simp only; omega, by simp only; omega, by simp only; omega⟩, hv3, h⟩ (by simp only; omega)) (by ((try simp only [List.cons_append, List.nil_append, List.append_assoc]); (repeat (first | exact List.Sublist.refl _ | exact List.nil_sublist _ | with_reducible apply List.Sublist.cons_cons | apply List.Sublist.cons)); first | done | fail))
end Go.Proofs.YtjobgnabneddjaaGreat
namespace Go.Proofs.YtjobgnabneddjaaGreat
open Go
def C9 (who : Int) (p : List E8) : JU := ⟨⟨who, 0, S1⟩, p, [], 0, 0⟩
abbrev pW (x : WS) : List Int := A22 x x.c.wk.toNat
abbrev kF (x : WS) : List (Int × Int) := N1 (pW x) x.keep
abbrev sF (x : WS) : List SlV := j8 (pW x) x.keep x.sl
theorem A37 (P : List Int) (l : List (Int × Int)) : H2 (N1 P l) P = -1 := by
 rcases A39 P (N1 P l) with ⟨h, _⟩ | ⟨i, hi, _, h⟩
 ·exact h
 ·exfalso
  have hi' : i < l.length := by unfold N1 at hi; simpa using hi
  have e : (N1 P l)[i] = if D4 P l[i] then (0, 0) else l[i] := by simp [N1]
  rw [e] at h
  cases hr : D4 P l[i] with
  | true => rw [hr] at h; simp [A50] at h
  | false => rw [hr] at h; simp [hr] at h
theorem q9 (P : List Int) (l : List (Int × Int)) : (N1 P l).length = l.length := by unfold N1; simp
theorem A3y {P : List Int} {l : List (Int × Int)} {s : List SlV} (h : l.length = s.length) : (j8 P l s).length = s.length := by unfold j8; simp [h]
theorem A2x {l : List SlV} {i : Int} {x : SlV} (h : 0 ≤ i ∧ i < l.length) : L0 l i x = l.set i.toNat x := if_pos h
theorem B0V {l : List SlV} {i : Int} {x : SlV} (h : 0 ≤ i ∧ i < l.length) : w9 (L0 l i x) i = x := by
 rw [A2x h]; unfold w9
 rw [if_pos (by rw [List.length_set]; exact h), List.getD_eq_getElem?_getD, List.getElem?_set_self (by omega)]; rfl
theorem B09 {l : List SlV} {i : Int} {p : List E8} (h : 0 ≤ i ∧ i < l.length) (hp : H0 p = 0) : j1 (L0 l i .bld) i p = L0 l i (.rdy p) := by
 unfold j1
 rw [B0V h]
 simp only [if_pos hp]
 have h' : 0 ≤ i ∧ i < (L0 l i .bld).length := by rw [l4]; exact h
 rw [A2x h', A2x h, A2x h, List.set_set]
def T7 (x : WS) : Nat := x.keep.countP (D4 (pW x))
theorem A7m {p : List E8} {x : WS} (hp : H0 p = 0) (hw : 1 ≤ x.c.wk) (hl : x.keep.length = x.sl.length) :
  N8 (x.c.wk.toNat + T7 x) ⟨.upd (C9 0 p), x, 0, 0, 0⟩ ⟨.upd { C9 0 p with b := ⟨0, x.c.wk, S1⟩, pins := pW x }, { x with sl := sF x, keep := kF x }, x.c.wk.toNat + T7 x, 0, 0⟩ := by
 have h1 := A6V (j := C9 0 p) (x := x) rfl (by simpa [J0, C9] using hp) rfl x.c.wk.toNat (by omega)
 have e : ((x.c.wk.toNat : Nat) : Int) = x.c.wk := by omega
 rw [e] at h1
 have h2 := A6A (j := { C9 0 p with b := ⟨0, x.c.wk, S1⟩, pins := pW x }) (T7 x) (x := x) (n := x.c.wk.toNat) (t := 0) (b := 0) rfl rfl hw hl
 exact h1.trans h2
theorem B07 {p : List E8} {x : WS} (hp : H0 p = 0) (hw : 1 ≤ x.c.wk ∧ x.c.wk ≤ 64) (hl : x.keep.length = x.sl.length) (h8 : x.keep.length ≤ 8) (ht : D3 (kF x) < 0) :
  H6 200 ⟨.upd (C9 0 p), x, 0, 0, 0⟩ = ⟨.upd { C9 0 p with b := ⟨0, -1, ⟨13, 0, false, 0⟩⟩, pins := pW x, slot := D3 (kF x) }, { x with sl := sF x, keep := kF x }, x.c.wk.toNat + T7 x + 1, 1, 0⟩ := by
 have h := A7m (p := p) hp hw.1 hl
 have hc : T7 x ≤ x.keep.length := List.countP_le_length
 have hrd : ({ C9 0 p with b := ⟨0, x.c.wk, S1⟩, pins := pW x } : JU).b.st ≠ -1 := by show x.c.wk ≠ -1; omega
 refine (h.trans (N8.one (S0 hrd))).ends (by omega) ?_ |>.trans ?_
 all_goals
  rw [U9]
  unfold C8
  simp only
  rw [if_neg (by omega), if_neg (by omega), if_pos (by omega)]
  unfold G7
  simp only
  rw [A37, if_neg (by omega), if_pos ht]
  rfl
def epW (x : WS) : Int := IntKind.i64.wrap (E2 x.cells 0 + 1)
def K9 (x : WS) (p : List E8) : WS :=
 { x with cells := K3 (K3 x.cells 1 (D3 (kF x) + 1)) 0 (epW x), sl := L0 (sF x) (D3 (kF x)) (.rdy p), keep := if 0 < E2 x.cells 1 then A2B (F5 (kF x)) (E2 x.cells 1 - 1) (epW x) else F5 (kF x) }
theorem B0K {l : List (Int × Int)} (h : ¬ D3 l < 0) : 0 ≤ D3 l ∧ D3 l < l.length := by
 unfold D3 at *
 split at h
 ·rw [if_pos (by assumption)]; omega
 ·omega
theorem A52 {p : List E8} {x : WS} (hp : H0 p = 0) (hw : 1 ≤ x.c.wk ∧ x.c.wk ≤ 64) (hl : x.keep.length = x.sl.length) (h8 : x.keep.length ≤ 8) (ht : ¬ D3 (kF x) < 0) :
  H6 200 ⟨.upd (C9 0 p), x, 0, 0, 0⟩ = ⟨.upd { C9 0 p with b := ⟨0, -1, S1⟩, pins := pW x, slot := D3 (kF x), old := E2 x.cells 1 }, K9 x p, x.c.wk.toNat + T7 x + 5, 1, 0⟩ := by
 have h := A7m (p := p) hp hw.1 hl
 have hc : T7 x ≤ x.keep.length := List.countP_le_length
 have hin : 0 ≤ D3 (kF x) ∧ D3 (kF x) < (sF x).length := by
  have := B0K ht
  rw [q9] at this
  rw [A3y hl]
  omega
 have hrd : ∀ {j : JU} {k : Int}, j.b.st = x.c.wk + k → 0 ≤ k → j.b.st ≠ -1 := fun h h' => by omega
 generalize hq : D3 (kF x) = s at *
 have g1 : N8 1 ⟨.upd { C9 0 p with b := ⟨0, x.c.wk, S1⟩, pins := pW x }, { x with sl := sF x, keep := kF x }, x.c.wk.toNat + T7 x, 0, 0⟩ ⟨.upd { C9 0 p with b := ⟨0, x.c.wk + 1, S1⟩, pins := pW x, slot := s }, { x with sl := L0 (sF x) s .bld, keep := F5 (kF x) }, x.c.wk.toNat + T7 x + 1, 0, 0⟩ := by
  refine ⟨S0 (hrd (k := 0) (by simp) (by omega)), ?_⟩
  rw [U9]
  unfold C8
  simp only
  rw [if_neg (by omega), if_neg (by omega), if_pos (by omega)]
  unfold G7
  simp only
  rw [A37, if_neg (by omega), hq, if_neg ht]
  rfl
 have g2 : N8 1 ⟨.upd { C9 0 p with b := ⟨0, x.c.wk + 1, S1⟩, pins := pW x, slot := s }, { x with sl := L0 (sF x) s .bld, keep := F5 (kF x) }, x.c.wk.toNat + T7 x + 1, 0, 0⟩ ⟨.upd { C9 0 p with b := ⟨0, x.c.wk + 2, S1⟩, pins := pW x, slot := s }, { x with sl := L0 (sF x) s (.rdy p), keep := F5 (kF x) }, x.c.wk.toNat + T7 x + 2, 0, 0⟩ := by
  refine ⟨S0 (hrd (k := 1) rfl (by omega)), ?_⟩
  rw [U9]
  unfold C8
  simp only
  rw [if_neg (by omega), if_neg (by omega), if_neg (by omega), if_pos (by omega)]
  show (_ : RunV) = _
  simp only [D5, C9, B09 hin hp, show x.c.wk + 1 + 1 = x.c.wk + 2 by omega, Bool.toNat_false, Nat.add_zero]
 have g3 : N8 1 ⟨.upd { C9 0 p with b := ⟨0, x.c.wk + 2, S1⟩, pins := pW x, slot := s }, { x with sl := L0 (sF x) s (.rdy p), keep := F5 (kF x) }, x.c.wk.toNat + T7 x + 2, 0, 0⟩ ⟨.upd { C9 0 p with b := ⟨0, x.c.wk + 3, S1⟩, pins := pW x, slot := s, old := E2 x.cells 1 }, { x with sl := L0 (sF x) s (.rdy p), keep := F5 (kF x) }, x.c.wk.toNat + T7 x + 3, 0, 0⟩ := by
  refine ⟨S0 (hrd (k := 2) rfl (by omega)), ?_⟩
  rw [U9]
  unfold C8
  simp only
  rw [if_neg (by omega), if_neg (by omega), if_neg (by omega), if_neg (by omega), if_pos (by omega)]
  show (_ : RunV) = _
  simp only [D5, C9, show x.c.wk + 2 + 1 = x.c.wk + 3 by omega, Bool.toNat_false, Nat.add_zero]
 have g4 : N8 1 ⟨.upd { C9 0 p with b := ⟨0, x.c.wk + 3, S1⟩, pins := pW x, slot := s, old := E2 x.cells 1 }, { x with sl := L0 (sF x) s (.rdy p), keep := F5 (kF x) }, x.c.wk.toNat + T7 x + 3, 0, 0⟩ ⟨.upd { C9 0 p with b := ⟨0, x.c.wk + 4, S1⟩, pins := pW x, slot := s, old := E2 x.cells 1 }, { x with cells := K3 x.cells 1 (s + 1), sl := L0 (sF x) s (.rdy p), keep := F5 (kF x) }, x.c.wk.toNat + T7 x + 4, 1, 0⟩ := by
  refine ⟨S0 (hrd (k := 3) rfl (by omega)), ?_⟩
  rw [U9]
  unfold C8
  simp only
  rw [if_neg (by omega), if_neg (by omega), if_neg (by omega), if_neg (by omega), if_neg (by omega), if_pos (by omega)]
  show (_ : RunV) = _
  simp only [D5, C9, show x.c.wk + 3 + 1 = x.c.wk + 4 by omega, Bool.toNat_false, Bool.toNat_true, Nat.add_zero]
 have g5 : N8 1 ⟨.upd { C9 0 p with b := ⟨0, x.c.wk + 4, S1⟩, pins := pW x, slot := s, old := E2 x.cells 1 }, { x with cells := K3 x.cells 1 (s + 1), sl := L0 (sF x) s (.rdy p), keep := F5 (kF x) }, x.c.wk.toNat + T7 x + 4, 1, 0⟩ ⟨.upd { C9 0 p with b := ⟨0, -1, S1⟩, pins := pW x, slot := s, old := E2 x.cells 1 }, K9 x p, x.c.wk.toNat + T7 x + 5, 1, 0⟩ := by
  refine ⟨S0 (hrd (k := 4) rfl (by omega)), ?_⟩
  rw [U9]
  unfold C8
  simp only
  rw [if_neg (by omega), if_neg (by omega), if_neg (by omega), if_neg (by omega), if_neg (by omega), if_neg (by omega)]
  show (_ : RunV) = _
  simp only [D5, A0g, C9, K9, epW, hq, U4 x.cells (s + 1) (show (1 : Int) ≠ 0 by omega), Bool.toNat_false, Nat.add_zero]
 refine Eq.trans (((((h.trans g1).trans g2).trans g3).trans g4).trans g5 |>.ends (by omega) rfl) rfl
end Go.Proofs.YtjobgnabneddjaaGreat
namespace Go.Proofs.YtjobgnabneddjaaGreat
open Go
abbrev UpA := JU × Value × WoD
def M1 (jb b : Nat) (pv : Value) (m : WoH) (a : UpA) : List Res := Q9 jb (H3 b) :: E5 b a.1 pv a.2.1 :: G0 a.1 a.2.1 :: D7 (m.up a.2.2)
theorem A9C {j : JU} {x : WS} (h : j.b.st ≠ -1) : A4z j x = C8 j x := if_neg h
theorem A5Y (w w' : World) (jb b : Nat) (pv : Value) (m : WoH) (a : UpA) {κ : Bool} {S : List Nat} {H : List Res} (h1 : Q9 jb (H3 b) ∈ H) (h2 : E5 b a.1 pv a.2.1 ∈ H) (v : Value) (x : WS) (hw' : LW κ S w H w') :
  Fn PR C2 39 #[.pointer (some ⟨jb, 0, none⟩), v] w' (fun u w'' => u = .bool ((JV.upd a.1).ready x) ∧ C7 [] w' w'') :=
 A2H w' jb b (H3 b) a.1.b _ _ v false _ _ (Or.inl rfl) (hw'.pt h1) (hw'.pt h2) (fun w => j5 w b _) (fun w'' _ => A2c w'' _ _)
theorem A2S (w w' : World) (jb b : Nat) (pv : Value) (m : WoH) (p : List E8) (hpl : p.length ≤ 1000) {S : List Nat} (n : Nat) (hn : n < 400) (a : UpA) (hi : UInv n a.1 (m.up a.2.2).ws) (hp : a.1.pool = p) (hrd : (JV.upd a.1).ready (m.up a.2.2).ws = true) (hv : ∀ w', KS false S w w' → G1 w' pv p.length (p.flatMap F9))
  (hw' : LW false S w (M1 jb b pv m a) w') (hs : LW false (B1 (M1 jb b pv m a)) w' (M1 jb b pv m a) w') :
  Fn PR C2 36 #[.pointer (some ⟨jb, 0, none⟩), .pointer (some ⟨m.b, 0, none⟩)] w' (Rn (B1 (M1 jb b pv m a)) w' (fun (a' : UpA) u => u = T0 ((JV.upd a.1).step0 (m.up a.2.2).ws).2.2 ∧ (JV.upd a'.1, (m.up a'.2.2).ws) = z7 (.upd a.1, (m.up a.2.2).ws) ∧ UInv (n + 1) a'.1 (m.up a'.2.2).ws ∧ a'.1.pool = p) (M1 jb b pv m)) := by
 obtain ⟨j, qv, d⟩ := a
 simp only at hi hp hrd
 subst hp
 have hst : j.b.st ≠ -1 := by
  intro h
  simp [JV.ready, JV.b, h] at hrd
 obtain ⟨i1, i2, i3, i4, i5, i6⟩ := hi
 have h := A8x w' jb b j pv qv (m.up d) i1 (by omega) hpl (by omega) (by omega) i5 (fun w'' hk => hv w'' ?_) hs
 ·rw [A9C hst] at h
  refine Fn.mono h fun u w'' hr => ?_
  obtain ⟨⟨qv', d'⟩, ⟨h1, h2⟩, h3⟩ := hr
  have hn := A94 ⟨i1, i2, i3, i4, i5, i6⟩ hst
  have e2 : (m.up d').ws = (C8 j (m.up d).ws).2.1 := h2
  refine ⟨((C8 j (m.up d).ws).1, qv', d'), ⟨h1, ?_, ?_, ?_⟩, h3⟩
  ·simp only [z7, JV.step0, e2]
  ·simp only [e2]; exact hn
  ·exact A6W _ _
 ·refine hw'.ks.then hk fun x hx => ?_
  obtain ⟨r, hr, hxr⟩ := F7.1 hx
  exact (hw'.own r hr x hxr).1
theorem B2S (w : World) (jb b : Nat) (pv qv : Value) (m : WoH) (j : JU) (hi : UInv 0 j m.ws) (hpl : j.pool.length ≤ 1000)
  (hv : ∀ w', KS false (B1 (M1 jb b pv m (j, qv, m.dd))) w w' → G1 w' pv j.pool.length (j.pool.flatMap F9))
  (hw : LW false (B1 (M1 jb b pv m (j, qv, m.dd))) w (M1 jb b pv m (j, qv, m.dd)) w) :
  Fn PR C2 33 #[.pointer (some ⟨jb, 0, none⟩), .pointer (some ⟨m.b, 0, none⟩)] w (Rn (B1 (M1 jb b pv m (j, qv, m.dd))) w (fun (a : UpA) u => u = .tuple #[.int .i64 ((H6 200 ⟨.upd j, m.ws, 0, 0, 0⟩).n : Nat), .int .i64 ((H6 200 ⟨.upd j, m.ws, 0, 0, 0⟩).tk : Nat), .int .i64 ((H6 200 ⟨.upd j, m.ws, 0, 0, 0⟩).bad : Nat)] ∧ JV.upd a.1 = (H6 200 ⟨.upd j, m.ws, 0, 0, 0⟩).j ∧ (m.up a.2.2).ws = (H6 200 ⟨.upd j, m.ws, 0, 0, 0⟩).x) (M1 jb b pv m)) := by
 have h := B1N w (.pointer (some ⟨jb, 0, none⟩)) (.pointer (some ⟨m.b, 0, none⟩)) (M1 jb b pv m) (fun n a => UInv n a.1 (m.up a.2.2).ws ∧ a.1.pool = j.pool) (fun a => (.upd a.1, (m.up a.2.2).ws)) (j, qv, m.dd) ⟨hi, rfl⟩
  (fun n a w' _ hw' => A5Y w w' jb b pv m a (by unfold M1; (repeat constructor)) (by unfold M1; (repeat constructor)) _ _ hw')
  (fun n a w' hn hφ hr hw' hs => A2S w w' jb b pv m j.pool hpl n (by omega) a hφ.1 hφ.2 hr hv hw' hs) hw
 refine Fn.mono h fun u w'' hr => ?_
 obtain ⟨⟨a, n, tk, bad⟩, ⟨h1, h2, h3⟩, h4⟩ := hr
 have e : H6 200 ⟨.upd j, m.ws, 0, 0, 0⟩ = U0 (.upd a.1, (m.up a.2.2).ws) n tk bad := h3.symm
 rw [e]
 exact ⟨a, ⟨h1, rfl, rfl⟩, h4⟩
end Go.Proofs.YtjobgnabneddjaaGreat
namespace Go.Proofs.YtjobgnabneddjaaGreat
open Go
theorem A4p {α : Type} {l : List α} {d : α} {i : Nat} (h : i < l.length) : l.getD i d = l[i] := by rw [List.getD_eq_getElem?_getD, List.getElem?_eq_getElem h]; rfl
theorem A3k {l : List (Int × Int)} {i : Nat} (h : i < l.length) (h0 : l[i] = (0, 0)) (hp : ∀ j (hj : j < i), l[j]'(by omega) ≠ (0, 0)) : D3 l = (i : Nat) :=
 (A6u h (by rw [A4p h]; exact h0) fun j hj => by rw [A4p (by omega)]; exact hp j hj).1
theorem B1e {l : List (Int × Int)} (hp : ∀ s ∈ l, s ≠ (0, 0)) : D3 l = -1 := (A6e fun k hk => by rw [A4p hk]; exact hp _ (List.getElem_mem hk)).1
theorem A9l {x : WS} {i : Nat} (h : (i : Int) < x.c.wk) : s7 x.c (((i : Nat) : Int) + 1) = (i : Nat) + 2 := by unfold s7; rw [if_neg (by omega)]; omega
theorem A9K {x : WS} {p : Int} : p ∈ pW x ↔ ∃ i : Nat, (i : Int) < x.c.wk ∧ p = E2 x.cells ((i : Nat) + 2) := by
 unfold pW A22
 rw [List.mem_map]
 constructor
 ·rintro ⟨i, hi, rfl⟩
  rw [List.mem_range] at hi
  exact ⟨i, by omega, by rw [A9l (by omega)]⟩
 ·rintro ⟨i, hi, rfl⟩
  exact ⟨i, List.mem_range.2 (by omega), by rw [A9l hi]⟩
theorem A9Q {x : WS} (hw : 1 ≤ x.c.wk) (h : E2 x.cells 2 = 1) {e : Int} (he : 1 ≤ e) : V1 (pW x) e = false := by
 unfold V1
 rw [List.all_eq_false]
 exact ⟨1, A9K.2 ⟨0, by omega, h.symm⟩, by simp; omega⟩
theorem A8b {x : WS} (h : ∀ i : Nat, E2 x.cells ((i : Nat) + 2) = 0) (e : Int) : V1 (pW x) e = true := by
 unfold V1
 rw [List.all_eq_true]
 intro p hp
 obtain ⟨i, hi, rfl⟩ := A9K.1 hp
 simp [h i]
def S8 (n t : Nat) : List (Int × Int) := (List.range n).map fun k => if k + 1 < t then (2, (k : Int) + 2) else if k + 1 = t then (1, 0) else (0, 0)
theorem G5 (n t : Nat) : (S8 n t).length = n := by simp [S8]
theorem M2 {n t k : Nat} (h : k < n) : (S8 n t)[k]'(by rw [G5]; exact h) = if k + 1 < t then (2, (k : Int) + 2) else if k + 1 = t then (1, 0) else (0, 0) := by simp [S8]
theorem B34 {l : List (Int × Int)} {i : Nat} (h : i < l.length) : stK l (i : Nat) = l[i].1 := by
 unfold stK
 rw [if_pos (by omega), Int.toNat_natCast, List.getD_eq_getElem?_getD, List.getElem?_eq_getElem h]; rfl
theorem A4H {n t : Nat} (h : t < n) : D3 (S8 n t) = (t : Nat) := by
 refine (A3k (by rw [G5]; exact h) ?_ fun j hj => ?_)
 ·rw [M2 h, if_neg (by omega), if_neg (by omega)]
 ·rw [M2 (by omega)]
  by_cases c : j + 1 < t
  ·rw [if_pos c]; simp
  ·rw [if_neg c, if_pos (by omega)]; simp
theorem A8e (n : Nat) : D3 (S8 n n) = -1 := by
 refine (B1e fun s hs => ?_)
 obtain ⟨k, hk, rfl⟩ := List.mem_iff_getElem.1 hs
 rw [G5] at hk
 rw [M2 hk]
 by_cases c : k + 1 < n
 ·rw [if_pos c]; simp
 ·rw [if_neg c, if_pos (by omega)]; simp
theorem A8Y {n t : Nat} (h : t < n) : (if 0 < ((t : Nat) : Int) then A2B (F5 (S8 n t)) ((t : Nat) - 1) ((t : Nat) + 1) else F5 (S8 n t)) = S8 n (t + 1) := by
 have e1 : F5 (S8 n t) = (S8 n t).set t (1, 0) := by
  unfold F5
  rw [A4H h, if_neg (by omega), Int.toNat_natCast, List.getD_eq_getElem?_getD, List.getElem?_eq_getElem (by rw [G5]; exact h), M2 h, if_neg (by omega), if_neg (by omega)]
  rfl
 rw [e1]
 by_cases c : 0 < t
 ·rw [if_pos (by omega)]
  have e2 : ((t : Nat) : Int) - 1 = ((t - 1 : Nat) : Int) := by omega
  have e3 : stK ((S8 n t).set t (1, 0)) ((t - 1 : Nat) : Int) = 1 := by
   rw [B34 (by rw [List.length_set, G5]; omega), List.getElem_set_ne (by omega), M2 (by omega), if_neg (by omega), if_pos (by omega)]
  unfold A2B z8
  rw [e2, e3, if_pos ⟨rfl, by omega⟩, Int.toNat_natCast]
  apply List.ext_getElem (by simp [G5])
  intro k h1 h2
  rw [G5] at h2
  rw [List.getElem_set, List.getElem_set, M2 h2, M2 h2]
  by_cases k1 : t - 1 = k
  ·rw [if_pos k1, if_pos (by omega)]; congr 1; omega
  rw [if_neg k1]
  by_cases k2 : t = k
  ·rw [if_pos k2, if_neg (by omega), if_pos (by omega)]
  rw [if_neg k2]
  by_cases k3 : k + 1 < t
  ·rw [if_pos k3, if_pos (by omega)]
  ·rw [if_neg k3, if_neg (by omega), if_neg (by omega), if_neg (by omega)]
 ·obtain rfl : t = 0 := by omega
  rw [if_neg (by omega)]
  apply List.ext_getElem (by simp [G5])
  intro k h1 h2
  rw [G5] at h2
  rw [List.getElem_set, M2 h2, M2 h2]
  by_cases k2 : 0 = k
  ·rw [if_pos k2, if_neg (by omega), if_pos (by omega)]
  ·rw [if_neg k2, if_neg (by omega), if_neg (by omega), if_neg (by omega), if_neg (by omega)]
structure BusyI (n t : Nat) (x : WS) : Prop where
 ok : WsOk x
 ep : E2 x.cells 0 = (t : Nat)
 cur : E2 x.cells 1 = (t : Nat)
 keep : x.keep = S8 n t
 sl : x.sl.length = n
 le : t ≤ n
theorem A1u {n t : Nat} {x : WS} (h : BusyI n t x) (hp : E2 x.cells 2 = 1) : ∀ s ∈ x.keep, D4 (pW x) s = false := by
 intro s hs
 rw [h.keep] at hs
 obtain ⟨k, hk, rfl⟩ := List.mem_iff_getElem.1 hs
 rw [G5] at hk
 rw [M2 hk]
 unfold D4
 by_cases c : k + 1 < t
 ·rw [if_pos c]; simp only; rw [A9Q h.ok.wk.1 hp (by omega)]; simp
 ·rw [if_neg c]
  by_cases c2 : k + 1 = t
  ·rw [if_pos c2]; simp
  ·rw [if_neg c2]; simp
theorem BusyI.kl {n t : Nat} {x : WS} (h : BusyI n t x) : x.keep.length = x.sl.length := by rw [h.sl, h.keep, G5]
theorem A2Q {n t : Nat} {x : WS} (h : BusyI n t x) (hp : E2 x.cells 2 = 1) : kF x = x.keep ∧ sF x = x.sl ∧ T7 x = 0 :=
 ⟨A6f (A1u h hp), A5C (A1u h hp) h.kl, List.countP_eq_zero.2 fun s hs => by rw [A1u h hp s hs]; simp⟩
theorem A6T {x : WS} {p : List E8} (h : WsOk x) (hl : x.keep.length = x.sl.length) : WsOk (K9 x p) := by
 obtain ⟨w1, w2, w3, w4, w5⟩ := h
 refine ⟨w1, by simp only [K9, r9]; exact w2, w3, by simp only [K9, l4]; rw [A3y hl]; exact w4, ?_⟩
 simp only [K9]
 split
 ·simp only [A2B, A2L, A1K, q9]; exact w5
 ·simp only [A1K, q9]; exact w5
theorem A6v {x : WS} {p : List E8} (h : WsOk x) : E2 (K9 x p).cells 0 = epW x := by
 have h1 := h.wk; have h2 := h.cells
 simp only [K9]
 rw [A02, if_pos (by rw [r9]; omega)]
theorem B0D {x : WS} {p : List E8} (h : WsOk x) : E2 (K9 x p).cells 1 = D3 (kF x) + 1 := by
 have h1 := h.wk; have h2 := h.cells
 simp only [K9]
 rw [U4 _ _ (by omega), A02, if_pos (by omega)]
theorem A5B {x : WS} {p : List E8} (i : Nat) : E2 (K9 x p).cells ((i : Nat) + 2) = E2 x.cells ((i : Nat) + 2) := by
 simp only [K9]
 rw [U4 _ _ (by omega), U4 _ _ (by omega)]
theorem A2Z {x : WS} {t : Nat} (h : E2 x.cells 0 = (t : Nat)) (ht : t ≤ 1000) : epW x = (t : Nat) + 1 := by
 unfold epW; rw [h, A6a (by omega) (by omega)]
theorem A9a {n t : Nat} {x : WS} {p : List E8} (h : BusyI n t x) (hp : E2 x.cells 2 = 1) (ht : t < n) (hn : n ≤ 8) : D3 (kF x) = (t : Nat) ∧ BusyI n (t + 1) (K9 x p) := by
 obtain ⟨e1, e2, e3⟩ := A2Q h hp
 have ek : D3 (kF x) = (t : Nat) := by rw [e1, h.keep]; exact A4H ht
 refine ⟨ek, A6T h.ok h.kl, ?_, ?_, ?_, ?_, ht⟩
 ·rw [A6v h.ok, A2Z h.ep (by omega)]; omega
 ·rw [B0D h.ok, ek]; omega
 ·have hx := A8Y ht
  simp only [K9]
  rw [h.cur, A2Z h.ep (by omega), e1, h.keep]
  exact hx
 ·simp only [K9, l4]; rw [e2]; exact h.sl
theorem B0B {n : Nat} {x : WS} (h : BusyI n n x) (hp : E2 x.cells 2 = 1) : D3 (kF x) < 0 ∧ ({ x with sl := sF x, keep := kF x } : WS) = x := by
 obtain ⟨e1, e2, e3⟩ := A2Q h hp
 refine ⟨?_, by rw [e1, e2]⟩
 rw [e1, h.keep, A8e]
 omega
theorem A80 {n t : Nat} {x : WS} (h : BusyI n t x) (hz : ∀ i : Nat, E2 x.cells ((i : Nat) + 2) = 0) (ht : 1 ≤ t) (hn : 2 ≤ n ∧ n ≤ 8) (p : List E8) : ¬ D3 (kF x) < 0 ∧ E2 (K9 x p).cells 0 = (t : Nat) + 1 := by
 refine ⟨?_, by rw [A6v h.ok, A2Z h.ep (by have := h.le; omega)]⟩
 have hlen : (kF x).length = n := by rw [q9, h.keep, G5]
 have hk : ∀ k (hk : k < n), (kF x)[k]'(by rw [hlen]; exact hk) = if k + 1 = t then (1, 0) else (0, 0) := fun k hk => by
  have e : x.keep[k]'(by rw [h.keep, G5]; exact hk) = if k + 1 < t then (2, (k : Int) + 2) else if k + 1 = t then (1, 0) else (0, 0) := by
   simp only [h.keep]; exact M2 hk
  simp only [kF, N1, List.getElem_map, e]
  by_cases c : k + 1 < t
  ·rw [if_pos c]
   unfold D4
   simp only [A8b hz]
   rw [if_pos (by simp), if_neg (by omega)]
  ·rw [if_neg c]
   by_cases c2 : k + 1 = t
   ·rw [if_pos c2]; simp [D4]
   ·rw [if_neg c2]; simp [D4]
 by_cases c : t = 1
 ·rw [A3k (l := kF x) (i := 1) (by omega) (by rw [hk 1 (by omega), if_neg (by omega)]) fun j hj => by rw [hk j (by omega), if_pos (by omega)]; simp]
  omega
 ·rw [A3k (l := kF x) (i := 0) (by omega) (by rw [hk 0 (by omega), if_neg (by omega)]) fun j hj => by omega]
  omega
end Go.Proofs.YtjobgnabneddjaaGreat
namespace Go.Proofs.YtjobgnabneddjaaGreat
open Go
theorem A8Z (w : World) (m : WoH) (hb : bl w m.b = some (.cells (G2 m.c (.pointer (some ⟨m.bc, 0, none⟩)) (.pointer (some ⟨m.bs, 0, none⟩)) (.pointer (some ⟨m.bk, 0, none⟩)) m.tv m.pv (.int .i64 m.now)) 39 (0, 0))) :
  Fn PR C2 30 #[.pointer (some ⟨m.b, 0, none⟩)] w (fun u w' => u = .bool true ∧ C7 [] w w') := by
 refine Fn.pure (y1 (TW.go (κ := false) (S := []) ?_))
 unfold V7
 have h5 : w.cell? ⟨m.b, 5, none⟩ = some (.pointer (some ⟨m.bc, 0, none⟩)) := by rw [C4 hb]; rfl
 have h6 : w.cell? ⟨m.b, 6, none⟩ = some (.pointer (some ⟨m.bs, 0, none⟩)) := by rw [C4 hb]; rfl
 have h7 : w.cell? ⟨m.b, 7, none⟩ = some (.pointer (some ⟨m.bk, 0, none⟩)) := by rw [C4 hb]; rfl
 (have zz:=trivial;repeat((first|clear zz|with_reducible first|refine A3 ?_|refine A5 fun _=>?_|refine A4 fun _=>?_);try simp(disch:=first|omega|assumption|((repeat(first|exact A1|exact uH|apply A2|apply uT));first|done|fail)|(simp;first|done|omega|fail))[h5, h6, h7]))
 exact D1 rfl
theorem B1P {κ : Bool} {S : List Nat} {w0 w' : World} {Hc Hk : List Res} {e : TypeId} {k q : Nat} {v : Value} {xs : List Value} (hw' : LW κ S w0 (Hc ++ Hk) w') (hm : Res.own e k v q xs ∈ Hk) : ∀ w'', KS false (B1 Hc) w' w'' → G1 w'' v q xs := fun w'' hk => by
 have h := L7.rd (hw'.hold _ (List.mem_append_right _ hm))
 refine h.ks hk fun g hg hin => ?_
 obtain ⟨r, hr, hgr⟩ := F7.1 hin
 exact (List.pairwise_append.1 hw'.dis).2.2 r hr _ hm g hgr hg
theorem A9g {S : List Nat} {w0 w' : World} {Hc Hk : List Res} {q : Nat} {v : Value} {xs : List Value} (h : G1 w0 v q xs) (hS : ∀ g ∈ G8 v, g ∉ S) (hw' : LW false S w0 (Hc ++ Hk) w') : ∀ w'', KS false (B1 Hc) w' w'' → G1 w'' v q xs := fun w'' hk => by
 refine h.ks (hw'.ks.then hk fun x hx => ?_) hS
 obtain ⟨r, hr, hxr⟩ := F7.1 hx
 exact (hw'.own r (List.mem_append_left _ hr) x hxr).1
def A8f : CfgV := ⟨1, 1, 1, 5, 2⟩
def p20 : List E8 := [(7, 1)]
def R20 : RunV := H6 20 ⟨.upd (C9 0 p20), N5 A8f, 0, 0, 0⟩
theorem B4x : R20.n = 6 := by kernel_rfl
theorem B5N : R20.j.b = ⟨0, -1, S1⟩ := by kernel_rfl
theorem B3q : S4 A8f = true := by kernel_rfl
theorem A6k {c : CfgV} (h : S4 c = true) : WsOk (N5 c) := by
 simp only [S4, T4, Bool.and_eq_true, decide_eq_true_eq] at h
 refine ⟨by simp only [N5]; omega, by simp only [N5, List.length_replicate], by simp only [N5, List.length_replicate]; omega, by simp only [N5, List.length_replicate]; omega, by simp only [N5, List.length_replicate]; omega⟩
theorem A25 (n : Nat) (i : Int) : E2 (List.replicate n 0) i = 0 := by
 unfold E2
 split
 ·rw [List.getD_eq_getElem?_getD, List.getElem?_replicate]; split <;> rfl
 ·rfl
theorem B0c {c : CfgV} (h : S4 c = true) (who : Int) (p : List E8) : UInv 0 (C9 who p) (N5 c) :=
 ⟨A6k h, by simp [C9], by simp [C9], by simp [C9], by simp [C9], by simp [N5, A25]⟩
theorem A7k {who : Int} (hw : who ≠ 0) (p : List E8) (x : WS) : (JV.upd (C9 who p)).step0 x = (.upd { C9 who p with b := ⟨who, -1, ⟨1, 0, false, 0⟩⟩ }, x, true, true, false) := by
 have hb : J0 (C9 who p) = 1 := if_neg hw
 simp only [JV.step0]
 unfold C8
 rw [if_pos ⟨rfl, by rw [hb]; decide⟩, hb]
 rfl
set_option maxHeartbeats 2000000 in
theorem A8U (w : World) : Fn PR C2 28 #[] w (fun r w' => r = .bool true ∧ C7 [] w w') := by
 refine Fn.pure (y2 (TW.go (κ := false) (S := []) ?_))
 unfold W0
 (have zz:=trivial;repeat((first|clear zz|with_reducible first|refine A3 ?_|refine A5 fun _=>?_|refine A4 fun _=>?_);try simp(disch:=first|omega|assumption|((repeat(first|exact A1|exact uH|apply A2|apply uT));first|done|fail)|(simp;first|done|omega|fail))[]))
 refine U6 A1w (fun w' hw' => A7n w' A8f) ?_
 rw [B3q]
 simp only [if_true]
 rintro m v ⟨rfl, hmc, hws⟩
 (have zz:=trivial;repeat((first|clear zz|with_reducible first|refine A3 ?_|refine A5 fun _=>?_|refine A4 fun _=>?_|refine m5 fun _=>?_|refine m9 (hK:=fun _=>?_)|refine m7 (hK:=fun _=>?_)|refine m4 (hK:=fun _=>?_)|refine m0 (hK:=fun _=>?_)|refine l9 (hK:=fun _=>?_));try simp(disch:=first|omega|assumption|((repeat(first|exact A1|exact uH|apply A2|apply uT));first|done|fail)|(simp;first|done|omega|fail))[]))
 rename_i bp
 refine U6 U1 (fun w' hw' => A24 w' 0 (some ⟨bp, 0, none⟩) 1 1 ⟨#[]⟩ 0) ?_
 rintro ⟨jb, b⟩ v rfl
 (have zz:=trivial;repeat((first|clear zz|with_reducible first|refine A3 ?_|refine A5 fun _=>?_|refine A4 fun _=>?_);try simp(disch:=first|omega|assumption|((repeat(first|exact A1|exact uH|apply A2|apply uT));first|done|fail)|(simp;first|done|omega|fail))[]))
 refine U6 U1 (fun w' hw' => A24 w' 1 none 0 0 ⟨#[]⟩ 0) ?_
 rintro ⟨kb, kc⟩ v rfl
 refine r4 3 1 ?_
 refine r4 3 1 ?_
 (have zz:=trivial;repeat((first|clear zz|with_reducible first|refine A3 ?_|refine A5 fun _=>?_|refine A4 fun _=>?_);try simp(disch:=first|omega|assumption|((repeat(first|exact A1|exact uH|apply A2|apply uT));first|done|fail)|(simp;first|done|omega|fail))[]))
 have hdd : m.up m.dd = m := rfl
 obtain ⟨pv, hpv⟩ : ∃ pv, pv = Value.slice (some ⟨bp, 0, none⟩) 1 1 := ⟨_, rfl⟩
 rw [← hpv]
 obtain ⟨Hf, hHf⟩ : ∃ Hf : List Res, Hf = [.own 155 2 pv 1 [.int .i64 7, .int .i64 1], .own 3 1 (.slice none 0 0) 0 [], Q9 kb (H3 kc), .pt kc (.cells (D2 ⟨1, 0, S1⟩ [.slice none 0 0, .slice none 0 0, .int .i64 0, .int .i64 0]) 163)] := ⟨_, rfl⟩
 refine Sels.tw (rs := M1 jb b pv m (C9 0 p20, H7, m.dd) ++ Hf) (by subst hHf; simp only [M1, E5, G0, C9, H7, E7, List.map_nil, List.length_nil, hdd, D7, List.cons_append, List.nil_append]; (repeat' constructor)) ?_
 have hrdp : ∀ (d : UpA) (w' : World), LW false [] w (M1 jb b pv m d ++ Hf) w' → ∀ w'', KS false (B1 (M1 jb b pv m d)) w' w'' → G1 w'' pv p20.length (p20.flatMap F9) := fun d w' hw' w'' hk =>
  B1P (e := 155) (k := 2) hw' (by rw [hHf]; exact List.mem_cons_self ..) w'' hk
 refine A8k (fun (y : UpA × Nat) => M1 jb b pv m y.1 ++ Hf) (fun y => y.2 ≤ 20 ∧ UInv y.2 y.1.1 (m.up y.1.2.2).ws ∧ y.1.1.pool = p20 ∧ ∃ tk bad, H6 (20 - y.2) (U0 (.upd y.1.1, (m.up y.1.2.2).ws) y.2 tk bad) = R20) (fun y => 20 - y.2) ((C9 0 p20, H7, m.dd), 0) (fun y => .int .i64 (y.2 : Nat)) ⟨Nat.zero_le _, by rw [hdd, hws]; exact B0c B3q 0 p20, rfl, 0, 0, by rw [hdd, hws]; rfl⟩ ?_
 rintro ⟨⟨j', qv, d⟩, n⟩ ⟨h1, h2, h3, tk, bad, h4⟩ L hL
 simp only at h1 h2 h3 h4 hL ⊢
 have hfin : (JV.upd j').ready (m.up d).ws = false ∨ n = 20 → n = 6 ∧ j'.b = ⟨0, -1, S1⟩ := fun h => by
  have e : U0 (.upd j', (m.up d).ws) n tk bad = R20 := by
   rw [← h4]
   rcases h with h | h
   ·rw [A6Q h]
   ·rw [show 20 - n = 0 by omega]; rfl
  exact ⟨by rw [← B4x, ← e]; rfl, by rw [← B5N, ← e]; rfl⟩
 have hnx : (JV.upd j').ready (m.up d).ws = true → n < 20 → ∃ tk bad, H6 (20 - (n + 1)) (U0 (z7 (.upd j', (m.up d).ws)) (n + 1) tk bad) = R20 := fun h hn => by
  rw [← h4, show 20 - n = 20 - (n + 1) + 1 by omega, A5Q h]
  exact ⟨_, _, rfl⟩
 have hR := fun (w' : World) (hw' : LW false [] w (M1 jb b pv m (j', qv, d) ++ Hf) w') => A5Y w w' jb b pv m (j', qv, d) (List.mem_append_left _ (by unfold M1; (repeat constructor))) (List.mem_append_left _ (by unfold M1; (repeat constructor))) (.pointer (some ⟨m.b, 0, none⟩)) (m.up d).ws hw'
 obtain ⟨rd, hrd⟩ : ∃ r, r = (JV.upd j').ready (m.up d).ws := ⟨_, rfl⟩
 have hn20 : n < 20 ∨ rd = false := by
  by_cases h : n < 20
  ·exact Or.inl h
  ·have := (hfin (Or.inr (by omega))).1; omega
 simp only [← hrd] at hfin hnx hR
 have hexit : rd = false → n = 6 ∧ j'.b = ⟨0, -1, S1⟩ := fun h => hfin (Or.inl h)
 clear hfin h4
 cases rd with
 | true =>
  have c1 : n < 20 := by rcases hn20 with h | h; exact h; cases h
  have c1' : ((n : Nat) : Int) < 20 := by omega
  (have zz:=trivial;repeat((first|clear zz|with_reducible first|refine A3 ?_|refine A5 fun _=>?_|refine A4 fun _=>?_);try simp(disch:=first|omega|assumption|((repeat(first|exact A1|exact uH|apply A2|apply uT));first|done|fail)|(simp;first|done|omega|fail))[c1, c1']))
  refine F4 H4 (fun w' hw' => hR w' hw') ?_
  (have zz:=trivial;repeat((first|clear zz|with_reducible first|refine A3 ?_|refine A5 fun _=>?_|refine A4 fun _=>?_);try simp(disch:=first|omega|assumption|((repeat(first|exact A1|exact uH|apply A2|apply uT));first|done|fail)|(simp;first|done|omega|fail))[c1, c1']))
  refine B9 (Hc := M1 jb b pv m (j', qv, d)) (Hk := Hf) S5 (fun w' hw' hs => A2S w' w' jb b pv m p20 (by simp [p20]) n (by omega) (j', qv, d) h2 h3 hrd.symm (hrdp (j', qv, d) w' hw') hs hs) (A57 _ _) ?_
  rintro ⟨j2, qv2, d2⟩ v ⟨rfl, k1, k2, k3⟩
  obtain ⟨tk', bad', h⟩ := hnx rfl c1
  rw [← k1] at h
  (have zz:=trivial;repeat((first|clear zz|with_reducible first|refine A3 ?_|refine A5 fun _=>?_|refine A4 fun _=>?_);try simp(disch:=first|omega|assumption|((repeat(first|exact A1|exact uH|apply A2|apply uT));first|done|fail)|(simp;first|done|omega|fail))[]))
  exact hL ((j2, qv2, d2), n + 1) ⟨by simp only; omega, k2, k3, tk', bad', h⟩ (by simp only; omega)
 | false =>
  obtain ⟨rfl, hb⟩ := hexit rfl
  clear hL hnx hexit
  (have zz:=trivial;repeat((first|clear zz|with_reducible first|refine A3 ?_|refine A5 fun _=>?_|refine A4 fun _=>?_);try simp(disch:=first|omega|assumption|((repeat(first|exact A1|exact uH|apply A2|apply uT));first|done|fail)|(simp;first|done|omega|fail))[]))
  refine F4 H4 (fun w' hw' => hR w' hw') ?_
  (have zz:=trivial;repeat((first|clear zz|with_reducible first|refine A3 ?_|refine A5 fun _=>?_|refine A4 fun _=>?_);try simp(disch:=first|omega|assumption|((repeat(first|exact A1|exact uH|apply A2|apply uT));first|done|fail)|(simp;first|done|omega|fail))[]))
  obtain ⟨m2, hm2⟩ : ∃ m2, m2 = m.up d := ⟨_, rfl⟩
  have hb2 : m.b = m2.b := by rw [hm2]; rfl
  rw [← hm2] at h2
  have h20 : UInv 0 (C9 1 []) (m2.up m2.dd).ws := ⟨h2.ok, by simp [C9], by simp [C9], by simp [C9], by simp [C9], h2.cur⟩
  have hA := fun (w' : World) (g1 : bl w' jb = some (.cells #[H3 b] 167 (0, 0))) (g2 : bl w' b = some (.cells (D2 j'.b [pv, qv, .int .i64 j'.slot, .int .i64 j'.old]) 163 (0, 0))) =>
   A1r w' jb b (H3 b) j'.b _ _ (Or.inl rfl) g1 g2
  have hSt := fun (w' : World) (g1 : bl w' jb = some (.cells #[H3 b] 167 (0, 0))) (g2 : bl w' b = some (.cells (D2 j'.b [pv, qv, .int .i64 j'.slot, .int .i64 j'.old]) 163 (0, 0))) =>
   A5K w' jb b (H3 b) j'.b _ _ (Or.inl rfl) g1 g2
  refine B9 (Hc := M1 kb kc H7 m2 (C9 1 [], H7, m2.dd)) (Hk := [Q9 jb (H3 b), E5 b j' pv qv, G0 j' qv, .own 155 2 pv 1 [.int .i64 7, .int .i64 1]]) S5 (fun w' hw' hs => by rw [hb2]; exact A2S w' w' kb kc H7 m2 [] (by simp) 0 (by omega) (C9 1 [], H7, m2.dd) h20 rfl rfl (fun w'' _ => Or.inl ⟨rfl, rfl, none, 0, rfl⟩) hs hs) (by subst hHf; simp only [M1, ← hm2, show m2.up m2.dd = m2 from rfl, D7, List.cons_append, List.nil_append]; simp only [E5, G0, C9, H7, E7, List.map_nil, List.length_nil]; (repeat' constructor)) ?_
  rintro ⟨k2, qk, dk⟩ v ⟨rfl, e1, _, _⟩
  simp only [z7, A7k (show (1 : Int) ≠ 0 by decide)] at e1
  obtain ⟨e2, -⟩ := Prod.mk.inj e1
  injection e2 with e2
  subst e2
  simp only [A7k (show (1 : Int) ≠ 0 by decide), T0, M1]
  have hA2 := fun (w' : World) (g1 : bl w' kb = some (.cells #[H3 kc] 167 (0, 0))) (g2 : bl w' kc = some (.cells (D2 ⟨1, -1, ⟨1, 0, false, 0⟩⟩ [H7, qk, .int .i64 0, .int .i64 0]) 163 (0, 0))) =>
   A1r w' kb kc (H3 kc) ⟨1, -1, ⟨1, 0, false, 0⟩⟩ _ _ (Or.inl rfl) g1 g2
  have hR2 := fun (w' : World) (g1 : bl w' kb = some (.cells #[H3 kc] 167 (0, 0))) (g2 : bl w' kc = some (.cells (D2 ⟨1, -1, ⟨1, 0, false, 0⟩⟩ [H7, qk, .int .i64 0, .int .i64 0]) 163 (0, 0))) =>
   A2H w' kb kc (H3 kc) ⟨1, -1, ⟨1, 0, false, 0⟩⟩ _ _ (.pointer (some ⟨m.b, 0, none⟩)) false _ _ (Or.inl rfl) g1 g2 (fun w => j5 w kc _) (fun w'' _ => A2c w'' _ _)
  simp only [hb] at hA hSt
  (have zz:=trivial;repeat((first|clear zz|with_reducible first|refine A3 ?_|refine A5 fun _=>?_|refine A4 fun _=>?_);try simp(disch:=first|omega|assumption|((repeat(first|exact A1|exact uH|apply A2|apply uT));first|done|fail)|(simp;first|done|omega|fail))[]))
  refine F4 L5 (fun w' hw' => hA w' (hw'.pt (b := jb) (by unfold Q9; (repeat constructor))) (hw'.pt (b := b) (by unfold E5; rw [hb]; (repeat constructor)))) ?_
  simp only [S1, AnsV.val]
  (have zz:=trivial;repeat((first|clear zz|with_reducible first|refine A3 ?_|refine A5 fun _=>?_|refine A4 fun _=>?_);try simp(disch:=first|omega|assumption|((repeat(first|exact A1|exact uH|apply A2|apply uT));first|done|fail)|(simp;first|done|omega|fail))[]))
  refine F4 c9 (fun w' hw' => hSt w' (hw'.pt (b := jb) (by unfold Q9; (repeat constructor))) (hw'.pt (b := b) (by unfold E5; rw [hb]; (repeat constructor)))) ?_
  (have zz:=trivial;repeat((first|clear zz|with_reducible first|refine A3 ?_|refine A5 fun _=>?_|refine A4 fun _=>?_);try simp(disch:=first|omega|assumption|((repeat(first|exact A1|exact uH|apply A2|apply uT));first|done|fail)|(simp;first|done|omega|fail))[]))
  refine F4 L5 (fun w' hw' => hA2 w' (hw'.pt (b := kb) (by unfold Q9; (repeat constructor))) (hw'.pt (b := kc) (by unfold E5; simp only [C9]; (repeat constructor)))) ?_
  simp only [AnsV.val]
  (have zz:=trivial;repeat((first|clear zz|with_reducible first|refine A3 ?_|refine A5 fun _=>?_|refine A4 fun _=>?_);try simp(disch:=first|omega|assumption|((repeat(first|exact A1|exact uH|apply A2|apply uT));first|done|fail)|(simp;first|done|omega|fail))[]))
  refine F4 H4 (fun w' hw' => hR2 w' (hw'.pt (b := kb) (by unfold Q9; (repeat constructor))) (hw'.pt (b := kc) (by unfold E5; simp only [C9]; (repeat constructor)))) ?_
  (have zz:=trivial;repeat((first|clear zz|with_reducible first|refine A3 ?_|refine A5 fun _=>?_|refine A4 fun _=>?_);try simp(disch:=first|omega|assumption|((repeat(first|exact A1|exact uH|apply A2|apply uT));first|done|fail)|(simp;first|done|omega|fail))[]))
  exact D1 rfl
end Go.Proofs.YtjobgnabneddjaaGreat
namespace Go.Proofs.YtjobgnabneddjaaGreat
open Go
theorem A8z {K : Value → WP} (a b : Bool) : A0 PR (binOp .neq 4 (.bool a) (.bool b)) K = K (.bool (!(a == b))) := D9 (fun w => by
 have h : (Op.equal 4 (.bool a) (.bool b)).run PR w = .ok (a == b) w := u6 (e := 9999) ty4 w
 simp [binOp, h]) K
theorem A9E {κ : Bool} {S : List Nat} {w0 : World} {H Hk : List Res} {X : Nat → Prop} {K : Value → WP} (m : WoH) (p : List E8) (pv : Value) (jb b : Nat) (hi : UInv 0 (C9 0 p) m.ws) (hp : p.length ≤ 1000)
  (hpart : Part (M1 jb b pv m (C9 0 p, H7, m.dd)) H Hk)
  (hv : ∀ w', LW κ S w0 (M1 jb b pv m (C9 0 p, H7, m.dd) ++ Hk) w' → ∀ w'', KS false (B1 (M1 jb b pv m (C9 0 p, H7, m.dd))) w' w'' → G1 w'' pv p.length (p.flatMap F9))
  (R : RunV) (hR : H6 200 ⟨.upd (C9 0 p), m.ws, 0, 0, 0⟩ = R)
  (hK : ∀ a : UpA, JV.upd a.1 = R.j → (m.up a.2.2).ws = R.x → TW κ S w0 (M1 jb b pv m a ++ Hk) (K (.tuple #[.int .i64 (R.n : Nat), .int .i64 (R.tk : Nat), .int .i64 (R.bad : Nat)]))) :
  TW κ S w0 H (B7 PR X 33 [.pointer (some ⟨jb, 0, none⟩), .pointer (some ⟨m.b, 0, none⟩)] K) := by
 subst hR
 refine B9 (Hc := M1 jb b pv m (C9 0 p, H7, m.dd)) (Hk := Hk) A0H (fun w' hw' hs => B2S w' jb b pv H7 m (C9 0 p) hi hp (hv w' hw') hs) hpart ?_
 rintro a v ⟨rfl, h1, h2⟩
 exact hK a h1 h2
theorem A7d (w' : World) (jb b : Nat) (j : JU) (pv qv : Value) (A : AnsV) (hA : j.b.ans = A) (g1 : bl w' jb = some (.cells #[H3 b] 167 (0, 0))) (g2 : bl w' b = some (.cells (D2 j.b [pv, qv, .int .i64 j.slot, .int .i64 j.old]) 163 (0, 0))) :
  Fn PR C2 34 #[.pointer (some ⟨jb, 0, none⟩)] w' (fun u w'' => u = A.val ∧ C7 [] w' w'') := by
 subst hA; exact A1r w' jb b (H3 b) j.b _ _ (Or.inl rfl) g1 g2
def f8 (x : WS) (p : Int) : Prop := E2 x.cells 2 = p ∧ ∀ i : Nat, E2 x.cells ((i : Nat) + 3) = 0
theorem f8.after {x : WS} {v : Int} (h : f8 x v) (p : List E8) : f8 (K9 x p) v := by
 refine ⟨?_, fun i => ?_⟩
 ·have := A5B (x := x) (p := p) 0
  simp only [Int.natCast_zero, Int.zero_add] at this
  rw [this]; exact h.1
 ·have := A5B (x := x) (p := p) (i + 1)
  rw [show (((i + 1 : Nat) : Int) + 2) = (i : Nat) + 3 by omega] at this
  rw [this]; exact h.2 i
theorem f8.zero {x : WS} (h : f8 x 0) (i : Nat) : E2 x.cells ((i : Nat) + 2) = 0 := by
 cases i with
 | zero => exact h.1
 | succ i => rw [show (((i + 1 : Nat) : Int) + 2) = (i : Nat) + 3 by omega]; exact h.2 i
theorem A9f {c : CfgV} (h : S4 c = true) (x : WS) (hx : x = { N5 c with cells := K3 (N5 c).cells 2 1 }) : BusyI c.sl.toNat 0 x ∧ f8 x 1 := by
 have hw := A6k h
 obtain ⟨w1, w2, w3, w4, w5⟩ := hw
 have wk : (N5 c).c.wk = c.wk := rfl
 rw [wk] at w1 w2
 subst hx
 refine ⟨⟨⟨w1, by simp only [r9]; exact w2, w3, w4, w5⟩, ?_, ?_, ?_, ?_, Nat.zero_le _⟩, ?_, fun i => ?_⟩
 ·simp only; rw [U4 _ _ (by omega)]; exact A25 _ _
 ·simp only; rw [U4 _ _ (by omega)]; exact A25 _ _
 ·show List.replicate c.sl.toNat (0, 0) = S8 c.sl.toNat 0
  apply List.ext_getElem (by simp [S8])
  intro k h1 h2
  rw [G5] at h2
  rw [M2 h2, if_neg (by omega), if_neg (by omega)]
  simp
 ·show (List.replicate c.sl.toNat SlV.no).length = _; simp
 ·simp only; rw [A02, if_pos (by rw [w2]; omega)]
 ·simp only; rw [U4 _ _ (by omega)]; exact A25 _ _
theorem B1n {n t : Nat} {x : WS} (h : BusyI n t x) (hp : f8 x 1) (y : WS) (hy : y = { x with cells := K3 x.cells 2 0 }) : BusyI n t y ∧ ∀ i : Nat, E2 y.cells ((i : Nat) + 2) = 0 := by
 obtain ⟨⟨w1, w2, w3, w4, w5⟩, h2, h3, h4, h5, h6⟩ := h
 subst hy
 have hz : f8 { x with cells := K3 x.cells 2 0 } 0 := by
  refine ⟨?_, fun i => ?_⟩
  ·simp only; rw [A02, if_pos (by rw [w2]; omega)]
  ·simp only; rw [U4 _ _ (by omega)]; exact hp.2 i
 refine ⟨⟨⟨w1, by simp only [r9]; exact w2, w3, w4, w5⟩, ?_, ?_, h4, h5, h6⟩, hz.zero⟩
 ·simp only; rw [U4 _ _ (by omega)]; exact h2
 ·simp only; rw [U4 _ _ (by omega)]; exact h3
theorem A5F {n t : Nat} {x : WS} (h : BusyI n t x) (hn : n ≤ 8) (p : List E8) : UInv 0 (C9 0 p) x := ⟨h.ok, by simp [C9], by simp [C9], by simp [C9], by simp [C9], by rw [h.cur]; have := h.le; omega⟩
theorem B0u {n i : Nat} {x : WS} {p : List E8} (h : BusyI n (min i n) x) (hP : f8 x 1) (hck : H0 p = 0) (hn : 2 ≤ n ∧ n ≤ 8) :
  ∃ jj x' nn, H6 200 ⟨.upd (C9 0 p), x, 0, 0, 0⟩ = ⟨.upd jj, x', nn, 1, 0⟩ ∧ ((nn : Nat) : Int) = x.c.wk + (if i < n then 5 else 1) ∧ jj.b.ans = (if i < n then S1 else ⟨13, 0, false, 0⟩) ∧ BusyI n (min (i + 1) n) x' ∧ f8 x' 1 := by
 obtain ⟨e1, e2, e3⟩ := A2Q h hP.1
 have hw := h.ok.wk
 have h8 : x.keep.length ≤ 8 := h.ok.keep
 by_cases c : i < n
 ·rw [Nat.min_eq_left (by omega)] at h
  obtain ⟨k1, k2⟩ := A9a (p := p) h hP.1 c hn.2
  refine ⟨_, _, _, A52 hck hw h.kl h8 (by rw [k1]; omega), ?_, ?_, ?_, hP.after p⟩
  ·rw [e3, if_pos c]; omega
  ·rw [if_pos c]
  ·rw [Nat.min_eq_left (by omega)]; exact k2
 ·rw [Nat.min_eq_right (by omega)] at h
  obtain ⟨k1, k2⟩ := B0B h hP.1
  refine ⟨_, _, _, B07 hck hw h.kl h8 k1, ?_, ?_, ?_, ?_⟩
  ·rw [e3, if_neg c]; omega
  ·rw [if_neg c]
  ·rw [Nat.min_eq_right (by omega), k2]; exact h
  ·rw [k2]; exact hP
theorem B1g {n t : Nat} {x : WS} {p : List E8} (h : BusyI n t x) (hz : ∀ i : Nat, E2 x.cells ((i : Nat) + 2) = 0) (ht : 1 ≤ t) (hck : H0 p = 0) (hn : 2 ≤ n ∧ n ≤ 8) :
  ∃ jj x' nn, H6 200 ⟨.upd (C9 0 p), x, 0, 0, 0⟩ = ⟨.upd jj, x', nn, 1, 0⟩ ∧ jj.b.ans = S1 ∧ E2 x'.cells 0 = (t : Nat) + 1 ∧ x'.cells.length ≤ 1024 := by
 obtain ⟨k1, k2⟩ := A80 h hz ht hn p
 have hw := A6T (p := p) h.ok h.kl
 exact ⟨_, _, _, A52 hck h.ok.wk h.kl h.ok.keep k1, rfl, k2, by rw [hw.cells]; have := hw.wk; omega⟩
set_option maxHeartbeats 4000000 in
theorem A4q (w : World) (c : CfgV) (pv : Value) (p : List E8) (n : Int) (hpl : p.length ≤ 9223372036854775807) (hv : G1 w pv p.length (p.flatMap F9)) :
  Fn PR C2 4 #[c.val, pv, .int .i64 n] w (fun v w' => v = .bool true ∧ C7 [] w w') := by
 refine Fn.pure (j9 (TW.go (κ := false) (S := []) ?_))
 unfold Q2
 obtain ⟨pa, pc, rfl, hpr⟩ := hv.form
 simp only [CfgV.val]
 (have zz:=trivial;repeat((first|clear zz|with_reducible first|refine A3 ?_|refine A5 fun _=>?_|refine A4 fun _=>?_);try simp(disch:=first|omega|assumption|((repeat(first|exact A1|exact uH|apply A2|apply uT));first|done|fail)|(simp;first|done|omega|fail))[]))
 rename_i bc
 refine F4 u9 (fun w' _ => A8U w') ?_
 (have zz:=trivial;repeat((first|clear zz|with_reducible first|refine A3 ?_|refine A5 fun _=>?_|refine A4 fun _=>?_);try simp(disch:=first|omega|assumption|((repeat(first|exact A1|exact uH|apply A2|apply uT));first|done|fail)|(simp;first|done|omega|fail))[]))
 refine F4 u0 (fun w' _ => B1p w' c) ?_
 cases hs : A00 c with
 | false => (have zz:=trivial;repeat((first|clear zz|with_reducible first|refine A3 ?_|refine A5 fun _=>?_|refine A4 fun _=>?_);try simp(disch:=first|omega|assumption|((repeat(first|exact A1|exact uH|apply A2|apply uT));first|done|fail)|(simp;first|done|omega|fail))[])); exact D1 rfl
 | true =>
 by_cases h8 : p.length ≤ 8
 case neg =>
  have h8' : 8 < (p.length : Int) := by omega
  (have zz:=trivial;repeat((first|clear zz|with_reducible first|refine A3 ?_|refine A5 fun _=>?_|refine A4 fun _=>?_);try simp(disch:=first|omega|assumption|((repeat(first|exact A1|exact uH|apply A2|apply uT));first|done|fail)|(simp;first|done|omega|fail))[h8, h8'])); exact D1 rfl
 have h8' : ¬ 8 < (p.length : Int) := by omega
 (have zz:=trivial;repeat((first|clear zz|with_reducible first|refine A3 ?_|refine A5 fun _=>?_|refine A4 fun _=>?_);try simp(disch:=first|omega|assumption|((repeat(first|exact A1|exact uH|apply A2|apply uT));first|done|fail)|(simp;first|done|omega|fail))[h8, h8']))
 refine F4 l7 (fun w' hw' => x5 w' _ p (by omega) (hv.ks hw'.ks (by simp))) ?_
 by_cases hck : H0 p = 0
 case neg => (have zz:=trivial;repeat((first|clear zz|with_reducible first|refine A3 ?_|refine A5 fun _=>?_|refine A4 fun _=>?_);try simp(disch:=first|omega|assumption|((repeat(first|exact A1|exact uH|apply A2|apply uT));first|done|fail)|(simp;first|done|omega|fail))[h8, h8', hck])); exact D1 rfl
 by_cases hn1 : n < 1
 ·(have zz:=trivial;repeat((first|clear zz|with_reducible first|refine A3 ?_|refine A5 fun _=>?_|refine A4 fun _=>?_);try simp(disch:=first|omega|assumption|((repeat(first|exact A1|exact uH|apply A2|apply uT));first|done|fail)|(simp;first|done|omega|fail))[h8, h8', hck, hn1])); exact D1 rfl
 by_cases hn2 : 20 < n
 ·(have zz:=trivial;repeat((first|clear zz|with_reducible first|refine A3 ?_|refine A5 fun _=>?_|refine A4 fun _=>?_);try simp(disch:=first|omega|assumption|((repeat(first|exact A1|exact uH|apply A2|apply uT));first|done|fail)|(simp;first|done|omega|fail))[h8, h8', hck, hn1, hn2])); exact D1 rfl
 obtain ⟨k, rfl⟩ : ∃ k : Nat, n = k := ⟨n.toNat, by omega⟩
 (have zz:=trivial;repeat((first|clear zz|with_reducible first|refine A3 ?_|refine A5 fun _=>?_|refine A4 fun _=>?_);try simp(disch:=first|omega|assumption|((repeat(first|exact A1|exact uH|apply A2|apply uT));first|done|fail)|(simp;first|done|omega|fail))[h8, h8', hck, hn1, hn2]))
 refine U6 A1w (fun w' hw' => A7n w' c) ?_
 cases hok : S4 c with
 | false =>
  simp only [Bool.false_eq_true, if_false]
  rintro m v rfl
  (have zz:=trivial;repeat((first|clear zz|with_reducible first|refine A3 ?_|refine A5 fun _=>?_|refine A4 fun _=>?_);try simp(disch:=first|omega|assumption|((repeat(first|exact A1|exact uH|apply A2|apply uT));first|done|fail)|(simp;first|done|omega|fail))[]))
  exact D1 rfl
 | true =>
 simp only [if_true]
 rintro m v ⟨rfl, hmc, hws⟩
 simp only [D7, E4, List.cons_append, List.nil_append]
 (have zz:=trivial;repeat((first|clear zz|with_reducible first|refine A3 ?_|refine A5 fun _=>?_|refine A4 fun _=>?_);try simp(disch:=first|omega|assumption|((repeat(first|exact A1|exact uH|apply A2|apply uT));first|done|fail)|(simp;first|done|omega|fail))[]))
 refine F4 s9 (fun w' hw' => A8Z w' m (hw'.pt (b := m.b) (by unfold G2; (repeat constructor)))) ?_
 (have zz:=trivial;repeat((first|clear zz|with_reducible first|refine A3 ?_|refine A5 fun _=>?_|refine A4 fun _=>?_);try simp(disch:=first|omega|assumption|((repeat(first|exact A1|exact uH|apply A2|apply uT));first|done|fail)|(simp;first|done|omega|fail))[]))
 have hcl : m.cells.length ≤ 1024 := by
  have e : m.cells = (N5 c).cells := congrArg WS.cells hws
  have hw := A6k hok
  rw [e, hw.cells]; have := hw.wk; omega
 simp only [G2]
 (have zz:=trivial;repeat((first|clear zz|with_reducible first|refine A3 ?_|refine A5 fun _=>?_|refine A4 fun _=>?_);try simp(disch:=first|omega|assumption|((repeat(first|exact A1|exact uH|apply A2|apply uT));first|done|fail)|(simp;first|done|omega|fail))[]))
 refine B9 (Hc := C0 m.bc m.cn m.cv m.ov m.cells m.own) Q4 (fun w' _ hs => A2V w' m.bc m.cn m.cv m.ov m.cells m.own 2 1 hcl hs) (by unfold C0; (repeat' constructor)) ?_
 rintro n' v rfl
 obtain ⟨m1, hm1⟩ : ∃ m1, m1 = m.up { m.dd with cn := n', cells := K3 m.cells 2 1 } := ⟨_, rfl⟩
 have hb1 : m.b = m1.b := by rw [hm1]; rfl
 have hw1 : m1.ws = { N5 c with cells := K3 (N5 c).cells 2 1 } := by rw [hm1, ← hws]; rfl
 refine Sels.tw (rs := D7 m1 ++ [.pt bc (.cells (M5 c) 23)]) (by subst hm1; simp only [D7, E4, G2, M5, C0, WoH.up, WoH.dd, List.cons_append, List.nil_append]; (repeat' constructor)) ?_
 rw [hb1]
 clear hm1 hb1
 obtain ⟨S, hS⟩ : ∃ S, S = c.sl.toNat := ⟨_, rfl⟩
 have hok2 := hok
 simp only [S4, T4, Bool.and_eq_true, decide_eq_true_eq] at hok2
 have hSi : c.sl = (S : Int) := by omega
 have hS8 : 2 ≤ S ∧ S ≤ 8 := by omega
 have hwc : m1.ws.c.wk = c.wk := by rw [hw1]; rfl
 obtain ⟨B0, P0⟩ := A9f hok m1.ws hw1
 rw [← hS] at B0
 clear hw1 hws hmc hcl
 (have zz:=trivial;repeat((first|clear zz|with_reducible first|refine A3 ?_|refine A5 fun _=>?_|refine A4 fun _=>?_);try simp(disch:=first|omega|assumption|((repeat(first|exact A1|exact uH|apply A2|apply uT));first|done|fail)|(simp;first|done|omega|fail))[]))
 refine A2M (α := WoD) k (fun _ _ => .bool false) (fun _ d => D7 (m1.up d) ++ [.pt bc (.cells (M5 c) 23)]) (fun i d => BusyI S (min i S) (m1.up d).ws ∧ f8 (m1.up d).ws 1) m1.dd ⟨by rw [Nat.zero_min]; exact B0, P0⟩ ?_
 rintro i d hik ⟨hB, hP⟩ L hL
 have hwd : (m1.up d).ws.c.wk = c.wk := hwc
 have hdd : (m1.up d).up (m1.up d).dd = m1.up d := rfl
 have hup : ∀ d', (m1.up d).up d' = m1.up d' := fun _ => rfl
 by_cases hlt : i < k
 case pos =>
  have hlt' : ((i : Nat) : Int) < (k : Nat) := by omega
  obtain ⟨jj, x', nn, hrun, hnn, hans, hB', hP'⟩ := B0u hB hP hck hS8
  rw [hwd] at hnn
  simp only [D7, E4, G2, M5, List.cons_append, List.nil_append]
  (have zz:=trivial;repeat((first|clear zz|with_reducible first|refine A3 ?_|refine A5 fun _=>?_|refine A4 fun _=>?_);try simp(disch:=first|omega|assumption|((repeat(first|exact A1|exact uH|apply A2|apply uT));first|done|fail)|(simp;first|done|omega|fail))[hlt, hlt']))
  refine U6 U1 (fun w' hw' => A24 w' 0 pa p.length pc ⟨#[]⟩ 0) ?_
  rintro ⟨jb, b⟩ v rfl
  refine r4 3 1 ?_
  (have zz:=trivial;repeat((first|clear zz|with_reducible first|refine A3 ?_|refine A5 fun _=>?_|refine A4 fun _=>?_);try simp(disch:=first|omega|assumption|((repeat(first|exact A1|exact uH|apply A2|apply uT));first|done|fail)|(simp;first|done|omega|fail))[]))
  refine A9E (m1.up d) p (.slice pa p.length pc) jb b (Hk := [.pt bc (.cells (M5 c) 23)]) (A5F hB (by omega) p) (by omega) (by simp only [M1, E5, G0, C9, H7, E7, List.map_nil, List.length_nil, hdd, D7, E4, G2, M5, List.cons_append, List.nil_append]; (repeat' constructor)) (fun w' hw' => A9g hv (by simp) hw') _ hrun ?_
  rintro ⟨ja, qa, da⟩ ha1 ha2
  injection ha1 with ha1
  subst ha1
  rw [hup] at ha2
  subst ha2
  simp only [hnn]
  simp only [M1, hup, D7, E4, G2, M5, List.cons_append, List.nil_append]
  (have zz:=trivial;repeat((first|clear zz|with_reducible first|refine A3 ?_|refine A5 fun _=>?_|refine A4 fun _=>?_);try simp(disch:=first|omega|assumption|((repeat(first|exact A1|exact uH|apply A2|apply uT));first|done|fail)|(simp;first|done|omega|fail))[]))
  refine F4 L5 (fun w' hw' => A7d w' jb b ja _ _ _ hans (hw'.pt (b := jb) (by unfold Q9; (repeat constructor))) (hw'.pt (b := b) (by unfold E5; (repeat constructor)))) ?_
  by_cases hiS : i < S
  ·have c1 : ¬ c.sl ≤ (i : Nat) := by omega
   simp only [if_pos hiS, S1, AnsV.val]
   (have zz:=trivial;repeat((first|clear zz|with_reducible first|refine A3 ?_|refine A5 fun _=>?_|refine A4 fun _=>?_);try simp(disch:=first|omega|assumption|((repeat(first|exact A1|exact uH|apply A2|apply uT));first|done|fail)|(simp;first|done|omega|fail))[c1, A8z, A5V (show #[Value.int .i64 0, .int .i64 0, .bool false, .int .i64 0][0]? = some (Value.int .i64 0) from rfl)]))
   refine Sels.tw (rs := D7 (m1.up da) ++ [.pt bc (.cells (M5 c) 23)]) (by simp only [D7, E4, G2, M5, List.cons_append, List.nil_append]; (repeat' constructor)) (hL hlt da ⟨hB', hP'⟩)
  ·have c1 : c.sl ≤ (i : Nat) := by omega
   simp only [if_neg hiS, AnsV.val]
   (have zz:=trivial;repeat((first|clear zz|with_reducible first|refine A3 ?_|refine A5 fun _=>?_|refine A4 fun _=>?_);try simp(disch:=first|omega|assumption|((repeat(first|exact A1|exact uH|apply A2|apply uT));first|done|fail)|(simp;first|done|omega|fail))[c1, A8z, A5V (show #[Value.int .i64 13, .int .i64 0, .bool false, .int .i64 0][0]? = some (Value.int .i64 13) from rfl)]))
   refine Sels.tw (rs := D7 (m1.up da) ++ [.pt bc (.cells (M5 c) 23)]) (by simp only [D7, E4, G2, M5, List.cons_append, List.nil_append]; (repeat' constructor)) (hL hlt da ⟨hB', hP'⟩)
 obtain rfl : i = k := by omega
 clear hL
 have hcl2 : (m1.up d).cells.length ≤ 1024 := by
  have h1 := hB.ok.cells; have h2 := hB.ok.wk
  have : (m1.up d).ws.cells = (m1.up d).cells := rfl
  rw [← this]; omega
 simp only [D7, E4, G2, M5, List.cons_append, List.nil_append]
 rw [show m1.b = (m1.up d).b from rfl]
 (have zz:=trivial;repeat((first|clear zz|with_reducible first|refine A3 ?_|refine A5 fun _=>?_|refine A4 fun _=>?_);try simp(disch:=first|omega|assumption|((repeat(first|exact A1|exact uH|apply A2|apply uT));first|done|fail)|(simp;first|done|omega|fail))[Int.lt_irrefl]))
 refine B9 (Hc := C0 (m1.up d).bc (m1.up d).cn (m1.up d).cv (m1.up d).ov (m1.up d).cells (m1.up d).own) Q4 (fun w' _ hs => A2V w' (m1.up d).bc (m1.up d).cn (m1.up d).cv (m1.up d).ov (m1.up d).cells (m1.up d).own 2 0 hcl2 hs) (by unfold C0; (repeat' constructor)) ?_
 rintro n2 v rfl
 obtain ⟨m3, hm3⟩ : ∃ m3, m3 = m1.up { d with cn := n2, cells := K3 (m1.up d).cells 2 0 } := ⟨_, rfl⟩
 have hb3 : (m1.up d).b = m3.b := by rw [hm3]; rfl
 have hb3' : m1.b = m3.b := by rw [hm3]; rfl
 have hw3 : m3.ws = { (m1.up d).ws with cells := K3 (m1.up d).ws.cells 2 0 } := by rw [hm3]; rfl
 refine Sels.tw (rs := D7 m3 ++ [.pt bc (.cells (M5 c) 23)]) (by subst hm3; simp only [D7, E4, G2, M5, C0, WoH.up, WoH.dd, List.cons_append, List.nil_append]; (repeat' constructor)) ?_
 simp only [hb3]
 obtain ⟨B3, Z3⟩ := B1n hB hP m3.ws hw3
 obtain ⟨jj, x', nn, hrun, hans, hep, hcl3⟩ := B1g B3 Z3 (by omega) hck hS8
 clear hm3 hb3 hb3' hw3 hcl2
 have hdd : m3.up m3.dd = m3 := rfl
 simp only [D7, E4, G2, M5, List.cons_append, List.nil_append]
 (have zz:=trivial;repeat((first|clear zz|with_reducible first|refine A3 ?_|refine A5 fun _=>?_|refine A4 fun _=>?_);try simp(disch:=first|omega|assumption|((repeat(first|exact A1|exact uH|apply A2|apply uT));first|done|fail)|(simp;first|done|omega|fail))[]))
 refine U6 U1 (fun w' hw' => A24 w' 0 pa p.length pc ⟨#[]⟩ 0) ?_
 rintro ⟨jb, b⟩ v rfl
 refine r4 3 1 ?_
 (have zz:=trivial;repeat((first|clear zz|with_reducible first|refine A3 ?_|refine A5 fun _=>?_|refine A4 fun _=>?_);try simp(disch:=first|omega|assumption|((repeat(first|exact A1|exact uH|apply A2|apply uT));first|done|fail)|(simp;first|done|omega|fail))[]))
 refine A9E m3 p (.slice pa p.length pc) jb b (Hk := [.pt bc (.cells (M5 c) 23)]) (A5F B3 (by omega) p) (by omega) (by simp only [M1, E5, G0, C9, H7, E7, List.map_nil, List.length_nil, hdd, D7, E4, G2, M5, List.cons_append, List.nil_append]; (repeat' constructor)) (fun w' hw' => A9g hv (by simp) hw') _ hrun ?_
 rintro ⟨ja, qa, da⟩ ha1 ha2
 injection ha1 with ha1
 subst ha1
 subst ha2
 simp only [M1, D7, E4, G2, M5, List.cons_append, List.nil_append]
 (have zz:=trivial;repeat((first|clear zz|with_reducible first|refine A3 ?_|refine A5 fun _=>?_|refine A4 fun _=>?_);try simp(disch:=first|omega|assumption|((repeat(first|exact A1|exact uH|apply A2|apply uT));first|done|fail)|(simp;first|done|omega|fail))[]))
 refine F4 L5 (fun w' hw' => A7d w' jb b ja _ _ _ hans (hw'.pt (b := jb) (by unfold Q9; (repeat constructor))) (hw'.pt (b := b) (by unfold E5; (repeat constructor)))) ?_
 simp only [S1, AnsV.val]
 rw [show m3.b = (m3.up da).b from rfl]
 (have zz:=trivial;repeat((first|clear zz|with_reducible first|refine A3 ?_|refine A5 fun _=>?_|refine A4 fun _=>?_);try simp(disch:=first|omega|assumption|((repeat(first|exact A1|exact uH|apply A2|apply uT));first|done|fail)|(simp;first|done|omega|fail))[]))
 refine B9 (Hc := C0 (m3.up da).bc (m3.up da).cn (m3.up da).cv (m3.up da).ov (m3.up da).cells (m3.up da).own) M9 (fun w' _ hs => A1S w' (m3.up da).bc (m3.up da).cn (m3.up da).cv (m3.up da).ov (m3.up da).cells (m3.up da).own 0 hcl3 hs) (by unfold C0; (repeat' constructor)) ?_
 rintro n4 v rfl
 have hep' : E2 (m3.up da).cells 0 = min (i : Int) c.sl + 1 := by
  rw [show (m3.up da).cells = (m3.up da).ws.cells from rfl, hep, hSi]; omega
 rw [hep']
 have hmin : -1 ≤ min (i : Int) c.sl ∧ min (i : Int) c.sl ≤ 8 := by omega
 simp only [C0, List.cons_append, List.nil_append]
 generalize min (i : Int) c.sl = q at *
 (have zz:=trivial;repeat((first|clear zz|with_reducible first|refine A3 ?_|refine A5 fun _=>?_|refine A4 fun _=>?_);try simp(disch:=first|omega|assumption|((repeat(first|exact A1|exact uH|apply A2|apply uT));first|done|fail)|(simp;first|done|omega|fail))[]))
 exact D1 rfl
end Go.Proofs.YtjobgnabneddjaaGreat
