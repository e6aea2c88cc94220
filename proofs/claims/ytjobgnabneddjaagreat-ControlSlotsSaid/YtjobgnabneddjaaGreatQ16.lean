/- The proof of a given statement, a part of it (Ord Sort ShModel Model Model2 Slo Slo2 Wor Wor2 Wor3 Con Con2 Con3 Con4 Con5 Upd Upd2 RunG UpdR RunU WsN BusL Works20 BusyW CurL SameW SlotsW). No condition but what each lemma says. -/
import Derived.Sort.Grow
import Derived.Deep.Draws
import Derived.Test.YtjobgnabneddjaaGreatQ15
set_option linter.unusedVariables false
set_option linter.unusedSimpArgs false
namespace Go.Proofs.YtjobgnabneddjaaGreat
open Go
theorem A6G (w : World) (a : Int) : Fn PR B7 252 #[.int .i64 a] w (fun v w' => v = .bool false ∧ w' = w) := by
 refine A4F ?_
 unfold y1
 simp
theorem A6F (w : World) (a : Int) : Fn PR B7 251 #[.int .u64 a] w (fun v w' => v = .bool false ∧ w' = w) := by
 refine A2c ?_
 unfold l9
 simp
def U3 (a b : Int) : Int := if a < b then -1 else if b < a then 1 else 0
theorem B2s (w : World) (a b : Int) : Fn PR B7 218 #[.int .i64 a, .int .i64 b] w (fun v w' => v = .int .i64 (U3 a b) ∧ w' = w) := by
 refine A20 ?_
 unfold r8
 refine A0V ((A6G w a).use ?_)
 rintro _ _ ⟨rfl, rfl⟩ _
 refine A0V ((A6G _ b).use ?_)
 rintro _ _ ⟨rfl, rfl⟩ _
 by_cases c1 : a < b
 ·simp [c1, U3]
 by_cases c2 : b < a
 ·simp [c1, c2, U3]
 ·simp [c1, c2, U3]
theorem B1P (w : World) (a b : Int) : Fn PR B7 217 #[.int .u64 a, .int .u64 b] w (fun v w' => v = .int .i64 (U3 a b) ∧ w' = w) := by
 refine A1c ?_
 unfold e6
 refine q8 ((A6F w a).use ?_)
 rintro _ _ ⟨rfl, rfl⟩ _
 refine q8 ((A6F _ b).use ?_)
 rintro _ _ ⟨rfl, rfl⟩ _
 by_cases c1 : a < b
 ·simp [c1, U3]
 by_cases c2 : b < a
 ·simp [c1, c2, U3]
 ·simp [c1, c2, U3]
def n8 (x y : Nat × Int) : Int := if U3 x.1 y.1 ≠ 0 then U3 x.1 y.1 else U3 x.2 y.2
theorem B0u (K : WP) (w : World) : drw K w = K w.drew := rfl
def Gr (w w' : World) : Prop := ∃ q os, w' = Sort.grow (w.drewN q) os
theorem Gr.refl (w : World) : Gr w w := ⟨0, #[], by simp [Sort.grow]; rfl⟩
theorem Gr.alloc {w w' : World} (h : Gr w w') (o : Obj) : Gr w (w'.alloc o) := by
 obtain ⟨q, os, rfl⟩ := h
 exact ⟨q, os ++ #[o], by rw [Sort.alloc_eq_grow, Sort.grow_grow]⟩
theorem Gr.drew {w w' : World} (h : Gr w w') : Gr w w'.drew := by
 obtain ⟨q, os, rfl⟩ := h
 exact ⟨q + 1, os, rfl⟩
theorem B60 (w : World) (a b : Int) (g : Nat) (h : K7 w g 0 [.int .i64 a, .int .i64 b]) : Fn PR B7 216 #[.slice (some ⟨g, 0, none⟩) 2 2] w (fun v w' => v = .int .i64 (if a ≠ 0 then a else b) ∧ w' = w) := by
 refine A6Z ?_
 unfold A2W
 simp
 refine B9A 2 (fun _ i w' => w' = w ∧ (0 < i → a = 0) ∧ (1 < i → b = 0)) ⟨rfl, by omega, by omega⟩ ?_
 rintro x i w1 hi ⟨hw1, h0, h1⟩ L hL
 rw [hw1]
 have ha : w.cell? ⟨g, 0, none⟩ = some (.int .i64 a) := by have := h.get (i := 0) (v := .int .i64 a) rfl; simpa using this
 have hb : w.cell? ⟨g, 1, none⟩ = some (.int .i64 b) := by have := h.get (i := 1) (v := .int .i64 b) rfl; simpa using this
 have hi' : i = 0 ∨ i = 1 ∨ i = 2 := by omega
 rcases hi' with rfl | rfl | rfl
 ·by_cases c : a = 0
  ·simp [ha, c]
   exact hL (by omega) _ _ ⟨rfl, fun _ => c, by omega⟩
  ·simp [ha, c]
 ·have ha0 := h0 (by omega)
  by_cases c : b = 0
  ·simp [hb, c]
   exact hL (by omega) _ _ ⟨rfl, fun _ => ha0, fun _ => c⟩
  ·simp [hb, c, ha0]
 ·simp [h0 (by omega), h1 (by omega)]
theorem B1m (w : World) (x y : Nat × Int) : Fn PR B7 162 #[.agg #[.int .u64 (x.1 : Nat), .int .i64 x.2], .agg #[.int .u64 (y.1 : Nat), .int .i64 y.2]] w (fun v w' => v = .int .i64 (n8 x y) ∧ Gr w w') := by
 refine A1K ?_
 unfold d6
 obtain ⟨w2, hw2⟩ : ∃ w2, w2 = ((w.alloc (.cells #[.int .u64 (x.1 : Nat), .int .i64 x.2] 284)).alloc (.cells #[.int .u64 (y.1 : Nat), .int .i64 y.2] 284)).drew := ⟨_, rfl⟩
 have hA : bl w2 (sz w) = some (.cells #[.int .u64 (x.1 : Nat), .int .i64 x.2] 284) := by
  subst hw2; show bl ((w.alloc _).alloc _) (sz w) = _; rw [y0 (by simp), S2]
 have hB : bl w2 (sz w + 1) = some (.cells #[.int .u64 (y.1 : Nat), .int .i64 y.2] 284) := by
  subst hw2; show bl ((w.alloc _).alloc _) (sz w + 1) = _; rw [← A7K w, S2]
 have a0 : w2.cell? ⟨sz w, 0, none⟩ = some (.int .u64 (x.1 : Nat)) := by rw [C9 hA]; rfl
 have a1 : w2.cell? ⟨sz w, 1, none⟩ = some (.int .i64 x.2) := by rw [C9 hA]; rfl
 have b0 : w2.cell? ⟨sz w + 1, 0, none⟩ = some (.int .u64 (y.1 : Nat)) := by rw [C9 hB]; rfl
 have b1 : w2.cell? ⟨sz w + 1, 1, none⟩ = some (.int .i64 y.2) := by rw [C9 hB]; rfl
 have hg : Gr w w2 := by subst hw2; exact (((Gr.refl w).alloc _).alloc _).drew
 rw [A85, A85, B0u, A7K]
 simp only [Value.cells]
 rw [← hw2]
 clear hw2 hA hB
 have r1 : (Instr.loadAt 3 (.pointer (some ⟨sz w + 1, 0 + 1, none⟩))).run PR w2 = .ok (.int .i64 y.2) w2 := r5 L0 rfl b1
 have r2 : (Instr.loadAt 3 (.pointer (some ⟨sz w, 0 + 1, none⟩))).run PR w2 = .ok (.int .i64 x.2) w2 := r5 L0 rfl a1
 simp [a0, a1, b0, b1]
 refine A1x ((B1P w2 _ _).use ?_)
 rintro _ w3 ⟨rfl, hw3⟩ _
 rw [hw3, A47, A47, B0c]
 refine ⟨r1, r2, ?_⟩
 refine A3x ((B2s w2 _ _).use ?_)
 rintro _ w4 ⟨rfl, hw4⟩ _
 rw [hw4, A2n A2B L0 (cs := #[.int .i64 (U3 x.1 y.1), .int .i64 (U3 x.2 y.2)]) (by decide) (by decide) (by kernel_rfl)]
 have hrow : K7 (w2.alloc (.cells #[.int .i64 (U3 x.1 y.1), .int .i64 (U3 x.2 y.2)] 3)) (sz w2) 0 [.int .i64 (U3 x.1 y.1), .int .i64 (U3 x.2 y.2)] := fun i hi => by
  rw [C9 (S2 _ _)]; simp
 refine A71 ((B60 _ _ _ _ hrow).use ?_)
 rintro _ w5 ⟨rfl, hw5⟩ _
 exact ⟨by simp [n8], by rw [hw5]; exact hg.alloc _⟩
end Go.Proofs.YtjobgnabneddjaaGreat
namespace Go.Proofs.YtjobgnabneddjaaGreat
open Go Go.Sort Go.Lib
theorem B30 (x y : Nat × Int) : n8 x y < 0 ↔ x.1 < y.1 ∨ (x.1 = y.1 ∧ x.2 < y.2) := by
 unfold n8 U3
 by_cases h1 : (x.1 : Int) < y.1
 ·simp [h1]; omega
 by_cases h2 : (y.1 : Int) < x.1
 ·simp [h1, h2]; omega
 ·have : x.1 = y.1 := by omega
  by_cases h3 : x.2 < y.2
  ·simp [h1, h2, h3]; omega
  by_cases h4 : y.2 < x.2
  ·simp [h1, h2, h3, h4]; omega
  ·simp [h1, h2, h3, h4]; omega
theorem A8r (x y : Nat × Int) : ltOf n8 x y = true ↔ x.1 < y.1 ∨ (x.1 = y.1 ∧ x.2 < y.2) := by rw [ltOf, decide_eq_true_eq, B30]
theorem A3f (x y : Nat × Int) : ltOf n8 x y = false ↔ ¬ (x.1 < y.1 ∨ (x.1 = y.1 ∧ x.2 < y.2)) := by rw [← A8r, Bool.not_eq_true]
theorem B82 : Sort.SWO (ltOf n8) := by
 refine ⟨fun x => ?_, fun x y z h1 h2 => ?_, fun x y z h1 h2 => ?_⟩
 ·rw [A3f]; omega
 ·rw [A8r] at *; omega
 ·rw [A3f] at *; omega
theorem B8K (x y : Nat × Int) (h1 : ltOf n8 x y = false) (h2 : ltOf n8 y x = false) : x = y := by
 rw [A3f] at *
 have e1 : x.1 = y.1 := by omega
 have e2 : x.2 = y.2 := by omega
 exact Prod.ext e1 e2
theorem B4v : (fun x y => !(ltOf n8) y x) = leP := by
 funext x y
 rw [Bool.eq_iff_iff, Bool.not_eq_true', A3f, leP, decide_eq_true_eq]; omega
theorem A7Q (l : List (Nat × Int)) : flatK E4 2 l.toArray = (l.flatMap E4).toArray := by
 apply Array.toList_inj.1
 apply List.ext_getElem
 ·rw [Array.length_toList, size_flatK, List.toList_toArray, L5 N7]; simp
 ·intro i h1 h2
  have hi : i < l.length * 2 := by simpa using h1
  have hf := c7 (f := E4) (k := 2) N7 l (i / 2) (i % 2) (by omega)
  rw [show i / 2 * 2 + i % 2 = i by omega] at hf
  have h2' : i < (l.flatMap E4).length := by simpa using h2
  rw [List.getElem?_eq_getElem h2', List.getElem?_eq_getElem (show i / 2 < l.length by omega)] at hf
  have hg := get_flatK E4 2 l.toArray i (by simpa using hi)
  rw [getElem!_pos _ _ (by simpa using hi)] at hg
  simp only [Array.getElem_toList, List.getElem_toArray]
  rw [hg]
  simp only [Option.bind_some] at hf
  rw [getElem!_pos l.toArray (i / 2) (by simp; omega)]
  simp only [List.getElem_toArray]
  have h3 : i % 2 < (E4 l[i / 2]).length := by rw [N7]; omega
  rw [List.getElem?_eq_getElem h3] at hf
  rw [getElem!_pos (E4 l[i / 2]) (i % 2) h3]
  exact (Option.some.inj hf).symm
theorem B0x {w : World} {g : Nat} {cur : Array Value} {T : TypeId} {F : Array Value} (h : bl w g = some (.cells cur T (0, 0))) : bl (Sort.putRow id w g 0 F) g = some (.cells (Sort.putCells id 0 F cur) T (0, 0)) := by
 have h' : w.heap[g]? = some (.cells cur T (0, 0)) := h
 simp only [bl, Sort.putRow, Sort.mapBlock, Array.getElem?_modify, if_true, h', Option.map_some]; rfl
theorem y7 {w : World} {g r : Nat} {F : Array Value} (h : r ≠ g) : bl (Sort.putRow id w g 0 F) r = bl w r := by
 simp [bl, Sort.putRow, Sort.mapBlock, Array.getElem?_modify, Ne.symm h]
theorem A6c {F cur : Array Value} (h : F.size ≤ cur.size) : (Sort.putCells id 0 F cur).toList.take F.size = F.toList := by
 apply List.ext_getElem (by simp [Sort.putCells]; omega)
 intro i h1 h2
 have hi : i < F.size := by simpa using h2
 simp [Sort.putCells, hi]
theorem A3q {w : World} {os : Array Obj} {r : Nat} {o : Obj} (h : bl w r = some o) : bl (Sort.grow w os) r = some o := by
 have hr : r < w.heap.size := G4 h
 simp only [bl, Sort.grow, Array.getElem?_append_left hr]; exact h
theorem A8N (w : World) (v : Value) (l : List (Nat × Int)) (hn : l.length ≤ 1000000) (hw : LW false (B1 [A1v v l]) w [A1v v l] w) :
  Fn PR B7 213 #[v, .func (.func 162) #[] #[]] w (Rn (B1 [A1v v l]) w (fun (_ : Unit) u => u = .tuple #[]) fun _ => [A1v v (K8 l)]) := by
 have ho : M2 w 284 2 v l.length (l.flatMap E4) := hw.hold _ A1
 rcases ho.2 with ⟨rfl, hl0⟩ | ⟨g, cap, cur, rfl, hb, hc, hcs, htk⟩
 ·have hl : l = [] := List.length_eq_zero_iff.1 hl0
  subst hl
  refine Calls.mono (AnyF.slices_SortFunc_none Tryz.sortPlace none 0 (.func (.func 162) #[] #[]) w) ?_
  rintro e w' ⟨he, rfl⟩
  exact ⟨_, he, ⟨(), rfl, by simpa [K8] using hw⟩, Sk.refl _ _⟩
 ·have hg : g < w.heap.size := G4 hb
  have hH : HoldsK E4 2 w g 0 l.toArray := by
   intro j hj
   rw [A7Q] at hj ⊢
   have hj' : j < (l.flatMap E4).length := by simpa using hj
   constructor
   ·rw [C9 hb, Nat.zero_add]
    rw [getElem!_pos _ _ (by simpa using hj')]
    have : cur.toList[j]? = (l.flatMap E4)[j]? := by
     rw [← htk, List.getElem?_take_of_lt (by rw [L5 N7] at hj'; exact hj')]
    rw [Array.getElem?_toList] at this
    rw [this, List.getElem?_eq_getElem hj']; rfl
   ·have hb' : w.heap[g]? = some (.cells cur 284 (0, 0)) := hb
    simp [World.frozen?, hb']
  have hcmp : CmpLays PR 162 #[] E4 2 n8 g 0 l.toArray.size w := by
   intro m os dk _ x y
   refine Calls.mono (B1m (sortWorldK E4 2 w g 0 m dk os) x y) ?_
   rintro e w' ⟨v, he, ⟨hv, hgr⟩, _⟩
   exact ⟨by rw [he, hv], hgr⟩
  have main := AnyQ.slices_SortFunc_total Tryz.sortPlace 2 (fun w => by kernel_rfl) (fun w => A2L.run_size) E4 N7
   (by intro x u hu; simp only [E4, List.mem_cons, List.not_mem_nil, or_false] at hu; rcases hu with rfl | rfl <;> rfl) n8 B82 162 #[] g 0 cap l.toArray w
   A0l hcmp hH hg (by simp; omega) B8K
  refine Calls.mono main ?_
  rintro e w' ⟨he, n, os, rfl⟩
  have e1 : sortWorldK E4 2 w g 0 n (l.toArray.toList.mergeSort fun x y => !(ltOf n8) y x).toArray os = Sort.grow (Sort.putRow id (Sort.ahead w n) g 0 ((K8 l).flatMap E4).toArray) os := by
   unfold sortWorldK putRowK; rw [← A7Q, B4v]; rfl
  rw [e1]
  have hsz : ((K8 l).flatMap E4).length = l.length * 2 := by rw [L5 N7, V1]
  have hb2 : bl (Sort.ahead w n) g = some (.cells cur 284 (0, 0)) := hb
  have hbl := A3q (os := os) (B0x (F := ((K8 l).flatMap E4).toArray) hb2)
  have hks : KS false [g] w (Sort.grow (Sort.putRow id (Sort.ahead w n) g 0 ((K8 l).flatMap E4).toArray) os) := by
   refine ⟨by simp [sz, Sort.grow, Sort.size_putRow], fun r o hr _ e => ?_, fun h => by cases h⟩
   exact A3q (by rw [y7 (by simpa using hr)]; exact e)
  refine ⟨_, he, ⟨(), rfl, ⟨hks.mono (by simp [B1, Res.foot, H7]), ?_, ?_, by simp⟩⟩, ?_⟩
  ·simp only [List.mem_singleton, forall_eq, Res.holds]
   refine ⟨by rw [hsz, V1], Or.inr ⟨g, cap, _, by rw [V1], hbl, by rw [V1]; exact hc, by simp [Sort.putCells, hcs], ?_⟩⟩
   rw [V1]
   have := A6c (F := ((K8 l).flatMap E4).toArray) (cur := cur) (by simp only [List.size_toArray, hsz]; rw [← hcs]; omega)
   simpa [hsz] using this
  ·simp only [List.mem_singleton, forall_eq, Res.foot, H7]
   exact ⟨Or.inl (by simp [B1, Res.foot, H7]), G4 hbl⟩
  ·refine ⟨by simp [Sort.grow, Sort.size_putRow], fun r d e => ?_, fun r lo _ e => ?_, rfl, rfl⟩
   ·exact A3q (by rw [y7 (by rintro rfl; have h2 : some (Obj.deferred d) = some (Obj.cells cur 284 (0, 0)) := e.symm.trans hb; cases h2)]; exact e)
   ·exact A3q (by rw [y7 (by rintro rfl; have h2 : some (Obj.loop lo) = some (Obj.cells cur 284 (0, 0)) := e.symm.trans hb; cases h2)]; exact e)
theorem A6W (w : World) (b : Nat) (v : Value) (p : List E6) (hn : p.length ≤ 1000) (hv : F7 w v p.length (p.flatMap G2)) (hS : 0 < p.length → ∀ g ∈ H7 v, g ∉ [b])
  (hw : LW false [b] w [.pt b (.cells #[v] 58)] w) :
  Fn PR B7 160 #[A4z b, .func (.func 162) #[] #[]] w (Rn [b] w (fun r u => u = r) fun r => [A1v r (K8 (E7 p))]) := by
 refine Y5 (TW.goH (κ := false) (S := [b]) ?_ hw)
 unfold N3
 have hll := A3l p
 refine C0 (Hc := [.pt b (.cells #[v] 58)]) f5 (fun w' hw' hs => A84 w' b v p hn (hv.ks0 (fun h => by rw [List.length_eq_zero_iff.1 h]; rfl) hw'.ks hS) hS hs) (by (repeat' constructor)) ?_
 rintro _ r rfl
 refine C0 (Hc := [A1v r (E7 p)]) P7 (fun w' hw' hs => A8N w' r (E7 p) (by omega) hs) (by (repeat' constructor)) ?_
 rintro _ _ rfl
 exact B3 r rfl (by (repeat' constructor))
theorem B6c (w : World) (v : Value) (p : List E6) (hn : p.length ≤ 1000) (hv : F7 w v p.length (p.flatMap G2)) :
  Fn PR B7 112 #[v] w (Rn [] w (fun r u => u = r) fun r => [.own 290 2 r (K8 (E7 p)).length ((K8 (E7 p)).flatMap E4)]) := by
 refine A67 (TW.go (κ := false) (S := []) ?_)
 unfold A25
 have hll := A3l p
 refine W9 A4m (fun w' _ => B1S w' v (by obtain ⟨a, c, rfl, _⟩ := hv.form; exact ⟨a, _, c, rfl⟩)) ?_
 rintro b _ rfl
 refine C0 (Hc := [.pt b (.cells #[v] 58)]) Y1 (fun w' hw' hs => A6W w' b v p hn (hv.ks hw'.ks (by simp)) (fun h0 g hg hgb => ?_) hs) (by (repeat' constructor)) ?_
 ·obtain ⟨a, c, rfl, hr⟩ := hv.form
  obtain ⟨b', o, rfl, hrow⟩ := hr h0
  have hlen : 0 < (p.flatMap G2).length := by rw [L5 (k := 2) fun _ => rfl]; omega
  have h1 := hrow 0 hlen
  rw [List.getElem?_eq_getElem hlen] at h1
  obtain ⟨c', t', z', h2, h3⟩ := V0 h1
  have hlt : b' < sz w := G4 h2
  simp [H7] at hg hgb
  subst hg
  rcases (hw'.own _ A1 b (by simp [Res.foot])).1 with h | h
  ·simp at h
  ·omega
 rintro _ r rfl
 have hsl : (K8 (E7 p)).length ≤ 128000 := by rw [V1]; omega
 generalize K8 (E7 p) = q at *
 refine u9 (e := 284) (k := 2) (v := r) (q := q.length) (xs := q.flatMap E4) (by (repeat constructor)) ?_
 rintro ra rc rfl
 (have zz:=trivial;repeat((first|clear zz|with_reducible first|refine A2 ?_|refine A5 fun _=>?_|refine A4 fun _=>?_);try simp(disch:=first|omega|assumption|((repeat(first|exact A1|exact uH|apply A3|apply uT));first|done|fail)|(simp;first|done|omega|fail))[]))
 refine A0W 290 2 ?_
 refine A2s (α := Option Addr × Nat) q.length (fun i x => .slice x.1 i x.2) (fun i x => [.own 290 2 (.slice x.1 i x.2) i ((q.take i).flatMap E4), A1v (.slice ra q.length rc) q]) (fun i _ => True) (none, 0) trivial ?_
 rintro i ⟨xa, xc⟩ hi _ L hL
 by_cases hlt : i < q.length
 ·obtain ⟨x, hx⟩ : ∃ x, q[i]? = some x := ⟨_, List.getElem?_eq_getElem hlt⟩
  have hrl := B0y (f := E4) (k := 2) N7 hx
  have hst : (q.take (i + 1)).flatMap E4 = (q.take i).flatMap E4 ++ E4 x := by rw [List.take_add_one, hx, List.flatMap_append]; simp
  have hL' := fun a c => hL hlt (a, c) trivial
  simp only [hst, E4] at hL'
  rw [E4] at hrl
  have hl0 : ((q.take i).flatMap E4).length = i * 2 := by rw [L5 N7, List.length_take]; congr 1; omega
  refine A9g (e := 284) (k := 2) (v := .slice ra q.length rc) (q := q.length) (xs := q.flatMap E4) (by (repeat constructor)) (by omega) ?_
  rintro g gc hg
  cases hg
  (have zz:=trivial;repeat((first|clear zz|with_reducible first|refine A2 ?_|refine A5 fun _=>?_|refine A4 fun _=>?_|refine p4 fun _=>?_|refine p9 (hK:=fun _=>?_)|refine q7 (hK:=fun _=>?_)|refine p5 (hK:=fun _=>?_)|refine q5 (hK:=fun _=>?_)|refine q6 (hK:=fun _=>?_));try simp(disch:=first|omega|assumption|((repeat(first|exact A1|exact uH|apply A3|apply uT));first|done|fail)|(simp;first|done|omega|fail))[hlt, hrl]))
  refine A2M (e := 290) (k := 2) (q := i) (r := 1) (xs := (q.take i).flatMap E4) (news := [.int .u64 (x.1 : Nat), .int .i64 x.2]) (by (repeat constructor)) (Z3.own (by (repeat constructor))) (by decide) (by simp) (by simp) (by simp only [maxLen]; omega) (by omega) fun a' c' => ?_
  (have zz:=trivial;repeat((first|clear zz|with_reducible first|refine A2 ?_|refine A5 fun _=>?_|refine A4 fun _=>?_);try simp(disch:=first|omega|assumption|((repeat(first|exact A1|exact uH|apply A3|apply uT));first|done|fail)|(simp;first|done|omega|fail))[]))
  exact Sels.tw (by (repeat' constructor)) (hL' a' c')
 ·obtain rfl : i = q.length := by omega
  rw [List.take_length]
  (have zz:=trivial;repeat((first|clear zz|with_reducible first|refine A2 ?_|refine A5 fun _=>?_|refine A4 fun _=>?_);try simp(disch:=first|omega|assumption|((repeat(first|exact A1|exact uH|apply A3|apply uT));first|done|fail)|(simp;first|done|omega|fail))[]))
  exact B3 (.slice xa q.length xc) rfl (by (repeat' constructor))
end Go.Proofs.YtjobgnabneddjaaGreat
namespace Go.Proofs.YtjobgnabneddjaaGreat
open Go
def A1V (X : Nat → Prop) (t0 : Value) (R : Value → WP) : WP :=
 B6 PR X (Instr.box 23 t0) fun t1 =>
 B6 PR X (Instr.alloc 27 true (.tuple #[])) fun t3 =>
 E2 PR X (Instr.storeAt 27 t3 (.int .i64 0)) <|
 A0 PR (Instr.makeFunc (.func 127) #[] #[t3]) fun t5 =>
 A0 PR (Instr.fieldAt 23 t1 0) fun t7 =>
 A6 PR (Instr.loadAt 3 t7) fun t8 =>
 W3 PR X t5 [t8, (.int .i64 1), (.int .i64 64)] fun t9 =>
 A0 PR (Instr.fieldAt 23 t1 1) fun t11 =>
 A6 PR (Instr.loadAt 3 t11) fun t12 =>
 W3 PR X t5 [t12, (.int .i64 1), (.int .i64 16)] fun t13 =>
 A0 PR (Instr.fieldAt 23 t1 2) fun t15 =>
 A6 PR (Instr.loadAt 3 t15) fun t16 =>
 W3 PR X t5 [t16, (.int .i64 1), (.int .i64 64)] fun t17 =>
 A0 PR (Instr.fieldAt 23 t1 3) fun t19 =>
 A6 PR (Instr.loadAt 3 t19) fun t20 =>
 W3 PR X t5 [t20, (.int .i64 0), (.int .i64 1000000)] fun t21 =>
 A0 PR (Instr.fieldAt 23 t1 4) fun t23 =>
 A6 PR (Instr.loadAt 3 t23) fun t24 =>
 W3 PR X t5 [t24, (.int .i64 2), (.int .i64 8)] fun t25 =>
 A6 PR (Instr.loadAt 27 t3) fun t26 =>
 R t26
theorem A40 : A9 PR 65 := A7 Tryz.func65 (by kernel_rfl) rfl
theorem A5S {X : Nat → Prop} {t0 : Value} {R : Value → WP} {w : World} (h : A1V X t0 R w) : Fn PR X 65 #[t0] w R := D3 (args := [t0]) mixed Tryz.func65 (by kernel_rfl) h
def u6 (X : Nat → Prop) (t0 t1 t2 t3 : Value) (R : Value → WP) : WP :=
 A0 PR (binOp .lss 3 t0 t1) fun t9 =>
 gj t9 false (fun J => J t0) fun t11 =>
 gj t9 false (fun J => J t2) fun t12 =>
 gj t9 false (fun J => A0 PR (binOp .gtr 3 t11 t12) J) fun t13 =>
 A0 PR (do pure (if ← asBool t9 then (.bool true) else t13)) fun t14 =>
 C8 t14 (
 E2 PR X (Instr.storeAt 27 t3 (.int .i64 1)) <|
 R (.tuple #[])) (
 R (.tuple #[]))
theorem M0 : A9 PR 127 := A7 Tryz.func127 (by kernel_rfl) rfl
theorem A3y {X : Nat → Prop} {t0 t1 t2 t3 : Value} {R : Value → WP} {w : World} (h : u6 X t0 t1 t2 t3 R w) : Fn PR X 127 #[t0, t1, t2, t3] w R := D3 (args := [t0, t1, t2, t3]) mixed Tryz.func127 (by kernel_rfl) h
end Go.Proofs.YtjobgnabneddjaaGreat
namespace Go.Proofs.YtjobgnabneddjaaGreat
open Go
theorem k8 (w : World) (n lo hi e : Int) (b : Nat) (hw : LW false [b] w [.pt b (.cells #[.int .i64 e] 27)] w) :
  Fn PR B7 127 #[.int .i64 n, .int .i64 lo, .int .i64 hi, .pointer (some ⟨b, 0, none⟩)] w (Rn [b] w (fun (_ : Unit) u => u = .tuple #[]) fun _ => [.pt b (.cells #[.int .i64 (if T7 n lo hi then e else 1)] 27)]) := by
 refine A3y (TW.goH (κ := false) (S := [b]) ?_ hw)
 unfold u6
 by_cases c1 : n < lo
 ·have hf : T7 n lo hi = false := by simp [T7]; omega
  (have zz:=trivial;repeat((first|clear zz|with_reducible first|refine A2 ?_|refine A5 fun _=>?_|refine A4 fun _=>?_);try simp(disch:=first|omega|assumption|((repeat(first|exact A1|exact uH|apply A3|apply uT));first|done|fail)|(simp;first|done|omega|fail))[c1]))
  exact B3 () rfl (by simp only [hf]; (repeat' constructor))
 by_cases c2 : hi < n
 ·have hf : T7 n lo hi = false := by simp [T7]; omega
  (have zz:=trivial;repeat((first|clear zz|with_reducible first|refine A2 ?_|refine A5 fun _=>?_|refine A4 fun _=>?_);try simp(disch:=first|omega|assumption|((repeat(first|exact A1|exact uH|apply A3|apply uT));first|done|fail)|(simp;first|done|omega|fail))[c1, c2]))
  exact B3 () rfl (by simp only [hf]; (repeat' constructor))
 ·have hf : T7 n lo hi = true := by simp [T7]; omega
  (have zz:=trivial;repeat((first|clear zz|with_reducible first|refine A2 ?_|refine A5 fun _=>?_|refine A4 fun _=>?_);try simp(disch:=first|omega|assumption|((repeat(first|exact A1|exact uH|apply A3|apply uT));first|done|fail)|(simp;first|done|omega|fail))[c1, c2]))
  exact B3 () rfl (by simp only [hf]; (repeat' constructor))
theorem B0w (w : World) (c : CfgV) : Fn PR B7 65 #[c.val] w (fun v w' => v = .int .i64 (if T3 c then 0 else 1) ∧ C4 [] w w') := by
 refine Fn.pure (A5S (TW.go (κ := false) (S := []) ?_))
 unfold A1V
 simp only [CfgV.val]
 (have zz:=trivial;repeat((first|clear zz|with_reducible first|refine A2 ?_|refine A5 fun _=>?_|refine A4 fun _=>?_);try simp(disch:=first|omega|assumption|((repeat(first|exact A1|exact uH|apply A3|apply uT));first|done|fail)|(simp;first|done|omega|fail))[]))
 rename_i bc be
 refine C0 (Hc := [.pt be (.cells #[.int .i64 0] 27)]) M0 (fun w' hw hs => k8 w' c.wk 1 64 0 be hs) (by (repeat' constructor)) ?_
 rintro _ _ rfl
 generalize he1 : (if T7 c.wk 1 64 = true then (0 : Int) else 1) = e1
 (have zz:=trivial;repeat((first|clear zz|with_reducible first|refine A2 ?_|refine A5 fun _=>?_|refine A4 fun _=>?_);try simp(disch:=first|omega|assumption|((repeat(first|exact A1|exact uH|apply A3|apply uT));first|done|fail)|(simp;first|done|omega|fail))[]))
 refine C0 (Hc := [.pt be (.cells #[.int .i64 e1] 27)]) M0 (fun w' hw hs => k8 w' c.sh 1 16 e1 be hs) (by (repeat' constructor)) ?_
 rintro _ _ rfl
 generalize he2 : (if T7 c.sh 1 16 = true then e1 else 1) = e2
 (have zz:=trivial;repeat((first|clear zz|with_reducible first|refine A2 ?_|refine A5 fun _=>?_|refine A4 fun _=>?_);try simp(disch:=first|omega|assumption|((repeat(first|exact A1|exact uH|apply A3|apply uT));first|done|fail)|(simp;first|done|omega|fail))[]))
 refine C0 (Hc := [.pt be (.cells #[.int .i64 e2] 27)]) M0 (fun w' hw hs => k8 w' c.cp 1 64 e2 be hs) (by (repeat' constructor)) ?_
 rintro _ _ rfl
 generalize he3 : (if T7 c.cp 1 64 = true then e2 else 1) = e3
 (have zz:=trivial;repeat((first|clear zz|with_reducible first|refine A2 ?_|refine A5 fun _=>?_|refine A4 fun _=>?_);try simp(disch:=first|omega|assumption|((repeat(first|exact A1|exact uH|apply A3|apply uT));first|done|fail)|(simp;first|done|omega|fail))[]))
 refine C0 (Hc := [.pt be (.cells #[.int .i64 e3] 27)]) M0 (fun w' hw hs => k8 w' c.idle 0 1000000 e3 be hs) (by (repeat' constructor)) ?_
 rintro _ _ rfl
 generalize he4 : (if T7 c.idle 0 1000000 = true then e3 else 1) = e4
 (have zz:=trivial;repeat((first|clear zz|with_reducible first|refine A2 ?_|refine A5 fun _=>?_|refine A4 fun _=>?_);try simp(disch:=first|omega|assumption|((repeat(first|exact A1|exact uH|apply A3|apply uT));first|done|fail)|(simp;first|done|omega|fail))[]))
 refine C0 (Hc := [.pt be (.cells #[.int .i64 e4] 27)]) M0 (fun w' hw hs => k8 w' c.sl 2 8 e4 be hs) (by (repeat' constructor)) ?_
 rintro _ _ rfl
 generalize he5 : (if T7 c.sl 2 8 = true then e4 else 1) = e5
 (have zz:=trivial;repeat((first|clear zz|with_reducible first|refine A2 ?_|refine A5 fun _=>?_|refine A4 fun _=>?_);try simp(disch:=first|omega|assumption|((repeat(first|exact A1|exact uH|apply A3|apply uT));first|done|fail)|(simp;first|done|omega|fail))[]))
 refine C1 ?_
 have : e5 = if T3 c then 0 else 1 := by
  rw [← he5, ← he4, ← he3, ← he2, ← he1]
  unfold T3
  cases T7 c.wk 1 64 <;> cases T7 c.sh 1 16 <;> cases T7 c.cp 1 64 <;> cases T7 c.idle 0 1000000 <;> cases T7 c.sl 2 8 <;> rfl
 rw [this]
section
variable {κ : Bool} {S : List Nat} {w0 : World} {H Hj : List Res} {K : Value → WP}
end
end Go.Proofs.YtjobgnabneddjaaGreat
namespace Go.Proofs.YtjobgnabneddjaaGreat
open Go
def A4Z (ts : List (Value × List EnV)) : List Nat := ts.flatMap fun t => H7 t.1
def A9F (ts : List (Value × List EnV)) (w : World) : Prop := ∀ t ∈ ts, M2 w 218 4 t.1 t.2.length (t.2.flatMap A4J)
def u0 (ts : List (Value × List EnV)) : Res := .ab (A4Z ts) (A9F ts) fun w w' hk h t ht =>
 Res.stable (r := A5k t.1 t.2) (fun b hb => hk b (by rw [A4Z, List.mem_flatMap]; exact ⟨t, ht, hb⟩)) (h t ht)
section
variable {κ : Bool} {S : List Nat} {w0 w : World} {H Hk Hc : List Res} {K0 : WP} {ts : List (Value × List EnV)}
theorem y3 {r : Res} (hp : Part Hc H Hk) (hh : ∀ w, (∀ s ∈ Hc, s.holds w) → r.holds w) (hf : ∀ b ∈ r.foot, b ∈ B1 Hc) (h : TW κ S w0 (r :: Hk) K0) : TW κ S w0 H K0 := fun w hw => by
 have hw2 := hw.perm hp.perm
 refine h w ⟨hw2.ks, ?_, ?_, ?_⟩
 ·intro s hs
  rcases List.mem_cons.1 hs with rfl | hs
  ·exact hh w fun s hs => hw2.hold s (List.mem_append_left _ hs)
  ·exact hw2.hold s (List.mem_append_right _ hs)
 ·intro s hs b hb
  rcases List.mem_cons.1 hs with rfl | hs
  ·obtain ⟨q, hq, hbq⟩ := F8.1 (hf b hb)
   exact hw2.own q (List.mem_append_left _ hq) b hbq
  ·exact hw2.own s (List.mem_append_right _ hs) b hb
 ·have hd := List.pairwise_append.1 hw2.dis
  refine List.pairwise_cons.2 ⟨fun s hs b hb => ?_, hd.2.1⟩
  obtain ⟨q, hq, hbq⟩ := F8.1 (hf b hb)
  exact hd.2.2 q hq s hs b hbq
theorem B12 (h : TW κ S w0 (u0 [] :: H) K0) : TW κ S w0 H K0 :=
 y3 (r := u0 []) (Hc := []) Part.nil (fun w _ => (fun t ht => (by cases ht) : A9F [] w)) (fun b hb => (by cases (hb : b ∈ A4Z []))) h
theorem B0l {r : Value} {l : List EnV} (hp : Part [A5k r l, u0 ts] H Hk) (h : TW κ S w0 (u0 (ts ++ [(r, l)]) :: Hk) K0) : TW κ S w0 H K0 := by
 refine y3 (r := u0 (ts ++ [(r, l)])) hp (fun w hh => (fun t ht => ?_ : A9F (ts ++ [(r, l)]) w)) (fun b hb => ?_) h
 ·rcases List.mem_append.1 ht with ht | ht
  ·exact (hh _ (List.mem_cons_of_mem _ (List.mem_cons_self ..)) : A9F ts w) t ht
  ·obtain rfl : t = (r, l) := by simpa using ht
   exact hh (A5k r l) (List.mem_cons_self ..)
 ·have hb' : b ∈ A4Z (ts ++ [(r, l)]) := hb
  rw [A4Z, List.mem_flatMap] at hb'
  obtain ⟨t, ht, hbt⟩ := hb'
  rcases List.mem_append.1 ht with ht | ht
  ·exact F8.2 ⟨u0 ts, by simp, by show b ∈ A4Z ts; rw [A4Z, List.mem_flatMap]; exact ⟨t, ht, hbt⟩⟩
  ·obtain rfl : t = (r, l) := by simpa using ht
   exact F8.2 ⟨A5k r l, by simp, hbt⟩
end
theorem A81 (l : List E6) : (l.flatMap G2).all plain = true := by
 rw [List.all_eq_true]; intro v hv; rw [List.mem_flatMap] at hv
 obtain ⟨x, _, hx⟩ := hv
 simp only [G2, List.mem_cons, List.not_mem_nil, or_false] at hx
 rcases hx with rfl | rfl <;> rfl
end Go.Proofs.YtjobgnabneddjaaGreat
namespace Go.Proofs.YtjobgnabneddjaaGreat
open Go
section
variable {P : Program} {t x : TypeId} {d : TypeDesc} {n m : Nat} {z : Value} {K : Value → WP}
theorem A7Y (h : TI P t d n m z) (hd : ∀ ms, d ≠ .interface ms) : A0 P (Instr.typeAssert .nilIface x t true) K = K (.tuple #[z, .bool false]) :=
 E1 (fun w => by
  simp only [Instr.typeAssert, Sem.run_bind, h.run_und, Result.andThen_ok]
  cases d <;> first | (simp [h.run_zero]; done) | exact absurd rfl (hd _)) K
theorem A7m (h : TI P t d n m z) (hd : ∀ ms, d ≠ .interface ms) (v : Value) : A0 P (Instr.typeAssert (.iface t v) x t true) K = K (.tuple #[v, .bool true]) :=
 E1 (fun w => by
  simp only [Instr.typeAssert, Sem.run_bind, h.run_und, Result.andThen_ok]
  cases d <;> first | (simp; done) | exact absurd rfl (hd _)) K
theorem A8S (h : TI P t d n m z) (hd : ∀ ms, d ≠ .interface ms) {u : TypeId} (hu : u ≠ t) (v : Value) : A0 P (Instr.typeAssert (.iface u v) x t true) K = K (.tuple #[z, .bool false]) :=
 E1 (fun w => by
  simp only [Instr.typeAssert, Sem.run_bind, h.run_und, Result.andThen_ok]
  cases d <;> first | (simp [hu, h.run_zero]; done) | exact absurd rfl (hd _)) K
end
@[simp] theorem B6b (x : TypeId) (K : Value → WP) : A0 PR (Instr.typeAssert .nilIface x 263 true) K = K (.tuple #[.agg #[], .bool false]) := A7Y A3m (by intro ms h; cases h)
@[simp] theorem B6v (x : TypeId) (v : Value) (K : Value → WP) : A0 PR (Instr.typeAssert (.iface 263 v) x 263 true) K = K (.tuple #[v, .bool true]) := A7m A3m (by intro ms h; cases h) v
@[simp] theorem B56 (x : TypeId) (v : Value) (K : Value → WP) : A0 PR (Instr.typeAssert (.iface 195 v) x 263 true) K = K (.tuple #[.agg #[], .bool false]) := A8S A3m (by intro ms h; cases h) (by decide) v
@[simp] theorem B6a (x : TypeId) (K : Value → WP) : A0 PR (Instr.typeAssert .nilIface x 195 true) K = K (.tuple #[.agg #[.slice none 0 0, .slice none 0 0], .bool false]) := A7Y A0a (by intro ms h; cases h)
@[simp] theorem B5x (x : TypeId) (v : Value) (K : Value → WP) : A0 PR (Instr.typeAssert (.iface 195 v) x 195 true) K = K (.tuple #[v, .bool true]) := A7m A0a (by intro ms h; cases h) v
@[simp] theorem B6N (x : TypeId) (v : Value) (K : Value → WP) : A0 PR (Instr.typeAssert (.iface 263 v) x 195 true) K = K (.tuple #[.agg #[.slice none 0 0, .slice none 0 0], .bool false]) := A8S A0a (by intro ms h; cases h) (by decide) v
inductive SlH where
 | no
 | bld
 | rdy (p : List E6) (pv rv : Value)
def SlH.val : SlH → Value
 | .no => .nilIface
 | .bld => .iface 263 (.agg #[])
 | .rdy _ pv rv => .iface 195 (.agg #[pv, rv])
def SlH.sp : SlH → SlV
 | .no => .no
 | .bld => .bld
 | .rdy p _ _ => .rdy p
def SlH.fo : SlH → List Nat
 | .rdy _ pv rv => H7 pv ++ H7 rv
 | _ => []
def A4p (pv : Value) (p : List E6) : Res := .own 155 2 pv p.length (p.flatMap G2)
def A4c (rv : Value) (p : List E6) : Res := .own 290 2 rv (K8 (E7 p)).length ((K8 (E7 p)).flatMap E4)
def SlH.ok (w : World) : SlH → Prop
 | .rdy p pv rv => (A4p pv p).holds w ∧ (A4c rv p).holds w ∧ p.length ≤ 32
 | _ => True
theorem SlH.keep {w w' : World} {s : SlH} (hk : ∀ b ∈ s.fo, ∀ o, A5P o = true → bl w b = some o → bl w' b = some o) (h : s.ok w) : s.ok w' := by
 cases s with
 | no => trivial
 | bld => trivial
 | rdy p pv rv =>
  refine ⟨Res.stable (fun b hb => hk b ?_) h.1, Res.stable (fun b hb => hk b ?_) h.2.1, h.2.2⟩
  ·exact List.mem_append_left _ hb
  ·exact List.mem_append_right _ hb
def a6 (ls : List SlH) : List Nat := ls.flatMap SlH.fo
def A13 (ls : List SlH) (w : World) : Prop := ∀ s ∈ ls, s.ok w
def V9 (ls : List SlH) : Res := .ab (a6 ls) (A13 ls) fun w w' hk h s hs => SlH.keep (fun b hb => hk b (by rw [a6, List.mem_flatMap]; exact ⟨s, hs, hb⟩)) (h s hs)
def M5 (ls : List SlH) (i : Int) (x : SlH) : List SlH := if 0 ≤ i ∧ i < ls.length then ls.set i.toNat x else ls
theorem A7W (ls : List SlH) (i : Int) (x : SlH) : (M5 ls i x).length = ls.length := by unfold M5; split <;> simp
theorem A5V (ls : List SlH) (i : Int) (x : SlH) : (M5 ls i x).map SlH.sp = L8 (ls.map SlH.sp) i x.sp := by
 unfold M5 L8
 rw [List.length_map]
 split
 ·rw [List.map_set]
 ·rfl
theorem A2D {ls : List SlH} {i : Int} {x s : SlH} (h : s ∈ M5 ls i x) : s ∈ ls ∨ s = x := by
 unfold M5 at h
 split at h
 ·exact List.mem_or_eq_of_mem_set h
 ·exact Or.inl h
def E0 (b : Nat) (sv : Value) (ls : List SlH) : List Res := [.pt b (.cells #[sv] 231), .own 266 1 sv ls.length (ls.map SlH.val), V9 ls]
section
variable {κ : Bool} {S : List Nat} {w0 w : World} {H Hk Hc : List Res} {K0 : WP} {ls : List SlH}
theorem A8T {i : Int} {x : SlH} (hx : x.fo = [] ∧ ∀ w, x.ok w) (hp : Part [V9 ls] H Hk) (h : TW κ S w0 (V9 (M5 ls i x) :: Hk) K0) : TW κ S w0 H K0 := by
 refine y3 (r := V9 (M5 ls i x)) hp (fun w hh => (fun s hs => ?_ : A13 (M5 ls i x) w)) (fun b hb => ?_) h
 ·rcases A2D hs with hs | rfl
  ·exact (hh _ (List.mem_cons_self ..) : A13 ls w) s hs
  ·exact hx.2 w
 ·have hb' : b ∈ a6 (M5 ls i x) := hb
  rw [a6, List.mem_flatMap] at hb'
  obtain ⟨s, hs, hbs⟩ := hb'
  rcases A2D hs with hs | rfl
  ·exact F8.2 ⟨V9 ls, by simp, by show b ∈ a6 ls; rw [a6, List.mem_flatMap]; exact ⟨s, hs, hbs⟩⟩
  ·rw [hx.1] at hbs; cases hbs
theorem B3p {i : Int} {p : List E6} {pv rv : Value} (hl : p.length ≤ 32) (hp : Part [A4p pv p, A4c rv p, V9 ls] H Hk) (h : TW κ S w0 (V9 (M5 ls i (.rdy p pv rv)) :: Hk) K0) : TW κ S w0 H K0 := by
 refine y3 (r := V9 (M5 ls i (.rdy p pv rv))) hp (fun w hh => (fun s hs => ?_ : A13 (M5 ls i (.rdy p pv rv)) w)) (fun b hb => ?_) h
 ·rcases A2D hs with hs | rfl
  ·exact (hh (V9 ls) (by simp) : A13 ls w) s hs
  ·exact ⟨hh (A4p pv p) (by simp), hh (A4c rv p) (by simp), hl⟩
 ·have hb' : b ∈ a6 (M5 ls i (.rdy p pv rv)) := hb
  rw [a6, List.mem_flatMap] at hb'
  obtain ⟨s, hs, hbs⟩ := hb'
  rcases A2D hs with hs | rfl
  ·exact F8.2 ⟨V9 ls, by simp, by show b ∈ a6 ls; rw [a6, List.mem_flatMap]; exact ⟨s, hs, hbs⟩⟩
  ·rcases List.mem_append.1 hbs with hbs | hbs
   ·exact F8.2 ⟨A4p pv p, by simp, hbs⟩
   ·exact F8.2 ⟨A4c rv p, by simp, hbs⟩
end
theorem B3e (w : World) (b : Nat) (sv : Value) (xs : List Value) (i : Int) (x : Value) (hx : plain x = true) (hn : xs.length ≤ 1000) (hw : LW false (B1 [.pt b (.cells #[sv] 231), .own 266 1 sv xs.length xs]) w [.pt b (.cells #[sv] 231), .own 266 1 sv xs.length xs] w) :
  Fn PR B7 150 #[.pointer (some ⟨b, 0, none⟩), .int .i64 i, x] w (Rn (B1 [.pt b (.cells #[sv] 231), .own 266 1 sv xs.length xs]) w (fun (_ : Unit) u => z6 u) fun _ => [.pt b (.cells #[sv] 231), .own 266 1 sv xs.length (if 0 ≤ i ∧ i < xs.length then xs.set i.toNat x else xs)]) := by
 refine A23 (TW.goH (κ := false) ?_ hw)
 unfold r7
 refine u9 (e := 266) (k := 1) (v := sv) (q := xs.length) (xs := xs) (by (repeat constructor)) fun a c e => ?_
 subst e
 by_cases c1 : i < 0
 ·(have zz:=trivial;repeat((first|clear zz|with_reducible first|refine A2 ?_|refine A5 fun _=>?_|refine A4 fun _=>?_);try simp(disch:=first|omega|assumption|((repeat(first|exact A1|exact uH|apply A3|apply uT));first|done|fail)|(simp;first|done|omega|fail))[c1]))
  rw [if_neg (by omega)]
  exact B3 () (T9 _) (by (repeat' constructor))
 by_cases c2 : (xs.length : Int) ≤ i
 ·(have zz:=trivial;repeat((first|clear zz|with_reducible first|refine A2 ?_|refine A5 fun _=>?_|refine A4 fun _=>?_);try simp(disch:=first|omega|assumption|((repeat(first|exact A1|exact uH|apply A3|apply uT));first|done|fail)|(simp;first|done|omega|fail))[c1, c2]))
  rw [if_neg (by omega)]
  exact B3 () (T9 _) (by (repeat' constructor))
 obtain ⟨j, rfl⟩ : ∃ j : Nat, i = j := ⟨i.toNat, by omega⟩
 have hj : j < xs.length := by omega
 have hj2 : ¬ xs.length ≤ j := by omega
 rw [if_pos (by omega)]
 refine A9g (e := 266) (k := 1) (v := .slice a xs.length c) (q := xs.length) (xs := xs) (by (repeat constructor)) (by omega) fun g gc hg => ?_
 cases hg
 (have zz:=trivial;repeat((first|clear zz|with_reducible first|refine A2 ?_|refine A5 fun _=>?_|refine A4 fun _=>?_);try simp(disch:=first|omega|assumption|((repeat(first|exact A1|exact uH|apply A3|apply uT));first|done|fail)|(simp;first|done|omega|fail))[c1, c2, hj, hj2]))
 have hxc : x.cells = #[x] := by cases x <;> first | rfl | cases hx
 refine y6 (by (repeat constructor)) (by rw [hxc]; rfl) (by omega) (by rw [hxc]; simpa using hx) ?_
 have e : b9 xs j x.cells.toList = xs.set j x := by
  rw [hxc, List.set_eq_take_append_cons_drop, if_pos hj]; simp [b9]
 refine B3 () (T9 _) ?_
 rw [Int.toNat_natCast, ← e]
 (repeat' constructor)
theorem B3T (ls : List SlH) (i : Int) (x : SlH) : (if 0 ≤ i ∧ i < (ls.map SlH.val).length then (ls.map SlH.val).set i.toNat x.val else ls.map SlH.val) = (M5 ls i x).map SlH.val := by
 unfold M5
 rw [List.length_map]
 split
 ·rw [List.map_set]
 ·rfl
theorem SlH.plain (x : SlH) : Go.Proofs.YtjobgnabneddjaaGreat.plain x.val = true := by cases x <;> rfl
theorem A3a {κ : Bool} {X : Nat → Prop} {S : List Nat} {w0 : World} {H Hk : List Res} {K : Value → WP} {b : Nat} {sv : Value} {ls : List SlH} {i : Int} {x : SlH} (hl : ls.length ≤ 1000) (hp : Part [.pt b (.cells #[sv] 231), .own 266 1 sv ls.length (ls.map SlH.val)] H Hk)
  (hK : ∀ u, z6 u → TW κ S w0 (.pt b (.cells #[sv] 231) :: .own 266 1 sv (M5 ls i x).length ((M5 ls i x).map SlH.val) :: Hk) (K u)) :
  TW κ S w0 H (B5 PR X 150 [.pointer (some ⟨b, 0, none⟩), .int .i64 i, x.val] K) := by
 have hlm : (ls.map SlH.val).length = ls.length := List.length_map ..
 refine C0 (Hc := [.pt b (.cells #[sv] 231), .own 266 1 sv ls.length (ls.map SlH.val)]) A2g (fun w' _ hs => ?_) hp (fun _ u hu => ?_) (α := Unit) (φ := fun _ u => z6 u) (Hn := fun _ => [.pt b (.cells #[sv] 231), .own 266 1 sv (M5 ls i x).length ((M5 ls i x).map SlH.val)])
 ·have := B3e w' b sv (ls.map SlH.val) i x.val x.plain (by rw [hlm]; exact hl) (by rw [hlm]; exact hs)
  rw [B3T, hlm] at this
  rw [A7W]
  exact this
 ·exact hK u hu
theorem B0s (w : World) (b : Nat) (sv : Value) (ls : List SlH) (i : Int) (hl : ls.length ≤ 8) (hw : LW false (B1 (E0 b sv ls)) w (E0 b sv ls) w) :
  Fn PR B7 94 #[.pointer (some ⟨b, 0, none⟩), .int .i64 i] w (Rn (B1 (E0 b sv ls)) w (fun (_ : Unit) u => z6 u) fun _ => E0 b sv (M5 ls i .bld)) := by
 refine A2T (TW.goH (κ := false) ?_ hw)
 unfold k9
 simp only [E0]
 (have zz:=trivial;repeat((first|clear zz|with_reducible first|refine A2 ?_|refine A5 fun _=>?_|refine A4 fun _=>?_);try simp(disch:=first|omega|assumption|((repeat(first|exact A1|exact uH|apply A3|apply uT));first|done|fail)|(simp;first|done|omega|fail))[]))
 refine A3a (x := .bld) (ls := ls) (sv := sv) (by omega) (by (repeat' constructor)) fun u hu => ?_
 refine A8T (ls := ls) (i := i) (x := .bld) ⟨rfl, fun _ => trivial⟩ (by (repeat' constructor)) ?_
 exact B3 () hu (by (repeat' constructor))
theorem B05 (w : World) (b : Nat) (sv : Value) (ls : List SlH) (i : Int) (hl : ls.length ≤ 8) (hw : LW false (B1 (E0 b sv ls)) w (E0 b sv ls) w) :
  Fn PR B7 98 #[.pointer (some ⟨b, 0, none⟩), .int .i64 i] w (Rn (B1 (E0 b sv ls)) w (fun (_ : Unit) u => z6 u) fun _ => E0 b sv (M5 ls i .no)) := by
 refine A15 (TW.goH (κ := false) ?_ hw)
 unfold g9
 simp only [E0]
 (have zz:=trivial;repeat((first|clear zz|with_reducible first|refine A2 ?_|refine A5 fun _=>?_|refine A4 fun _=>?_);try simp(disch:=first|omega|assumption|((repeat(first|exact A1|exact uH|apply A3|apply uT));first|done|fail)|(simp;first|done|omega|fail))[]))
 refine A3a (x := .no) (ls := ls) (sv := sv) (by omega) (by (repeat' constructor)) fun u hu => ?_
 refine A8T (ls := ls) (i := i) (x := .no) ⟨rfl, fun _ => trivial⟩ (by (repeat' constructor)) ?_
 exact B3 () hu (by (repeat' constructor))
end Go.Proofs.YtjobgnabneddjaaGreat
namespace Go.Proofs.YtjobgnabneddjaaGreat
open Go
theorem B3m {κ : Bool} {H : List Res} {r : Res} (h : r ∈ H) : Up r r H H := by
 induction H with
 | nil => cases h
 | cons a H ih =>
  rcases List.mem_cons.1 h with rfl | h
  ·exact .here
  ·exact .there (ih h)
theorem A9f {κ : Bool} {X : Nat → Prop} {S : List Nat} {w0 : World} {H : List Res} {K0 : WP} {b : Nat} (hm : Res.pt b (.cells #[] 263) ∈ H) (hK : TW κ S w0 H K0) :
  TW κ S w0 H (E2 PR X (Instr.storeAt 263 (.pointer (some ⟨b, 0, none⟩)) (.agg #[])) K0) := by
 have h := B9B (κ := κ) (X := X) (S := S) (w0 := w0) (K0 := K0) (t := 263) (v := .agg #[]) (b := b) (o := 0) (c := #[]) (T := 263) rfl (B3m (κ := κ) hm) (by simp) rfl
 exact h ▸ hK
def A3M (ls : List SlH) (i : Int) : SlH := if 0 ≤ i ∧ i < ls.length then ls.getD i.toNat .no else .no
theorem A8m (ls : List SlH) (i : Int) : G5 (ls.map SlH.sp) i = (A3M ls i).sp := by
 unfold G5 A3M
 rw [List.length_map]
 split
 ·rename_i h
  rw [List.getD_eq_getElem?_getD, List.getD_eq_getElem?_getD, List.getElem?_map, List.getElem?_eq_getElem (by omega)]; rfl
 ·rfl
theorem A8Y {ls : List SlH} {i : Nat} (h : i < ls.length) : (ls.map SlH.val)[i]? = some (ls.getD i .no).val := by
 rw [List.getElem?_map, List.getD_eq_getElem?_getD, List.getElem?_eq_getElem h]; rfl
theorem B11 {l : List SlV} {i : Int} {p : List E6} (h : G5 l i ≠ .bld ∨ F2 p ≠ 0) : j8 l i p = l := by
 unfold j8
 cases hg : G5 l i with
 | no => rfl
 | rdy q => rfl
 | bld =>
  rcases h with h | h
  ·exact absurd hg h
  ·simp [h]
set_option maxHeartbeats 400000 in
theorem B1N (w : World) (b : Nat) (sv : Value) (ls : List SlH) (i : Int) (pv : Value) (p : List E6) (hl : ls.length ≤ 8) (hp : p.length ≤ 1000) (hv : ∀ w', KS false (B1 (E0 b sv ls)) w w' → F7 w' pv p.length (p.flatMap G2)) (hw : LW false (B1 (E0 b sv ls)) w (E0 b sv ls) w) :
  Fn PR B7 95 #[.pointer (some ⟨b, 0, none⟩), .int .i64 i, pv] w (Rn (B1 (E0 b sv ls)) w (fun (ls' : List SlH) u => z6 u ∧ ls'.length = ls.length ∧ ls'.map SlH.sp = j8 (ls.map SlH.sp) i p) fun ls' => E0 b sv ls') := by
 refine A2b (TW.goH (κ := false) ?_ hw)
 unfold n0
 refine u9 (e := 266) (k := 1) (v := sv) (q := ls.length) (xs := ls.map SlH.val) (by simp only [E0]; (repeat constructor)) fun a c e => ?_
 subst e
 have no : G5 (ls.map SlH.sp) i ≠ .bld ∨ F2 p ≠ 0 → ∀ u, z6 u → z6 u ∧ ls.length = ls.length ∧ ls.map SlH.sp = j8 (ls.map SlH.sp) i p := fun h u hu => ⟨hu, rfl, (B11 h).symm⟩
 simp only [E0] at hv ⊢
 by_cases c1 : i < 0
 ·(have zz:=trivial;repeat((first|clear zz|with_reducible first|refine A2 ?_|refine A5 fun _=>?_|refine A4 fun _=>?_);try simp(disch:=first|omega|assumption|((repeat(first|exact A1|exact uH|apply A3|apply uT));first|done|fail)|(simp;first|done|omega|fail))[c1]))
  exact B3 ls (no (Or.inl (by unfold G5; rw [if_neg (by omega)]; simp)) _ (T9 _)) (by (repeat' constructor))
 by_cases c2 : (ls.length : Int) ≤ i
 ·(have zz:=trivial;repeat((first|clear zz|with_reducible first|refine A2 ?_|refine A5 fun _=>?_|refine A4 fun _=>?_);try simp(disch:=first|omega|assumption|((repeat(first|exact A1|exact uH|apply A3|apply uT));first|done|fail)|(simp;first|done|omega|fail))[c1, c2]))
  exact B3 ls (no (Or.inl (by unfold G5; rw [if_neg (by simp; omega)]; simp)) _ (T9 _)) (by (repeat' constructor))
 obtain ⟨j, rfl⟩ : ∃ j : Nat, i = j := ⟨i.toNat, by omega⟩
 have hj : j < ls.length := by omega
 have hj2 : ¬ ls.length ≤ j := by omega
 refine A9g (e := 266) (k := 1) (v := .slice a ls.length c) (q := ls.length) (xs := ls.map SlH.val) (by (repeat constructor)) (by omega) fun g gc hg => ?_
 cases hg
 (have zz:=trivial;repeat((first|clear zz|with_reducible first|refine A2 ?_|refine A5 fun _=>?_|refine A4 fun _=>?_);try simp(disch:=first|omega|assumption|((repeat(first|exact A1|exact uH|apply A3|apply uT));first|done|fail)|(simp;first|done|omega|fail))[c1, c2, hj, hj2]))
 refine D9 V6 (fun w' hw' => g7 w' pv p (by omega) (hv w' hw'.ks)) ?_
 by_cases c3 : F2 p = 0
 case neg =>
  (have zz:=trivial;repeat((first|clear zz|with_reducible first|refine A2 ?_|refine A5 fun _=>?_|refine A4 fun _=>?_);try simp(disch:=first|omega|assumption|((repeat(first|exact A1|exact uH|apply A3|apply uT));first|done|fail)|(simp;first|done|omega|fail))[c3]))
  exact B3 ls (no (Or.inr c3) _ (T9 _)) (by (repeat' constructor))
 have hat := A8Y hj
 have hget : G5 (ls.map SlH.sp) j = (ls.getD j .no).sp := by rw [A8m]; unfold A3M; rw [if_pos (by omega), Int.toNat_natCast]
 obtain ⟨x, hx⟩ : ∃ x, x = ls.getD j .no := ⟨_, rfl⟩
 rw [← hx] at hat hget
 have hatt := (List.getElem?_eq_some_iff.1 hat).2
 cases x with
 | no =>
  simp only [SlH.val] at hat hatt
  (have zz:=trivial;repeat((first|clear zz|with_reducible first|refine A2 ?_|refine A5 fun _=>?_|refine A4 fun _=>?_);try simp(disch:=first|omega|assumption|((repeat(first|exact A1|exact uH|apply A3|apply uT));first|done|fail)|(simp;first|done|omega|fail))[c3, hat, hatt, hj, hj2]))
  refine A9f (by (repeat constructor)) ?_
  (have zz:=trivial;repeat((first|clear zz|with_reducible first|refine A2 ?_|refine A5 fun _=>?_|refine A4 fun _=>?_);try simp(disch:=first|omega|assumption|((repeat(first|exact A1|exact uH|apply A3|apply uT));first|done|fail)|(simp;first|done|omega|fail))[]))
  exact B3 ls (no (Or.inl (by rw [hget]; simp [SlH.sp])) _ (T9 _)) (by (repeat' constructor))
 | rdy q qv rv =>
  simp only [SlH.val] at hat hatt
  (have zz:=trivial;repeat((first|clear zz|with_reducible first|refine A2 ?_|refine A5 fun _=>?_|refine A4 fun _=>?_);try simp(disch:=first|omega|assumption|((repeat(first|exact A1|exact uH|apply A3|apply uT));first|done|fail)|(simp;first|done|omega|fail))[c3, hat, hatt, hj, hj2]))
  refine A9f (by (repeat constructor)) ?_
  (have zz:=trivial;repeat((first|clear zz|with_reducible first|refine A2 ?_|refine A5 fun _=>?_|refine A4 fun _=>?_);try simp(disch:=first|omega|assumption|((repeat(first|exact A1|exact uH|apply A3|apply uT));first|done|fail)|(simp;first|done|omega|fail))[]))
  exact B3 ls (no (Or.inl (by rw [hget]; simp [SlH.sp])) _ (T9 _)) (by (repeat' constructor))
 | bld =>
  simp only [SlH.val] at hat hatt
  have hp32 : p.length ≤ 32 := by
   unfold F2 at c3
   by_cases h : Z2 p && decide (p.length ≤ 32)
   ·simp at h; exact h.2
   ·rw [if_neg h] at c3; omega
  (have zz:=trivial;repeat((first|clear zz|with_reducible first|refine A2 ?_|refine A5 fun _=>?_|refine A4 fun _=>?_);try simp(disch:=first|omega|assumption|((repeat(first|exact A1|exact uH|apply A3|apply uT));first|done|fail)|(simp;first|done|omega|fail))[c3, hat, hatt, hj, hj2]))
  refine A9f (by (repeat constructor)) ?_
  (have zz:=trivial;repeat((first|clear zz|with_reducible first|refine A2 ?_|refine A5 fun _=>?_|refine A4 fun _=>?_);try simp(disch:=first|omega|assumption|((repeat(first|exact A1|exact uH|apply A3|apply uT));first|done|fail)|(simp;first|done|omega|fail))[]))
  refine W9 S6 (fun w' hw' => B0e w' pv p.length (p.flatMap G2) (by omega) (L5 (k := 2) (fun _ => rfl) p) (A81 p) (hv w' hw'.ks)) ?_
  rintro _ qv rfl
  refine W9 A6k (fun w' hw' => B6c w' pv p (by omega) (hv w' hw'.ks)) ?_
  rintro _ rv rfl
  refine B0W (e := 155) (k := 2) (v := qv) (q := p.length) (xs := p.flatMap G2) (by (repeat constructor)) fun hq1 hq2 hq3 => ?_
  refine B0W (e := 290) (k := 2) (v := rv) (q := (K8 (E7 p)).length) (xs := (K8 (E7 p)).flatMap E4) (by (repeat constructor)) fun hr1 hr2 hr3 => ?_
  (have zz:=trivial;repeat((first|clear zz|with_reducible first|refine A2 ?_|refine A5 fun _=>?_|refine A4 fun _=>?_);try simp(disch:=first|omega|assumption|((repeat(first|exact A1|exact uH|apply A3|apply uT));first|done|fail)|(simp;first|done|omega|fail))[hq1, hq2, hr1, hr2]))
  refine A3a (x := .rdy p qv rv) (ls := ls) (by omega) (by (repeat' constructor)) fun u hu => ?_
  refine B3p (ls := ls) (i := (j : Nat)) (p := p) (pv := qv) (rv := rv) hp32 (by unfold A4p A4c; (repeat' constructor)) ?_
  refine B3 (M5 ls (j : Nat) (.rdy p qv rv)) ⟨hu, A7W _ _ _, ?_⟩ (by (repeat' constructor))
  rw [A5V]
  unfold j8
  rw [hget]
  show L8 _ _ (.rdy p) = (if F2 p = 0 then L8 _ _ (.rdy p) else _)
  rw [if_pos c3]
def SlH.rd (w : World) : SlH → Prop
 | .rdy p pv rv => F7 w pv p.length (p.flatMap G2) ∧ F7 w rv (K8 (E7 p)).length ((K8 (E7 p)).flatMap E4) ∧ p.length ≤ 32
 | _ => True
structure SlAt (w : World) (b : Nat) (sv : Value) (ls : List SlH) : Prop where
 blk : bl w b = some (.cells #[sv] 231 (0, 0))
 rd : F7 w sv ls.length (ls.map SlH.val)
 all : ∀ s ∈ ls, s.rd w
theorem SlAt.own {κ : Bool} {S : List Nat} {w0 w : World} {H : List Res} {b : Nat} {sv : Value} {ls : List SlH} (hw : LW κ S w0 H w) (h1 : Res.pt b (.cells #[sv] 231) ∈ H) (h2 : Res.own 266 1 sv ls.length (ls.map SlH.val) ∈ H) (h3 : V9 ls ∈ H) : SlAt w b sv ls := by
 refine ⟨hw.pt h1, Z3.own (e := 266) (k := 1) h2 w hw, fun s hs => ?_⟩
 have := (hw.hold _ h3 : A13 ls w) s hs
 cases s with
 | no => trivial
 | bld => trivial
 | rdy p pv rv => exact ⟨M2.rd this.1, M2.rd this.2.1, this.2.2⟩
theorem SlAt.at {w : World} {b : Nat} {sv : Value} {ls : List SlH} (h : SlAt w b sv ls) {i : Nat} (hi : i < ls.length) : (ls.getD i .no).rd w := by
 apply h.all
 rw [List.getD_eq_getElem?_getD, List.getElem?_eq_getElem hi]
 exact List.getElem_mem hi
def p7 (l : List SlH) (i : Int) (f : List E6 → Int) : Int × Bool :=
 match A3M l i with
 | .rdy p _ _ => (f p, true)
 | _ => (0, false)
theorem A8b (w : World) (b : Nat) (sv : Value) (ls : List SlH) (i : Int) (g : FuncId) (cap : List Value) (f : List E6 → Int) (hl : ls.length ≤ 8) (h : SlAt w b sv ls) (he : A9 PR g)
  (hg : ∀ p pv rv, (SlH.rdy p pv rv).rd w → ∀ w', KS false [] w w' → Fn PR B7 g (Value.agg #[pv, rv] :: cap).toArray w' (fun u w'' => u = .int .i64 (f p) ∧ C4 [] w' w'')) :
  Fn PR B7 109 #[.pointer (some ⟨b, 0, none⟩), .int .i64 i, .func (.func g) #[] cap.toArray] w (fun u w' => u = .tuple #[.int .i64 (p7 ls i f).1, .bool (p7 ls i f).2] ∧ C4 [] w w') := by
 refine Fn.pure (A31 (TW.go (κ := false) (S := []) ?_))
 unfold u7
 obtain ⟨a, c, rfl, hr⟩ := h.rd.form
 have h0 : w.cell? ⟨b, 0, none⟩ = some (.slice a ls.length c) := by rw [C9 h.blk]; rfl
 by_cases c1 : i < 0
 ·have e : p7 ls i f = (0, false) := by unfold p7 A3M; rw [if_neg (by omega)]
  rw [e]
  (have zz:=trivial;repeat((first|clear zz|with_reducible first|refine A2 ?_|refine A5 fun _=>?_|refine A4 fun _=>?_);try simp(disch:=first|omega|assumption|((repeat(first|exact A1|exact uH|apply A3|apply uT));first|done|fail)|(simp;first|done|omega|fail))[c1]))
  exact C1 rfl
 by_cases c2 : (ls.length : Int) ≤ i
 ·have e : p7 ls i f = (0, false) := by unfold p7 A3M; rw [if_neg (by omega)]
  rw [e]
  (have zz:=trivial;repeat((first|clear zz|with_reducible first|refine A2 ?_|refine A5 fun _=>?_|refine A4 fun _=>?_);try simp(disch:=first|omega|assumption|((repeat(first|exact A1|exact uH|apply A3|apply uT));first|done|fail)|(simp;first|done|omega|fail))[c1, c2, h0]))
  exact C1 rfl
 obtain ⟨j, rfl⟩ : ∃ j : Nat, i = j := ⟨i.toNat, by omega⟩
 have hj : j < ls.length := by omega
 have hj2 : ¬ ls.length ≤ j := by omega
 obtain ⟨gb, o, rfl, hrow⟩ := hr (by omega)
 have hrd := h.at hj
 have hx : w.cell? ⟨gb, o + j, none⟩ = some (ls.getD j .no).val := hrow.get (A8Y hj)
 have e : p7 ls j f = match ls.getD j .no with | .rdy p _ _ => (f p, true) | _ => (0, false) := by unfold p7 A3M; rw [if_pos (by omega), Int.toNat_natCast]
 rw [e]
 generalize ls.getD j .no = x at *
 cases x with
 | no =>
  simp only [SlH.val] at hx
  (have zz:=trivial;repeat((first|clear zz|with_reducible first|refine A2 ?_|refine A5 fun _=>?_|refine A4 fun _=>?_);try simp(disch:=first|omega|assumption|((repeat(first|exact A1|exact uH|apply A3|apply uT));first|done|fail)|(simp;first|done|omega|fail))[c1, c2, hj, hj2, h0, hx]))
  exact C1 rfl
 | bld =>
  simp only [SlH.val] at hx
  (have zz:=trivial;repeat((first|clear zz|with_reducible first|refine A2 ?_|refine A5 fun _=>?_|refine A4 fun _=>?_);try simp(disch:=first|omega|assumption|((repeat(first|exact A1|exact uH|apply A3|apply uT));first|done|fail)|(simp;first|done|omega|fail))[c1, c2, hj, hj2, h0, hx]))
  exact C1 rfl
 | rdy p pv rv =>
  simp only [SlH.val] at hx
  have hpv := hrd.1.form
  have hrv := hrd.2.1.form
  obtain ⟨pa, pc, hpe, _⟩ := hpv
  obtain ⟨ra, rc, hre, _⟩ := hrv
  subst hpe hre
  (have zz:=trivial;repeat((first|clear zz|with_reducible first|refine A2 ?_|refine A5 fun _=>?_|refine A4 fun _=>?_);try simp(disch:=first|omega|assumption|((repeat(first|exact A1|exact uH|apply A3|apply uT));first|done|fail)|(simp;first|done|omega|fail))[c1, c2, hj, hj2, h0, hx]))
  refine D9 he (fun w' hw' => hg _ _ _ hrd w' hw'.ks) ?_
  exact C1 rfl
theorem A70 (ls : List SlH) (i : Int) (f : List E6 → Int) : p7 ls i f = match G5 (ls.map SlH.sp) i with | .rdy p => (f p, true) | _ => (0, false) := by
 rw [A8m]; unfold p7; cases A3M ls i <;> rfl
theorem SlH.rdks {κ : Bool} {w w' : World} {s : SlH} (hk : KS κ [] w w') (h : s.rd w) : s.rd w' := by
 cases s with
 | no => trivial
 | bld => trivial
 | rdy p pv rv => exact ⟨h.1.ks hk (by simp), h.2.1.ks hk (by simp), h.2.2⟩
theorem SlAt.ks {κ : Bool} {w w' : World} {b : Nat} {sv : Value} {ls : List SlH} (h : SlAt w b sv ls) (hk : KS κ [] w w') : SlAt w' b sv ls :=
 ⟨hk.2.1 _ _ (by simp) rfl h.blk, h.rd.ks hk (by simp), fun s hs => SlH.rdks hk (h.all s hs)⟩
theorem B0D (w : World) (p : List E6) (pv rv : Value) (bh h : Nat) (hx : (SlH.rdy p pv rv).rd w) (hb : w.cell? ⟨bh, 0, none⟩ = some (.int .u64 (h : Nat))) :
  Fn PR B7 110 #[.agg #[pv, rv], .pointer (some ⟨bh, 0, none⟩)] w (fun u w' => u = .int .i64 (A9a p h) ∧ C4 [] w w') := by
 refine Fn.pure (A00 (TW.go (κ := false) (S := []) ?_))
 unfold Y7
 obtain ⟨h1, h2, h3⟩ := hx
 obtain ⟨pa, pc, rfl, _⟩ := h1.form
 obtain ⟨ra, rc, rfl, _⟩ := h2.form
 have hll := A3l p
 have hpl : (K8 (E7 p)).length = (E7 p).length := V1 _
 (have zz:=trivial;repeat((first|clear zz|with_reducible first|refine A2 ?_|refine A5 fun _=>?_|refine A4 fun _=>?_);try simp(disch:=first|omega|assumption|((repeat(first|exact A1|exact uH|apply A3|apply uT));first|done|fail)|(simp;first|done|omega|fail))[hb]))
 refine D9 A6f (fun w' hw' => B3z w' _ (K8 (E7 p)) h (by omega) (h2.ks hw'.ks (by simp))) ?_
 exact C1 rfl
theorem A7l (w : World) (b : Nat) (sv : Value) (ls : List SlH) (i : Int) (h : Nat) (hl : ls.length ≤ 8) (hs : SlAt w b sv ls) :
  Fn PR B7 48 #[.pointer (some ⟨b, 0, none⟩), .int .i64 i, .int .u64 (h : Nat)] w (fun u w' => u = .tuple #[.int .i64 (v7 (ls.map SlH.sp) i h).1, .bool (v7 (ls.map SlH.sp) i h).2] ∧ C4 [] w w') := by
 refine Fn.pure (A2f (TW.go (κ := false) (S := []) ?_))
 unfold m6
 (have zz:=trivial;repeat((first|clear zz|with_reducible first|refine A2 ?_|refine A5 fun _=>?_|refine A4 fun _=>?_);try simp(disch:=first|omega|assumption|((repeat(first|exact A1|exact uH|apply A3|apply uT));first|done|fail)|(simp;first|done|omega|fail))[]))
 rename_i bh
 refine D9 s0 (fun w' hw' => A8b w' b sv ls i 110 [.pointer (some ⟨bh, 0, none⟩)] (fun p => A9a p h) hl (hs.ks hw'.ks) A0J fun p pv rv hrd w'' hk => B0D w'' p pv rv bh h (SlH.rdks hk hrd) (hk.cell (by simp) (hw'.cell1 (by (repeat constructor))))) ?_
 (have zz:=trivial;repeat((first|clear zz|with_reducible first|refine A2 ?_|refine A5 fun _=>?_|refine A4 fun _=>?_);try simp(disch:=first|omega|assumption|((repeat(first|exact A1|exact uH|apply A3|apply uT));first|done|fail)|(simp;first|done|omega|fail))[]))
 exact C1 (by rw [A70]; unfold v7; cases G5 (ls.map SlH.sp) i <;> rfl)
theorem A9z (w : World) (p : List E6) (pv rv : Value) (hx : (SlH.rdy p pv rv).rd w) :
  Fn PR B7 113 #[.agg #[pv, rv]] w (fun u w' => u = .int .i64 (p.length : Nat) ∧ C4 [] w w') := by
 refine Fn.pure (A0q (TW.go (κ := false) (S := []) ?_))
 unfold Z0
 obtain ⟨h1, h2, h3⟩ := hx
 obtain ⟨pa, pc, rfl, _⟩ := h1.form
 obtain ⟨ra, rc, rfl, _⟩ := h2.form
 (have zz:=trivial;repeat((first|clear zz|with_reducible first|refine A2 ?_|refine A5 fun _=>?_|refine A4 fun _=>?_);try simp(disch:=first|omega|assumption|((repeat(first|exact A1|exact uH|apply A3|apply uT));first|done|fail)|(simp;first|done|omega|fail))[]))
 exact C1 rfl
theorem B2V (w : World) (b : Nat) (sv : Value) (ls : List SlH) (i : Int) (hl : ls.length ≤ 8) (hs : SlAt w b sv ls) :
  Fn PR B7 50 #[.pointer (some ⟨b, 0, none⟩), .int .i64 i] w (fun u w' => u = .tuple #[.int .i64 (A3r (ls.map SlH.sp) i).1, .bool (A3r (ls.map SlH.sp) i).2] ∧ C4 [] w w') := by
 refine Fn.pure (A2d (TW.go (κ := false) (S := []) ?_))
 unfold m9
 refine D9 s0 (fun w' hw' => A8b w' b sv ls i 113 [] (fun p => (p.length : Nat)) hl (hs.ks hw'.ks) A0F fun p pv rv hrd w'' hk => A9z w'' p pv rv (SlH.rdks hk hrd)) ?_
 (have zz:=trivial;repeat((first|clear zz|with_reducible first|refine A2 ?_|refine A5 fun _=>?_|refine A4 fun _=>?_);try simp(disch:=first|omega|assumption|((repeat(first|exact A1|exact uH|apply A3|apply uT));first|done|fail)|(simp;first|done|omega|fail))[]))
 exact C1 (by rw [A70]; unfold A3r; cases G5 (ls.map SlH.sp) i <;> rfl)
theorem B4P (n : Nat) : (Builtin.zeroCells Value.nilIface.cells n).toList = (List.replicate n SlH.no).map SlH.val := by
 have hz : (Builtin.zeroCells Value.nilIface.cells n).toList.length = n := by simp [size_zeroCells, Value.cells]
 apply List.ext_getElem (by rw [hz]; simp)
 intro i h1 h2
 simp [Builtin.zeroCells, Value.cells, SlH.val, Nat.mod_one]
theorem B3c (w : World) (n : Nat) (hn : n ≤ 8) : Fn PR B7 70 #[.int .i64 (n : Nat)] w (Rn [] w (fun (x : Nat × Value) u => u = .pointer (some ⟨x.1, 0, none⟩)) fun x => E0 x.1 x.2 (List.replicate n SlH.no)) := by
 refine A7H (TW.go (κ := false) (S := []) ?_)
 unfold A3Q
 have h1 : min ((n : Nat) : Int) 8 = n := by omega
 have h2 : max 0 ((n : Nat) : Int) = n := by omega
 (have zz:=trivial;repeat((first|clear zz|with_reducible first|refine A2 ?_|refine A5 fun _=>?_|refine A4 fun _=>?_);try simp(disch:=first|omega|assumption|((repeat(first|exact A1|exact uH|apply A3|apply uT));first|done|fail)|(simp;first|done|omega|fail))[h1, h2]))
 refine A2H (by omega) (by omega) (by omega) (by omega) fun bs => ?_
 rw [Int.toNat_natCast, B4P]
 (have zz:=trivial;repeat((first|clear zz|with_reducible first|refine A2 ?_|refine A5 fun _=>?_|refine A4 fun _=>?_);try simp(disch:=first|omega|assumption|((repeat(first|exact A1|exact uH|apply A3|apply uT));first|done|fail)|(simp;first|done|omega|fail))[]))
 rename_i b
 refine y3 (r := V9 (List.replicate n SlH.no)) (Hc := []) Part.nil (fun w _ => (fun s hs => by rw [List.eq_of_mem_replicate hs]; trivial : A13 _ w)) (fun b hb => ?_) ?_
 ·have hb' : b ∈ a6 (List.replicate n SlH.no) := hb
  rw [a6, List.mem_flatMap] at hb'
  obtain ⟨s, hs, hbs⟩ := hb'
  rw [List.eq_of_mem_replicate hs] at hbs; cases hbs
 ·refine B3 (b, .slice (some ⟨bs, 0, none⟩) n n) rfl ?_
  simp only [E0, List.length_replicate, List.map_replicate]
  (repeat' constructor)
end Go.Proofs.YtjobgnabneddjaaGreat
namespace Go.Proofs.YtjobgnabneddjaaGreat
open Go
def G6 (c : CfgV) : Array Value := #[.int .i64 c.wk, .int .i64 c.sh, .int .i64 c.cp, .int .i64 c.idle, .int .i64 c.sl]
def G1 (c : CfgV) (pc ps pk tv pv now : Value) : Array Value := #[.int .i64 c.wk, .int .i64 c.sh, .int .i64 c.cp, .int .i64 c.idle, .int .i64 c.sl, pc, ps, pk, tv, pv, now]
def E5 (b : Nat) (c : CfgV) (pc ps pk tv pv now : Value) : Res := .pt b (.cells (G1 c pc ps pk tv pv now) 39)
theorem B1s (w : World) (b b1 : Nat) (c : CfgV) (pc ps pk tv pv now : Value) (hw1 : 0 ≤ c.wk ∧ c.wk ≤ 64) (hs1 : 0 ≤ c.sh ∧ c.sh ≤ 16) (hb1 : bl w b1 = some (.cells (G6 c) 23 (0, 0))) (hne : b1 ≠ b) (hw : LW false [b] w [E5 b c pc ps pk tv pv now] w) :
  Fn PR B7 67 #[.pointer (some ⟨b, 0, none⟩), .pointer (some ⟨b1, 0, none⟩)] w (Rn [b] w (fun (x : Nat × Value × Value) u => u = .tuple #[]) fun x => E5 b c (.pointer (some ⟨x.1, 0, none⟩)) ps pk tv pv now :: C2 x.1 0 x.2.1 x.2.2 (List.replicate (2 + c.wk.toNat) 0) (List.replicate c.sh.toNat (-1))) := by
 refine A5B (TW.goH (κ := false) (S := [b]) ?_ hw)
 unfold A0U
 have h0 : w.cell? ⟨b1, 0, none⟩ = some (.int .i64 c.wk) := by rw [C9 hb1]; rfl
 have h1 : w.cell? ⟨b1, 1, none⟩ = some (.int .i64 c.sh) := by rw [C9 hb1]; rfl
 obtain ⟨n, hn⟩ : ∃ n : Nat, c.wk = n := ⟨c.wk.toNat, by omega⟩
 obtain ⟨k, hk⟩ : ∃ k : Nat, c.sh = k := ⟨c.sh.toNat, by omega⟩
 rw [hn] at h0
 rw [hk] at h1
 simp only [E5, G1, hn, hk, Int.toNat_natCast]
 (have zz:=trivial;repeat((first|clear zz|with_reducible first|refine A2 ?_|refine A5 fun _=>?_|refine A4 fun _=>?_);try simp(disch:=first|omega|assumption|((repeat(first|exact A1|exact uH|apply A3|apply uT));first|done|fail)|(simp;first|done|omega|fail))[h0, h1, hne]))
 rw [show (2 + (n : Int)) = ((2 + n : Nat) : Int) by omega]
 refine W9 A6l (fun w' _ => A8P w' (2 + n) k (by omega) (by omega)) ?_
 rintro x v rfl
 simp only [C2]
 (have zz:=trivial;repeat((first|clear zz|with_reducible first|refine A2 ?_|refine A5 fun _=>?_|refine A4 fun _=>?_);try simp(disch:=first|omega|assumption|((repeat(first|exact A1|exact uH|apply A3|apply uT));first|done|fail)|(simp;first|done|omega|fail))[]))
 exact B3 x rfl (by (repeat' constructor))
theorem B1y (w : World) (b b1 : Nat) (c : CfgV) (pc ps pk tv pv now : Value) (hsl : 0 ≤ c.sl ∧ c.sl ≤ 8) (hb1 : bl w b1 = some (.cells (G6 c) 23 (0, 0))) (hne : b1 ≠ b) (hw : LW false [b] w [E5 b c pc ps pk tv pv now] w) :
  Fn PR B7 69 #[.pointer (some ⟨b, 0, none⟩), .pointer (some ⟨b1, 0, none⟩)] w (Rn [b] w (fun (x : Nat × Value × Nat) u => u = .tuple #[]) fun x => E5 b c pc (.pointer (some ⟨x.1, 0, none⟩)) (.pointer (some ⟨x.2.2, 0, none⟩)) tv pv now :: K5 x.2.2 (List.replicate c.sl.toNat (0, 0)) :: E0 x.1 x.2.1 (List.replicate c.sl.toNat SlH.no)) := by
 refine A43 (TW.goH (κ := false) (S := [b]) ?_ hw)
 unfold A0b
 have h0 : w.cell? ⟨b1, 4, none⟩ = some (.int .i64 c.sl) := by rw [C9 hb1]; rfl
 obtain ⟨n, hn⟩ : ∃ n : Nat, c.sl = n := ⟨c.sl.toNat, by omega⟩
 rw [hn] at h0
 simp only [E5, G1, hn, Int.toNat_natCast]
 (have zz:=trivial;repeat((first|clear zz|with_reducible first|refine A2 ?_|refine A5 fun _=>?_|refine A4 fun _=>?_);try simp(disch:=first|omega|assumption|((repeat(first|exact A1|exact uH|apply A3|apply uT));first|done|fail)|(simp;first|done|omega|fail))[h0, hne]))
 refine W9 A6V (fun w' _ => B3c w' n (by omega)) ?_
 rintro x v rfl
 simp only [E0]
 (have zz:=trivial;repeat((first|clear zz|with_reducible first|refine A2 ?_|refine A5 fun _=>?_|refine A4 fun _=>?_);try simp(disch:=first|omega|assumption|((repeat(first|exact A1|exact uH|apply A3|apply uT));first|done|fail)|(simp;first|done|omega|fail))[h0, hne]))
 refine W9 A6d (fun w' _ => B3a w' n (by omega)) ?_
 rintro bk v rfl
 (have zz:=trivial;repeat((first|clear zz|with_reducible first|refine A2 ?_|refine A5 fun _=>?_|refine A4 fun _=>?_);try simp(disch:=first|omega|assumption|((repeat(first|exact A1|exact uH|apply A3|apply uT));first|done|fail)|(simp;first|done|omega|fail))[]))
 refine B3 (x.1, x.2, bk) rfl ?_
 simp only [List.length_replicate, List.map_replicate]
 (repeat' constructor)
def A3U (l : List Nat) : List Value := l.map fun n : Nat => .int .i64 (n : Int)
theorem B13 (w : World) (b b1 : Nat) (c : CfgV) (pc ps pk now : Value) (hs1 : 1 ≤ c.sh ∧ c.sh ≤ 16) (hc1 : 1 ≤ c.cp ∧ c.cp ≤ 64) (hb1 : bl w b1 = some (.cells (G6 c) 23 (0, 0))) (hne : b1 ≠ b) (hw : LW false [b] w [E5 b c pc ps pk (.slice none 0 0) (.slice none 0 0) now] w) :
  Fn PR B7 72 #[.pointer (some ⟨b, 0, none⟩), .pointer (some ⟨b1, 0, none⟩)] w (Rn [b] w (fun (x : Value × Value × List (Value × List EnV)) u => u = .tuple #[] ∧ x.2.2.map (·.2) = List.replicate c.sh.toNat (g0 c.cp.toNat)) fun x => [E5 b c pc ps pk x.1 x.2.1 now, .own 84 1 x.1 x.2.2.length (x.2.2.map (·.1)), .own 3 1 x.2.1 x.2.2.length (A3U (List.replicate c.sh.toNat 0)), u0 x.2.2]) := by
 refine A49 (TW.goH (κ := false) (S := [b]) ?_ hw)
 unfold A0e
 have h0 : w.cell? ⟨b1, 1, none⟩ = some (.int .i64 c.sh) := by rw [C9 hb1]; rfl
 have h1 : w.cell? ⟨b1, 2, none⟩ = some (.int .i64 c.cp) := by rw [C9 hb1]; rfl
 obtain ⟨n, hn⟩ : ∃ n : Nat, c.sh = n := ⟨c.sh.toNat, by omega⟩
 obtain ⟨k, hk⟩ : ∃ k : Nat, c.cp = k := ⟨c.cp.toNat, by omega⟩
 rw [hn] at h0
 rw [hk] at h1
 simp only [E5, G1, hn, hk, Int.toNat_natCast]
 (have zz:=trivial;repeat((first|clear zz|with_reducible first|refine A2 ?_|refine A5 fun _=>?_|refine A4 fun _=>?_);try simp(disch:=first|omega|assumption|((repeat(first|exact A1|exact uH|apply A3|apply uT));first|done|fail)|(simp;first|done|omega|fail))[h0, h1, hne]))
 refine A0W 84 1 ?_
 refine A0W 3 1 ?_
 refine B12 ?_
 refine Sels.tw (rs := [.pt b (.cells #[.int .i64 c.wk, .int .i64 (n : Nat), .int .i64 (k : Nat), .int .i64 c.idle, .int .i64 c.sl, pc, ps, pk, .slice none 0 0, .slice none 0 0, now] 39), .own 84 1 (.slice none 0 0) 0 [], .own 3 1 (.slice none 0 0) 0 [], u0 []]) (by (repeat' constructor)) ?_
 refine A5M (α := Option Addr × Nat × Option Addr × Nat × List (Value × List EnV)) n (fun i x => [.pt b (.cells #[.int .i64 c.wk, .int .i64 (n : Nat), .int .i64 (k : Nat), .int .i64 c.idle, .int .i64 c.sl, pc, ps, pk, .slice x.1 i x.2.1, .slice x.2.2.1 i x.2.2.2.1, now] 39), .own 84 1 (.slice x.1 i x.2.1) i (x.2.2.2.2.map (·.1)), .own 3 1 (.slice x.2.2.1 i x.2.2.2.1) i (A3U (List.replicate i 0)), u0 x.2.2.2.2]) (fun i x => x.2.2.2.2.length = i ∧ x.2.2.2.2.map (·.2) = List.replicate i (g0 k)) (none, 0, none, 0, []) ⟨rfl, rfl⟩ ?_
 ·rintro i ⟨ta, tc, pa, qc, ts⟩ hi ⟨hlen, hmap⟩ L hL
  simp only at hlen hmap ⊢
  by_cases hlt : i < n
  ·(have zz:=trivial;repeat((first|clear zz|with_reducible first|refine A2 ?_|refine A5 fun _=>?_|refine A4 fun _=>?_);try simp(disch:=first|omega|assumption|((repeat(first|exact A1|exact uH|apply A3|apply uT));first|done|fail)|(simp;first|done|omega|fail))[h1, hne, hlt]))
   refine W9 A6a (fun w' _ => A8K w' k (by omega)) ?_
   intro y u hu
   subst hu
   refine u9 (e := 218) (k := 4) (v := u) (q := (g0 k).length) (xs := (g0 k).flatMap A4J) (by (repeat constructor)) fun ua uc hu => ?_
   subst hu
   (have zz:=trivial;repeat((first|clear zz|with_reducible first|refine A2 ?_|refine A5 fun _=>?_|refine A4 fun _=>?_|refine p4 fun _=>?_|refine p9 (hK:=fun _=>?_)|refine q7 (hK:=fun _=>?_)|refine p5 (hK:=fun _=>?_)|refine q5 (hK:=fun _=>?_)|refine q6 (hK:=fun _=>?_));try simp(disch:=first|omega|assumption|((repeat(first|exact A1|exact uH|apply A3|apply uT));first|done|fail)|(simp;first|done|omega|fail))[h1, hne, hlt]))
   refine A2M (e := 84) (k := 1) (q := i) (r := 1) (xs := ts.map (·.1)) (news := [.slice ua (g0 k).length uc]) (by (repeat constructor)) (Z3.own (by (repeat constructor))) (by decide) (by simp [hlen]) (by simp) (by simp only [maxLen]; omega) (by omega) fun a' c' => ?_
   (have zz:=trivial;repeat((first|clear zz|with_reducible first|refine A2 ?_|refine A5 fun _=>?_|refine A4 fun _=>?_|refine p4 fun _=>?_|refine p9 (hK:=fun _=>?_)|refine q7 (hK:=fun _=>?_)|refine p5 (hK:=fun _=>?_)|refine q5 (hK:=fun _=>?_)|refine q6 (hK:=fun _=>?_));try simp(disch:=first|omega|assumption|((repeat(first|exact A1|exact uH|apply A3|apply uT));first|done|fail)|(simp;first|done|omega|fail))[h1, hne, hlt]))
   refine A2M (e := 3) (k := 1) (q := i) (r := 1) (xs := A3U (List.replicate i 0)) (news := [.int .i64 0]) (by (repeat constructor)) (Z3.own (by (repeat constructor))) (by decide) (by simp) (by simp) (by simp only [maxLen]; omega) (by omega) fun a'' c'' => ?_
   (have zz:=trivial;repeat((first|clear zz|with_reducible first|refine A2 ?_|refine A5 fun _=>?_|refine A4 fun _=>?_);try simp(disch:=first|omega|assumption|((repeat(first|exact A1|exact uH|apply A3|apply uT));first|done|fail)|(simp;first|done|omega|fail))[]))
   refine B0l (r := .slice ua (g0 k).length uc) (l := g0 k) (ts := ts) (by (repeat' constructor)) ?_
   have h := hL hlt (a', c', a'', c'', ts ++ [(.slice ua (g0 k).length uc, g0 k)]) ⟨by simp [hlen], by rw [List.map_append, hmap, List.replicate_succ']; rfl⟩
   have e : A3U (List.replicate (i + 1) 0) = A3U (List.replicate i 0) ++ [.int .i64 0] := by rw [List.replicate_succ', A3U, List.map_append]; rfl
   simp only [List.map_append, List.map_cons, List.map_nil, e] at h
   exact Sels.tw (by (repeat' constructor)) h
  ·obtain rfl : i = n := by omega
   (have zz:=trivial;repeat((first|clear zz|with_reducible first|refine A2 ?_|refine A5 fun _=>?_|refine A4 fun _=>?_);try simp(disch:=first|omega|assumption|((repeat(first|exact A1|exact uH|apply A3|apply uT));first|done|fail)|(simp;first|done|omega|fail))[]))
   refine B3 (.slice ta i tc, .slice pa i qc, ts) ⟨rfl, hmap⟩ ?_
   simp only [hlen]
   (repeat' constructor)
end Go.Proofs.YtjobgnabneddjaaGreat
namespace Go.Proofs.YtjobgnabneddjaaGreat
open Go
structure WoH where
 b : Nat
 bc : Nat
 bs : Nat
 bk : Nat
 cn : Int
 cv : Value
 ov : Value
 sv : Value
 tv : Value
 pv : Value
 c : CfgV
 cells : List Int
 own : List Int
 ls : List SlH
 keep : List (Int × Int)
 ts : List (Value × List EnV)
 pl : List Nat
 now : Int
def C3 (m : WoH) : List Res := [E5 m.b m.c (.pointer (some ⟨m.bc, 0, none⟩)) (.pointer (some ⟨m.bs, 0, none⟩)) (.pointer (some ⟨m.bk, 0, none⟩)) m.tv m.pv (.int .i64 m.now),
 .pt m.bc (.cells #[.int .i64 m.cn, m.cv, m.ov] 141), .own 3 1 m.cv m.cells.length (F1 m.cells), .own 3 1 m.ov m.own.length (F1 m.own),
 .pt m.bs (.cells #[m.sv] 231), .own 266 1 m.sv m.ls.length (m.ls.map SlH.val), V9 m.ls, K5 m.bk m.keep,
 .own 84 1 m.tv m.ts.length (m.ts.map (·.1)), .own 3 1 m.pv m.pl.length (A3U m.pl)]
def WoH.ws (m : WoH) : WS := ⟨m.c, m.cells, m.own, m.ls.map SlH.sp, m.keep, m.ts.map (·.2), m.pl, m.now⟩
def P0 (c : CfgV) : WS := ⟨c, List.replicate (2 + c.wk.toNat) 0, List.replicate c.sh.toNat (-1), List.replicate c.sl.toNat .no, List.replicate c.sl.toNat (0, 0), List.replicate c.sh.toNat (g0 c.cp.toNat), List.replicate c.sh.toNat 0, 0⟩
abbrev B26 := (Nat × Value × Value) × (Nat × Value × Nat) × (Value × Value × List (Value × List EnV))
def M1 : Value := .pointer none
def K6 : Value := .slice none 0 0
def A3g (b : Nat) (c : CfgV) : Nat → B26 → List Res
 | 0, x => [E5 b c M1 M1 M1 K6 K6 (.int .i64 0)]
 | 1, x => E5 b c (.pointer (some ⟨x.1.1, 0, none⟩)) M1 M1 K6 K6 (.int .i64 0) :: C2 x.1.1 0 x.1.2.1 x.1.2.2 (List.replicate (2 + c.wk.toNat) 0) (List.replicate c.sh.toNat (-1))
 | 2, x => E5 b c (.pointer (some ⟨x.1.1, 0, none⟩)) (.pointer (some ⟨x.2.1.1, 0, none⟩)) (.pointer (some ⟨x.2.1.2.2, 0, none⟩)) K6 K6 (.int .i64 0) :: (C2 x.1.1 0 x.1.2.1 x.1.2.2 (List.replicate (2 + c.wk.toNat) 0) (List.replicate c.sh.toNat (-1)) ++ K5 x.2.1.2.2 (List.replicate c.sl.toNat (0, 0)) :: E0 x.2.1.1 x.2.1.2.1 (List.replicate c.sl.toNat SlH.no))
 | _, x => E5 b c (.pointer (some ⟨x.1.1, 0, none⟩)) (.pointer (some ⟨x.2.1.1, 0, none⟩)) (.pointer (some ⟨x.2.1.2.2, 0, none⟩)) x.2.2.1 x.2.2.2.1 (.int .i64 0) :: (C2 x.1.1 0 x.1.2.1 x.1.2.2 (List.replicate (2 + c.wk.toNat) 0) (List.replicate c.sh.toNat (-1)) ++ K5 x.2.1.2.2 (List.replicate c.sl.toNat (0, 0)) :: (E0 x.2.1.1 x.2.1.2.1 (List.replicate c.sl.toNat SlH.no) ++ [.own 84 1 x.2.2.1 x.2.2.2.2.length (x.2.2.2.2.map (·.1)), .own 3 1 x.2.2.2.1 x.2.2.2.2.length (A3U (List.replicate c.sh.toNat 0)), u0 x.2.2.2.2]))
theorem B1j (w : World) (b1 : Nat) (c : CfgV) (pv : Value) (hok : T3 c = true) (hb1 : bl w b1 = some (.cells (G6 c) 23 (0, 0)))
  (hv : F7 w pv 3 [.func (.func 67) #[] #[.pointer (some ⟨b1, 0, none⟩)], .func (.func 69) #[] #[.pointer (some ⟨b1, 0, none⟩)], .func (.func 72) #[] #[.pointer (some ⟨b1, 0, none⟩)]]) :
  Fn PR B7 66 #[c.val, pv] w (Rn [] w (fun (y : WoH) u => u = .pointer (some ⟨y.b, 0, none⟩) ∧ y.c = c ∧ y.ws = P0 c) fun y => C3 y ++ [u0 y.ts]) := by
 refine A6g (TW.go (κ := false) (S := []) ?_)
 unfold A2V
 have hb : (1 ≤ c.wk ∧ c.wk ≤ 64) ∧ (1 ≤ c.sh ∧ c.sh ≤ 16) ∧ (1 ≤ c.cp ∧ c.cp ≤ 64) ∧ (2 ≤ c.sl ∧ c.sl ≤ 8) := by
  simp [T3, T7] at hok; omega
 obtain ⟨a, cap, rfl, hr⟩ := hv.form
 obtain ⟨g, o, rfl, hrow⟩ := hr (by omega)
 simp only [CfgV.val]
 (have zz:=trivial;repeat((first|clear zz|with_reducible first|refine A2 ?_|refine A5 fun _=>?_|refine A4 fun _=>?_);try simp(disch:=first|omega|assumption|((repeat(first|exact A1|exact uH|apply A3|apply uT));first|done|fail)|(simp;first|done|omega|fail))[]))
 rename_i b2 b
 refine A5M (α := B26) 3 (fun i x => A3g b c i x ++ [.pt b2 (.cells (G6 c) 23)]) (fun i x => i = 3 → x.2.2.2.2.map (·.2) = List.replicate c.sh.toNat (g0 c.cp.toNat)) ((0, M1, M1), (0, M1, 0), (M1, M1, [])) (by omega) ?_ (by simp [A3g, E5, G1, G6, M1, K6])
 have r0 : w.cell? ⟨g, o, none⟩ = some (.func (.func 67) #[] #[.pointer (some ⟨b1, 0, none⟩)]) := hrow 0 (by simp)
 have r1 : w.cell? ⟨g, o + 1, none⟩ = some (.func (.func 69) #[] #[.pointer (some ⟨b1, 0, none⟩)]) := hrow 1 (by simp)
 have r2 : w.cell? ⟨g, o + 2, none⟩ = some (.func (.func 72) #[] #[.pointer (some ⟨b1, 0, none⟩)]) := hrow 2 (by simp)
 have hne : ∀ {w' : World} {A : List Res}, LW false [] w A w' → ∀ pc ps pk tv pv now, E5 b c pc ps pk tv pv now ∈ A → b1 ≠ b := fun {w' A} hw' pc ps pk tv pv now hm e => by
  have := (hw'.own _ hm b (by simp [E5, Res.foot])).1
  have h1 := G4 hb1
  rcases this with h | h
  ·cases h
  ·omega
 have hbb : ∀ w', KS false [] w w' → bl w' b1 = some (.cells (G6 c) 23 (0, 0)) := fun w' hk => hk.2.1 _ _ (by simp) rfl hb1
 rintro i ⟨⟨bc, cv, ov⟩, ⟨bs, sv, bk⟩, ⟨tv, pv', ts⟩⟩ hi hφ L hL
 have hi4 : i = 0 ∨ i = 1 ∨ i = 2 ∨ i = 3 := by omega
 rcases hi4 with rfl | rfl | rfl | rfl
 ·simp only [A3g, List.cons_append, List.nil_append, C2] at hL ⊢
  (have zz:=trivial;repeat((first|clear zz|with_reducible first|refine A2 ?_|refine A5 fun _=>?_|refine A4 fun _=>?_);try simp(disch:=first|omega|assumption|((repeat(first|exact A1|exact uH|apply A3|apply uT));first|done|fail)|(simp;first|done|omega|fail))[r0]))
  refine C0 (Hc := [E5 b c M1 M1 M1 K6 K6 (.int .i64 0)]) A4D (fun w' hw' hs => B1s w' b b1 c _ _ _ _ _ _ (by omega) (by omega) (hbb w' hw'.ks) (hne hw' _ _ _ _ _ _ (List.mem_cons_self ..)) hs) (by (repeat' constructor)) ?_
  rintro x v rfl
  simp only [C2, List.cons_append, List.nil_append]
  (have zz:=trivial;repeat((first|clear zz|with_reducible first|refine A2 ?_|refine A5 fun _=>?_|refine A4 fun _=>?_);try simp(disch:=first|omega|assumption|((repeat(first|exact A1|exact uH|apply A3|apply uT));first|done|fail)|(simp;first|done|omega|fail))[]))
  have h := hL (by omega) (x, (0, M1, 0), (M1, M1, [])) (by omega)
  simp only [List.length_replicate, List.map_replicate] at h ⊢
  exact Sels.tw (by (repeat' constructor)) h
 ·simp only [A3g, List.cons_append, List.nil_append, C2, E0] at hL ⊢
  (have zz:=trivial;repeat((first|clear zz|with_reducible first|refine A2 ?_|refine A5 fun _=>?_|refine A4 fun _=>?_);try simp(disch:=first|omega|assumption|((repeat(first|exact A1|exact uH|apply A3|apply uT));first|done|fail)|(simp;first|done|omega|fail))[r1]))
  refine C0 (Hc := [E5 b c (.pointer (some ⟨bc, 0, none⟩)) M1 M1 K6 K6 (.int .i64 0)]) A4P (fun w' hw' hs => B1y w' b b1 c _ _ _ _ _ _ (by omega) (hbb w' hw'.ks) (hne hw' _ _ _ _ _ _ (List.mem_cons_self ..)) hs) (by (repeat' constructor)) ?_
  rintro x v rfl
  simp only [E0, List.cons_append, List.nil_append]
  (have zz:=trivial;repeat((first|clear zz|with_reducible first|refine A2 ?_|refine A5 fun _=>?_|refine A4 fun _=>?_);try simp(disch:=first|omega|assumption|((repeat(first|exact A1|exact uH|apply A3|apply uT));first|done|fail)|(simp;first|done|omega|fail))[]))
  have h := hL (by omega) ((bc, cv, ov), x, (M1, M1, [])) (by omega)
  simp only [List.length_replicate, List.map_replicate] at h ⊢
  exact Sels.tw (by (repeat' constructor)) h
 ·simp only [A3g, List.cons_append, List.nil_append, C2, E0] at hL ⊢
  (have zz:=trivial;repeat((first|clear zz|with_reducible first|refine A2 ?_|refine A5 fun _=>?_|refine A4 fun _=>?_);try simp(disch:=first|omega|assumption|((repeat(first|exact A1|exact uH|apply A3|apply uT));first|done|fail)|(simp;first|done|omega|fail))[r2]))
  refine C0 (Hc := [E5 b c (.pointer (some ⟨bc, 0, none⟩)) (.pointer (some ⟨bs, 0, none⟩)) (.pointer (some ⟨bk, 0, none⟩)) K6 K6 (.int .i64 0)]) A4T (fun w' hw' hs => B13 w' b b1 c _ _ _ _ (by omega) (by omega) (hbb w' hw'.ks) (hne hw' _ _ _ _ _ _ (List.mem_cons_self ..)) hs) (by (repeat' constructor)) ?_
  rintro x v ⟨rfl, hx⟩
  simp only [List.cons_append, List.nil_append]
  (have zz:=trivial;repeat((first|clear zz|with_reducible first|refine A2 ?_|refine A5 fun _=>?_|refine A4 fun _=>?_);try simp(disch:=first|omega|assumption|((repeat(first|exact A1|exact uH|apply A3|apply uT));first|done|fail)|(simp;first|done|omega|fail))[]))
  have h := hL (by omega) ((bc, cv, ov), (bs, sv, bk), x) (fun _ => hx)
  simp only [List.length_replicate, List.map_replicate] at h ⊢
  exact Sels.tw (by (repeat' constructor)) h
 ·have ht := hφ rfl
  simp only [A3g, List.cons_append, List.nil_append, C2, E0] at ht ⊢
  have hlen : ts.length = c.sh.toNat := by
   have := congrArg List.length ht
   simpa using this
  (have zz:=trivial;repeat((first|clear zz|with_reducible first|refine A2 ?_|refine A5 fun _=>?_|refine A4 fun _=>?_);try simp(disch:=first|omega|assumption|((repeat(first|exact A1|exact uH|apply A3|apply uT));first|done|fail)|(simp;first|done|omega|fail))[]))
  refine B3 ⟨b, bc, bs, bk, 0, cv, ov, sv, tv, pv', c, List.replicate (2 + c.wk.toNat) 0, List.replicate c.sh.toNat (-1), List.replicate c.sl.toNat SlH.no, List.replicate c.sl.toNat (0, 0), ts, List.replicate c.sh.toNat 0, 0⟩ ⟨rfl, rfl, by simp [WoH.ws, P0, ht, SlH.sp]⟩ ?_
  simp only [C3, List.cons_append, List.nil_append, List.length_replicate, List.map_replicate, hlen]
  (repeat' constructor)
end Go.Proofs.YtjobgnabneddjaaGreat
namespace Go.Proofs.YtjobgnabneddjaaGreat
open Go
theorem A8y (w : World) (c : CfgV) : Fn PR B7 16 #[c.val] w (Rn [] w (fun (y : WoH) u => if T3 c then u = .tuple #[.pointer (some ⟨y.b, 0, none⟩), .int .i64 0] ∧ y.c = c ∧ y.ws = P0 c else u = .tuple #[.pointer none, .int .i64 1]) fun y => if T3 c then C3 y ++ [u0 y.ts] else []) := by
 refine A65 (TW.go (κ := false) (S := []) ?_)
 unfold A3F
 simp only [CfgV.val]
 (have zz:=trivial;repeat((first|clear zz|with_reducible first|refine A2 ?_|refine A5 fun _=>?_|refine A4 fun _=>?_);try simp(disch:=first|omega|assumption|((repeat(first|exact A1|exact uH|apply A3|apply uT));first|done|fail)|(simp;first|done|omega|fail))[]))
 rename_i b1
 refine D9 A40 (fun w' _ => B0w w' c) ?_
 cases hok : T3 c with
 | false =>
  (have zz:=trivial;repeat((first|clear zz|with_reducible first|refine A2 ?_|refine A5 fun _=>?_|refine A4 fun _=>?_);try simp(disch:=first|omega|assumption|((repeat(first|exact A1|exact uH|apply A3|apply uT));first|done|fail)|(simp;first|done|omega|fail))[]))
  exact B3 ⟨0, 0, 0, 0, 0, M1, M1, M1, M1, M1, c, [], [], [], [], [], [], 0⟩ (by simp) Sels.nil
 | true =>
  (have zz:=trivial;repeat((first|clear zz|with_reducible first|refine A2 ?_|refine A5 fun _=>?_|refine A4 fun _=>?_|refine p4 fun _=>?_|refine p9 (hK:=fun _=>?_)|refine q7 (hK:=fun _=>?_)|refine p5 (hK:=fun _=>?_)|refine q5 (hK:=fun _=>?_)|refine q6 (hK:=fun _=>?_));try simp(disch:=first|omega|assumption|((repeat(first|exact A1|exact uH|apply A3|apply uT));first|done|fail)|(simp;first|done|omega|fail))[]))
  rename_i g
  refine W9 A5W (fun w' hw' => B1j w' b1 c _ hok (hw'.pt (by (repeat constructor))) (Z3.own (e := 124) (k := 1) (by (repeat constructor)) w' hw')) ?_
  rintro y v ⟨rfl, hy⟩
  (have zz:=trivial;repeat((first|clear zz|with_reducible first|refine A2 ?_|refine A5 fun _=>?_|refine A4 fun _=>?_);try simp(disch:=first|omega|assumption|((repeat(first|exact A1|exact uH|apply A3|apply uT));first|done|fail)|(simp;first|done|omega|fail))[]))
  refine B3 y ⟨rfl, hy⟩ ?_
  simp only [C3, List.cons_append, List.nil_append]
  (repeat' constructor)
theorem A8U (w : World) (b : Nat) (c : CfgV) (pc ps pk tv pv now : Value) (who : Int) (hwk : c.wk ≤ 64) (hb : bl w b = some (.cells (G1 c pc ps pk tv pv now) 39 (0, 0))) :
  Fn PR B7 57 #[.pointer (some ⟨b, 0, none⟩), .int .i64 who] w (fun u w' => u = .int .i64 (x7 c who) ∧ C4 [] w w') := by
 refine Fn.pure (A22 (TW.go (κ := false) (S := []) ?_))
 unfold r6
 have h0 : w.cell? ⟨b, 0, none⟩ = some (.int .i64 c.wk) := by rw [C9 hb]; rfl
 unfold x7
 by_cases c1 : who < 1
 ·rw [if_pos (Or.inl c1)]
  (have zz:=trivial;repeat((first|clear zz|with_reducible first|refine A2 ?_|refine A5 fun _=>?_|refine A4 fun _=>?_);try simp(disch:=first|omega|assumption|((repeat(first|exact A1|exact uH|apply A3|apply uT));first|done|fail)|(simp;first|done|omega|fail))[c1]))
  exact C1 rfl
 by_cases c2 : c.wk < who
 ·rw [if_pos (Or.inr c2)]
  (have zz:=trivial;repeat((first|clear zz|with_reducible first|refine A2 ?_|refine A5 fun _=>?_|refine A4 fun _=>?_);try simp(disch:=first|omega|assumption|((repeat(first|exact A1|exact uH|apply A3|apply uT));first|done|fail)|(simp;first|done|omega|fail))[c1, c2, h0]))
  exact C1 rfl
 rw [if_neg (by omega)]
 (have zz:=trivial;repeat((first|clear zz|with_reducible first|refine A2 ?_|refine A5 fun _=>?_|refine A4 fun _=>?_);try simp(disch:=first|omega|assumption|((repeat(first|exact A1|exact uH|apply A3|apply uT));first|done|fail)|(simp;first|done|omega|fail))[c1, c2, h0]))
 exact C1 (by congr 1; omega)
end Go.Proofs.YtjobgnabneddjaaGreat
namespace Go.Proofs.YtjobgnabneddjaaGreat
open Go
def D4 (b : JB) (rest : List Value) : Array Value := (.int .i64 b.who :: .int .i64 b.st :: .int .i64 b.ans.err :: .int .i64 b.ans.bk :: .bool b.ans.made :: .int .i64 b.ans.count :: rest).toArray
def S8 (t : w7) : Value := .agg #[.bool t.1, .bool t.2.1, .bool t.2.2]
theorem A44 (w : World) (b : Nat) (T : TypeId) (j : JB) (rest : List Value) (e : Int) (hw : LW false [b] w [.pt b (.cells (D4 j rest) T)] w) :
  Fn PR B7 320 #[.pointer (some ⟨b, 0, none⟩), .int .i64 e] w (Rn [b] w (fun (_ : Unit) u => u = S8 (true, true, false)) fun _ => [.pt b (.cells (D4 (j.refuse e) rest) T)]) := by
 refine A0n (TW.goH (κ := false) (S := [b]) ?_ hw)
 unfold Z1
 simp only [D4, JB.refuse]
 (have zz:=trivial;repeat((first|clear zz|with_reducible first|refine A2 ?_|refine A5 fun _=>?_|refine A4 fun _=>?_);try simp(disch:=first|omega|assumption|((repeat(first|exact A1|exact uH|apply A3|apply uT));first|done|fail)|(simp;first|done|omega|fail))[]))
 exact B3 () rfl (by (repeat' constructor))
theorem A4y (w : World) (b : Nat) (T : TypeId) (j : JB) (rest : List Value) (hw : LW false [b] w [.pt b (.cells (D4 j rest) T)] w) :
  Fn PR B7 323 #[.pointer (some ⟨b, 0, none⟩)] w (Rn [b] w (fun (_ : Unit) u => u = S8 (false, true, false)) fun _ => [.pt b (.cells (D4 { j with st := -1 } rest) T)]) := by
 refine A02 (TW.goH (κ := false) (S := [b]) ?_ hw)
 unfold Y4
 simp only [D4]
 (have zz:=trivial;repeat((first|clear zz|with_reducible first|refine A2 ?_|refine A5 fun _=>?_|refine A4 fun _=>?_);try simp(disch:=first|omega|assumption|((repeat(first|exact A1|exact uH|apply A3|apply uT));first|done|fail)|(simp;first|done|omega|fail))[]))
 exact B3 () rfl (by (repeat' constructor))
end Go.Proofs.YtjobgnabneddjaaGreat
namespace Go.Proofs.YtjobgnabneddjaaGreat
open Go
def E9 (b : Nat) (j : JU) (pv qv : Value) : Res := .pt b (.cells (D4 j.b [pv, qv, .int .i64 j.slot, .int .i64 j.old]) 163)
def G7 (j : JU) (qv : Value) : Res := .own 3 1 qv j.pins.length (F1 j.pins)
structure WsOk (x : WS) : Prop where
 wk : 1 ≤ x.c.wk ∧ x.c.wk ≤ 64
 cells : x.cells.length = 2 + x.c.wk.toNat
 own : x.own.length ≤ 16
 sl : x.sl.length ≤ 8
 keep : x.keep.length ≤ 8
def WoH.sk (m : WoH) (ls : List SlH) (keep : List (Int × Int)) : WoH := { m with ls := ls, keep := keep }
theorem B2g (w : World) (b : Nat) (j : JU) (pv qv : Value) (m : WoH) (hx : WsOk m.ws) (hp : j.pins.length ≤ 1000) (hst : -1 ≤ j.b.st ∧ j.b.st ≤ 1000) (hw : LW false (B1 (E9 b j pv qv :: G7 j qv :: C3 m)) w (E9 b j pv qv :: G7 j qv :: C3 m) w) :
  Fn PR B7 321 #[.pointer (some ⟨b, 0, none⟩), .pointer (some ⟨m.b, 0, none⟩)] w (Rn (B1 (E9 b j pv qv :: G7 j qv :: C3 m)) w (fun (y : List SlH × List (Int × Int)) u => u = S8 (H4 j m.ws).2.2 ∧ (m.sk y.1 y.2).ws = (H4 j m.ws).2.1) fun y => E9 b (H4 j m.ws).1 pv qv :: G7 j qv :: C3 (m.sk y.1 y.2)) := by
 refine A0p (TW.goH (κ := false) ?_ hw)
 unfold Y9
 obtain ⟨h1, h2, h3, h4, h5⟩ := hx
 simp only [WoH.ws, List.length_map] at h1 h2 h3 h4 h5
 have hkp : m.ws.keep = m.keep := rfl
 have hRipe := fun (w' : World) => B2N w' m.bk m.keep qv j.pins h5
 by_cases c1 : 0 ≤ H9 m.keep j.pins
 ·have e : H4 j m.ws = (j, { m.ws with sl := L8 m.ws.sl (H9 m.keep j.pins) .no, keep := A2C m.keep (H9 m.keep j.pins) }, false, false, false) := if_pos c1
  rw [e]
  generalize H9 m.keep j.pins = r at *
  simp only [C3, E9, D4, E5, G1, WoH.sk]
  (have zz:=trivial;repeat((first|clear zz|with_reducible first|refine A2 ?_|refine A5 fun _=>?_|refine A4 fun _=>?_);try simp(disch:=first|omega|assumption|((repeat(first|exact A1|exact uH|apply A3|apply uT));first|done|fail)|(simp;first|done|omega|fail))[]))
  refine D9 S4 (fun w' hw' => hRipe w' (U2.own hw' (by (repeat constructor))) (Z3.own (e := 3) (k := 1) (by unfold G7; (repeat constructor)) w' hw') (by omega)) ?_
  (have zz:=trivial;repeat((first|clear zz|with_reducible first|refine A2 ?_|refine A5 fun _=>?_|refine A4 fun _=>?_);try simp(disch:=first|omega|assumption|((repeat(first|exact A1|exact uH|apply A3|apply uT));first|done|fail)|(simp;first|done|omega|fail))[c1]))
  refine C0 (Hc := E0 m.bs m.sv m.ls) A1H (fun w' _ hs => B05 w' m.bs m.sv m.ls r h4 hs) (by unfold E0; (repeat' constructor)) ?_
  intro _ v hv
  simp only [E0, List.cons_append, List.nil_append]
  (have zz:=trivial;repeat((first|clear zz|with_reducible first|refine A2 ?_|refine A5 fun _=>?_|refine A4 fun _=>?_);try simp(disch:=first|omega|assumption|((repeat(first|exact A1|exact uH|apply A3|apply uT));first|done|fail)|(simp;first|done|omega|fail))[]))
  refine C0 (Hc := [K5 m.bk m.keep]) A04 (fun w' _ hs => B2q w' m.bk m.keep r h5 hs) (by (repeat' constructor)) ?_
  intro _ v2 hv2
  simp only [List.cons_append, List.nil_append]
  (have zz:=trivial;repeat((first|clear zz|with_reducible first|refine A2 ?_|refine A5 fun _=>?_|refine A4 fun _=>?_);try simp(disch:=first|omega|assumption|((repeat(first|exact A1|exact uH|apply A3|apply uT));first|done|fail)|(simp;first|done|omega|fail))[]))
  exact B3 (M5 m.ls r .no, A2C m.keep r) ⟨rfl, by simp only [WoH.ws, A5V]; rfl⟩ (by (repeat' constructor))
 have hrneg : H9 m.keep j.pins < 0 := by omega
 by_cases c2 : D6 m.keep < 0
 ·have e : H4 j m.ws = ({ j with b := j.b.refuse 13, slot := D6 m.keep }, m.ws, true, true, false) := by unfold H4; rw [if_neg (by rw [hkp]; exact c1), if_pos (by rw [hkp]; exact c2)]; rfl
  rw [e]
  have e2 : F9 m.keep = m.keep := by unfold F9; rw [if_pos c2]
  generalize H9 m.keep j.pins = r at *
  obtain ⟨t, ht⟩ : ∃ t, t = D6 m.keep := ⟨_, rfl⟩
  rw [← ht] at c2
  simp only [C3, E9, D4, E5, G1, WoH.sk, ← ht]
  (have zz:=trivial;repeat((first|clear zz|with_reducible first|refine A2 ?_|refine A5 fun _=>?_|refine A4 fun _=>?_);try simp(disch:=first|omega|assumption|((repeat(first|exact A1|exact uH|apply A3|apply uT));first|done|fail)|(simp;first|done|omega|fail))[]))
  refine D9 S4 (fun w' hw' => hRipe w' (U2.own hw' (by (repeat constructor))) (Z3.own (e := 3) (k := 1) (by unfold G7; (repeat constructor)) w' hw') (by omega)) ?_
  (have zz:=trivial;repeat((first|clear zz|with_reducible first|refine A2 ?_|refine A5 fun _=>?_|refine A4 fun _=>?_);try simp(disch:=first|omega|assumption|((repeat(first|exact A1|exact uH|apply A3|apply uT));first|done|fail)|(simp;first|done|omega|fail))[c1]))
  refine C0 (Hc := [K5 m.bk m.keep]) d5 (fun w' _ hs => A6z w' m.bk m.keep h5 hs) (by (repeat' constructor)) ?_
  rintro _ v rfl
  rw [e2, ← ht]
  simp only [List.cons_append, List.nil_append]
  (have zz:=trivial;repeat((first|clear zz|with_reducible first|refine A2 ?_|refine A5 fun _=>?_|refine A4 fun _=>?_);try simp(disch:=first|omega|assumption|((repeat(first|exact A1|exact uH|apply A3|apply uT));first|done|fail)|(simp;first|done|omega|fail))[c2]))
  refine C0 (Hc := [.pt b (.cells (D4 j.b [pv, qv, .int .i64 t, .int .i64 j.old]) 163)]) W6 (fun w' _ hs => A44 w' b _ j.b _ 13 hs) (by unfold D4; (repeat' constructor)) ?_
  rintro _ v rfl
  simp only [List.cons_append, List.nil_append, S8, D4]
  (have zz:=trivial;repeat((first|clear zz|with_reducible first|refine A2 ?_|refine A5 fun _=>?_|refine A4 fun _=>?_);try simp(disch:=first|omega|assumption|((repeat(first|exact A1|exact uH|apply A3|apply uT));first|done|fail)|(simp;first|done|omega|fail))[]))
  exact B3 (m.ls, m.keep) ⟨rfl, rfl⟩ (by (repeat' constructor))
 ·have e : H4 j m.ws = ({ j with slot := D6 m.keep, b := { j.b with st := j.b.st + 1 } }, { m.ws with sl := L8 m.ws.sl (D6 m.keep) .bld, keep := F9 m.keep }, false, false, false) := by unfold H4; rw [if_neg (by rw [hkp]; exact c1), if_neg (by rw [hkp]; exact c2)]; rfl
  rw [e]
  generalize H9 m.keep j.pins = r at *
  obtain ⟨t, ht⟩ : ∃ t, t = D6 m.keep := ⟨_, rfl⟩
  rw [← ht] at c2
  simp only [C3, E9, D4, E5, G1, WoH.sk, ← ht]
  (have zz:=trivial;repeat((first|clear zz|with_reducible first|refine A2 ?_|refine A5 fun _=>?_|refine A4 fun _=>?_);try simp(disch:=first|omega|assumption|((repeat(first|exact A1|exact uH|apply A3|apply uT));first|done|fail)|(simp;first|done|omega|fail))[]))
  refine D9 S4 (fun w' hw' => hRipe w' (U2.own hw' (by (repeat constructor))) (Z3.own (e := 3) (k := 1) (by unfold G7; (repeat constructor)) w' hw') (by omega)) ?_
  (have zz:=trivial;repeat((first|clear zz|with_reducible first|refine A2 ?_|refine A5 fun _=>?_|refine A4 fun _=>?_);try simp(disch:=first|omega|assumption|((repeat(first|exact A1|exact uH|apply A3|apply uT));first|done|fail)|(simp;first|done|omega|fail))[c1]))
  refine C0 (Hc := [K5 m.bk m.keep]) d5 (fun w' _ hs => A6z w' m.bk m.keep h5 hs) (by (repeat' constructor)) ?_
  rintro _ v rfl
  rw [← ht]
  simp only [List.cons_append, List.nil_append]
  (have zz:=trivial;repeat((first|clear zz|with_reducible first|refine A2 ?_|refine A5 fun _=>?_|refine A4 fun _=>?_);try simp(disch:=first|omega|assumption|((repeat(first|exact A1|exact uH|apply A3|apply uT));first|done|fail)|(simp;first|done|omega|fail))[c2]))
  refine C0 (Hc := E0 m.bs m.sv m.ls) A1J (fun w' _ hs => B0s w' m.bs m.sv m.ls t h4 hs) (by unfold E0; (repeat' constructor)) ?_
  intro _ v hv
  simp only [E0, List.cons_append, List.nil_append]
  (have zz:=trivial;repeat((first|clear zz|with_reducible first|refine A2 ?_|refine A5 fun _=>?_|refine A4 fun _=>?_);try simp(disch:=first|omega|assumption|((repeat(first|exact A1|exact uH|apply A3|apply uT));first|done|fail)|(simp;first|done|omega|fail))[]))
  exact B3 (M5 m.ls t .bld, F9 m.keep) ⟨rfl, by simp only [WoH.ws, A5V]; rfl⟩ (by (repeat' constructor))
end Go.Proofs.YtjobgnabneddjaaGreat
namespace Go.Proofs.YtjobgnabneddjaaGreat
open Go
structure WoD where
 cn : Int
 cells : List Int
 ls : List SlH
 keep : List (Int × Int)
def WoH.up (m : WoH) (d : WoD) : WoH := { m with cn := d.cn, cells := d.cells, ls := d.ls, keep := d.keep }
def WoH.dd (m : WoH) : WoD := ⟨m.cn, m.cells, m.ls, m.keep⟩
theorem A58 (w : World) (b : Nat) (j : JU) (pv qv : Value) (hp : j.pool.length ≤ 1000) (hv : F7 w pv j.pool.length (j.pool.flatMap G2)) (hb : bl w b = some (.cells (D4 j.b [pv, qv, .int .i64 j.slot, .int .i64 j.old]) 163 (0, 0))) :
  Fn PR B7 316 #[.pointer (some ⟨b, 0, none⟩)] w (fun u w' => u = .int .i64 (J0 j) ∧ C4 [] w w') := by
 refine Fn.pure (A0L (TW.go (κ := false) (S := []) ?_))
 unfold W4
 have h0 : w.cell? ⟨b, 0, none⟩ = some (.int .i64 j.b.who) := by rw [C9 hb]; rfl
 have h6 : w.cell? ⟨b, 6, none⟩ = some pv := by rw [C9 hb]; rfl
 unfold J0
 obtain ⟨a, c, rfl, _⟩ := hv.form
 by_cases c1 : j.b.who = 0
 ·rw [if_pos c1]
  (have zz:=trivial;repeat((first|clear zz|with_reducible first|refine A2 ?_|refine A5 fun _=>?_|refine A4 fun _=>?_);try simp(disch:=first|omega|assumption|((repeat(first|exact A1|exact uH|apply A3|apply uT));first|done|fail)|(simp;first|done|omega|fail))[h0, h6, c1]))
  refine D9 V6 (fun w' hw' => g7 w' _ j.pool (by omega) (hv.ks hw'.ks (by simp))) ?_
  exact C1 rfl
 ·rw [if_neg c1]
  (have zz:=trivial;repeat((first|clear zz|with_reducible first|refine A2 ?_|refine A5 fun _=>?_|refine A4 fun _=>?_);try simp(disch:=first|omega|assumption|((repeat(first|exact A1|exact uH|apply A3|apply uT));first|done|fail)|(simp;first|done|omega|fail))[h0, h6, c1]))
  exact C1 rfl
theorem A7j (l : List Int) (x : Int) : F1 (l ++ [x]) = F1 l ++ [.int .i64 x] := by unfold F1; rw [List.map_append]; rfl
theorem A7L (j : JU) (x : WS) : (H4 j x).1.pins = j.pins := by unfold H4; split; rfl; split <;> rfl
set_option maxHeartbeats 4000000 in
theorem B2K (w : World) (b : Nat) (j : JU) (pv qv : Value) (m : WoH) (hx : WsOk m.ws) (hp : j.pins.length ≤ 500) (hpl : j.pool.length ≤ 1000) (hst : 0 ≤ j.b.st ∧ j.b.st ≤ 500) (hsl : -1 ≤ j.slot ∧ j.slot ≤ 100) (hold : 0 ≤ j.old ∧ j.old ≤ 1000)
  (hv : ∀ w', KS false (B1 (E9 b j pv qv :: G7 j qv :: C3 m)) w w' → F7 w' pv j.pool.length (j.pool.flatMap G2))
  (hw : LW false (B1 (E9 b j pv qv :: G7 j qv :: C3 m)) w (E9 b j pv qv :: G7 j qv :: C3 m) w) :
  Fn PR B7 318 #[.pointer (some ⟨b, 0, none⟩), .pointer (some ⟨m.b, 0, none⟩)] w (Rn (B1 (E9 b j pv qv :: G7 j qv :: C3 m)) w (fun (y : Value × WoD) u => u = S8 (D2 j m.ws).2.2 ∧ (m.up y.2).ws = (D2 j m.ws).2.1) fun y => E9 b (D2 j m.ws).1 pv y.1 :: G7 (D2 j m.ws).1 y.1 :: C3 (m.up y.2)) := by
 refine A0v (TW.goH (κ := false) ?_ hw)
 unfold Z5
 have hxx := hx
 obtain ⟨h1, h2, h3, h4, h5⟩ := hx
 simp only [WoH.ws, List.length_map] at h1 h2 h3 h4 h5
 have hc : m.ws.c = m.c := rfl
 by_cases c1 : j.b.st = 0 ∧ J0 j ≠ 0
 ·have e : D2 j m.ws = ({ j with b := j.b.refuse (J0 j) }, m.ws, true, true, false) := if_pos c1
  rw [e]
  obtain ⟨c0, c1⟩ := c1
  generalize hbe : J0 j = be at *
  simp only [C3, E9, D4, E5, G1, WoH.up] at hv ⊢
  (have zz:=trivial;repeat((first|clear zz|with_reducible first|refine A2 ?_|refine A5 fun _=>?_|refine A4 fun _=>?_);try simp(disch:=first|omega|assumption|((repeat(first|exact A1|exact uH|apply A3|apply uT));first|done|fail)|(simp;first|done|omega|fail))[c0]))
  refine D9 U5 (fun w' hw' => by have := A58 w' b j pv qv hpl (hv w' hw'.ks) (by rw [hw'.pt (b := b) (by (repeat constructor))]; simp only [D4, c0]); rw [hbe] at this; exact this) ?_
  (have zz:=trivial;repeat((first|clear zz|with_reducible first|refine A2 ?_|refine A5 fun _=>?_|refine A4 fun _=>?_);try simp(disch:=first|omega|assumption|((repeat(first|exact A1|exact uH|apply A3|apply uT));first|done|fail)|(simp;first|done|omega|fail))[c1]))
  refine C0 (Hc := [.pt b (.cells (D4 j.b [pv, qv, .int .i64 j.slot, .int .i64 j.old]) 163)]) W6 (fun w' _ hs => A44 w' b _ j.b _ be hs) (by unfold D4; rw [c0]; (repeat' constructor)) ?_
  rintro _ v rfl
  simp only [List.cons_append, List.nil_append, S8, D4]
  (have zz:=trivial;repeat((first|clear zz|with_reducible first|refine A2 ?_|refine A5 fun _=>?_|refine A4 fun _=>?_);try simp(disch:=first|omega|assumption|((repeat(first|exact A1|exact uH|apply A3|apply uT));first|done|fail)|(simp;first|done|omega|fail))[]))
  exact B3 (qv, m.dd) ⟨rfl, rfl⟩ (by unfold WoH.dd; (repeat' constructor))
 by_cases c2 : j.b.st = 0 ∨ j.b.st - m.c.wk < 0
 ·have e : D2 j m.ws = ({ D7 j with pins := j.pins ++ [D8 m.cells (x7 m.c (j.b.st + 1))] }, m.ws, false, false, false) := by unfold D2; rw [if_neg c1, if_pos (show j.b.st = 0 ∨ j.b.st - m.ws.c.wk < 0 from c2)]; rfl
  rw [e]
  have hld : ∀ i, D8 m.ws.cells i = D8 m.cells i := fun _ => rfl
  simp only [C3, E9, D4, E5, G1, WoH.up, D7] at hv ⊢
  by_cases c0 : j.b.st = 0
  ·have hbe : J0 j = 0 := Decidable.byContradiction fun h => c1 ⟨c0, h⟩
   (have zz:=trivial;repeat((first|clear zz|with_reducible first|refine A2 ?_|refine A5 fun _=>?_|refine A4 fun _=>?_);try simp(disch:=first|omega|assumption|((repeat(first|exact A1|exact uH|apply A3|apply uT));first|done|fail)|(simp;first|done|omega|fail))[c0]))
   refine D9 U5 (fun w' hw' => by have := A58 w' b j pv qv hpl (hv w' hw'.ks) (by rw [hw'.pt (b := b) (by (repeat constructor))]; simp only [D4, c0]); rw [hbe] at this; exact this) ?_
   have c01 : j.b.st + 1 = 1 := by omega
   (have zz:=trivial;repeat((first|clear zz|with_reducible first|refine A2 ?_|refine A5 fun _=>?_|refine A4 fun _=>?_);try simp(disch:=first|omega|assumption|((repeat(first|exact A1|exact uH|apply A3|apply uT));first|done|fail)|(simp;first|done|omega|fail))[c0]))
   refine D9 m7 (fun w' hw' => A8U w' m.b m.c _ _ _ _ _ _ 1 (by omega) (hw'.pt (b := m.b) (by (repeat constructor)))) ?_
   (have zz:=trivial;repeat((first|clear zz|with_reducible first|refine A2 ?_|refine A5 fun _=>?_|refine A4 fun _=>?_);try simp(disch:=first|omega|assumption|((repeat(first|exact A1|exact uH|apply A3|apply uT));first|done|fail)|(simp;first|done|omega|fail))[]))
   refine C0 (Hc := C2 m.bc m.cn m.cv m.ov m.cells m.own) N2 (fun w' _ hs => A1p w' m.bc m.cn m.cv m.ov m.cells m.own (x7 m.c 1) (by omega) hs) (by unfold C2; (repeat' constructor)) ?_
   rintro n' v rfl
   simp only [C2, List.cons_append, List.nil_append]
   refine u9 (e := 3) (k := 1) (v := qv) (q := j.pins.length) (xs := F1 j.pins) (by unfold G7; (repeat constructor)) fun qa qc hq => ?_
   subst hq
   simp only [G7]
   (have zz:=trivial;repeat((first|clear zz|with_reducible first|refine A2 ?_|refine A5 fun _=>?_|refine A4 fun _=>?_|refine p4 fun _=>?_|refine p9 (hK:=fun _=>?_)|refine q7 (hK:=fun _=>?_)|refine p5 (hK:=fun _=>?_)|refine q5 (hK:=fun _=>?_)|refine q6 (hK:=fun _=>?_));try simp(disch:=first|omega|assumption|((repeat(first|exact A1|exact uH|apply A3|apply uT));first|done|fail)|(simp;first|done|omega|fail))[]))
   refine A2M (e := 3) (k := 1) (q := j.pins.length) (r := 1) (xs := F1 j.pins) (news := [.int .i64 (D8 m.cells (x7 m.c 1))]) (by (repeat constructor)) (Z3.own (by (repeat constructor))) (by decide) (by simp) (by simp) (by simp only [maxLen]; omega) (by omega) fun a' c' => ?_
   (have zz:=trivial;repeat((first|clear zz|with_reducible first|refine A2 ?_|refine A5 fun _=>?_|refine A4 fun _=>?_);try simp(disch:=first|omega|assumption|((repeat(first|exact A1|exact uH|apply A3|apply uT));first|done|fail)|(simp;first|done|omega|fail))[]))
   refine B3 (.slice a' (j.pins.length + 1) c', { m.dd with cn := n' }) ⟨rfl, rfl⟩ ?_
   simp only [WoH.dd, A7j, List.length_append, List.length_singleton, c0, Int.zero_add]
   (repeat' constructor)
  ·have c3 : j.b.st - m.c.wk < 0 := by omega
   have c4 : j.b.st < m.c.wk := by omega
   (have zz:=trivial;repeat((first|clear zz|with_reducible first|refine A2 ?_|refine A5 fun _=>?_|refine A4 fun _=>?_);try simp(disch:=first|omega|assumption|((repeat(first|exact A1|exact uH|apply A3|apply uT));first|done|fail)|(simp;first|done|omega|fail))[c0, c3, c4]))
   refine D9 m7 (fun w' hw' => A8U w' m.b m.c _ _ _ _ _ _ (j.b.st + 1) (by omega) (hw'.pt (b := m.b) (by (repeat constructor)))) ?_
   (have zz:=trivial;repeat((first|clear zz|with_reducible first|refine A2 ?_|refine A5 fun _=>?_|refine A4 fun _=>?_);try simp(disch:=first|omega|assumption|((repeat(first|exact A1|exact uH|apply A3|apply uT));first|done|fail)|(simp;first|done|omega|fail))[]))
   refine C0 (Hc := C2 m.bc m.cn m.cv m.ov m.cells m.own) N2 (fun w' _ hs => A1p w' m.bc m.cn m.cv m.ov m.cells m.own (x7 m.c (j.b.st + 1)) (by omega) hs) (by unfold C2; (repeat' constructor)) ?_
   rintro n' v rfl
   simp only [C2, List.cons_append, List.nil_append]
   refine u9 (e := 3) (k := 1) (v := qv) (q := j.pins.length) (xs := F1 j.pins) (by unfold G7; (repeat constructor)) fun qa qc hq => ?_
   subst hq
   simp only [G7]
   (have zz:=trivial;repeat((first|clear zz|with_reducible first|refine A2 ?_|refine A5 fun _=>?_|refine A4 fun _=>?_|refine p4 fun _=>?_|refine p9 (hK:=fun _=>?_)|refine q7 (hK:=fun _=>?_)|refine p5 (hK:=fun _=>?_)|refine q5 (hK:=fun _=>?_)|refine q6 (hK:=fun _=>?_));try simp(disch:=first|omega|assumption|((repeat(first|exact A1|exact uH|apply A3|apply uT));first|done|fail)|(simp;first|done|omega|fail))[]))
   refine A2M (e := 3) (k := 1) (q := j.pins.length) (r := 1) (xs := F1 j.pins) (news := [.int .i64 (D8 m.cells (x7 m.c (j.b.st + 1)))]) (by (repeat constructor)) (Z3.own (by (repeat constructor))) (by decide) (by simp) (by simp) (by simp only [maxLen]; omega) (by omega) fun a' c' => ?_
   (have zz:=trivial;repeat((first|clear zz|with_reducible first|refine A2 ?_|refine A5 fun _=>?_|refine A4 fun _=>?_);try simp(disch:=first|omega|assumption|((repeat(first|exact A1|exact uH|apply A3|apply uT));first|done|fail)|(simp;first|done|omega|fail))[]))
   refine B3 (.slice a' (j.pins.length + 1) c', { m.dd with cn := n' }) ⟨rfl, rfl⟩ ?_
   simp only [WoH.dd, A7j, List.length_append, List.length_singleton]
   (repeat' constructor)
 have c0 : ¬ j.b.st = 0 := fun h => c2 (Or.inl h)
 have c3 : ¬ j.b.st - m.c.wk < 0 := fun h => c2 (Or.inr h)
 have c3' : ¬ j.b.st < m.c.wk := by omega
 have hu : D2 j m.ws = if j.b.st - m.c.wk = 0 then H4 j m.ws
  else if j.b.st - m.c.wk = 1 then (D7 j, { m.ws with sl := j8 m.ws.sl j.slot j.pool }, false, false, false)
  else if j.b.st - m.c.wk = 2 then ({ D7 j with old := D8 m.cells 1 }, m.ws, false, false, false)
  else if j.b.st - m.c.wk = 3 then (D7 j, { m.ws with cells := H6 m.cells 1 (j.slot + 1) }, true, false, false)
  else A1P (D7 j) m.ws := by
  unfold D2
  rw [if_neg c1, if_neg (show ¬ (j.b.st = 0 ∨ j.b.st - m.ws.c.wk < 0) from c2)]
  rfl
 by_cases d0 : j.b.st - m.c.wk = 0
 ·rw [if_pos d0] at hu
  rw [hu]
  simp only [C3, E9, D4, E5, G1, WoH.up] at hv ⊢
  have d0' : j.b.st = m.c.wk := by omega
  have z0 : ¬ m.c.wk = 0 := by omega
  (have zz:=trivial;repeat((first|clear zz|with_reducible first|refine A2 ?_|refine A5 fun _=>?_|refine A4 fun _=>?_);try simp(disch:=first|omega|assumption|((repeat(first|exact A1|exact uH|apply A3|apply uT));first|done|fail)|(simp;first|done|omega|fail))[c0, c3, c3', d0]))
  refine C0 (Hc := E9 b j pv qv :: G7 j qv :: C3 m) A0E (fun w' _ hs => B2g w' b j pv qv m hxx (by omega) (by omega) hs) (by simp only [C3, E9, D4, E5, G1]; (repeat' constructor)) ?_
  rintro ⟨ls', k'⟩ v ⟨rfl, hv2⟩
  have hpn := A7L j m.ws
  generalize H4 j m.ws = ut at *
  simp only [C3, E9, D4, E5, G1, WoH.sk, List.cons_append, List.nil_append, S8]
  (have zz:=trivial;repeat((first|clear zz|with_reducible first|refine A2 ?_|refine A5 fun _=>?_|refine A4 fun _=>?_);try simp(disch:=first|omega|assumption|((repeat(first|exact A1|exact uH|apply A3|apply uT));first|done|fail)|(simp;first|done|omega|fail))[]))
  refine B3 (qv, { m.dd with ls := ls', keep := k' }) ⟨rfl, hv2⟩ ?_
  simp only [G7, hpn, WoH.dd]
  (repeat' constructor)
 have f0 : ¬ j.b.st = m.c.wk := by omega
 rw [if_neg d0] at hu
 by_cases d1 : j.b.st - m.c.wk = 1
 ·rw [if_pos d1] at hu
  rw [hu]
  simp only [C3, E9, D4, E5, G1, WoH.up, D7] at hv ⊢
  (have zz:=trivial;repeat((first|clear zz|with_reducible first|refine A2 ?_|refine A5 fun _=>?_|refine A4 fun _=>?_);try simp(disch:=first|omega|assumption|((repeat(first|exact A1|exact uH|apply A3|apply uT));first|done|fail)|(simp;first|done|omega|fail))[c0, c3, c3', d0, d1]))
  refine C0 (Hc := E0 m.bs m.sv m.ls) A2K (fun w' hw' hs => B1N w' m.bs m.sv m.ls j.slot pv j.pool h4 hpl (fun w'' hk => hv w'' ?_) hs) (by unfold E0; (repeat' constructor)) ?_
  ·refine hw'.ks.then hk fun x hx => ?_
   obtain ⟨r, hr, hxr⟩ := F8.1 hx
   exact (hw'.own r (List.mem_append_left _ hr) x hxr).1
  rintro ls' v ⟨hv1, hv2, hv3⟩
  simp only [E0, List.cons_append, List.nil_append]
  (have zz:=trivial;repeat((first|clear zz|with_reducible first|refine A2 ?_|refine A5 fun _=>?_|refine A4 fun _=>?_);try simp(disch:=first|omega|assumption|((repeat(first|exact A1|exact uH|apply A3|apply uT));first|done|fail)|(simp;first|done|omega|fail))[]))
  refine B3 (qv, { m.dd with ls := ls' }) ⟨rfl, by simp only [WoH.ws, WoH.dd, hv3]⟩ ?_
  simp only [G7, WoH.dd]
  (repeat' constructor)
 rw [if_neg d1] at hu
 by_cases d2 : j.b.st - m.c.wk = 2
 ·rw [if_pos d2] at hu
  rw [hu]
  simp only [C3, E9, D4, E5, G1, WoH.up, D7] at hv ⊢
  (have zz:=trivial;repeat((first|clear zz|with_reducible first|refine A2 ?_|refine A5 fun _=>?_|refine A4 fun _=>?_);try simp(disch:=first|omega|assumption|((repeat(first|exact A1|exact uH|apply A3|apply uT));first|done|fail)|(simp;first|done|omega|fail))[c0, c3, c3', d0, d1, d2]))
  refine C0 (Hc := C2 m.bc m.cn m.cv m.ov m.cells m.own) N2 (fun w' _ hs => A1p w' m.bc m.cn m.cv m.ov m.cells m.own 1 (by omega) hs) (by unfold C2; (repeat' constructor)) ?_
  rintro n' v rfl
  simp only [C2, List.cons_append, List.nil_append]
  (have zz:=trivial;repeat((first|clear zz|with_reducible first|refine A2 ?_|refine A5 fun _=>?_|refine A4 fun _=>?_);try simp(disch:=first|omega|assumption|((repeat(first|exact A1|exact uH|apply A3|apply uT));first|done|fail)|(simp;first|done|omega|fail))[]))
  refine B3 (qv, { m.dd with cn := n' }) ⟨rfl, rfl⟩ ?_
  simp only [G7, WoH.dd]
  (repeat' constructor)
 rw [if_neg d2] at hu
 by_cases d3 : j.b.st - m.c.wk = 3
 ·rw [if_pos d3] at hu
  rw [hu]
  simp only [C3, E9, D4, E5, G1, WoH.up, D7] at hv ⊢
  (have zz:=trivial;repeat((first|clear zz|with_reducible first|refine A2 ?_|refine A5 fun _=>?_|refine A4 fun _=>?_);try simp(disch:=first|omega|assumption|((repeat(first|exact A1|exact uH|apply A3|apply uT));first|done|fail)|(simp;first|done|omega|fail))[c0, c3, c3', d0, d1, d2, d3]))
  refine C0 (Hc := C2 m.bc m.cn m.cv m.ov m.cells m.own) d8 (fun w' _ hs => A6K w' m.bc m.cn m.cv m.ov m.cells m.own 1 (j.slot + 1) (by omega) hs) (by unfold C2; (repeat' constructor)) ?_
  rintro n' v rfl
  simp only [C2, List.cons_append, List.nil_append]
  (have zz:=trivial;repeat((first|clear zz|with_reducible first|refine A2 ?_|refine A5 fun _=>?_|refine A4 fun _=>?_);try simp(disch:=first|omega|assumption|((repeat(first|exact A1|exact uH|apply A3|apply uT));first|done|fail)|(simp;first|done|omega|fail))[]))
  refine B3 (qv, { m.dd with cn := n', cells := H6 m.cells 1 (j.slot + 1) }) ⟨rfl, rfl⟩ ?_
  simp only [G7, WoH.dd]
  (repeat' constructor)
 rw [if_neg d3] at hu
 rw [hu]
 have hcl : ∀ v, (H6 m.cells 0 v).length = m.cells.length := fun v => by unfold H6; split <;> simp
 unfold A1P
 by_cases o1 : 0 < j.old
 ·have hup : (D7 j).old = j.old := rfl
  simp only [hup]
  rw [if_pos o1]
  simp only [C3, E9, D4, E5, G1, WoH.up, D7] at hv ⊢
  (have zz:=trivial;repeat((first|clear zz|with_reducible first|refine A2 ?_|refine A5 fun _=>?_|refine A4 fun _=>?_);try simp(disch:=first|omega|assumption|((repeat(first|exact A1|exact uH|apply A3|apply uT));first|done|fail)|(simp;first|done|omega|fail))[c0, c3, c3', d0, d1, d2, d3, o1]))
  refine C0 (Hc := C2 m.bc m.cn m.cv m.ov m.cells m.own) m8 (fun w' _ hs => A8q w' m.bc m.cn m.cv m.ov m.cells m.own 0 1 (by omega) (by omega) hs) (by unfold C2; (repeat' constructor)) ?_
  rintro n' v rfl
  simp only [C2, List.cons_append, List.nil_append]
  (have zz:=trivial;repeat((first|clear zz|with_reducible first|refine A2 ?_|refine A5 fun _=>?_|refine A4 fun _=>?_);try simp(disch:=first|omega|assumption|((repeat(first|exact A1|exact uH|apply A3|apply uT));first|done|fail)|(simp;first|done|omega|fail))[o1]))
  refine C0 (Hc := [K5 m.bk m.keep]) A0M (fun w' _ hs => A80 w' m.bk m.keep (j.old - 1) (IntKind.i64.wrap (D8 m.cells 0 + 1)) h5 hs) (by (repeat' constructor)) ?_
  rintro _ v hv2
  simp only [List.cons_append, List.nil_append]
  (have zz:=trivial;repeat((first|clear zz|with_reducible first|refine A2 ?_|refine A5 fun _=>?_|refine A4 fun _=>?_);try simp(disch:=first|omega|assumption|((repeat(first|exact A1|exact uH|apply A3|apply uT));first|done|fail)|(simp;first|done|omega|fail))[]))
  refine C0 (Hc := [.pt b (.cells (D4 { j.b with st := j.b.st + 1 } [pv, qv, .int .i64 j.slot, .int .i64 j.old]) 163)]) W1 (fun w' _ hs => A4y w' b _ { j.b with st := j.b.st + 1 } _ hs) (by unfold D4; (repeat' constructor)) ?_
  rintro _ v rfl
  simp only [List.cons_append, List.nil_append, S8, D4]
  (have zz:=trivial;repeat((first|clear zz|with_reducible first|refine A2 ?_|refine A5 fun _=>?_|refine A4 fun _=>?_);try simp(disch:=first|omega|assumption|((repeat(first|exact A1|exact uH|apply A3|apply uT));first|done|fail)|(simp;first|done|omega|fail))[]))
  refine B3 (qv, { m.dd with cn := n', cells := H6 m.cells 0 (IntKind.i64.wrap (D8 m.cells 0 + 1)), keep := A3G m.keep (j.old - 1) (IntKind.i64.wrap (D8 m.cells 0 + 1)) }) ⟨rfl, rfl⟩ ?_
  simp only [G7, WoH.dd]
  (repeat' constructor)
 ·have hup : (D7 j).old = j.old := rfl
  simp only [hup]
  rw [if_neg o1]
  simp only [C3, E9, D4, E5, G1, WoH.up, D7] at hv ⊢
  (have zz:=trivial;repeat((first|clear zz|with_reducible first|refine A2 ?_|refine A5 fun _=>?_|refine A4 fun _=>?_);try simp(disch:=first|omega|assumption|((repeat(first|exact A1|exact uH|apply A3|apply uT));first|done|fail)|(simp;first|done|omega|fail))[c0, c3, c3', d0, d1, d2, d3, o1]))
  refine C0 (Hc := C2 m.bc m.cn m.cv m.ov m.cells m.own) m8 (fun w' _ hs => A8q w' m.bc m.cn m.cv m.ov m.cells m.own 0 1 (by omega) (by omega) hs) (by unfold C2; (repeat' constructor)) ?_
  rintro n' v rfl
  simp only [C2, List.cons_append, List.nil_append]
  (have zz:=trivial;repeat((first|clear zz|with_reducible first|refine A2 ?_|refine A5 fun _=>?_|refine A4 fun _=>?_);try simp(disch:=first|omega|assumption|((repeat(first|exact A1|exact uH|apply A3|apply uT));first|done|fail)|(simp;first|done|omega|fail))[o1]))
  refine C0 (Hc := [.pt b (.cells (D4 { j.b with st := j.b.st + 1 } [pv, qv, .int .i64 j.slot, .int .i64 j.old]) 163)]) W1 (fun w' _ hs => A4y w' b _ { j.b with st := j.b.st + 1 } _ hs) (by unfold D4; (repeat' constructor)) ?_
  rintro _ v rfl
  simp only [List.cons_append, List.nil_append, S8, D4]
  (have zz:=trivial;repeat((first|clear zz|with_reducible first|refine A2 ?_|refine A5 fun _=>?_|refine A4 fun _=>?_);try simp(disch:=first|omega|assumption|((repeat(first|exact A1|exact uH|apply A3|apply uT));first|done|fail)|(simp;first|done|omega|fail))[]))
  refine B3 (qv, { m.dd with cn := n', cells := H6 m.cells 0 (IntKind.i64.wrap (D8 m.cells 0 + 1)) }) ⟨rfl, rfl⟩ ?_
  simp only [G7, WoH.dd]
  (repeat' constructor)
end Go.Proofs.YtjobgnabneddjaaGreat
namespace Go.Proofs.YtjobgnabneddjaaGreat
open Go
theorem B41 {κ : Bool} {X : Nat → Prop} {S : List Nat} {w0 : World} {H Hk Hc : List Res} {K : Value → WP} {g : Value} {name : String} {args : List Value} {f : FuncId} {args' : Array Value} {α : Type} {φ : α → Value → Prop} {Hn : α → List Res} (hr : ∀ w, (callMethod g name args.toArray).run PR w = .ok (.enter f args') w)
  (hf : ∀ w, LW κ S w0 (Hc ++ Hk) w → LW false (B1 Hc) w Hc w → Fn PR B7 f args' w (Rn (B1 Hc) w φ Hn)) (hp : Part Hc H Hk) (hK : ∀ a v, φ a v → TW κ S w0 (Hn a ++ Hk) (K v)) : TW κ S w0 H (inv PR X g name args K) := fun w hw =>
 let h := hw.perm hp.perm
 ⟨f, args', hr w, (hf w h (h.sub (List.sublist_append_left _ _)).self).use fun v w' ⟨a, h1, h2⟩ hsk => hK a v h1 w' (h.part (h2.high fun _ => hsk))⟩
abbrev G8 (b : Nat) : Value := .iface 161 (.pointer (some ⟨b, 0, none⟩))
abbrev A7G (b : Nat) : Value := .iface 168 (.pointer (some ⟨b, 0, none⟩))
abbrev A7b (b : Nat) : Value := .iface 171 (.pointer (some ⟨b, 0, none⟩))
abbrev A73 (b : Nat) : Value := .iface 174 (.pointer (some ⟨b, 0, none⟩))
theorem A5p (w : World) (b : Nat) (v : Value) : (callMethod (G8 b) "gangplank/control.step" [v].toArray).run PR w = .ok (.enter 318 #[.pointer (some ⟨b, 0, none⟩), v]) w := by kernel_rfl
theorem j0 (w : World) (b : Nat) (v : Value) : (callMethod (G8 b) "gangplank/control.waits" [v].toArray).run PR w = .ok (.enter 319 #[.pointer (some ⟨b, 0, none⟩), v]) w := by kernel_rfl
theorem A4V (w : World) (b : Nat) : (callMethod (G8 b) "gangplank/control.common" ([] : List Value).toArray).run PR w = .ok (.enter 317 #[.pointer (some ⟨b, 0, none⟩)]) w := by kernel_rfl
theorem A4Q (w : World) (b : Nat) : (callMethod (A7G b) "gangplank/control.common" ([] : List Value).toArray).run PR w = .ok (.enter 317 #[.pointer (some ⟨b, 0, none⟩)]) w := by kernel_rfl
theorem A4M (w : World) (b : Nat) : (callMethod (A7b b) "gangplank/control.common" ([] : List Value).toArray).run PR w = .ok (.enter 317 #[.pointer (some ⟨b, 0, none⟩)]) w := by kernel_rfl
theorem A4G (w : World) (b : Nat) : (callMethod (A73 b) "gangplank/control.common" ([] : List Value).toArray).run PR w = .ok (.enter 317 #[.pointer (some ⟨b, 0, none⟩)]) w := by kernel_rfl
theorem A55 (w : World) (v : Value) : Fn PR B7 317 #[v] w (fun u w' => u = v ∧ C4 [] w w') := by
 refine Fn.pure (A0u (TW.go (κ := false) (S := []) ?_))
 unfold Y3
 exact C1 rfl
theorem A37 {I : Value} {b : Nat} (hI : I = G8 b ∨ I = A7G b ∨ I = A7b b ∨ I = A73 b) (w : World) : (callMethod I "gangplank/control.common" ([] : List Value).toArray).run PR w = .ok (.enter 317 #[.pointer (some ⟨b, 0, none⟩)]) w := by
 rcases hI with rfl | rfl | rfl | rfl
 ·exact A4V w b
 ·exact A4Q w b
 ·exact A4M w b
 ·exact A4G w b
theorem A2u (w : World) (jb b : Nat) (I : Value) (j : JB) (rest : List Value) (T : TypeId) (hI : I = G8 b ∨ I = A7G b ∨ I = A7b b ∨ I = A73 b) (h1 : bl w jb = some (.cells #[I] 167 (0, 0))) (h2 : bl w b = some (.cells (D4 j rest) T (0, 0))) :
  Fn PR B7 38 #[.pointer (some ⟨jb, 0, none⟩)] w (fun u w' => u = .int .i64 j.st ∧ C4 [] w w') := by
 refine Fn.pure (A11 (TW.go (κ := false) (S := []) ?_))
 unfold l2
 have e1 : w.cell? ⟨jb, 0, none⟩ = some I := by rw [C9 h1]; rfl
 have e2 : w.cell? ⟨b, 1, none⟩ = some (.int .i64 j.st) := by rw [C9 h2]; rfl
 (have zz:=trivial;repeat((first|clear zz|with_reducible first|refine A2 ?_|refine A5 fun _=>?_|refine A4 fun _=>?_);try simp(disch:=first|omega|assumption|((repeat(first|exact A1|exact uH|apply A3|apply uT));first|done|fail)|(simp;first|done|omega|fail))[e1]))
 refine A89 (A37 hI) (fun w' _ => A55 w' _) ?_
 (have zz:=trivial;repeat((first|clear zz|with_reducible first|refine A2 ?_|refine A5 fun _=>?_|refine A4 fun _=>?_);try simp(disch:=first|omega|assumption|((repeat(first|exact A1|exact uH|apply A3|apply uT));first|done|fail)|(simp;first|done|omega|fail))[e2]))
 exact C1 rfl
theorem A1m (w : World) (jb b : Nat) (I : Value) (j : JB) (rest : List Value) (T : TypeId) (hI : I = G8 b ∨ I = A7G b ∨ I = A7b b ∨ I = A73 b) (h1 : bl w jb = some (.cells #[I] 167 (0, 0))) (h2 : bl w b = some (.cells (D4 j rest) T (0, 0))) :
  Fn PR B7 34 #[.pointer (some ⟨jb, 0, none⟩)] w (fun u w' => u = j.ans.val ∧ C4 [] w w') := by
 refine Fn.pure (A1W (TW.go (κ := false) (S := []) ?_))
 unfold c9
 have e1 : w.cell? ⟨jb, 0, none⟩ = some I := by rw [C9 h1]; rfl
 have e2 : Y2 w b 2 4 = some [.int .i64 j.ans.err, .int .i64 j.ans.bk, .bool j.ans.made, .int .i64 j.ans.count] := A3d (by rfl) (K7.bl h2)
 (have zz:=trivial;repeat((first|clear zz|with_reducible first|refine A2 ?_|refine A5 fun _=>?_|refine A4 fun _=>?_);try simp(disch:=first|omega|assumption|((repeat(first|exact A1|exact uH|apply A3|apply uT));first|done|fail)|(simp;first|done|omega|fail))[e1]))
 refine A89 (A37 hI) (fun w' _ => A55 w' _) ?_
 (have zz:=trivial;repeat((first|clear zz|with_reducible first|refine A2 ?_|refine A5 fun _=>?_|refine A4 fun _=>?_);try simp(disch:=first|omega|assumption|((repeat(first|exact A1|exact uH|apply A3|apply uT));first|done|fail)|(simp;first|done|omega|fail))[e2]))
 exact C1 rfl
theorem A21 (w : World) (jb b : Nat) (I : Value) (j : JB) (rest : List Value) (T : TypeId) (wv : Value) (x : Bool) (f : FuncId) (args' : Array Value) (hI : I = G8 b ∨ I = A7G b ∨ I = A7b b ∨ I = A73 b) (h1 : bl w jb = some (.cells #[I] 167 (0, 0))) (h2 : bl w b = some (.cells (D4 j rest) T (0, 0)))
  (hr : ∀ w, (callMethod I "gangplank/control.waits" [wv].toArray).run PR w = .ok (.enter f args') w) (hf : ∀ w', KS false [] w w' → Fn PR B7 f args' w' (fun v w'' => v = .bool x ∧ C4 [] w' w'')) :
  Fn PR B7 39 #[.pointer (some ⟨jb, 0, none⟩), wv] w (fun u w' => u = .bool (!decide (j.st = -1) && !x) ∧ C4 [] w w') := by
 refine Fn.pure (A14 (TW.go (κ := false) (S := []) ?_))
 unfold f9
 have k1 : ∀ w', KS false [] w w' → bl w' jb = some (.cells #[I] 167 (0, 0)) := fun w' hk => hk.2.1 _ _ (by simp) rfl h1
 have k2 : ∀ w', KS false [] w w' → bl w' b = some (.cells (D4 j rest) T (0, 0)) := fun w' hk => hk.2.1 _ _ (by simp) rfl h2
 refine D9 S0 (fun w' hw' => A2u w' jb b I j rest T hI (k1 w' hw'.ks) (k2 w' hw'.ks)) ?_
 have e1 : w.cell? ⟨jb, 0, none⟩ = some I := by rw [C9 h1]; rfl
 by_cases c1 : j.st = -1
 ·(have zz:=trivial;repeat((first|clear zz|with_reducible first|refine A2 ?_|refine A5 fun _=>?_|refine A4 fun _=>?_);try simp(disch:=first|omega|assumption|((repeat(first|exact A1|exact uH|apply A3|apply uT));first|done|fail)|(simp;first|done|omega|fail))[c1]))
  exact C1 (by simp [c1])
 ·(have zz:=trivial;repeat((first|clear zz|with_reducible first|refine A2 ?_|refine A5 fun _=>?_|refine A4 fun _=>?_);try simp(disch:=first|omega|assumption|((repeat(first|exact A1|exact uH|apply A3|apply uT));first|done|fail)|(simp;first|done|omega|fail))[c1, e1]))
  refine A89 hr (fun w' hw' => hf w' hw'.ks) ?_
  cases x
  ·(have zz:=trivial;repeat((first|clear zz|with_reducible first|refine A2 ?_|refine A5 fun _=>?_|refine A4 fun _=>?_);try simp(disch:=first|omega|assumption|((repeat(first|exact A1|exact uH|apply A3|apply uT));first|done|fail)|(simp;first|done|omega|fail))[c1]))
   exact C1 (by first | rfl | simp [c1])
  ·(have zz:=trivial;repeat((first|clear zz|with_reducible first|refine A2 ?_|refine A5 fun _=>?_|refine A4 fun _=>?_);try simp(disch:=first|omega|assumption|((repeat(first|exact A1|exact uH|apply A3|apply uT));first|done|fail)|(simp;first|done|omega|fail))[c1]))
   exact C1 (by first | rfl | simp [c1])
theorem A3D (w : World) (a b : Value) : Fn PR B7 319 #[a, b] w (fun u w' => u = .bool false ∧ C4 [] w w') := by
 refine Fn.pure (A0D (TW.go (κ := false) (S := []) ?_))
 unfold W5
 exact C1 rfl
end Go.Proofs.YtjobgnabneddjaaGreat
namespace Go.Proofs.YtjobgnabneddjaaGreat
open Go
def N1 (jb : Nat) (I : Value) : Res := .pt jb (.cells #[I] 167)
def A5w (j : JU) (x : WS) : JU × WS × w7 := if j.b.st = -1 then (j, x, false, false, false) else D2 j x
set_option maxHeartbeats 1000000 in
theorem B0P (w : World) (jb b : Nat) (j : JU) (pv qv : Value) (m : WoH) (hx : WsOk m.ws) (hp : j.pins.length ≤ 500) (hpl : j.pool.length ≤ 1000) (hst : -1 ≤ j.b.st ∧ j.b.st ≤ 500) (hsl : -1 ≤ j.slot ∧ j.slot ≤ 100) (hold : 0 ≤ j.old ∧ j.old ≤ 1000)
  (hv : ∀ w', KS false (B1 (N1 jb (G8 b) :: E9 b j pv qv :: G7 j qv :: C3 m)) w w' → F7 w' pv j.pool.length (j.pool.flatMap G2))
  (hw : LW false (B1 (N1 jb (G8 b) :: E9 b j pv qv :: G7 j qv :: C3 m)) w (N1 jb (G8 b) :: E9 b j pv qv :: G7 j qv :: C3 m) w) :
  Fn PR B7 36 #[.pointer (some ⟨jb, 0, none⟩), .pointer (some ⟨m.b, 0, none⟩)] w (Rn (B1 (N1 jb (G8 b) :: E9 b j pv qv :: G7 j qv :: C3 m)) w (fun (y : Value × WoD) u => u = S8 (A5w j m.ws).2.2 ∧ (m.up y.2).ws = (A5w j m.ws).2.1) fun y => N1 jb (G8 b) :: E9 b (A5w j m.ws).1 pv y.1 :: G7 (A5w j m.ws).1 y.1 :: C3 (m.up y.2)) := by
 refine A2l (TW.goH (κ := false) ?_ hw)
 unfold m0
 generalize hS : B1 (N1 jb (G8 b) :: E9 b j pv qv :: G7 j qv :: C3 m) = S at *
 have hR := fun (w' : World) (h1 : bl w' jb = some (.cells #[G8 b] 167 (0, 0))) (h2 : bl w' b = some (.cells (D4 j.b [pv, qv, .int .i64 j.slot, .int .i64 j.old]) 163 (0, 0))) =>
  A21 w' jb b (G8 b) j.b _ _ (.pointer (some ⟨m.b, 0, none⟩)) false _ _ (Or.inl rfl) h1 h2 (fun w => j0 w b _) (fun w'' _ => A3D w'' _ _)
 (have zz:=trivial;repeat((first|clear zz|with_reducible first|refine A2 ?_|refine A5 fun _=>?_|refine A4 fun _=>?_);try simp(disch:=first|omega|assumption|((repeat(first|exact A1|exact uH|apply A3|apply uT));first|done|fail)|(simp;first|done|omega|fail))[]))
 refine D9 K1 (fun w' hw' => hR w' (hw'.pt (b := jb) (by unfold N1; (repeat constructor))) (hw'.pt (b := b) (by unfold E9; (repeat constructor)))) ?_
 unfold A5w
 by_cases c1 : j.b.st = -1
 ·simp only [if_pos c1]
  (have zz:=trivial;repeat((first|clear zz|with_reducible first|refine A2 ?_|refine A5 fun _=>?_|refine A4 fun _=>?_);try simp(disch:=first|omega|assumption|((repeat(first|exact A1|exact uH|apply A3|apply uT));first|done|fail)|(simp;first|done|omega|fail))[c1]))
  exact B3 (qv, m.dd) ⟨rfl, rfl⟩ (by simp only [WoH.dd, WoH.up]; (repeat' constructor))
 ·simp only [if_neg c1]
  simp only [N1]
  (have zz:=trivial;repeat((first|clear zz|with_reducible first|refine A2 ?_|refine A5 fun _=>?_|refine A4 fun _=>?_);try simp(disch:=first|omega|assumption|((repeat(first|exact A1|exact uH|apply A3|apply uT));first|done|fail)|(simp;first|done|omega|fail))[c1]))
  refine B41 (Hc := E9 b j pv qv :: G7 j qv :: C3 m) (fun w => A5p w b _) (fun w' hw' hs => B2K w' b j pv qv m hx hp hpl (by omega) hsl hold (fun w'' hk => hv w'' ?_) hs) (by simp only [C3]; (repeat' constructor)) ?_
  ·refine hw'.ks.then hk fun x hx => ?_
   obtain ⟨r, hr, hxr⟩ := F8.1 hx
   exact (hw'.own r (List.mem_append_left _ hr) x hxr).1
  rintro ⟨qv', d⟩ v ⟨rfl, hv2⟩
  generalize D2 j m.ws = us at *
  simp only [S8, C3, List.cons_append, List.nil_append]
  (have zz:=trivial;repeat((first|clear zz|with_reducible first|refine A2 ?_|refine A5 fun _=>?_|refine A4 fun _=>?_);try simp(disch:=first|omega|assumption|((repeat(first|exact A1|exact uH|apply A3|apply uT));first|done|fail)|(simp;first|done|omega|fail))[]))
  exact B3 (qv', d) ⟨rfl, hv2⟩ (by (repeat' constructor))
theorem A5Y (w : World) (who : Int) (pa : Option Addr) (pn pc : Nat) (pk : ByteArray) (shard : Int) :
  Fn PR B7 32 #[.int .i64 who, .agg #[.int .i64 1, .string pk, .slice pa pn pc, .int .i64 shard]] w (Rn [] w (fun (x : Nat × Nat) u => u = .pointer (some ⟨x.1, 0, none⟩)) fun x => N1 x.1 (G8 x.2) :: [.pt x.2 (.cells (D4 ⟨who, 0, U4⟩ [.slice pa pn pc, .slice none 0 0, .int .i64 0, .int .i64 0]) 163)]) := by
 refine A52 (TW.go (κ := false) (S := []) ?_)
 unfold A1U
 (have zz:=trivial;repeat((first|clear zz|with_reducible first|refine A2 ?_|refine A5 fun _=>?_|refine A4 fun _=>?_);try simp(disch:=first|omega|assumption|((repeat(first|exact A1|exact uH|apply A3|apply uT));first|done|fail)|(simp;first|done|omega|fail))[]))
 rename_i a1 a2 a3 a4
 refine B3 (a4, a3) rfl ?_
 simp only [N1, D4, U4]
 (repeat' constructor)
end Go.Proofs.YtjobgnabneddjaaGreat
namespace Go.Proofs.YtjobgnabneddjaaGreat
open Go
def N9 : Nat → RunV → RunV → Prop
 | 0, r, r' => r = r'
 | k + 1, r, r' => r.j.ready r.x = true ∧ N9 k r.next r'
theorem N9.trans {r r' r'' : RunV} : ∀ {k m : Nat}, N9 k r r' → N9 m r' r'' → N9 (k + m) r r''
 | 0, m, h, h' => by cases h; simpa using h'
 | k + 1, m, h, h' => by
  rw [show k + 1 + m = k + m + 1 by omega]
  exact ⟨h.1, N9.trans h.2 h'⟩
theorem N9.run {r r' : RunV} : ∀ {k : Nat} (f : Nat), N9 k r r' → K4 (k + f) r = K4 f r'
 | 0, f, h => by cases h; simp
 | k + 1, f, h => by
  rw [show k + 1 + f = k + f + 1 by omega, K4, if_pos h.1]
  exact N9.run f h.2
theorem B3q {r : RunV} (h : r.j.b.st = -1) : ∀ f, K4 f r = r
 | 0 => rfl
 | f + 1 => by rw [K4, if_neg (by simp [JV.ready, h])]
theorem N9.ends {r r' : RunV} {k : Nat} (h : N9 k r r') (hk : k ≤ 200) (he : r'.j.b.st = -1) : K4 200 r = r' := by
 have := h.run (200 - k)
 rw [show k + (200 - k) = 200 by omega] at this
 rw [this, B3q he]
theorem N9.one {r : RunV} (h : r.j.ready r.x = true) : N9 1 r r.next := ⟨h, rfl⟩
theorem Q2 {j : JU} {x : WS} (h : j.b.st ≠ -1) : (JV.upd j).ready x = true := by simp [JV.ready, JV.waits, JV.b, h]
theorem T2 (j : JU) (x : WS) (n t b : Nat) : RunV.next ⟨.upd j, x, n, t, b⟩ = ⟨.upd (D2 j x).1, (D2 j x).2.1, n + 1, t + (D2 j x).2.2.1.toNat, b + (D2 j x).2.2.2.2.toNat⟩ := rfl
def A3n (x : WS) (k : Nat) : List Int := (List.range k).map fun i : Nat => D8 x.cells (x7 x.c (((i : Nat) : Int) + 1))
theorem A7f {j : JU} {x : WS} (hs : j.b.st = 0) (hb : J0 j = 0) (hp : j.pins = []) : ∀ k : Nat, (k : Int) ≤ x.c.wk → N9 k ⟨.upd j, x, 0, 0, 0⟩ ⟨.upd { j with b := { j.b with st := (k : Nat) }, pins := A3n x k }, x, k, 0, 0⟩
 | 0, _ => by
  obtain ⟨⟨who, st, ans⟩, pool, pins, slot, old⟩ := j
  simp only at hs hp
  subst hs hp
  rfl
 | k + 1, hk => by
  have ih := A7f (x := x) hs hb hp k (by omega)
  have hrd : ({ j with b := { j.b with st := (k : Nat) }, pins := A3n x k } : JU).b.st ≠ -1 := by show ((k : Nat) : Int) ≠ -1; omega
  refine ih.trans ⟨Q2 hrd, ?_⟩
  rw [T2]
  have hb' : ¬ (((k : Nat) : Int) = 0 ∧ J0 { j with b := { j.b with st := (k : Nat) }, pins := A3n x k } ≠ 0) := fun h => h.2 hb
  unfold D2
  simp only
  rw [if_neg hb', if_pos (by omega)]
  show (_ : RunV) = _
  simp only [D7, A3n, List.range_succ, List.map_append, List.map_cons, List.map_nil, Bool.toNat_false, Nat.add_zero]
  rfl
def M6 (P : List Int) (l : List (Int × Int)) : List (Int × Int) := l.map fun s => if D5 P s then (0, 0) else s
def V2 (P : List Int) (l : List (Int × Int)) (s : List SlV) : List SlV := List.zipWith (fun k s => if D5 P k then .no else s) l s
theorem A4g (P : List Int) (l : List (Int × Int)) : (H9 l P = -1 ∧ ∀ s ∈ l, D5 P s = false) ∨ ∃ i, ∃ h : i < l.length, H9 l P = (i : Nat) ∧ D5 P l[i] = true := by
 unfold H9
 by_cases h : l.findIdx (D5 P) < l.length
 ·right
  refine ⟨_, h, by rw [if_pos h], ?_⟩
  have := List.findIdx_getElem (w := h)
  exact this
 ·left
  rw [if_neg h]
  refine ⟨rfl, fun s hs => ?_⟩
  rw [List.findIdx_lt_length] at h
  cases hr : D5 P s with
  | false => rfl
  | true => exact absurd ⟨s, hs, hr⟩ h
theorem B2b {P : List Int} {l : List (Int × Int)} (h : ∀ s ∈ l, D5 P s = false) : M6 P l = l := by
 unfold M6
 rw [List.map_congr_left (g := id) fun s hs => by rw [h s hs]; rfl]
 simp
theorem B1A {P : List Int} {l : List (Int × Int)} (h : ∀ s ∈ l, D5 P s = false) {s : List SlV} (hl : l.length = s.length) : V2 P l s = s := by
 unfold V2
 apply List.ext_getElem (by simp [hl])
 intro i h1 h2
 rw [List.getElem_zipWith, h _ (List.getElem_mem ..)]
 simp
theorem A4n (P : List Int) : D5 P (0, 0) = false := rfl
theorem A9N {P : List Int} {l : List (Int × Int)} {i : Nat} (h : i < l.length) (hr : D5 P l[i] = true) : M6 P (l.set i (0, 0)) = M6 P l := by
 unfold M6
 apply List.ext_getElem (by simp)
 intro k h1 h2
 simp only [List.getElem_map, List.getElem_set]
 by_cases e : i = k
 ·subst e; simp [hr, A4n]
 ·simp [e]
theorem A9M {P : List Int} {l : List (Int × Int)} {i : Nat} (h : i < l.length) (hr : D5 P l[i] = true) {s : List SlV} (hl : l.length = s.length) : V2 P (l.set i (0, 0)) (s.set i .no) = V2 P l s := by
 unfold V2
 apply List.ext_getElem (by simp)
 intro k h1 h2
 simp only [List.getElem_zipWith, List.getElem_set]
 by_cases e : i = k
 ·subst e; simp [hr, A4n]
 ·simp [e]
theorem A96 {P : List Int} {l : List (Int × Int)} {i : Nat} (h : i < l.length) (hr : D5 P l[i] = true) : (l.set i (0, 0)).countP (D5 P) + 1 = l.countP (D5 P) := by
 rw [List.countP_set h, if_pos hr]
 have h1 : 0 < l.countP (D5 P) := List.countP_pos_iff.2 ⟨_, List.getElem_mem h, hr⟩
 simp only [A4n, Bool.false_eq_true, if_false]
 omega
theorem A66 {j : JU} : ∀ (m : Nat) {x : WS} {n t b : Nat}, x.keep.countP (D5 j.pins) = m → j.b.st = x.c.wk → 1 ≤ x.c.wk → x.keep.length = x.sl.length →
  N9 m ⟨.upd j, x, n, t, b⟩ ⟨.upd j, { x with sl := V2 j.pins x.keep x.sl, keep := M6 j.pins x.keep }, n + m, t, b⟩
 | m, x, n, t, b, hm, hs, hw, hl => by
  rcases A4g j.pins x.keep with ⟨h1, h2⟩ | ⟨i, hi, h1, h2⟩
  ·have : x.keep.countP (D5 j.pins) = 0 := by
    rw [List.countP_eq_zero]; intro s hs; rw [h2 s hs]; simp
   obtain rfl : m = 0 := by omega
   rw [B2b h2, B1A h2 hl]
   rfl
  ·have hc := A96 hi h2
   obtain ⟨m, rfl⟩ : ∃ q, m = q + 1 := ⟨m - 1, by omega⟩
   refine ⟨Q2 (by omega), ?_⟩
   rw [T2]
   have hb' : ¬ (j.b.st = 0 ∧ J0 j ≠ 0) := fun h => by omega
   have hst : D2 j x = (j, { x with sl := x.sl.set i .no, keep := x.keep.set i (0, 0) }, false, false, false) := by
    unfold D2
    rw [if_neg hb', if_neg (by omega), if_pos (by omega)]
    unfold H4
    rw [h1, if_pos (by omega)]
    have e1 : L8 x.sl i .no = x.sl.set i .no := by unfold L8; rw [if_pos (by omega)]; simp
    have h3 : (x.keep[i]).1 = 2 := by unfold D5 at h2; simp only [Bool.and_eq_true, decide_eq_true_eq] at h2; exact h2.1
    have e3 : e9 x.keep i = 2 := by
     unfold e9; rw [if_pos (by omega), Int.toNat_natCast, List.getD_eq_getElem?_getD, List.getElem?_eq_getElem hi]; exact h3
    have e2 : A2C x.keep i = x.keep.set i (0, 0) := by
     unfold A2C A0c; rw [if_pos ⟨e3, by omega⟩, Int.toNat_natCast]
    rw [e1, e2]
   rw [hst]
   have ih := A66 (j := j) m (x := { x with sl := x.sl.set i .no, keep := x.keep.set i (0, 0) }) (n := n + 1) (t := t) (b := b) (by simp only; omega) hs hw (by simp [hl])
   simp only [A9N hi h2, A9M hi h2 hl] at ih
   simpa [Nat.add_assoc, Nat.add_comm 1 m] using ih
end Go.Proofs.YtjobgnabneddjaaGreat
namespace Go.Proofs.YtjobgnabneddjaaGreat
open Go
structure UInv (n : Nat) (j : JU) (x : WS) : Prop where
 ok : WsOk x
 st : -1 ≤ j.b.st ∧ j.b.st ≤ n
 pins : j.pins.length ≤ n
 slot : -1 ≤ j.slot ∧ j.slot ≤ 8
 old : 0 ≤ j.old ∧ j.old ≤ 1000
 cur : 0 ≤ D8 x.cells 1 ∧ D8 x.cells 1 ≤ 1000
theorem y5 (l : List SlV) (i : Int) (x : SlV) : (L8 l i x).length = l.length := by unfold L8; split <;> simp
theorem A99 (l : List SlV) (i : Int) (p : List E6) : (j8 l i p).length = l.length := by
 unfold j8; split
 ·split
  ·exact y5 _ _ _
  ·rfl
 ·rfl
theorem A3E (l : List (Int × Int)) (i a : Int) (s : Int × Int) : (A0c l i a s).length = l.length := by unfold A0c; split <;> simp
theorem A2S (l : List (Int × Int)) : (F9 l).length = l.length := by unfold F9; split <;> simp
theorem A05 (l : List Int) (i v : Int) : (H6 l i v).length = l.length := by unfold H6; split <;> simp
theorem A5T (l : List Int) (i v : Int) : D8 (H6 l i v) i = if 0 ≤ i ∧ i < l.length then v else 0 := by
 unfold D8 H6
 by_cases h : 0 ≤ i ∧ i < l.length
 ·rw [if_pos h, if_pos h, if_pos (by rw [List.length_set]; exact h), List.getD_eq_getElem?_getD, List.getElem?_set_self (by omega)]; rfl
 ·rw [if_neg h, if_neg h, if_neg h]
theorem A1L {i k : Int} (l : List Int) (v : Int) (h : i ≠ k) : D8 (H6 l i v) k = D8 l k := by
 unfold D8 H6
 by_cases h1 : 0 ≤ i ∧ i < l.length
 ·rw [if_pos h1, List.length_set]
  by_cases h2 : 0 ≤ k ∧ k < l.length
  ·rw [if_pos h2, if_pos h2, List.getD_eq_getElem?_getD, List.getD_eq_getElem?_getD, List.getElem?_set_ne (by omega)]
  ·rw [if_neg h2, if_neg h2]
 ·rw [if_neg h1]
theorem B2C (l : List (Int × Int)) : -1 ≤ D6 l ∧ D6 l < max 1 l.length := by
 unfold D6; split <;> omega
theorem A7d (j : JU) (x : WS) : (D2 j x).1.pool = j.pool := by
 unfold D2 H4 D7 A1P
 repeat' split
 all_goals rfl
theorem B02 {n : Nat} {j : JU} {x : WS} (h : UInv n j x) (hst : j.b.st ≠ -1) : UInv (n + 1) (D2 j x).1 (D2 j x).2.1 := by
 obtain ⟨⟨w1, w2, w3, w4, w5⟩, s1, s2, s3, s4, s5⟩ := h
 have ht := B2C x.keep
 unfold D2
 by_cases c1 : j.b.st = 0 ∧ J0 j ≠ 0
 ·rw [if_pos c1]
  exact ⟨⟨w1, w2, w3, w4, w5⟩, by simp only [JB.refuse]; omega, by simp only; omega, s3, s4, s5⟩
 rw [if_neg c1]
 by_cases c2 : j.b.st = 0 ∨ j.b.st - x.c.wk < 0
 ·rw [if_pos c2]
  exact ⟨⟨w1, w2, w3, w4, w5⟩, by simp only [D7]; omega, by simp only [List.length_append, List.length_singleton]; omega, s3, s4, s5⟩
 rw [if_neg c2]
 by_cases d0 : j.b.st - x.c.wk = 0
 ·rw [if_pos d0]
  unfold H4
  by_cases e1 : 0 ≤ H9 x.keep j.pins
  ·rw [if_pos e1]
   exact ⟨⟨w1, w2, w3, by simp only [y5]; omega, by simp only [A2C, A3E]; omega⟩, by simp only; omega, by simp only; omega, s3, s4, s5⟩
  rw [if_neg e1]
  by_cases e2 : D6 x.keep < 0
  ·rw [if_pos e2]
   exact ⟨⟨w1, w2, w3, w4, w5⟩, by simp only [JB.refuse]; omega, by simp only; omega, by simp only; omega, s4, s5⟩
  rw [if_neg e2]
  exact ⟨⟨w1, w2, w3, by simp only [y5]; omega, by simp only [A2S]; omega⟩, by simp only; omega, by simp only; omega, by simp only; omega, s4, s5⟩
 rw [if_neg d0]
 by_cases d1 : j.b.st - x.c.wk = 1
 ·rw [if_pos d1]
  exact ⟨⟨w1, w2, w3, by simp only [A99]; omega, w5⟩, by simp only [D7]; omega, by simp only [D7]; omega, s3, s4, s5⟩
 rw [if_neg d1]
 by_cases d2 : j.b.st - x.c.wk = 2
 ·rw [if_pos d2]
  exact ⟨⟨w1, w2, w3, w4, w5⟩, by simp only [D7]; omega, by simp only [D7]; omega, s3, s5, s5⟩
 rw [if_neg d2]
 by_cases d3 : j.b.st - x.c.wk = 3
 ·rw [if_pos d3]
  refine ⟨⟨w1, by simp only [A05]; omega, w3, w4, w5⟩, by simp only [D7]; omega, by simp only [D7]; omega, s3, s4, ?_⟩
  simp only [A5T]
  split <;> omega
 rw [if_neg d3]
 unfold A1P
 refine ⟨⟨w1, by simp only [A05]; omega, w3, w4, ?_⟩, by simp only; omega, by simp only [D7]; omega, s3, s4, ?_⟩
 ·simp only
  split
  ·simp only [A3G, A3E]; omega
  ·omega
 ·simp only
  rw [A1L _ _ (by omega)]
  exact s5
end Go.Proofs.YtjobgnabneddjaaGreat
namespace Go.Proofs.YtjobgnabneddjaaGreat
open Go
theorem r4 : ∀ A : List Res, Sels A A
 | [] => Sels.nil
 | r :: A => Sels.cons Sel.here (r4 A)
theorem A6S : ∀ A : List Res, Part A A []
 | [] => Part.nil
 | r :: A => Part.cons Sel.here (A6S A)
theorem A7p (B : List Res) : ∀ A : List Res, Part A (A ++ B) B
 | [] => Part.nil
 | r :: A => Part.cons Sel.here (A7p B A)
def A0T (x : JV × WS) : JV × WS := ((x.1.step0 x.2).1, (x.1.step0 x.2).2.1)
def U0 (x : JV × WS) (n tk bad : Nat) : RunV := ⟨x.1, x.2, n, tk, bad⟩
theorem A68 {x : JV × WS} {n tk bad : Nat} (h : x.1.ready x.2 = false) : ∀ f, K4 f (U0 x n tk bad) = U0 x n tk bad
 | 0 => rfl
 | f + 1 => by rw [K4, if_neg (by rw [show (U0 x n tk bad).j.ready (U0 x n tk bad).x = false from h]; decide)]
theorem A6J {x : JV × WS} {n tk bad : Nat} (h : x.1.ready x.2 = true) (f : Nat) : K4 (f + 1) (U0 x n tk bad) = K4 f (U0 (A0T x) (n + 1) (tk + (x.1.step0 x.2).2.2.1.toNat) (bad + (x.1.step0 x.2).2.2.2.2.toNat)) := by
 rw [K4, if_pos (show (U0 x n tk bad).j.ready (U0 x n tk bad).x = true from h)]; rfl
abbrev B2F (α : Type) := α × Nat × Nat × Nat
def B6E (α : Type) (φ : Nat → α → Prop) (V : α → JV × WS) (R : RunV) (y : B2F α) : Prop := φ y.2.1 y.1 ∧ K4 (200 - y.2.1) (U0 (V y.1) y.2.1 y.2.2.1 y.2.2.2) = R
set_option maxHeartbeats 1000000 in
theorem B2B {α : Type} (w : World) (jp wp : Value) (Hh : α → List Res) (φ : Nat → α → Prop) (V : α → JV × WS) (a0 : α) (h0 : φ 0 a0)
  (hR : ∀ n a w', φ n a → LW false (B1 (Hh a0)) w (Hh a) w' → Fn PR B7 39 #[jp, wp] w' (fun u w'' => u = .bool ((V a).1.ready (V a).2) ∧ C4 [] w' w''))
  (hS : ∀ n a w', n < 200 → φ n a → (V a).1.ready (V a).2 = true → LW false (B1 (Hh a0)) w (Hh a) w' → LW false (B1 (Hh a)) w' (Hh a) w' → Fn PR B7 36 #[jp, wp] w' (Rn (B1 (Hh a)) w' (fun (a' : α) u => u = S8 ((V a).1.step0 (V a).2).2.2 ∧ V a' = A0T (V a) ∧ φ (n + 1) a') Hh))
  (hw : LW false (B1 (Hh a0)) w (Hh a0) w) :
  Fn PR B7 33 #[jp, wp] w (Rn (B1 (Hh a0)) w (fun (y : B2F α) u => u = .tuple #[.int .i64 (y.2.1 : Nat), .int .i64 (y.2.2.1 : Nat), .int .i64 (y.2.2.2 : Nat)] ∧ φ y.2.1 y.1 ∧ U0 (V y.1) y.2.1 y.2.2.1 y.2.2.2 = K4 200 (U0 (V a0) 0 0 0)) fun y => Hh y.1) := by
 refine A1e (TW.goH (κ := false) ?_ hw)
 unfold d9
 generalize hR0 : K4 200 (U0 (V a0) 0 0 0) = R0
 generalize hS0 : B1 (Hh a0) = S at *
 (have zz:=trivial;repeat((first|clear zz|with_reducible first|refine A2 ?_|refine A5 fun _=>?_|refine A4 fun _=>?_);try simp(disch:=first|omega|assumption|((repeat(first|exact A1|exact uH|apply A3|apply uT));first|done|fail)|(simp;first|done|omega|fail))[]))
 refine B6x (fun y : B2F α => Hh y.1) (fun y => (y.2.1 ≤ 200 ∧ y.2.2.1 ≤ y.2.1 ∧ y.2.2.2 ≤ y.2.1) ∧ B6E α φ V R0 y) (fun y => 200 - y.2.1) (a0, 0, 0, 0) (fun y => .int .i64 (y.2.1 : Nat)) (fun y => .int .i64 (y.2.2.1 : Nat)) (fun y => .int .i64 (y.2.2.2 : Nat)) ⟨⟨Nat.zero_le _, Nat.le_refl _, Nat.le_refl _⟩, h0, hR0⟩ ?_
 rintro ⟨a, n, tk, bad⟩ ⟨⟨h1, h2, h3⟩, h6, h7⟩ L hL
 simp only at h1 h2 h3 h6 h7 ⊢
 have hR' := fun w' hw' => hR n a w' h6 hw'
 have hfin : (V a).1.ready (V a).2 = false ∨ n = 200 → U0 (V a) n tk bad = R0 := fun h => by
  rcases h with h | h
  ·rw [← h7, A68 h]
  ·rw [← h7, show 200 - n = 0 by omega]; rfl
 by_cases c1 : n < 200
 case neg =>
  have c1' : ¬ ((n : Nat) : Int) < 200 := by omega
  have c2 := hfin (Or.inr (by omega))
  clear hfin h7 hR hS hL hR0
  (have zz:=trivial;repeat((first|clear zz|with_reducible first|refine A2 ?_|refine A5 fun _=>?_|refine A4 fun _=>?_);try simp(disch:=first|omega|assumption|((repeat(first|exact A1|exact uH|apply A3|apply uT));first|done|fail)|(simp;first|done|omega|fail))[c1, c1']))
  exact B3 (a, n, tk, bad) ⟨rfl, h6, c2⟩ (r4 _)
 have hS' := fun w' hr hw' hs => hS n a w' c1 h6 hr hw' hs
 have hnx : (V a).1.ready (V a).2 = true → K4 (200 - (n + 1)) (U0 (A0T (V a)) (n + 1) (tk + ((V a).1.step0 (V a).2).2.2.1.toNat) (bad + ((V a).1.step0 (V a).2).2.2.2.2.toNat)) = R0 := fun h => by
  rw [← h7, ← A6J h, show 200 - (n + 1) + 1 = 200 - n by omega]
 obtain ⟨told, ht⟩ : ∃ t, t = ((V a).1.step0 (V a).2).2.2 := ⟨_, rfl⟩
 rw [← ht] at hnx hS'
 obtain ⟨rd, hrd⟩ : ∃ r, r = (V a).1.ready (V a).2 := ⟨_, rfl⟩
 rw [← hrd] at hnx hR' hS' hfin
 obtain ⟨x', hx'⟩ : ∃ x, x = A0T (V a) := ⟨_, rfl⟩
 rw [← hx'] at hnx hS'
 clear hR hS hR0 h7 hrd ht hx'
 have c1' : ((n : Nat) : Int) < 200 := by omega
 (have zz:=trivial;repeat((first|clear zz|with_reducible first|refine A2 ?_|refine A5 fun _=>?_|refine A4 fun _=>?_);try simp(disch:=first|omega|assumption|((repeat(first|exact A1|exact uH|apply A3|apply uT));first|done|fail)|(simp;first|done|omega|fail))[c1, c1']))
 refine D9 K1 (fun w' hw' => hR' w' hw') ?_
 cases rd with
 | false =>
  (have zz:=trivial;repeat((first|clear zz|with_reducible first|refine A2 ?_|refine A5 fun _=>?_|refine A4 fun _=>?_);try simp(disch:=first|omega|assumption|((repeat(first|exact A1|exact uH|apply A3|apply uT));first|done|fail)|(simp;first|done|omega|fail))[c1, c1']))
  exact B3 (a, n, tk, bad) ⟨rfl, h6, hfin (Or.inl rfl)⟩ (r4 _)
 | true =>
  (have zz:=trivial;repeat((first|clear zz|with_reducible first|refine A2 ?_|refine A5 fun _=>?_|refine A4 fun _=>?_);try simp(disch:=first|omega|assumption|((repeat(first|exact A1|exact uH|apply A3|apply uT));first|done|fail)|(simp;first|done|omega|fail))[c1, c1']))
  refine C0 (Hc := Hh a) (Hk := []) S9 (fun w' hw' hs => hS' w' rfl (by simpa using hw') hs) (A6S _) ?_
  rintro a' v ⟨rfl, hv2, hv3⟩
  obtain ⟨t1, t2, t3⟩ := told
  have h := hnx rfl
  simp only at h
  rw [← hv2] at h
  simp only [S8, List.append_nil]
  cases t1 <;> cases t3
  all_goals
   (have zz:=trivial;repeat((first|clear zz|with_reducible first|refine A2 ?_|refine A5 fun _=>?_|refine A4 fun _=>?_);try simp(disch:=first|omega|assumption|((repeat(first|exact A1|exact uH|apply A3|apply uT));first|done|fail)|(simp;first|done|omega|fail))[]))
   refine TW.sub (hL (a', n + 1, _, _) ⟨⟨by simp only; omega, by simp only; omega, by simp only; omega⟩, hv3, h⟩ (by simp only; omega)) (by ((try simp only [List.cons_append, List.nil_append, List.append_assoc]); (repeat (first | exact List.Sublist.refl _ | exact List.nil_sublist _ | with_reducible apply List.Sublist.cons_cons | apply List.Sublist.cons)); first | done | fail))
end Go.Proofs.YtjobgnabneddjaaGreat
namespace Go.Proofs.YtjobgnabneddjaaGreat
open Go
def D0 (who : Int) (p : List E6) : JU := ⟨⟨who, 0, U4⟩, p, [], 0, 0⟩
abbrev pW (x : WS) : List Int := A3n x x.c.wk.toNat
abbrev kF (x : WS) : List (Int × Int) := M6 (pW x) x.keep
abbrev sF (x : WS) : List SlV := V2 (pW x) x.keep x.sl
theorem A4k (P : List Int) (l : List (Int × Int)) : H9 (M6 P l) P = -1 := by
 rcases A4g P (M6 P l) with ⟨h, _⟩ | ⟨i, hi, _, h⟩
 ·exact h
 ·exfalso
  have hi' : i < l.length := by unfold M6 at hi; simpa using hi
  have e : (M6 P l)[i] = if D5 P l[i] then (0, 0) else l[i] := by simp [M6]
  rw [e] at h
  cases hr : D5 P l[i] with
  | true => rw [hr] at h; simp [A4n] at h
  | false => rw [hr] at h; simp [hr] at h
theorem H8 (P : List Int) (l : List (Int × Int)) : (M6 P l).length = l.length := by unfold M6; simp
theorem V8 {P : List Int} {l : List (Int × Int)} {s : List SlV} (h : l.length = s.length) : (V2 P l s).length = s.length := by unfold V2; simp [h]
theorem A1Z {l : List SlV} {i : Int} {x : SlV} (h : 0 ≤ i ∧ i < l.length) : L8 l i x = l.set i.toNat x := if_pos h
theorem B1U {l : List SlV} {i : Int} {x : SlV} (h : 0 ≤ i ∧ i < l.length) : G5 (L8 l i x) i = x := by
 rw [A1Z h]; unfold G5
 rw [if_pos (by rw [List.length_set]; exact h), List.getD_eq_getElem?_getD, List.getElem?_set_self (by omega)]; rfl
theorem B2W {l : List SlV} {i : Int} {p : List E6} (h : 0 ≤ i ∧ i < l.length) (hp : F2 p = 0) : j8 (L8 l i .bld) i p = L8 l i (.rdy p) := by
 unfold j8
 rw [B1U h]
 simp only [if_pos hp]
 have h' : 0 ≤ i ∧ i < (L8 l i .bld).length := by rw [y5]; exact h
 rw [A1Z h', A1Z h, A1Z h, List.set_set]
def V3 (x : WS) : Nat := x.keep.countP (D5 (pW x))
theorem A8c {p : List E6} {x : WS} (hp : F2 p = 0) (hw : 1 ≤ x.c.wk) (hl : x.keep.length = x.sl.length) :
  N9 (x.c.wk.toNat + V3 x) ⟨.upd (D0 0 p), x, 0, 0, 0⟩ ⟨.upd { D0 0 p with b := ⟨0, x.c.wk, U4⟩, pins := pW x }, { x with sl := sF x, keep := kF x }, x.c.wk.toNat + V3 x, 0, 0⟩ := by
 have h1 := A7f (j := D0 0 p) (x := x) rfl (by simpa [J0, D0] using hp) rfl x.c.wk.toNat (by omega)
 have e : ((x.c.wk.toNat : Nat) : Int) = x.c.wk := by omega
 rw [e] at h1
 have h2 := A66 (j := { D0 0 p with b := ⟨0, x.c.wk, U4⟩, pins := pW x }) (V3 x) (x := x) (n := x.c.wk.toNat) (t := 0) (b := 0) rfl rfl hw hl
 exact h1.trans h2
theorem B1n {p : List E6} {x : WS} (hp : F2 p = 0) (hw : 1 ≤ x.c.wk ∧ x.c.wk ≤ 64) (hl : x.keep.length = x.sl.length) (h8 : x.keep.length ≤ 8) (ht : D6 (kF x) < 0) :
  K4 200 ⟨.upd (D0 0 p), x, 0, 0, 0⟩ = ⟨.upd { D0 0 p with b := ⟨0, -1, ⟨13, 0, false, 0⟩⟩, pins := pW x, slot := D6 (kF x) }, { x with sl := sF x, keep := kF x }, x.c.wk.toNat + V3 x + 1, 1, 0⟩ := by
 have h := A8c (p := p) hp hw.1 hl
 have hc : V3 x ≤ x.keep.length := List.countP_le_length
 have hrd : ({ D0 0 p with b := ⟨0, x.c.wk, U4⟩, pins := pW x } : JU).b.st ≠ -1 := by show x.c.wk ≠ -1; omega
 refine (h.trans (N9.one (Q2 hrd))).ends (by omega) ?_ |>.trans ?_
 all_goals
  rw [T2]
  unfold D2
  simp only
  rw [if_neg (by omega), if_neg (by omega), if_pos (by omega)]
  unfold H4
  simp only
  rw [A4k, if_neg (by omega), if_pos ht]
  rfl
def epW (x : WS) : Int := IntKind.i64.wrap (D8 x.cells 0 + 1)
def E3 (x : WS) (p : List E6) : WS :=
 { x with cells := H6 (H6 x.cells 1 (D6 (kF x) + 1)) 0 (epW x), sl := L8 (sF x) (D6 (kF x)) (.rdy p), keep := if 0 < D8 x.cells 1 then A3G (F9 (kF x)) (D8 x.cells 1 - 1) (epW x) else F9 (kF x) }
theorem B2a {l : List (Int × Int)} (h : ¬ D6 l < 0) : 0 ≤ D6 l ∧ D6 l < l.length := by
 unfold D6 at *
 split at h
 ·rw [if_pos (by assumption)]; omega
 ·omega
theorem B1b {p : List E6} {x : WS} (hp : F2 p = 0) (hw : 1 ≤ x.c.wk ∧ x.c.wk ≤ 64) (hl : x.keep.length = x.sl.length) (h8 : x.keep.length ≤ 8) (ht : ¬ D6 (kF x) < 0) :
  K4 200 ⟨.upd (D0 0 p), x, 0, 0, 0⟩ = ⟨.upd { D0 0 p with b := ⟨0, -1, U4⟩, pins := pW x, slot := D6 (kF x), old := D8 x.cells 1 }, E3 x p, x.c.wk.toNat + V3 x + 5, 1, 0⟩ := by
 have h := A8c (p := p) hp hw.1 hl
 have hc : V3 x ≤ x.keep.length := List.countP_le_length
 have hin : 0 ≤ D6 (kF x) ∧ D6 (kF x) < (sF x).length := by
  have := B2a ht
  rw [H8] at this
  rw [V8 hl]
  omega
 have hrd : ∀ {j : JU} {k : Int}, j.b.st = x.c.wk + k → 0 ≤ k → j.b.st ≠ -1 := fun h h' => by omega
 generalize hq : D6 (kF x) = s at *
 have g1 : N9 1 ⟨.upd { D0 0 p with b := ⟨0, x.c.wk, U4⟩, pins := pW x }, { x with sl := sF x, keep := kF x }, x.c.wk.toNat + V3 x, 0, 0⟩ ⟨.upd { D0 0 p with b := ⟨0, x.c.wk + 1, U4⟩, pins := pW x, slot := s }, { x with sl := L8 (sF x) s .bld, keep := F9 (kF x) }, x.c.wk.toNat + V3 x + 1, 0, 0⟩ := by
  refine ⟨Q2 (hrd (k := 0) (by simp) (by omega)), ?_⟩
  rw [T2]
  unfold D2
  simp only
  rw [if_neg (by omega), if_neg (by omega), if_pos (by omega)]
  unfold H4
  simp only
  rw [A4k, if_neg (by omega), hq, if_neg ht]
  rfl
 have g2 : N9 1 ⟨.upd { D0 0 p with b := ⟨0, x.c.wk + 1, U4⟩, pins := pW x, slot := s }, { x with sl := L8 (sF x) s .bld, keep := F9 (kF x) }, x.c.wk.toNat + V3 x + 1, 0, 0⟩ ⟨.upd { D0 0 p with b := ⟨0, x.c.wk + 2, U4⟩, pins := pW x, slot := s }, { x with sl := L8 (sF x) s (.rdy p), keep := F9 (kF x) }, x.c.wk.toNat + V3 x + 2, 0, 0⟩ := by
  refine ⟨Q2 (hrd (k := 1) rfl (by omega)), ?_⟩
  rw [T2]
  unfold D2
  simp only
  rw [if_neg (by omega), if_neg (by omega), if_neg (by omega), if_pos (by omega)]
  show (_ : RunV) = _
  simp only [D7, D0, B2W hin hp, show x.c.wk + 1 + 1 = x.c.wk + 2 by omega, Bool.toNat_false, Nat.add_zero]
 have g3 : N9 1 ⟨.upd { D0 0 p with b := ⟨0, x.c.wk + 2, U4⟩, pins := pW x, slot := s }, { x with sl := L8 (sF x) s (.rdy p), keep := F9 (kF x) }, x.c.wk.toNat + V3 x + 2, 0, 0⟩ ⟨.upd { D0 0 p with b := ⟨0, x.c.wk + 3, U4⟩, pins := pW x, slot := s, old := D8 x.cells 1 }, { x with sl := L8 (sF x) s (.rdy p), keep := F9 (kF x) }, x.c.wk.toNat + V3 x + 3, 0, 0⟩ := by
  refine ⟨Q2 (hrd (k := 2) rfl (by omega)), ?_⟩
  rw [T2]
  unfold D2
  simp only
  rw [if_neg (by omega), if_neg (by omega), if_neg (by omega), if_neg (by omega), if_pos (by omega)]
  show (_ : RunV) = _
  simp only [D7, D0, show x.c.wk + 2 + 1 = x.c.wk + 3 by omega, Bool.toNat_false, Nat.add_zero]
 have g4 : N9 1 ⟨.upd { D0 0 p with b := ⟨0, x.c.wk + 3, U4⟩, pins := pW x, slot := s, old := D8 x.cells 1 }, { x with sl := L8 (sF x) s (.rdy p), keep := F9 (kF x) }, x.c.wk.toNat + V3 x + 3, 0, 0⟩ ⟨.upd { D0 0 p with b := ⟨0, x.c.wk + 4, U4⟩, pins := pW x, slot := s, old := D8 x.cells 1 }, { x with cells := H6 x.cells 1 (s + 1), sl := L8 (sF x) s (.rdy p), keep := F9 (kF x) }, x.c.wk.toNat + V3 x + 4, 1, 0⟩ := by
  refine ⟨Q2 (hrd (k := 3) rfl (by omega)), ?_⟩
  rw [T2]
  unfold D2
  simp only
  rw [if_neg (by omega), if_neg (by omega), if_neg (by omega), if_neg (by omega), if_neg (by omega), if_pos (by omega)]
  show (_ : RunV) = _
  simp only [D7, D0, show x.c.wk + 3 + 1 = x.c.wk + 4 by omega, Bool.toNat_false, Bool.toNat_true, Nat.add_zero]
 have g5 : N9 1 ⟨.upd { D0 0 p with b := ⟨0, x.c.wk + 4, U4⟩, pins := pW x, slot := s, old := D8 x.cells 1 }, { x with cells := H6 x.cells 1 (s + 1), sl := L8 (sF x) s (.rdy p), keep := F9 (kF x) }, x.c.wk.toNat + V3 x + 4, 1, 0⟩ ⟨.upd { D0 0 p with b := ⟨0, -1, U4⟩, pins := pW x, slot := s, old := D8 x.cells 1 }, E3 x p, x.c.wk.toNat + V3 x + 5, 1, 0⟩ := by
  refine ⟨Q2 (hrd (k := 4) rfl (by omega)), ?_⟩
  rw [T2]
  unfold D2
  simp only
  rw [if_neg (by omega), if_neg (by omega), if_neg (by omega), if_neg (by omega), if_neg (by omega), if_neg (by omega)]
  show (_ : RunV) = _
  simp only [D7, A1P, D0, E3, epW, hq, A1L x.cells (s + 1) (show (1 : Int) ≠ 0 by omega), Bool.toNat_false, Nat.add_zero]
 refine Eq.trans (((((h.trans g1).trans g2).trans g3).trans g4).trans g5 |>.ends (by omega) rfl) rfl
end Go.Proofs.YtjobgnabneddjaaGreat
namespace Go.Proofs.YtjobgnabneddjaaGreat
open Go
abbrev UpA := JU × Value × WoD
def N4 (jb b : Nat) (pv : Value) (m : WoH) (a : UpA) : List Res := N1 jb (G8 b) :: E9 b a.1 pv a.2.1 :: G7 a.1 a.2.1 :: C3 (m.up a.2.2)
theorem B00 {j : JU} {x : WS} (h : j.b.st ≠ -1) : A5w j x = D2 j x := if_neg h
theorem A6B (w w' : World) (jb b : Nat) (pv : Value) (m : WoH) (a : UpA) {κ : Bool} {S : List Nat} {H : List Res} (h1 : N1 jb (G8 b) ∈ H) (h2 : E9 b a.1 pv a.2.1 ∈ H) (v : Value) (x : WS) (hw' : LW κ S w H w') :
  Fn PR B7 39 #[.pointer (some ⟨jb, 0, none⟩), v] w' (fun u w'' => u = .bool ((JV.upd a.1).ready x) ∧ C4 [] w' w'') :=
 A21 w' jb b (G8 b) a.1.b _ _ v false _ _ (Or.inl rfl) (hw'.pt h1) (hw'.pt h2) (fun w => j0 w b _) (fun w'' _ => A3D w'' _ _)
theorem A3N (w w' : World) (jb b : Nat) (pv : Value) (m : WoH) (p : List E6) (hpl : p.length ≤ 1000) {S : List Nat} (n : Nat) (hn : n < 400) (a : UpA) (hi : UInv n a.1 (m.up a.2.2).ws) (hp : a.1.pool = p) (hrd : (JV.upd a.1).ready (m.up a.2.2).ws = true) (hv : ∀ w', KS false S w w' → F7 w' pv p.length (p.flatMap G2))
  (hw' : LW false S w (N4 jb b pv m a) w') (hs : LW false (B1 (N4 jb b pv m a)) w' (N4 jb b pv m a) w') :
  Fn PR B7 36 #[.pointer (some ⟨jb, 0, none⟩), .pointer (some ⟨m.b, 0, none⟩)] w' (Rn (B1 (N4 jb b pv m a)) w' (fun (a' : UpA) u => u = S8 ((JV.upd a.1).step0 (m.up a.2.2).ws).2.2 ∧ (JV.upd a'.1, (m.up a'.2.2).ws) = A0T (.upd a.1, (m.up a.2.2).ws) ∧ UInv (n + 1) a'.1 (m.up a'.2.2).ws ∧ a'.1.pool = p) (N4 jb b pv m)) := by
 obtain ⟨j, qv, d⟩ := a
 simp only at hi hp hrd
 subst hp
 have hst : j.b.st ≠ -1 := by
  intro h
  simp [JV.ready, JV.b, h] at hrd
 obtain ⟨i1, i2, i3, i4, i5, i6⟩ := hi
 have h := B0P w' jb b j pv qv (m.up d) i1 (by omega) hpl (by omega) (by omega) i5 (fun w'' hk => hv w'' ?_) hs
 ·rw [B00 hst] at h
  refine Fn.mono h fun u w'' hr => ?_
  obtain ⟨⟨qv', d'⟩, ⟨h1, h2⟩, h3⟩ := hr
  have hn := B02 ⟨i1, i2, i3, i4, i5, i6⟩ hst
  have e2 : (m.up d').ws = (D2 j (m.up d).ws).2.1 := h2
  refine ⟨((D2 j (m.up d).ws).1, qv', d'), ⟨h1, ?_, ?_, ?_⟩, h3⟩
  ·simp only [A0T, JV.step0, e2]
  ·simp only [e2]; exact hn
  ·exact A7d _ _
 ·refine hw'.ks.then hk fun x hx => ?_
  obtain ⟨r, hr, hxr⟩ := F8.1 hx
  exact (hw'.own r hr x hxr).1
theorem B3f (w : World) (jb b : Nat) (pv qv : Value) (m : WoH) (j : JU) (hi : UInv 0 j m.ws) (hpl : j.pool.length ≤ 1000)
  (hv : ∀ w', KS false (B1 (N4 jb b pv m (j, qv, m.dd))) w w' → F7 w' pv j.pool.length (j.pool.flatMap G2))
  (hw : LW false (B1 (N4 jb b pv m (j, qv, m.dd))) w (N4 jb b pv m (j, qv, m.dd)) w) :
  Fn PR B7 33 #[.pointer (some ⟨jb, 0, none⟩), .pointer (some ⟨m.b, 0, none⟩)] w (Rn (B1 (N4 jb b pv m (j, qv, m.dd))) w (fun (a : UpA) u => u = .tuple #[.int .i64 ((K4 200 ⟨.upd j, m.ws, 0, 0, 0⟩).n : Nat), .int .i64 ((K4 200 ⟨.upd j, m.ws, 0, 0, 0⟩).tk : Nat), .int .i64 ((K4 200 ⟨.upd j, m.ws, 0, 0, 0⟩).bad : Nat)] ∧ JV.upd a.1 = (K4 200 ⟨.upd j, m.ws, 0, 0, 0⟩).j ∧ (m.up a.2.2).ws = (K4 200 ⟨.upd j, m.ws, 0, 0, 0⟩).x) (N4 jb b pv m)) := by
 have h := B2B w (.pointer (some ⟨jb, 0, none⟩)) (.pointer (some ⟨m.b, 0, none⟩)) (N4 jb b pv m) (fun n a => UInv n a.1 (m.up a.2.2).ws ∧ a.1.pool = j.pool) (fun a => (.upd a.1, (m.up a.2.2).ws)) (j, qv, m.dd) ⟨hi, rfl⟩
  (fun n a w' _ hw' => A6B w w' jb b pv m a (by unfold N4; (repeat constructor)) (by unfold N4; (repeat constructor)) _ _ hw')
  (fun n a w' hn hφ hr hw' hs => A3N w w' jb b pv m j.pool hpl n (by omega) a hφ.1 hφ.2 hr hv hw' hs) hw
 refine Fn.mono h fun u w'' hr => ?_
 obtain ⟨⟨a, n, tk, bad⟩, ⟨h1, h2, h3⟩, h4⟩ := hr
 have e : K4 200 ⟨.upd j, m.ws, 0, 0, 0⟩ = U0 (.upd a.1, (m.up a.2.2).ws) n tk bad := h3.symm
 rw [e]
 exact ⟨a, ⟨h1, rfl, rfl⟩, h4⟩
end Go.Proofs.YtjobgnabneddjaaGreat
namespace Go.Proofs.YtjobgnabneddjaaGreat
open Go
theorem B0d {c : CfgV} (h : T3 c = true) : WsOk (P0 c) := by
 simp only [T3, T7, Bool.and_eq_true, decide_eq_true_eq] at h
 refine ⟨by simp only [P0]; omega, by simp only [P0, List.length_replicate], by simp only [P0, List.length_replicate]; omega, by simp only [P0, List.length_replicate]; omega, by simp only [P0, List.length_replicate]; omega⟩
theorem B3W (n : Nat) (i : Int) : D8 (List.replicate n 0) i = 0 := by
 unfold D8
 split
 ·rw [List.getD_eq_getElem?_getD, List.getElem?_replicate]; split <;> rfl
 ·rfl
end Go.Proofs.YtjobgnabneddjaaGreat
namespace Go.Proofs.YtjobgnabneddjaaGreat
open Go
theorem A8s {α : Type} {l : List α} {d : α} {i : Nat} (h : i < l.length) : l.getD i d = l[i] := by rw [List.getD_eq_getElem?_getD, List.getElem?_eq_getElem h]; rfl
theorem B0A {x : WS} {i : Nat} (h : (i : Int) < x.c.wk) : x7 x.c (((i : Nat) : Int) + 1) = (i : Nat) + 2 := by unfold x7; rw [if_neg (by omega)]; omega
theorem B4u {x : WS} {p : Int} : p ∈ pW x ↔ ∃ i : Nat, (i : Int) < x.c.wk ∧ p = D8 x.cells ((i : Nat) + 2) := by
 unfold pW A3n
 rw [List.mem_map]
 constructor
 ·rintro ⟨i, hi, rfl⟩
  rw [List.mem_range] at hi
  exact ⟨i, by omega, by rw [B0A (by omega)]⟩
 ·rintro ⟨i, hi, rfl⟩
  exact ⟨i, List.mem_range.2 (by omega), by rw [B0A hi]⟩
theorem A9j {x : WS} (h : ∀ i : Nat, D8 x.cells ((i : Nat) + 2) = 0) (e : Int) : l5 (pW x) e = true := by
 unfold l5
 rw [List.all_eq_true]
 intro p hp
 obtain ⟨i, hi, rfl⟩ := B4u.1 hp
 simp [h i]
def A9Z (n t : Nat) : List (Int × Int) := (List.range n).map fun k => if k + 1 < t then (2, (k : Int) + 2) else if k + 1 = t then (1, 0) else (0, 0)
theorem B03 (n t : Nat) : (A9Z n t).length = n := by simp [A9Z]
theorem A7T {l : List (Int × Int)} {i : Nat} (h : i < l.length) : e9 l (i : Nat) = l[i].1 := by
 unfold e9
 rw [if_pos (by omega), Int.toNat_natCast, List.getD_eq_getElem?_getD, List.getElem?_eq_getElem h]; rfl
structure BusyI (n t : Nat) (x : WS) : Prop where
 ok : WsOk x
 ep : D8 x.cells 0 = (t : Nat)
 cur : D8 x.cells 1 = (t : Nat)
 keep : x.keep = A9Z n t
 sl : x.sl.length = n
 le : t ≤ n
theorem BusyI.kl {n t : Nat} {x : WS} (h : BusyI n t x) : x.keep.length = x.sl.length := by rw [h.sl, h.keep, B03]
theorem B2J {x : WS} {p : List E6} (h : WsOk x) (hl : x.keep.length = x.sl.length) : WsOk (E3 x p) := by
 obtain ⟨w1, w2, w3, w4, w5⟩ := h
 refine ⟨w1, by simp only [E3, A05]; exact w2, w3, by simp only [E3, y5]; rw [V8 hl]; exact w4, ?_⟩
 simp only [E3]
 split
 ·simp only [A3G, A3E, A2S, H8]; exact w5
 ·simp only [A2S, H8]; exact w5
theorem B2z {x : WS} {p : List E6} (h : WsOk x) : D8 (E3 x p).cells 0 = epW x := by
 have h1 := h.wk; have h2 := h.cells
 simp only [E3]
 rw [A5T, if_pos (by rw [A05]; omega)]
theorem B07 {x : WS} {p : List E6} (h : WsOk x) : D8 (E3 x p).cells 1 = D6 (kF x) + 1 := by
 have h1 := h.wk; have h2 := h.cells
 simp only [E3]
 rw [A1L _ _ (by omega), A5T, if_pos (by omega)]
theorem A2m {x : WS} {p : List E6} (i : Nat) : D8 (E3 x p).cells ((i : Nat) + 2) = D8 x.cells ((i : Nat) + 2) := by
 simp only [E3]
 rw [A1L _ _ (by omega), A1L _ _ (by omega)]
end Go.Proofs.YtjobgnabneddjaaGreat
namespace Go.Proofs.YtjobgnabneddjaaGreat
open Go
theorem A9e (w : World) (m : WoH) (hb : bl w m.b = some (.cells (G1 m.c (.pointer (some ⟨m.bc, 0, none⟩)) (.pointer (some ⟨m.bs, 0, none⟩)) (.pointer (some ⟨m.bk, 0, none⟩)) m.tv m.pv (.int .i64 m.now)) 39 (0, 0))) :
  Fn PR B7 30 #[.pointer (some ⟨m.b, 0, none⟩)] w (fun u w' => u = .bool true ∧ C4 [] w w') := by
 refine Fn.pure (A0P (TW.go (κ := false) (S := []) ?_))
 unfold W2
 have h5 : w.cell? ⟨m.b, 5, none⟩ = some (.pointer (some ⟨m.bc, 0, none⟩)) := by rw [C9 hb]; rfl
 have h6 : w.cell? ⟨m.b, 6, none⟩ = some (.pointer (some ⟨m.bs, 0, none⟩)) := by rw [C9 hb]; rfl
 have h7 : w.cell? ⟨m.b, 7, none⟩ = some (.pointer (some ⟨m.bk, 0, none⟩)) := by rw [C9 hb]; rfl
 (have zz:=trivial;repeat((first|clear zz|with_reducible first|refine A2 ?_|refine A5 fun _=>?_|refine A4 fun _=>?_);try simp(disch:=first|omega|assumption|((repeat(first|exact A1|exact uH|apply A3|apply uT));first|done|fail)|(simp;first|done|omega|fail))[h5, h6, h7]))
 exact C1 rfl
theorem B1Y {κ : Bool} {S : List Nat} {w0 w' : World} {Hc Hk : List Res} {e : TypeId} {k q : Nat} {v : Value} {xs : List Value} (hw' : LW κ S w0 (Hc ++ Hk) w') (hm : Res.own e k v q xs ∈ Hk) : ∀ w'', KS false (B1 Hc) w' w'' → F7 w'' v q xs := fun w'' hk => by
 have h := M2.rd (hw'.hold _ (List.mem_append_right _ hm))
 refine h.ks hk fun g hg hin => ?_
 obtain ⟨r, hr, hgr⟩ := F8.1 hin
 exact (List.pairwise_append.1 hw'.dis).2.2 r hr _ hm g hgr hg
theorem B5G {S : List Nat} {w0 w' : World} {Hc Hk : List Res} {q : Nat} {v : Value} {xs : List Value} (h : F7 w0 v q xs) (hS : ∀ g ∈ H7 v, g ∉ S) (hw' : LW false S w0 (Hc ++ Hk) w') : ∀ w'', KS false (B1 Hc) w' w'' → F7 w'' v q xs := fun w'' hk => by
 refine h.ks (hw'.ks.then hk fun x hx => ?_) hS
 obtain ⟨r, hr, hxr⟩ := F8.1 hx
 exact (hw'.own r (List.mem_append_left _ hr) x hxr).1
def A9k : CfgV := ⟨1, 1, 1, 5, 2⟩
def p20 : List E6 := [(7, 1)]
def R20 : RunV := K4 20 ⟨.upd (D0 0 p20), P0 A9k, 0, 0, 0⟩
theorem B6e : R20.n = 6 := by kernel_rfl
theorem B51 : R20.j.b = ⟨0, -1, U4⟩ := by kernel_rfl
theorem B5H : T3 A9k = true := by kernel_rfl
theorem B1p {c : CfgV} (h : T3 c = true) (who : Int) (p : List E6) : UInv 0 (D0 who p) (P0 c) :=
 ⟨B0d h, by simp [D0], by simp [D0], by simp [D0], by simp [D0], by simp [P0, B3W]⟩
theorem A8k {who : Int} (hw : who ≠ 0) (p : List E6) (x : WS) : (JV.upd (D0 who p)).step0 x = (.upd { D0 who p with b := ⟨who, -1, ⟨1, 0, false, 0⟩⟩ }, x, true, true, false) := by
 have hb : J0 (D0 who p) = 1 := if_neg hw
 simp only [JV.step0]
 unfold D2
 rw [if_pos ⟨rfl, by rw [hb]; decide⟩, hb]
 rfl
set_option maxHeartbeats 2000000 in
theorem A9p (w : World) : Fn PR B7 28 #[] w (fun r w' => r = .bool true ∧ C4 [] w w') := by
 refine Fn.pure (A0G (TW.go (κ := false) (S := []) ?_))
 unfold W8
 (have zz:=trivial;repeat((first|clear zz|with_reducible first|refine A2 ?_|refine A5 fun _=>?_|refine A4 fun _=>?_);try simp(disch:=first|omega|assumption|((repeat(first|exact A1|exact uH|apply A3|apply uT));first|done|fail)|(simp;first|done|omega|fail))[]))
 refine W9 A2Y (fun w' hw' => A8y w' A9k) ?_
 rw [B5H]
 simp only [if_true]
 rintro m v ⟨rfl, hmc, hws⟩
 (have zz:=trivial;repeat((first|clear zz|with_reducible first|refine A2 ?_|refine A5 fun _=>?_|refine A4 fun _=>?_|refine p4 fun _=>?_|refine p9 (hK:=fun _=>?_)|refine q7 (hK:=fun _=>?_)|refine p5 (hK:=fun _=>?_)|refine q5 (hK:=fun _=>?_)|refine q6 (hK:=fun _=>?_));try simp(disch:=first|omega|assumption|((repeat(first|exact A1|exact uH|apply A3|apply uT));first|done|fail)|(simp;first|done|omega|fail))[]))
 rename_i bp
 refine W9 j3 (fun w' hw' => A5Y w' 0 (some ⟨bp, 0, none⟩) 1 1 ⟨#[]⟩ 0) ?_
 rintro ⟨jb, b⟩ v rfl
 (have zz:=trivial;repeat((first|clear zz|with_reducible first|refine A2 ?_|refine A5 fun _=>?_|refine A4 fun _=>?_);try simp(disch:=first|omega|assumption|((repeat(first|exact A1|exact uH|apply A3|apply uT));first|done|fail)|(simp;first|done|omega|fail))[]))
 refine W9 j3 (fun w' hw' => A5Y w' 1 none 0 0 ⟨#[]⟩ 0) ?_
 rintro ⟨kb, kc⟩ v rfl
 refine A0W 3 1 ?_
 refine A0W 3 1 ?_
 (have zz:=trivial;repeat((first|clear zz|with_reducible first|refine A2 ?_|refine A5 fun _=>?_|refine A4 fun _=>?_);try simp(disch:=first|omega|assumption|((repeat(first|exact A1|exact uH|apply A3|apply uT));first|done|fail)|(simp;first|done|omega|fail))[]))
 have hdd : m.up m.dd = m := rfl
 obtain ⟨pv, hpv⟩ : ∃ pv, pv = Value.slice (some ⟨bp, 0, none⟩) 1 1 := ⟨_, rfl⟩
 rw [← hpv]
 obtain ⟨Hf, hHf⟩ : ∃ Hf : List Res, Hf = [.own 155 2 pv 1 [.int .i64 7, .int .i64 1], .own 3 1 (.slice none 0 0) 0 [], N1 kb (G8 kc), .pt kc (.cells (D4 ⟨1, 0, U4⟩ [.slice none 0 0, .slice none 0 0, .int .i64 0, .int .i64 0]) 163)] := ⟨_, rfl⟩
 refine Sels.tw (rs := N4 jb b pv m (D0 0 p20, K6, m.dd) ++ Hf) (by subst hHf; simp only [N4, E9, G7, D0, K6, F1, List.map_nil, List.length_nil, hdd, C3, List.cons_append, List.nil_append]; (repeat' constructor)) ?_
 have hrdp : ∀ (d : UpA) (w' : World), LW false [] w (N4 jb b pv m d ++ Hf) w' → ∀ w'', KS false (B1 (N4 jb b pv m d)) w' w'' → F7 w'' pv p20.length (p20.flatMap G2) := fun d w' hw' w'' hk =>
  B1Y (e := 155) (k := 2) hw' (by rw [hHf]; exact List.mem_cons_self ..) w'' hk
 refine A9v (fun (y : UpA × Nat) => N4 jb b pv m y.1 ++ Hf) (fun y => y.2 ≤ 20 ∧ UInv y.2 y.1.1 (m.up y.1.2.2).ws ∧ y.1.1.pool = p20 ∧ ∃ tk bad, K4 (20 - y.2) (U0 (.upd y.1.1, (m.up y.1.2.2).ws) y.2 tk bad) = R20) (fun y => 20 - y.2) ((D0 0 p20, K6, m.dd), 0) (fun y => .int .i64 (y.2 : Nat)) ⟨Nat.zero_le _, by rw [hdd, hws]; exact B1p B5H 0 p20, rfl, 0, 0, by rw [hdd, hws]; rfl⟩ ?_
 rintro ⟨⟨j', qv, d⟩, n⟩ ⟨h1, h2, h3, tk, bad, h4⟩ L hL
 simp only at h1 h2 h3 h4 hL ⊢
 have hfin : (JV.upd j').ready (m.up d).ws = false ∨ n = 20 → n = 6 ∧ j'.b = ⟨0, -1, U4⟩ := fun h => by
  have e : U0 (.upd j', (m.up d).ws) n tk bad = R20 := by
   rw [← h4]
   rcases h with h | h
   ·rw [A68 h]
   ·rw [show 20 - n = 0 by omega]; rfl
  exact ⟨by rw [← B6e, ← e]; rfl, by rw [← B51, ← e]; rfl⟩
 have hnx : (JV.upd j').ready (m.up d).ws = true → n < 20 → ∃ tk bad, K4 (20 - (n + 1)) (U0 (A0T (.upd j', (m.up d).ws)) (n + 1) tk bad) = R20 := fun h hn => by
  rw [← h4, show 20 - n = 20 - (n + 1) + 1 by omega, A6J h]
  exact ⟨_, _, rfl⟩
 have hR := fun (w' : World) (hw' : LW false [] w (N4 jb b pv m (j', qv, d) ++ Hf) w') => A6B w w' jb b pv m (j', qv, d) (List.mem_append_left _ (by unfold N4; (repeat constructor))) (List.mem_append_left _ (by unfold N4; (repeat constructor))) (.pointer (some ⟨m.b, 0, none⟩)) (m.up d).ws hw'
 obtain ⟨rd, hrd⟩ : ∃ r, r = (JV.upd j').ready (m.up d).ws := ⟨_, rfl⟩
 have hn20 : n < 20 ∨ rd = false := by
  by_cases h : n < 20
  ·exact Or.inl h
  ·have := (hfin (Or.inr (by omega))).1; omega
 simp only [← hrd] at hfin hnx hR
 have hexit : rd = false → n = 6 ∧ j'.b = ⟨0, -1, U4⟩ := fun h => hfin (Or.inl h)
 clear hfin h4
 cases rd with
 | true =>
  have c1 : n < 20 := by rcases hn20 with h | h; exact h; cases h
  have c1' : ((n : Nat) : Int) < 20 := by omega
  (have zz:=trivial;repeat((first|clear zz|with_reducible first|refine A2 ?_|refine A5 fun _=>?_|refine A4 fun _=>?_);try simp(disch:=first|omega|assumption|((repeat(first|exact A1|exact uH|apply A3|apply uT));first|done|fail)|(simp;first|done|omega|fail))[c1, c1']))
  refine D9 K1 (fun w' hw' => hR w' hw') ?_
  (have zz:=trivial;repeat((first|clear zz|with_reducible first|refine A2 ?_|refine A5 fun _=>?_|refine A4 fun _=>?_);try simp(disch:=first|omega|assumption|((repeat(first|exact A1|exact uH|apply A3|apply uT));first|done|fail)|(simp;first|done|omega|fail))[c1, c1']))
  refine C0 (Hc := N4 jb b pv m (j', qv, d)) (Hk := Hf) S9 (fun w' hw' hs => A3N w' w' jb b pv m p20 (by simp [p20]) n (by omega) (j', qv, d) h2 h3 hrd.symm (hrdp (j', qv, d) w' hw') hs hs) (A7p _ _) ?_
  rintro ⟨j2, qv2, d2⟩ v ⟨rfl, k1, k2, k3⟩
  obtain ⟨tk', bad', h⟩ := hnx rfl c1
  rw [← k1] at h
  (have zz:=trivial;repeat((first|clear zz|with_reducible first|refine A2 ?_|refine A5 fun _=>?_|refine A4 fun _=>?_);try simp(disch:=first|omega|assumption|((repeat(first|exact A1|exact uH|apply A3|apply uT));first|done|fail)|(simp;first|done|omega|fail))[]))
  exact hL ((j2, qv2, d2), n + 1) ⟨by simp only; omega, k2, k3, tk', bad', h⟩ (by simp only; omega)
 | false =>
  obtain ⟨rfl, hb⟩ := hexit rfl
  clear hL hnx hexit
  (have zz:=trivial;repeat((first|clear zz|with_reducible first|refine A2 ?_|refine A5 fun _=>?_|refine A4 fun _=>?_);try simp(disch:=first|omega|assumption|((repeat(first|exact A1|exact uH|apply A3|apply uT));first|done|fail)|(simp;first|done|omega|fail))[]))
  refine D9 K1 (fun w' hw' => hR w' hw') ?_
  (have zz:=trivial;repeat((first|clear zz|with_reducible first|refine A2 ?_|refine A5 fun _=>?_|refine A4 fun _=>?_);try simp(disch:=first|omega|assumption|((repeat(first|exact A1|exact uH|apply A3|apply uT));first|done|fail)|(simp;first|done|omega|fail))[]))
  obtain ⟨m2, hm2⟩ : ∃ m2, m2 = m.up d := ⟨_, rfl⟩
  have hb2 : m.b = m2.b := by rw [hm2]; rfl
  rw [← hm2] at h2
  have h20 : UInv 0 (D0 1 []) (m2.up m2.dd).ws := ⟨h2.ok, by simp [D0], by simp [D0], by simp [D0], by simp [D0], h2.cur⟩
  have hA := fun (w' : World) (g1 : bl w' jb = some (.cells #[G8 b] 167 (0, 0))) (g2 : bl w' b = some (.cells (D4 j'.b [pv, qv, .int .i64 j'.slot, .int .i64 j'.old]) 163 (0, 0))) =>
   A1m w' jb b (G8 b) j'.b _ _ (Or.inl rfl) g1 g2
  have hSt := fun (w' : World) (g1 : bl w' jb = some (.cells #[G8 b] 167 (0, 0))) (g2 : bl w' b = some (.cells (D4 j'.b [pv, qv, .int .i64 j'.slot, .int .i64 j'.old]) 163 (0, 0))) =>
   A2u w' jb b (G8 b) j'.b _ _ (Or.inl rfl) g1 g2
  refine C0 (Hc := N4 kb kc K6 m2 (D0 1 [], K6, m2.dd)) (Hk := [N1 jb (G8 b), E9 b j' pv qv, G7 j' qv, .own 155 2 pv 1 [.int .i64 7, .int .i64 1]]) S9 (fun w' hw' hs => by rw [hb2]; exact A3N w' w' kb kc K6 m2 [] (by simp) 0 (by omega) (D0 1 [], K6, m2.dd) h20 rfl rfl (fun w'' _ => Or.inl ⟨rfl, rfl, none, 0, rfl⟩) hs hs) (by subst hHf; simp only [N4, ← hm2, show m2.up m2.dd = m2 from rfl, C3, List.cons_append, List.nil_append]; simp only [E9, G7, D0, K6, F1, List.map_nil, List.length_nil]; (repeat' constructor)) ?_
  rintro ⟨k2, qk, dk⟩ v ⟨rfl, e1, _, _⟩
  simp only [A0T, A8k (show (1 : Int) ≠ 0 by decide)] at e1
  obtain ⟨e2, -⟩ := Prod.mk.inj e1
  injection e2 with e2
  subst e2
  simp only [A8k (show (1 : Int) ≠ 0 by decide), S8, N4]
  have hA2 := fun (w' : World) (g1 : bl w' kb = some (.cells #[G8 kc] 167 (0, 0))) (g2 : bl w' kc = some (.cells (D4 ⟨1, -1, ⟨1, 0, false, 0⟩⟩ [K6, qk, .int .i64 0, .int .i64 0]) 163 (0, 0))) =>
   A1m w' kb kc (G8 kc) ⟨1, -1, ⟨1, 0, false, 0⟩⟩ _ _ (Or.inl rfl) g1 g2
  have hR2 := fun (w' : World) (g1 : bl w' kb = some (.cells #[G8 kc] 167 (0, 0))) (g2 : bl w' kc = some (.cells (D4 ⟨1, -1, ⟨1, 0, false, 0⟩⟩ [K6, qk, .int .i64 0, .int .i64 0]) 163 (0, 0))) =>
   A21 w' kb kc (G8 kc) ⟨1, -1, ⟨1, 0, false, 0⟩⟩ _ _ (.pointer (some ⟨m.b, 0, none⟩)) false _ _ (Or.inl rfl) g1 g2 (fun w => j0 w kc _) (fun w'' _ => A3D w'' _ _)
  simp only [hb] at hA hSt
  (have zz:=trivial;repeat((first|clear zz|with_reducible first|refine A2 ?_|refine A5 fun _=>?_|refine A4 fun _=>?_);try simp(disch:=first|omega|assumption|((repeat(first|exact A1|exact uH|apply A3|apply uT));first|done|fail)|(simp;first|done|omega|fail))[]))
  refine D9 G3 (fun w' hw' => hA w' (hw'.pt (b := jb) (by unfold N1; (repeat constructor))) (hw'.pt (b := b) (by unfold E9; rw [hb]; (repeat constructor)))) ?_
  simp only [U4, AnsV.val]
  (have zz:=trivial;repeat((first|clear zz|with_reducible first|refine A2 ?_|refine A5 fun _=>?_|refine A4 fun _=>?_);try simp(disch:=first|omega|assumption|((repeat(first|exact A1|exact uH|apply A3|apply uT));first|done|fail)|(simp;first|done|omega|fail))[]))
  refine D9 S0 (fun w' hw' => hSt w' (hw'.pt (b := jb) (by unfold N1; (repeat constructor))) (hw'.pt (b := b) (by unfold E9; rw [hb]; (repeat constructor)))) ?_
  (have zz:=trivial;repeat((first|clear zz|with_reducible first|refine A2 ?_|refine A5 fun _=>?_|refine A4 fun _=>?_);try simp(disch:=first|omega|assumption|((repeat(first|exact A1|exact uH|apply A3|apply uT));first|done|fail)|(simp;first|done|omega|fail))[]))
  refine D9 G3 (fun w' hw' => hA2 w' (hw'.pt (b := kb) (by unfold N1; (repeat constructor))) (hw'.pt (b := kc) (by unfold E9; simp only [D0]; (repeat constructor)))) ?_
  simp only [AnsV.val]
  (have zz:=trivial;repeat((first|clear zz|with_reducible first|refine A2 ?_|refine A5 fun _=>?_|refine A4 fun _=>?_);try simp(disch:=first|omega|assumption|((repeat(first|exact A1|exact uH|apply A3|apply uT));first|done|fail)|(simp;first|done|omega|fail))[]))
  refine D9 K1 (fun w' hw' => hR2 w' (hw'.pt (b := kb) (by unfold N1; (repeat constructor))) (hw'.pt (b := kc) (by unfold E9; simp only [D0]; (repeat constructor)))) ?_
  (have zz:=trivial;repeat((first|clear zz|with_reducible first|refine A2 ?_|refine A5 fun _=>?_|refine A4 fun _=>?_);try simp(disch:=first|omega|assumption|((repeat(first|exact A1|exact uH|apply A3|apply uT));first|done|fail)|(simp;first|done|omega|fail))[]))
  exact C1 rfl
end Go.Proofs.YtjobgnabneddjaaGreat
namespace Go.Proofs.YtjobgnabneddjaaGreat
open Go
theorem A1Q {K : Value → WP} (a b : Bool) : A0 PR (binOp .neq 4 (.bool a) (.bool b)) K = K (.bool (!(a == b))) := E1 (fun w => by
 have h : (Op.equal 4 (.bool a) (.bool b)).run PR w = .ok (a == b) w := z7 (e := 9999) ty4 w
 simp [binOp, h]) K
theorem B5L {κ : Bool} {S : List Nat} {w0 : World} {H Hk : List Res} {X : Nat → Prop} {K : Value → WP} (m : WoH) (p : List E6) (pv : Value) (jb b : Nat) (hi : UInv 0 (D0 0 p) m.ws) (hp : p.length ≤ 1000)
  (hpart : Part (N4 jb b pv m (D0 0 p, K6, m.dd)) H Hk)
  (hv : ∀ w', LW κ S w0 (N4 jb b pv m (D0 0 p, K6, m.dd) ++ Hk) w' → ∀ w'', KS false (B1 (N4 jb b pv m (D0 0 p, K6, m.dd))) w' w'' → F7 w'' pv p.length (p.flatMap G2))
  (R : RunV) (hR : K4 200 ⟨.upd (D0 0 p), m.ws, 0, 0, 0⟩ = R)
  (hK : ∀ a : UpA, JV.upd a.1 = R.j → (m.up a.2.2).ws = R.x → TW κ S w0 (N4 jb b pv m a ++ Hk) (K (.tuple #[.int .i64 (R.n : Nat), .int .i64 (R.tk : Nat), .int .i64 (R.bad : Nat)]))) :
  TW κ S w0 H (B5 PR X 33 [.pointer (some ⟨jb, 0, none⟩), .pointer (some ⟨m.b, 0, none⟩)] K) := by
 subst hR
 refine C0 (Hc := N4 jb b pv m (D0 0 p, K6, m.dd)) (Hk := Hk) A0x (fun w' hw' hs => B3f w' jb b pv K6 m (D0 0 p) hi hp (hv w' hw') hs) hpart ?_
 rintro a v ⟨rfl, h1, h2⟩
 exact hK a h1 h2
theorem A3k (w' : World) (jb b : Nat) (j : JU) (pv qv : Value) (A : AnsV) (hA : j.b.ans = A) (g1 : bl w' jb = some (.cells #[G8 b] 167 (0, 0))) (g2 : bl w' b = some (.cells (D4 j.b [pv, qv, .int .i64 j.slot, .int .i64 j.old]) 163 (0, 0))) :
  Fn PR B7 34 #[.pointer (some ⟨jb, 0, none⟩)] w' (fun u w'' => u = A.val ∧ C4 [] w' w'') := by
 subst hA; exact A1m w' jb b (G8 b) j.b _ _ (Or.inl rfl) g1 g2
def A4b (x : WS) (p : Int) : Prop := D8 x.cells 2 = p ∧ ∀ i : Nat, D8 x.cells ((i : Nat) + 3) = 0
theorem A4b.after {x : WS} {v : Int} (h : A4b x v) (p : List E6) : A4b (E3 x p) v := by
 refine ⟨?_, fun i => ?_⟩
 ·have := A2m (x := x) (p := p) 0
  simp only [Int.natCast_zero, Int.zero_add] at this
  rw [this]; exact h.1
 ·have := A2m (x := x) (p := p) (i + 1)
  rw [show (((i + 1 : Nat) : Int) + 2) = (i : Nat) + 3 by omega] at this
  rw [this]; exact h.2 i
theorem A4b.zero {x : WS} (h : A4b x 0) (i : Nat) : D8 x.cells ((i : Nat) + 2) = 0 := by
 cases i with
 | zero => exact h.1
 | succ i => rw [show (((i + 1 : Nat) : Int) + 2) = (i : Nat) + 3 by omega]; exact h.2 i
end Go.Proofs.YtjobgnabneddjaaGreat
namespace Go.Proofs.YtjobgnabneddjaaGreat
open Go
abbrev C7 (x : WS) : Int := D8 x.cells 1
theorem A7z {l : List (Int × Int)} {k : Nat} (hk : k < l.length) (h : l[k] = (0, 0)) : ¬ D6 l < 0 := by
 unfold D6
 have : l.findIdx (fun s => decide (s = (0, 0))) < l.length := List.findIdx_lt_length.2 ⟨_, List.getElem_mem hk, by simp [h]⟩
 rw [if_pos this]; omega
theorem B1C {l : List (Int × Int)} (h : ¬ D6 l < 0) : ∃ k : Nat, ∃ hk : k < l.length, D6 l = (k : Nat) ∧ l[k] = (0, 0) := by
 unfold D6 at *
 by_cases c : l.findIdx (fun s => decide (s = (0, 0))) < l.length
 ·rw [if_pos c]
  refine ⟨_, c, rfl, ?_⟩
  have := List.findIdx_getElem (w := c)
  simpa using this
 ·rw [if_neg c] at h; omega
theorem B0n {l : List (Int × Int)} {k : Nat} (hk : k < l.length) (h : D6 l = (k : Nat)) (h0 : l[k] = (0, 0)) : F9 l = l.set k (1, 0) := by
 unfold F9
 rw [h, if_neg (by omega), Int.toNat_natCast, A8s hk, h0]
theorem A1j {l : List SlV} {k : Nat} (h : k < l.length) : G5 l (k : Nat) = l[k] := by
 unfold G5; rw [if_pos (by omega), Int.toNat_natCast, A8s h]
structure CurI (x : WS) : Prop where
 ok : WsOk x
 kl : x.keep.length = x.sl.length
 two : 2 ≤ x.keep.length
 cur : 0 ≤ C7 x ∧ C7 x ≤ x.keep.length
 at1 : ∀ (k : Nat) (h : k < x.keep.length), (k : Int) + 1 = C7 x → (x.keep[k]).1 = 1 ∧ ∃ p, G5 x.sl (k : Nat) = .rdy p
 at2 : ∀ (k : Nat) (h : k < x.keep.length), (k : Int) + 1 ≠ C7 x → x.keep[k] = (0, 0) ∨ (x.keep[k]).1 = 2
theorem A3P {P : List Int} {l : List (Int × Int)} {k : Nat} (h : k < l.length) : (M6 P l)[k]'(by rw [H8]; exact h) = if D5 P l[k] then (0, 0) else l[k] := by simp [M6]
theorem B06 {P : List Int} {l : List (Int × Int)} {s : List SlV} {k : Nat} (h : k < l.length) (h2 : k < s.length) (hl : l.length = s.length) : (V2 P l s)[k]'(by rw [V8 hl]; exact h2) = if D5 P l[k] then .no else s[k] := by simp [V2]
theorem A8e {P : List Int} {s : Int × Int} (h : s.1 ≠ 2) : D5 P s = false := by unfold D5; rw [decide_eq_false h]; rfl
theorem CurI.freed {x : WS} (h : CurI x) : CurI { x with sl := sF x, keep := kF x } ∧ G5 (sF x) (C7 x - 1) = G5 x.sl (C7 x - 1) := by
 have hg : ∀ (k : Nat) (hk : k < x.keep.length), (k : Int) + 1 = C7 x → G5 (sF x) (k : Nat) = G5 x.sl (k : Nat) := fun k hk hc => by
  have h1 := (h.at1 k hk hc).1
  have hs : k < x.sl.length := by rw [← h.kl]; exact hk
  rw [A1j (by rw [V8 h.kl]; exact hs), A1j hs, B06 hk hs h.kl, A8e (by omega)]; rfl
 have hok := h.ok
 refine ⟨⟨⟨hok.wk, hok.cells, hok.own, by simp only; rw [V8 h.kl]; exact hok.sl, by simp only; rw [H8]; exact hok.keep⟩, by simp only; rw [H8, V8 h.kl]; exact h.kl, by simp only; rw [H8]; exact h.two, by simp only; rw [H8]; exact h.cur, fun k hk hc => ?_, fun k hk hc => ?_⟩, ?_⟩
 ·simp only [H8] at hk
  have h1 := h.at1 k hk hc
  simp only
  rw [A3P hk, A8e (by omega)]
  exact ⟨h1.1, by rw [hg k hk hc]; exact h1.2⟩
 ·simp only [H8] at hk
  simp only
  rw [A3P hk]
  cases hr : D5 (pW x) x.keep[k] with
  | true => left; rfl
  | false => simpa using h.at2 k hk hc
 ·by_cases hc : C7 x = 0
  ·rw [hc]; rfl
  ·have h1 := h.cur
   obtain ⟨k, hk⟩ : ∃ k : Nat, C7 x - 1 = k := ⟨(C7 x - 1).toNat, by omega⟩
   rw [hk]
   exact hg k (by omega) (by omega)
theorem B3Z {l : List (Int × Int)} {i k : Nat} {s : Int × Int} (hk : k < l.length) : e9 (l.set i s) (k : Nat) = if i = k then s.1 else l[k].1 := by
 rw [A7T (by rw [List.length_set]; exact hk), List.getElem_set]; split <;> rfl
theorem CurI.after {x : WS} (h : CurI x) (p : List E6) (ht : ¬ D6 (kF x) < 0) : CurI (E3 x p) ∧ C7 (E3 x p) ≠ C7 x ∧ 1 ≤ C7 (E3 x p) ∧ G5 (E3 x p).sl (C7 (E3 x p) - 1) = .rdy p ∧ e9 (E3 x p).keep (C7 (E3 x p) - 1) = 1
  ∧ (0 < C7 x → e9 (E3 x p).keep (C7 x - 1) = 2) ∧ G5 (E3 x p).sl (C7 x - 1) = G5 x.sl (C7 x - 1) := by
 obtain ⟨hf, hgf⟩ := h.freed
 obtain ⟨s, hs, hts, hs0⟩ := B1C ht
 have hsl : s < (sF x).length := by have := hf.kl; simp only at this; omega
 have hcur' : C7 (E3 x p) = (s : Int) + 1 := by rw [show C7 (E3 x p) = D8 (E3 x p).cells 1 from rfl, B07 h.ok, hts]
 have hcf : C7 { x with sl := sF x, keep := kF x } = C7 x := rfl
 have hne : (s : Int) + 1 ≠ C7 x := fun hc => by
  have := (hf.at1 s hs (by rw [hcf]; exact hc)).1
  simp only at this
  rw [hs0] at this
  simp at this
 have htk := B0n hs hts hs0
 have hlen : (kF x).length = x.keep.length := H8 _ _
 have hsl' : (E3 x p).sl = (sF x).set s (.rdy p) := by
  show L8 (sF x) (D6 (kF x)) (.rdy p) = _
  rw [hts, A1Z (by omega), Int.toNat_natCast]
 have hkp : (E3 x p).keep = if 0 < C7 x then ((kF x).set s (1, 0)).set (C7 x - 1).toNat (2, epW x) else (kF x).set s (1, 0) := by
  show (if 0 < D8 x.cells 1 then A3G (F9 (kF x)) (D8 x.cells 1 - 1) (epW x) else F9 (kF x)) = _
  rw [htk]
  by_cases hc : 0 < C7 x
  ·rw [if_pos hc, if_pos hc]
   obtain ⟨k, hk⟩ : ∃ k : Nat, C7 x - 1 = k := ⟨(C7 x - 1).toNat, by omega⟩
   have hkl : k < (kF x).length := by have := h.cur; omega
   have h1 := (hf.at1 k hkl (by rw [hcf]; omega)).1
   unfold A3G A0c
   have e3 : e9 ((kF x).set s (1, 0)) (k : Nat) = 1 := by rw [B3Z hkl, if_neg (by omega)]; exact h1
   rw [show D8 x.cells 1 - 1 = (k : Int) from hk, e3, if_pos ⟨rfl, by omega⟩]
  ·rw [if_neg hc, if_neg hc]
 have hgs : ∀ (k : Nat), k ≠ s → k < (sF x).length → G5 (E3 x p).sl (k : Nat) = G5 (sF x) (k : Nat) := fun k hk hl => by
  rw [hsl', A1j (by rw [List.length_set]; exact hl), A1j hl, List.getElem_set_ne (by omega)]
 have hgs0 : G5 (E3 x p).sl (s : Nat) = .rdy p := by rw [hsl', A1j (by rw [List.length_set]; exact hsl), List.getElem_set_self]
 have hold : G5 (E3 x p).sl (C7 x - 1) = G5 x.sl (C7 x - 1) := by
  rw [← hgf]
  by_cases hc : C7 x = 0
  ·rw [hc]; rfl
  ·have h1 := h.cur
   obtain ⟨k, hk⟩ : ∃ k : Nat, C7 x - 1 = k := ⟨(C7 x - 1).toNat, by omega⟩
   rw [hk]
   exact hgs k (by omega) (by have := hf.kl; simp only at this; omega)
 have hat : ∀ (k : Nat) (hk : k < (kF x).length), ∀ hk', (E3 x p).keep[k]'hk' = if (k : Int) + 1 = C7 x then (2, epW x) else if k = s then (1, 0) else (kF x)[k] := fun k hk hk' => by
  simp only [hkp]
  by_cases hc : 0 < C7 x
  ·simp only [if_pos hc]
   rw [List.getElem_set, List.getElem_set]
   by_cases h1 : (k : Int) + 1 = C7 x
   ·rw [if_pos h1, if_pos (by omega)]
   ·rw [if_neg h1, if_neg (by omega)]
    by_cases h2 : k = s
    ·rw [if_pos h2, if_pos h2.symm]
    ·rw [if_neg h2, if_neg (by omega)]
  ·simp only [if_neg hc]
   rw [List.getElem_set, if_neg (show ¬ (k : Int) + 1 = C7 x by omega)]
   by_cases h2 : k = s
   ·rw [if_pos h2, if_pos h2.symm]
   ·rw [if_neg h2, if_neg (by omega)]
 have hkl' : (E3 x p).keep.length = (kF x).length := by
  rw [hkp]; split <;> simp
 have hsll : (E3 x p).sl.length = (sF x).length := by rw [hsl', List.length_set]
 refine ⟨⟨B2J h.ok h.kl, by rw [hkl', hsll]; exact hf.kl, by rw [hkl']; exact hf.two, by rw [hcur', hkl']; omega, fun k hk hc => ?_, fun k hk hc => ?_⟩, by rw [hcur']; exact hne, by rw [hcur']; omega, ?_, ?_, fun hc => ?_, hold⟩
 ·rw [hcur'] at hc
  obtain rfl : k = s := by omega
  rw [hat k (by rw [hkl'] at hk; exact hk), if_neg hne, if_pos rfl]
  exact ⟨rfl, p, hgs0⟩
 ·rw [hcur'] at hc
  have hk2 : k < (kF x).length := by rw [hkl'] at hk; exact hk
  rw [hat k hk2]
  by_cases h1 : (k : Int) + 1 = C7 x
  ·rw [if_pos h1]; right; rfl
  ·rw [if_neg h1, if_neg (by omega)]
   exact hf.at2 k hk2 (by rw [hcf]; exact h1)
 ·rw [hcur', show (s : Int) + 1 - 1 = (s : Nat) by omega]; exact hgs0
 ·rw [hcur', show (s : Int) + 1 - 1 = (s : Nat) by omega, A7T (by rw [hkl']; exact hs), hat s hs, if_neg hne, if_pos rfl]
 ·have h1 := h.cur
  obtain ⟨k, hk⟩ : ∃ k : Nat, C7 x - 1 = k := ⟨(C7 x - 1).toNat, by omega⟩
  rw [hk, A7T (by rw [hkl', hlen]; omega), hat k (by omega), if_pos (by omega)]
theorem CurI.free {x : WS} (h : CurI x) (hz : ∀ i : Nat, D8 x.cells ((i : Nat) + 2) = 0) : ¬ D6 (kF x) < 0 := by
 have hlen : (kF x).length = x.keep.length := H8 _ _
 have h2 := h.two
 have key : ∀ (k : Nat) (hk : k < x.keep.length), (k : Int) + 1 ≠ C7 x → (kF x)[k]'(by rw [hlen]; exact hk) = (0, 0) := fun k hk hc => by
  rw [A3P hk]
  rcases h.at2 k hk hc with h0 | h0
  ·rw [h0, A4n]; rfl
  ·have : D5 (pW x) x.keep[k] = true := by unfold D5; rw [h0, A9j hz]; rfl
   rw [this]; rfl
 by_cases hc : C7 x = 1
 ·exact A7z (k := 1) (by omega) (key 1 (by omega) (by omega))
 ·exact A7z (k := 0) (by omega) (key 0 (by omega) (by omega))
theorem CurI.new {c : CfgV} (h : T3 c = true) (hw : WsOk (P0 c)) : CurI (P0 c) := by
 simp only [T3, T7, Bool.and_eq_true, decide_eq_true_eq] at h
 have hcur : C7 (P0 c) = 0 := by
  show D8 (List.replicate _ 0) 1 = 0
  unfold D8; split
  ·rw [List.getD_eq_getElem?_getD, List.getElem?_replicate]; split <;> rfl
  ·rfl
 refine ⟨hw, by simp [P0], by simp only [P0, List.length_replicate]; omega, by rw [hcur]; omega, fun k hk hc => ?_, fun k hk hc => ?_⟩
 ·rw [hcur] at hc; omega
 ·left; simp [P0]
theorem B3k {p : List E6} {x : WS} (hp : F2 p ≠ 0) : K4 200 ⟨.upd (D0 0 p), x, 0, 0, 0⟩ = ⟨.upd { D0 0 p with b := ⟨0, -1, ⟨F2 p, 0, false, 0⟩⟩ }, x, 1, 1, 0⟩ := by
 have hb : J0 (D0 0 p) = F2 p := if_pos rfl
 refine (N9.one (Q2 (j := D0 0 p) (x := x) (by simp [D0]))).ends (by omega) ?_ |>.trans ?_
 all_goals
  rw [T2]
  unfold D2
  rw [hb, if_pos ⟨rfl, hp⟩]
  rfl
inductive UpdC (x : WS) (p : List E6) (a : AnsV) (x' : WS) : Prop
 | ref (h : F2 p ≠ 0) (ha : a = ⟨F2 p, 0, false, 0⟩) (hc : C7 x' = C7 x)
 | busy (h : F2 p = 0) (ha : a = ⟨13, 0, false, 0⟩) (hc : C7 x' = C7 x) (hz : ¬ ∀ i : Nat, D8 x.cells ((i : Nat) + 2) = 0)
 | done (h : F2 p = 0) (ha : a = U4) (hc : C7 x' ≠ C7 x) (h1 : 1 ≤ C7 x') (hr : G5 x'.sl (C7 x' - 1) = .rdy p) (hs : e9 x'.keep (C7 x' - 1) = 1) (ho : 0 < C7 x → e9 x'.keep (C7 x - 1) = 2) (he : D8 x'.cells 0 = epW x)
theorem B3r {x : WS} (h : CurI x) (p : List E6) : ∃ jj x' nn, K4 200 ⟨.upd (D0 0 p), x, 0, 0, 0⟩ = ⟨.upd jj, x', nn, 1, 0⟩ ∧ jj.b.st = -1 ∧ CurI x' ∧ G5 x'.sl (C7 x - 1) = G5 x.sl (C7 x - 1) ∧ (∀ i : Nat, D8 x'.cells ((i : Nat) + 2) = D8 x.cells ((i : Nat) + 2)) ∧ UpdC x p jj.b.ans x' := by
 by_cases hc : F2 p = 0
 ·by_cases ht : D6 (kF x) < 0
  ·obtain ⟨k1, k2⟩ := h.freed
   exact ⟨_, _, _, B1n hc h.ok.wk h.kl h.ok.keep ht, rfl, k1, k2, fun _ => rfl, .busy hc rfl rfl fun hz => h.free hz ht⟩
  ·obtain ⟨k1, k2, k3, k4, k5, k6, k7⟩ := h.after p ht
   exact ⟨_, _, _, B1b hc h.ok.wk h.kl h.ok.keep ht, rfl, k1, k7, fun i => A2m i, .done hc rfl k2 k3 k4 k5 k6 (B2z h.ok)⟩
 ·exact ⟨_, _, _, B3k hc, rfl, h, rfl, fun _ => rfl, .ref hc rfl rfl⟩
theorem B2E {x : WS} (h : CurI x) (p : List E6) : UInv 0 (D0 0 p) x := ⟨h.ok, by simp [D0], by simp [D0], by simp [D0], by simp [D0], by have := h.cur; have := h.ok.keep; simp only [C7] at *; omega⟩
end Go.Proofs.YtjobgnabneddjaaGreat
namespace Go.Proofs.YtjobgnabneddjaaGreat
open Go
theorem B4V {n : Int} (h : (Lit.int .u64 n).wf = true) : 0 ≤ n := by
 have e : IntKind.u64.min = 0 := rfl
 simp only [Lit.wf, Bool.and_eq_true, decide_eq_true_eq] at h
 omega
end Go.Proofs.YtjobgnabneddjaaGreat
namespace Go.Proofs.YtjobgnabneddjaaGreat
open Go
theorem B4c {κ : Bool} {S : List Nat} {w0 : World} {H : List Res} {F : Value → WP} {A : (Value → WP) → WP} {α : Type} (Hj : α → List Res) (v : Value) (hF : ∀ x, TW κ S w0 (Hj x) (F v)) (hA : ∀ J : Value → WP, (∀ x, TW κ S w0 (Hj x) (J v)) → TW κ S w0 H (A J)) : TW κ S w0 H (jn (n := 1) F A) := hA F hF
theorem B4b {κ : Bool} {S : List Nat} {w0 : World} {H : List Res} {F : Value → WP} {A : (Value → WP) → WP} (v : Value) (hF : TW κ S w0 H (F v)) (hA : ∀ J : Value → WP, TW κ S w0 H (J v) → TW κ S w0 H (A J)) : TW κ S w0 H (jn (n := 1) F A) := hA F hF
theorem CurI.pin {x : WS} (h : CurI x) (v : Int) : CurI { x with cells := H6 x.cells 2 v } := by
 have e : D8 (H6 x.cells 2 v) 1 = D8 x.cells 1 := A1L _ _ (by omega)
 refine ⟨⟨h.ok.wk, by simp only [A05]; exact h.ok.cells, h.ok.own, h.ok.sl, h.ok.keep⟩, h.kl, h.two, ?_, fun k hk hc => ?_, fun k hk hc => ?_⟩
 ·show 0 ≤ D8 (H6 x.cells 2 v) 1 ∧ D8 (H6 x.cells 2 v) 1 ≤ x.keep.length; rw [e]; exact h.cur
 ·exact h.at1 k hk (by rw [show C7 { x with cells := H6 x.cells 2 v } = D8 (H6 x.cells 2 v) 1 from rfl, e] at hc; exact hc)
 ·exact h.at2 k hk (by rw [show C7 { x with cells := H6 x.cells 2 v } = D8 (H6 x.cells 2 v) 1 from rfl, e] at hc; exact hc)
theorem B0k {l l' : List SlV} {i : Int} {h : Nat} (e : G5 l' i = G5 l i) : v7 l' i h = v7 l i h := by unfold v7; rw [e]
theorem CurI.ready {x : WS} (h : CurI x) (hc : 0 < C7 x) : (A3r x.sl (C7 x - 1)).2 = true := by
 have h1 := h.cur
 obtain ⟨k, hk⟩ : ∃ k : Nat, C7 x - 1 = k := ⟨(C7 x - 1).toNat, by omega⟩
 obtain ⟨_, p, hp⟩ := h.at1 k (by omega) (by omega)
 rw [hk]; unfold A3r; rw [hp]
theorem A5d {S : List Nat} {w0 : World} {H Hk : List Res} {X : Nat → Prop} {K : Value → WP} (m : WoH) (i : Int) (hcl : m.cells.length ≤ 1024) (hs : Sels (C3 m ++ Hk) H)
  (hK : ∀ n : Int, TW false S w0 (C3 (m.up { m.dd with cn := n }) ++ Hk) (K (.int .i64 (D8 m.cells i)))) :
  TW false S w0 H (B5 PR X 35 [.pointer (some ⟨m.bc, 0, none⟩), .int .i64 i] K) := by
 refine Sels.tw hs ?_
 simp only [C3, List.cons_append, List.nil_append]
 refine C0 (Hc := C2 m.bc m.cn m.cv m.ov m.cells m.own) N2 (fun w' _ hs => A1p w' m.bc m.cn m.cv m.ov m.cells m.own i hcl hs) (by unfold C2; (repeat' constructor)) ?_
 rintro n v rfl
 refine Sels.tw (rs := C3 (m.up { m.dd with cn := n }) ++ Hk) (by simp only [C2, C3, WoH.up, WoH.dd, List.cons_append, List.nil_append]; repeat (first | exact r4 _ | (apply Sels.cons; · (repeat constructor)))) (hK n)
theorem B1g {S : List Nat} {w0 : World} {H Hk : List Res} {X : Nat → Prop} {K : Value → WP} (m : WoH) (i v : Int) (hcl : m.cells.length ≤ 1024) (hs : Sels (C3 m ++ Hk) H)
  (hK : ∀ n : Int, TW false S w0 (C3 (m.up { m.dd with cn := n, cells := H6 m.cells i v }) ++ Hk) (K (.tuple #[]))) :
  TW false S w0 H (B5 PR X 31 [.pointer (some ⟨m.bc, 0, none⟩), .int .i64 i, .int .i64 v] K) := by
 refine Sels.tw hs ?_
 simp only [C3, List.cons_append, List.nil_append]
 refine C0 (Hc := C2 m.bc m.cn m.cv m.ov m.cells m.own) d8 (fun w' _ hs => A6K w' m.bc m.cn m.cv m.ov m.cells m.own i v hcl hs) (by unfold C2; (repeat' constructor)) ?_
 rintro n u rfl
 refine Sels.tw (rs := C3 (m.up { m.dd with cn := n, cells := H6 m.cells i v }) ++ Hk) (by simp only [C2, C3, WoH.up, WoH.dd, List.cons_append, List.nil_append]; repeat (first | exact r4 _ | (apply Sels.cons; · (repeat constructor)))) (hK n)
theorem B4D (w' : World) (jb b : Nat) (j : JU) (pv qv : Value) (s : Int) (hA : j.b.st = s) (g1 : bl w' jb = some (.cells #[G8 b] 167 (0, 0))) (g2 : bl w' b = some (.cells (D4 j.b [pv, qv, .int .i64 j.slot, .int .i64 j.old]) 163 (0, 0))) :
  Fn PR B7 38 #[.pointer (some ⟨jb, 0, none⟩)] w' (fun u w'' => u = .int .i64 s ∧ C4 [] w' w'') := by
 subst hA; exact A2u w' jb b (G8 b) j.b _ _ (Or.inl rfl) g1 g2
set_option maxHeartbeats 8000000 in
theorem A4r (w : World) (c : CfgV) (lv : Value) (l : List (Value × List E6)) (qv : Value) (pins : List Int) (h : Int) (hh : 0 ≤ h) (hll : l.length ≤ 9223372036854775807) (hpl : pins.length ≤ 9223372036854775807)
  (hv : F7 w lv l.length (l.map (·.1))) (hvs : ∀ t ∈ l, F7 w t.1 t.2.length (t.2.flatMap G2)) (hvl : ∀ t ∈ l, t.2.length ≤ 9223372036854775807) (hq : F7 w qv pins.length (F1 pins)) :
  Fn PR B7 8 #[c.val, lv, qv, .int .u64 h] w (fun v w' => v = .bool true ∧ C4 [] w w') := by
 refine Fn.pure (l7 (TW.go (κ := false) (S := []) ?_))
 unfold P8
 obtain ⟨hq', rfl⟩ : ∃ q : Nat, h = q := ⟨h.toNat, by omega⟩
 obtain ⟨la, lc, rfl, hlr⟩ := hv.form
 obtain ⟨qa, qc, rfl, hqr⟩ := hq.form
 simp only [CfgV.val]
 (have zz:=trivial;repeat((first|clear zz|with_reducible first|refine A2 ?_|refine A5 fun _=>?_|refine A4 fun _=>?_);try simp(disch:=first|omega|assumption|((repeat(first|exact A1|exact uH|apply A3|apply uT));first|done|fail)|(simp;first|done|omega|fail))[]))
 rename_i bc
 refine D9 z8 (fun w' _ => A9p w') ?_
 (have zz:=trivial;repeat((first|clear zz|with_reducible first|refine A2 ?_|refine A5 fun _=>?_|refine A4 fun _=>?_);try simp(disch:=first|omega|assumption|((repeat(first|exact A1|exact uH|apply A3|apply uT));first|done|fail)|(simp;first|done|omega|fail))[]))
 refine D9 y8 (fun w' _ => B1T w' c) ?_
 cases hs : A07 c with
 | false => (have zz:=trivial;repeat((first|clear zz|with_reducible first|refine A2 ?_|refine A5 fun _=>?_|refine A4 fun _=>?_);try simp(disch:=first|omega|assumption|((repeat(first|exact A1|exact uH|apply A3|apply uT));first|done|fail)|(simp;first|done|omega|fail))[])); exact C1 rfl
 | true =>
 by_cases h12 : l.length ≤ 12
 case neg =>
  have h12' : 12 < (l.length : Int) := by omega
  (have zz:=trivial;repeat((first|clear zz|with_reducible first|refine A2 ?_|refine A5 fun _=>?_|refine A4 fun _=>?_);try simp(disch:=first|omega|assumption|((repeat(first|exact A1|exact uH|apply A3|apply uT));first|done|fail)|(simp;first|done|omega|fail))[h12, h12'])); exact C1 rfl
 have h12' : ¬ 12 < (l.length : Int) := by omega
 by_cases hpn : pins.length < l.length
 ·have hpn' : (pins.length : Int) < (l.length : Nat) := by omega
  (have zz:=trivial;repeat((first|clear zz|with_reducible first|refine A2 ?_|refine A5 fun _=>?_|refine A4 fun _=>?_);try simp(disch:=first|omega|assumption|((repeat(first|exact A1|exact uH|apply A3|apply uT));first|done|fail)|(simp;first|done|omega|fail))[h12, h12', hpn, hpn'])); exact C1 rfl
 have hpn' : ¬ (pins.length : Int) < (l.length : Nat) := by omega
 (have zz:=trivial;repeat((first|clear zz|with_reducible first|refine A2 ?_|refine A5 fun _=>?_|refine A4 fun _=>?_);try simp(disch:=first|omega|assumption|((repeat(first|exact A1|exact uH|apply A3|apply uT));first|done|fail)|(simp;first|done|omega|fail))[h12, h12', hpn, hpn']))
 refine W9 A2Y (fun w' hw' => A8y w' c) ?_
 cases hok : T3 c with
 | false =>
  simp only [Bool.false_eq_true, if_false]
  rintro m v rfl
  (have zz:=trivial;repeat((first|clear zz|with_reducible first|refine A2 ?_|refine A5 fun _=>?_|refine A4 fun _=>?_);try simp(disch:=first|omega|assumption|((repeat(first|exact A1|exact uH|apply A3|apply uT));first|done|fail)|(simp;first|done|omega|fail))[]))
  exact C1 rfl
 | true =>
 simp only [if_true]
 rintro m v ⟨rfl, hmc, hws⟩
 simp only [C3, E5, List.cons_append, List.nil_append]
 (have zz:=trivial;repeat((first|clear zz|with_reducible first|refine A2 ?_|refine A5 fun _=>?_|refine A4 fun _=>?_);try simp(disch:=first|omega|assumption|((repeat(first|exact A1|exact uH|apply A3|apply uT));first|done|fail)|(simp;first|done|omega|fail))[]))
 refine D9 y2 (fun w' hw' => A9e w' m (hw'.pt (b := m.b) (by unfold G1; (repeat constructor)))) ?_
 (have zz:=trivial;repeat((first|clear zz|with_reducible first|refine A2 ?_|refine A5 fun _=>?_|refine A4 fun _=>?_);try simp(disch:=first|omega|assumption|((repeat(first|exact A1|exact uH|apply A3|apply uT));first|done|fail)|(simp;first|done|omega|fail))[]))
 have B0 : CurI m.ws := by rw [hws]; exact CurI.new hok (B0d hok)
 clear hmc hws
 simp only [G1]
 refine Sels.tw (rs := C3 m ++ [.pt bc (.cells (G6 c) 23)]) (by simp only [C3, E5, G1, G6, List.cons_append, List.nil_append]; (repeat' constructor)) ?_
 refine A2s (α := WoD) l.length (fun _ _ => .bool false) (fun _ d => C3 (m.up d) ++ [.pt bc (.cells (G6 c) 23)]) (fun i d => CurI (m.up d).ws) m.dd B0 ?_
 rintro i d hik hB L hL
 by_cases hlt : i < l.length
 case neg =>
  obtain rfl : i = l.length := by omega
  clear hL
  (have zz:=trivial;repeat((first|clear zz|with_reducible first|refine A2 ?_|refine A5 fun _=>?_|refine A4 fun _=>?_);try simp(disch:=first|omega|assumption|((repeat(first|exact A1|exact uH|apply A3|apply uT));first|done|fail)|(simp;first|done|omega|fail))[Int.lt_irrefl]))
  exact C1 rfl
 have hlt' : ((i : Nat) : Int) < (l.length : Nat) := by omega
 obtain ⟨lb, lo', rfl, hlrow⟩ := hlr (by omega)
 obtain ⟨qb, qo, rfl, hqrow⟩ := hqr (by omega)
 obtain ⟨⟨pv, p⟩, hx⟩ : ∃ x, l[i]? = some x := ⟨_, List.getElem?_eq_getElem hlt⟩
 have hxm := List.mem_of_getElem? hx
 have g1 := hlrow.one (f := (·.1)) hx
 have hpv := hvs _ hxm
 have hpl2 := hvl _ hxm
 simp only at g1 hpv hpl2
 obtain ⟨pa, pc, rfl, _⟩ := hpv.form
 have hip : i < pins.length := by omega
 have g2 : w.cell? ⟨qb, qo + i, none⟩ = some (.int .i64 (pins.getD i 0)) := hqrow.get (A1T hip)
 obtain ⟨pz, hpz⟩ : ∃ z, z = pins.getD i 0 := ⟨_, rfl⟩
 rw [← hpz] at g2
 (have zz:=trivial;repeat((first|clear zz|with_reducible first|refine A2 ?_|refine A5 fun _=>?_|refine A4 fun _=>?_);try simp(disch:=first|omega|assumption|((repeat(first|exact A1|exact uH|apply A3|apply uT));first|done|fail)|(simp;first|done|omega|fail))[-a7]))
 rw [a7]
 (have zz:=trivial;repeat((first|clear zz|with_reducible first|refine A2 ?_|refine A5 fun _=>?_|refine A4 fun _=>?_);try simp(disch:=first|omega|assumption|((repeat(first|exact A1|exact uH|apply A3|apply uT));first|done|fail)|(simp;first|done|omega|fail))[-a7, hlt, hlt', h12]))
 rw [a7]
 rw [a7]
 by_cases h8 : p.length ≤ 8
 case neg =>
  have h8' : 8 < (p.length : Int) := by omega
  (have zz:=trivial;repeat((first|clear zz|with_reducible first|refine A2 ?_|refine A5 fun _=>?_|refine A4 fun _=>?_);try simp(disch:=first|omega|assumption|((repeat(first|exact A1|exact uH|apply A3|apply uT));first|done|fail)|(simp;first|done|omega|fail))[hlt, hlt', g1, h8, h8']))
  exact C1 rfl
 have h8' : ¬ 8 < (p.length : Int) := by omega
 (have zz:=trivial;repeat((first|clear zz|with_reducible first|refine A2 ?_|refine A5 fun _=>?_|refine A4 fun _=>?_);try simp(disch:=first|omega|assumption|((repeat(first|exact A1|exact uH|apply A3|apply uT));first|done|fail)|(simp;first|done|omega|fail))[-a7, hlt, hlt', hip, g1, g2, h8, h8']))
 have hcl : ∀ x : WS, CurI x → x.cells.length ≤ 1024 := fun x hx => by have h1 := hx.ok.cells; have h2 := hx.ok.wk; omega
 have hup : ∀ d d', (m.up d).up d' = m.up d' := fun _ _ => rfl
 refine B4c (fun n : Int => C3 (m.up { d with cn := n }) ++ [.pt bc (.cells (G6 c) 23)]) (.int .i64 (if pz < 0 ∨ D8 (m.up d).cells 0 < pz then 0 else pz)) ?_ ?_
 ·intro x
  generalize (if pz < 0 ∨ D8 (m.up d).cells 0 < pz then 0 else pz) = pz'
  obtain ⟨d1, hd1⟩ : ∃ d1 : WoD, d1 = { d with cn := x } := ⟨_, rfl⟩
  have hB1 : CurI (m.up d1).ws := by rw [hd1]; exact hB
  rw [← hd1]
  clear hB hd1
  rw [show m.b = (m.up d1).b from rfl]
  simp only [C3, E5, G1, G6, List.cons_append, List.nil_append]
  (have zz:=trivial;repeat((first|clear zz|with_reducible first|refine A2 ?_|refine A5 fun _=>?_|refine A4 fun _=>?_);try simp(disch:=first|omega|assumption|((repeat(first|exact A1|exact uH|apply A3|apply uT));first|done|fail)|(simp;first|done|omega|fail))[]))
  refine B1g (m.up d1) 2 pz' (hcl _ hB1) (Hk := [.pt bc (.cells (G6 c) 23)]) (by simp only [C3, E5, G1, G6, WoH.up, WoH.dd, List.cons_append, List.nil_append]; (repeat' constructor)) fun n => ?_
  obtain ⟨d2, hd2⟩ : ∃ d2 : WoD, d2 = { (m.up d1).dd with cn := n, cells := H6 (m.up d1).cells 2 pz' } := ⟨_, rfl⟩
  have hB2 : CurI (m.up d2).ws := by rw [hd2]; exact hB1.pin pz'
  rw [hup, ← hd2]
  clear hB1 hd2
  rw [show (m.up d1).b = (m.up d2).b from rfl]
  simp only [C3, E5, G1, G6, List.cons_append, List.nil_append]
  (have zz:=trivial;repeat((first|clear zz|with_reducible first|refine A2 ?_|refine A5 fun _=>?_|refine A4 fun _=>?_);try simp(disch:=first|omega|assumption|((repeat(first|exact A1|exact uH|apply A3|apply uT));first|done|fail)|(simp;first|done|omega|fail))[]))
  rw [show (m.up d2).bc = (m.up d2).bc from rfl]
  refine A5d (m.up d2) 1 (hcl _ hB2) (Hk := [.pt bc (.cells (G6 c) 23)]) (by simp only [C3, E5, G1, G6, WoH.up, WoH.dd, List.cons_append, List.nil_append]; (repeat' constructor)) fun n => ?_
  obtain ⟨d3, hd3⟩ : ∃ d3 : WoD, d3 = { (m.up d2).dd with cn := n } := ⟨_, rfl⟩
  have hB3 : CurI (m.up d3).ws := by rw [hd3]; exact hB2
  have hc3 : D8 (m.up d2).cells 1 = C7 (m.up d3).ws := by rw [hd3]; rfl
  rw [hup, ← hd3, hc3]
  clear hB2 hd3 hc3
  rw [show (m.up d2).b = (m.up d3).b from rfl]
  have hl8 : ∀ x : WoD, CurI (m.up x).ws → (m.up x).ls.length ≤ 8 ∧ (m.up x).keep.length ≤ 8 := fun x hx => by
   have h1 := hx.ok.sl; have h2 := hx.ok.keep
   have e : (m.up x).ws.sl.length = (m.up x).ls.length := by simp [WoH.ws]
   rw [← e]; exact ⟨h1, h2⟩
  obtain ⟨jj, x', nn, hrun, hst, hB', hold, hpin, hU⟩ := B3r hB3 p
  have hcur3 := hB3.cur
  have hk3 := hB3.ok.keep
  obtain ⟨cu, hcu⟩ : ∃ z, z = C7 (m.up d3).ws := ⟨_, rfl⟩
  obtain ⟨⟨pk1, pk2⟩, hpk⟩ : ∃ z, z = v7 ((m.up d3).ls.map SlH.sp) (cu - 1) hq' := ⟨_, rfl⟩
  have hPick := fun (w' : World) => A7l w' (m.up d3).bs (m.up d3).sv (m.up d3).ls (cu - 1) hq' (hl8 _ hB3).1
  simp only [← hpk] at hPick
  rw [← hcu] at hcur3 hold ⊢
  simp only [C3, E5, G1, G6, List.cons_append, List.nil_append]
  (have zz:=trivial;repeat((first|clear zz|with_reducible first|refine A2 ?_|refine A5 fun _=>?_|refine A4 fun _=>?_);try simp(disch:=first|omega|assumption|((repeat(first|exact A1|exact uH|apply A3|apply uT));first|done|fail)|(simp;first|done|omega|fail))[]))
  refine D9 j1 (fun w' hw' => hPick w' (SlAt.own hw' (by (repeat constructor)) (by (repeat constructor)) (by (repeat constructor)))) ?_
  (have zz:=trivial;repeat((first|clear zz|with_reducible first|refine A2 ?_|refine A5 fun _=>?_|refine A4 fun _=>?_);try simp(disch:=first|omega|assumption|((repeat(first|exact A1|exact uH|apply A3|apply uT));first|done|fail)|(simp;first|done|omega|fail))[g1]))
  refine W9 j3 (fun w' hw' => A5Y w' 0 pa p.length pc ⟨#[]⟩ 0) ?_
  rintro ⟨jb, b⟩ v rfl
  refine A0W 3 1 ?_
  (have zz:=trivial;repeat((first|clear zz|with_reducible first|refine A2 ?_|refine A5 fun _=>?_|refine A4 fun _=>?_);try simp(disch:=first|omega|assumption|((repeat(first|exact A1|exact uH|apply A3|apply uT));first|done|fail)|(simp;first|done|omega|fail))[]))
  have hdd : (m.up d3).up (m.up d3).dd = m.up d3 := rfl
  refine B5L (m.up d3) p (.slice pa p.length pc) jb b (Hk := [.pt bc (.cells (G6 c) 23)]) (B2E hB3 p) (by omega) (by simp only [N4, E9, G7, D0, K6, F1, List.map_nil, List.length_nil, hdd, C3, E5, G1, G6, List.cons_append, List.nil_append]; (repeat' constructor)) (fun w' hw' => B5G hpv (by simp) hw') _ hrun ?_
  rintro ⟨ja, qa, da⟩ ha1 ha2
  injection ha1 with ha1
  subst ha1
  rw [hup] at ha2
  subst ha2
  have hpk2 : v7 ((m.up da).ls.map SlH.sp) (cu - 1) hq' = (pk1, pk2) := (B0k hold).trans hpk.symm
  rw [show (m.up d3).b = (m.up da).b from rfl]
  simp only [N4, hup, C3, E5, G1, G6, List.cons_append, List.nil_append]
  (have zz:=trivial;repeat((first|clear zz|with_reducible first|refine A2 ?_|refine A5 fun _=>?_|refine A4 fun _=>?_);try simp(disch:=first|omega|assumption|((repeat(first|exact A1|exact uH|apply A3|apply uT));first|done|fail)|(simp;first|done|omega|fail))[]))
  refine A5d (m.up da) 1 (hcl _ hB') (Hk := [N1 jb (G8 b), E9 b ja (.slice pa p.length pc) qa, .pt bc (.cells (G6 c) 23)]) (by simp only [C3, E5, G1, G6, WoH.up, WoH.dd, List.cons_append, List.nil_append]; (repeat' constructor)) fun n => ?_
  obtain ⟨db, hdb⟩ : ∃ d4 : WoD, d4 = { (m.up da).dd with cn := n } := ⟨_, rfl⟩
  have hB4 : CurI (m.up db).ws := by rw [hdb]; exact hB'
  have hc4 : D8 (m.up da).cells 1 = C7 (m.up db).ws := by rw [hdb]; rfl
  have hU4 : UpdC (m.up d3).ws p ja.b.ans (m.up db).ws := by rw [hdb]; exact hU
  have hpk4 : v7 ((m.up db).ls.map SlH.sp) (cu - 1) hq' = (pk1, pk2) := by rw [hdb]; exact hpk2
  have hsz := hB4.ready
  rw [hup, ← hdb, hc4]
  rw [show (m.up da).b = (m.up db).b from rfl]
  clear hc4 hU hB' hpk2 hdb hold hrun hpin
  have hcur4 := hB4.cur
  have hk4 := hB4.ok.keep
  obtain ⟨is, his⟩ : ∃ z, z = C7 (m.up db).ws := ⟨_, rfl⟩
  rw [← his] at hsz hcur4 ⊢
  obtain ⟨⟨sz1, sz2⟩, hszv⟩ : ∃ z, z = A3r ((m.up db).ls.map SlH.sp) (is - 1) := ⟨_, rfl⟩
  have hsz' : 0 < is → sz2 = true := fun h => by have := hsz h; rw [show (m.up db).ws.sl = (m.up db).ls.map SlH.sp from rfl, ← hszv] at this; exact this
  have hPick4 := fun (w' : World) => A7l w' (m.up db).bs (m.up db).sv (m.up db).ls (cu - 1) hq' (hl8 _ hB4).1
  simp only [hpk4] at hPick4
  have hSize4 := fun (w' : World) => B2V w' (m.up db).bs (m.up db).sv (m.up db).ls (is - 1) (hl8 _ hB4).1
  simp only [← hszv] at hSize4
  simp only [C3, E5, G1, G6, List.cons_append, List.nil_append]
  (have zz:=trivial;repeat((first|clear zz|with_reducible first|refine A2 ?_|refine A5 fun _=>?_|refine A4 fun _=>?_);try simp(disch:=first|omega|assumption|((repeat(first|exact A1|exact uH|apply A3|apply uT));first|done|fail)|(simp;first|done|omega|fail))[]))
  refine D9 j1 (fun w' hw' => hPick4 w' (SlAt.own hw' (by (repeat constructor)) (by (repeat constructor)) (by (repeat constructor)))) ?_
  (have zz:=trivial;repeat((first|clear zz|with_reducible first|refine A2 ?_|refine A5 fun _=>?_|refine A4 fun _=>?_);try simp(disch:=first|omega|assumption|((repeat(first|exact A1|exact uH|apply A3|apply uT));first|done|fail)|(simp;first|done|omega|fail))[]))
  refine D9 A16 (fun w' hw' => hSize4 w' (SlAt.own hw' (by (repeat constructor)) (by (repeat constructor)) (by (repeat constructor)))) ?_
  (have zz:=trivial;repeat((first|clear zz|with_reducible first|refine A2 ?_|refine A5 fun _=>?_|refine A4 fun _=>?_);try simp(disch:=first|omega|assumption|((repeat(first|exact A1|exact uH|apply A3|apply uT));first|done|fail)|(simp;first|done|omega|fail))[-a7]))
  refine B4b (.bool false) ?_ fun J hJ => ?_
  rotate_left
  ·(have zz:=trivial;repeat((first|clear zz|with_reducible first|refine A2 ?_|refine A5 fun _=>?_|refine A4 fun _=>?_);try simp(disch:=first|omega|assumption|((repeat(first|exact A1|exact uH|apply A3|apply uT));first|done|fail)|(simp;first|done|omega|fail))[-a7]))
   refine D9 S0 (fun w' hw' => B4D w' jb b ja _ _ (-1) hst (hw'.pt (b := jb) (by unfold N1; (repeat constructor))) (hw'.pt (b := b) (by unfold E9; (repeat constructor)))) ?_
   by_cases hi : 0 < is
   ·rw [hsz' hi]
    (have zz:=trivial;repeat((first|clear zz|with_reducible first|refine A2 ?_|refine A5 fun _=>?_|refine A4 fun _=>?_);try simp(disch:=first|omega|assumption|((repeat(first|exact A1|exact uH|apply A3|apply uT));first|done|fail)|(simp;first|done|omega|fail))[hi, A1Q]))
    exact hJ
   ·(have zz:=trivial;repeat((first|clear zz|with_reducible first|refine A2 ?_|refine A5 fun _=>?_|refine A4 fun _=>?_);try simp(disch:=first|omega|assumption|((repeat(first|exact A1|exact uH|apply A3|apply uT));first|done|fail)|(simp;first|done|omega|fail))[hi, A1Q]))
    exact hJ
  rw [a7]
  cases hU4 with
  | ref hne hans hc =>
   rw [← his, ← hcu] at hc
   subst hc
   (have zz:=trivial;repeat((first|clear zz|with_reducible first|refine A2 ?_|refine A5 fun _=>?_|refine A4 fun _=>?_);try simp(disch:=first|omega|assumption|((repeat(first|exact A1|exact uH|apply A3|apply uT));first|done|fail)|(simp;first|done|omega|fail))[-a7]))
   refine D9 G3 (fun w' hw' => A3k w' jb b ja _ _ _ hans (hw'.pt (b := jb) (by unfold N1; (repeat constructor))) (hw'.pt (b := b) (by unfold E9; (repeat constructor)))) ?_
   simp only [AnsV.val]
   (have zz:=trivial;repeat((first|clear zz|with_reducible first|refine A2 ?_|refine A5 fun _=>?_|refine A4 fun _=>?_);try simp(disch:=first|omega|assumption|((repeat(first|exact A1|exact uH|apply A3|apply uT));first|done|fail)|(simp;first|done|omega|fail))[A1Q, hne, A0S (show #[Value.int .i64 (F2 p), .int .i64 0, .bool false, .int .i64 0][0]? = some (Value.int .i64 (F2 p)) from rfl)]))
   refine D9 V6 (fun w' hw' => g7 w' _ p (by omega) (hpv.ks hw'.ks (by simp))) ?_
   (have zz:=trivial;repeat((first|clear zz|with_reducible first|refine A2 ?_|refine A5 fun _=>?_|refine A4 fun _=>?_);try simp(disch:=first|omega|assumption|((repeat(first|exact A1|exact uH|apply A3|apply uT));first|done|fail)|(simp;first|done|omega|fail))[hne]))
   refine Sels.tw (rs := C3 (m.up db) ++ [.pt bc (.cells (G6 c) 23)]) (by simp only [C3, E5, G1, G6, WoH.up, WoH.dd, List.cons_append, List.nil_append]; (repeat' constructor)) (hL hlt db hB4)
  | busy h0 hans hc hz =>
   rw [← his, ← hcu] at hc
   subst hc
   (have zz:=trivial;repeat((first|clear zz|with_reducible first|refine A2 ?_|refine A5 fun _=>?_|refine A4 fun _=>?_);try simp(disch:=first|omega|assumption|((repeat(first|exact A1|exact uH|apply A3|apply uT));first|done|fail)|(simp;first|done|omega|fail))[-a7]))
   refine D9 G3 (fun w' hw' => A3k w' jb b ja _ _ _ hans (hw'.pt (b := jb) (by unfold N1; (repeat constructor))) (hw'.pt (b := b) (by unfold E9; (repeat constructor)))) ?_
   simp only [AnsV.val]
   (have zz:=trivial;repeat((first|clear zz|with_reducible first|refine A2 ?_|refine A5 fun _=>?_|refine A4 fun _=>?_);try simp(disch:=first|omega|assumption|((repeat(first|exact A1|exact uH|apply A3|apply uT));first|done|fail)|(simp;first|done|omega|fail))[A1Q, A0S (show #[Value.int .i64 13, .int .i64 0, .bool false, .int .i64 0][0]? = some (Value.int .i64 13) from rfl)]))
   refine D9 V6 (fun w' hw' => g7 w' _ p (by omega) (hpv.ks hw'.ks (by simp))) ?_
   rw [h0]
   (have zz:=trivial;repeat((first|clear zz|with_reducible first|refine A2 ?_|refine A5 fun _=>?_|refine A4 fun _=>?_);try simp(disch:=first|omega|assumption|((repeat(first|exact A1|exact uH|apply A3|apply uT));first|done|fail)|(simp;first|done|omega|fail))[]))
   refine D9 G3 (fun w' hw' => A3k w' jb b ja _ _ _ hans (hw'.pt (b := jb) (by unfold N1; (repeat constructor))) (hw'.pt (b := b) (by unfold E9; (repeat constructor)))) ?_
   simp only [AnsV.val]
   (have zz:=trivial;repeat((first|clear zz|with_reducible first|refine A2 ?_|refine A5 fun _=>?_|refine A4 fun _=>?_);try simp(disch:=first|omega|assumption|((repeat(first|exact A1|exact uH|apply A3|apply uT));first|done|fail)|(simp;first|done|omega|fail))[A1Q, A0S (show #[Value.int .i64 13, .int .i64 0, .bool false, .int .i64 0][0]? = some (Value.int .i64 13) from rfl)]))
   refine Sels.tw (rs := C3 (m.up db) ++ [.pt bc (.cells (G6 c) 23)]) (by simp only [C3, E5, G1, G6, WoH.up, WoH.dd, List.cons_append, List.nil_append]; (repeat' constructor)) (hL hlt db hB4)
  | done h0 hans hc h1 hr hs ho he =>
   rw [← his, ← hcu] at hc
   rw [← his] at h1 hs
   rw [← hcu] at ho
   (have zz:=trivial;repeat((first|clear zz|with_reducible first|refine A2 ?_|refine A5 fun _=>?_|refine A4 fun _=>?_);try simp(disch:=first|omega|assumption|((repeat(first|exact A1|exact uH|apply A3|apply uT));first|done|fail)|(simp;first|done|omega|fail))[-a7]))
   refine D9 G3 (fun w' hw' => A3k w' jb b ja _ _ _ hans (hw'.pt (b := jb) (by unfold N1; (repeat constructor))) (hw'.pt (b := b) (by unfold E9; (repeat constructor)))) ?_
   simp only [U4, AnsV.val]
   have h1' : ¬ is < 1 := by omega
   (have zz:=trivial;repeat((first|clear zz|with_reducible first|refine A2 ?_|refine A5 fun _=>?_|refine A4 fun _=>?_);try simp(disch:=first|omega|assumption|((repeat(first|exact A1|exact uH|apply A3|apply uT));first|done|fail)|(simp;first|done|omega|fail))[hc, h1', A1Q, A0S (show #[Value.int .i64 0, .int .i64 0, .bool false, .int .i64 0][0]? = some (Value.int .i64 0) from rfl)]))
   refine D9 Q7 (fun w' hw' => A2x w' (m.up db).bk (m.up db).keep (is - 1) (hl8 _ hB4).2 (U2.own hw' (by (repeat constructor)))) ?_
   rw [show e9 (m.up db).keep (is - 1) = 1 from hs]
   by_cases hw0 : 0 < cu
   ·(have zz:=trivial;repeat((first|clear zz|with_reducible first|refine A2 ?_|refine A5 fun _=>?_|refine A4 fun _=>?_);try simp(disch:=first|omega|assumption|((repeat(first|exact A1|exact uH|apply A3|apply uT));first|done|fail)|(simp;first|done|omega|fail))[hw0]))
    refine D9 Q7 (fun w' hw' => A2x w' (m.up db).bk (m.up db).keep (cu - 1) (hl8 _ hB4).2 (U2.own hw' (by (repeat constructor)))) ?_
    rw [show e9 (m.up db).keep (cu - 1) = 2 from ho hw0]
    (have zz:=trivial;repeat((first|clear zz|with_reducible first|refine A2 ?_|refine A5 fun _=>?_|refine A4 fun _=>?_);try simp(disch:=first|omega|assumption|((repeat(first|exact A1|exact uH|apply A3|apply uT));first|done|fail)|(simp;first|done|omega|fail))[hw0]))
    refine Sels.tw (rs := C3 (m.up db) ++ [.pt bc (.cells (G6 c) 23)]) (by simp only [C3, E5, G1, G6, WoH.up, WoH.dd, List.cons_append, List.nil_append]; (repeat' constructor)) (hL hlt db hB4)
   ·(have zz:=trivial;repeat((first|clear zz|with_reducible first|refine A2 ?_|refine A5 fun _=>?_|refine A4 fun _=>?_);try simp(disch:=first|omega|assumption|((repeat(first|exact A1|exact uH|apply A3|apply uT));first|done|fail)|(simp;first|done|omega|fail))[hw0]))
    refine Sels.tw (rs := C3 (m.up db) ++ [.pt bc (.cells (G6 c) 23)]) (by simp only [C3, E5, G1, G6, WoH.up, WoH.dd, List.cons_append, List.nil_append]; (repeat' constructor)) (hL hlt db hB4)
 ·intro J hJ
  by_cases hz : pz < 0
  ·(have zz:=trivial;repeat((first|clear zz|with_reducible first|refine A2 ?_|refine A5 fun _=>?_|refine A4 fun _=>?_);try simp(disch:=first|omega|assumption|((repeat(first|exact A1|exact uH|apply A3|apply uT));first|done|fail)|(simp;first|done|omega|fail))[hz]))
   rw [if_pos (Or.inl hz)] at hJ
   exact hJ d.cn
  rw [show m.b = (m.up d).b from rfl]
  simp only [C3, E5, G1, G6, List.cons_append, List.nil_append]
  (have zz:=trivial;repeat((first|clear zz|with_reducible first|refine A2 ?_|refine A5 fun _=>?_|refine A4 fun _=>?_);try simp(disch:=first|omega|assumption|((repeat(first|exact A1|exact uH|apply A3|apply uT));first|done|fail)|(simp;first|done|omega|fail))[hz]))
  refine A5d (m.up d) 0 (hcl _ hB) (Hk := [.pt bc (.cells (G6 c) 23)]) (by simp only [C3, E5, G1, G6, WoH.up, WoH.dd, List.cons_append, List.nil_append]; (repeat' constructor)) fun n => ?_
  by_cases hz2 : D8 (m.up d).cells 0 < pz
  ·(have zz:=trivial;repeat((first|clear zz|with_reducible first|refine A2 ?_|refine A5 fun _=>?_|refine A4 fun _=>?_);try simp(disch:=first|omega|assumption|((repeat(first|exact A1|exact uH|apply A3|apply uT));first|done|fail)|(simp;first|done|omega|fail))[hz, hz2]))
   rw [if_pos (Or.inr hz2)] at hJ
   exact hJ n
  ·(have zz:=trivial;repeat((first|clear zz|with_reducible first|refine A2 ?_|refine A5 fun _=>?_|refine A4 fun _=>?_);try simp(disch:=first|omega|assumption|((repeat(first|exact A1|exact uH|apply A3|apply uT));first|done|fail)|(simp;first|done|omega|fail))[hz, hz2]))
   rw [if_neg (by simp [hz, hz2])] at hJ
   exact hJ n
end Go.Proofs.YtjobgnabneddjaaGreat
