/- The proof of a given statement, a part of it (Ord Sort ShModel Model Model2 Slo Slo2 Wor Wor2 Wor3 Con Con2 Con3 Con4 Con5 Upd Upd2 RunG UpdR RunU WsN BusL Works20 Wat Model3 Model4 Model5 Model6 Model7 Jw Tab Tab2 Model8). No condition but what each lemma says. -/
import Derived.Sort.Grow
import Derived.Deep.Draws
import Derived.Test.YtpnidmkaobfhiaaGreatM15
set_option linter.unusedVariables false
set_option linter.unusedSimpArgs false
namespace Go.Proofs.YtpnidmkaobfhiaaGreat
open Go
theorem B5S (w : World) (a : Int) : Fn PR B6 165 #[.int .i64 a] w (fun v w' => v = .bool false ∧ w' = w) := by
 refine B2K ?_
 unfold A4z
 simp
theorem B5Q (w : World) (a : Int) : Fn PR B6 164 #[.int .u64 a] w (fun v w' => v = .bool false ∧ w' = w) := by
 refine A9U ?_
 unfold A2N
 simp
def r9 (a b : Int) : Int := if a < b then -1 else if b < a then 1 else 0
theorem C4x (w : World) (a b : Int) : Fn PR B6 133 #[.int .i64 a, .int .i64 b] w (fun v w' => v = .int .i64 (r9 a b) ∧ w' = w) := by
 refine A9w ?_
 unfold A3J
 refine A5Y ((B5S w a).use ?_)
 rintro _ _ ⟨rfl, rfl⟩ _
 refine A5Y ((B5S _ b).use ?_)
 rintro _ _ ⟨rfl, rfl⟩ _
 by_cases c1 : a < b
 ·simp [c1, r9]
 by_cases c2 : b < a
 ·simp [c1, c2, r9]
 ·simp [c1, c2, r9]
theorem C4z (w : World) (a b : Int) : Fn PR B6 132 #[.int .u64 a, .int .u64 b] w (fun v w' => v = .int .i64 (r9 a b) ∧ w' = w) := by
 refine A63 ?_
 unfold A1Q
 refine A3Z ((B5Q w a).use ?_)
 rintro _ _ ⟨rfl, rfl⟩ _
 refine A3Z ((B5Q _ b).use ?_)
 rintro _ _ ⟨rfl, rfl⟩ _
 by_cases c1 : a < b
 ·simp [c1, r9]
 by_cases c2 : b < a
 ·simp [c1, c2, r9]
 ·simp [c1, c2, r9]
def A2m (x y : Nat × Int) : Int := if r9 x.1 y.1 ≠ 0 then r9 x.1 y.1 else r9 x.2 y.2
theorem C2G (K : WP) (w : World) : drw K w = K w.drew := rfl
def Gr (w w' : World) : Prop := ∃ q os, w' = Sort.grow (w.drewN q) os
theorem Gr.refl (w : World) : Gr w w := ⟨0, #[], by simp [Sort.grow]; rfl⟩
theorem Gr.alloc {w w' : World} (h : Gr w w') (o : Obj) : Gr w (w'.alloc o) := by
 obtain ⟨q, os, rfl⟩ := h
 exact ⟨q, os ++ #[o], by rw [Sort.alloc_eq_grow, Sort.grow_grow]⟩
theorem Gr.drew {w w' : World} (h : Gr w w') : Gr w w'.drew := by
 obtain ⟨q, os, rfl⟩ := h
 exact ⟨q + 1, os, rfl⟩
theorem D0k (w : World) (a b : Int) (g : Nat) (h : N6 w g 0 [.int .i64 a, .int .i64 b]) : Fn PR B6 131 #[.slice (some ⟨g, 0, none⟩) 2 2] w (fun v w' => v = .int .i64 (if a ≠ 0 then a else b) ∧ w' = w) := by
 refine B6F ?_
 unfold A9J
 simp
 refine D4T 2 (fun _ i w' => w' = w ∧ (0 < i → a = 0) ∧ (1 < i → b = 0)) ⟨rfl, by omega, by omega⟩ ?_
 rintro x i w1 hi ⟨hw1, h0, h1⟩ L hL
 rw [hw1]
 have ha : w.cell? ⟨g, 0, none⟩ = some (.int .i64 a) := by have := h.get (i := 0) (v := .int .i64 a) rfl; simpa using this
 have hb : w.cell? ⟨g, 1, none⟩ = some (.int .i64 b) := by have := h.get (i := 1) (v := .int .i64 b) rfl; simpa using this
 have hi' : i = 0 ∨ i = 1 ∨ i = 2 := by omega
 rcases hi' with rfl | rfl | rfl
 ·by_cases c : a = 0
  ·simp [ha, c]
   exact hL (by omega) _ _ ⟨rfl, fun _ => c, by omega⟩
  ·simp [ha, c]
 ·have ha0 := h0 (by omega)
  by_cases c : b = 0
  ·simp [hb, c]
   exact hL (by omega) _ _ ⟨rfl, fun _ => ha0, fun _ => c⟩
  ·simp [hb, c, ha0]
 ·simp [h0 (by omega), h1 (by omega)]
theorem C5F (w : World) (x y : Nat × Int) : Fn PR B6 101 #[.agg #[.int .u64 (x.1 : Nat), .int .i64 x.2], .agg #[.int .u64 (y.1 : Nat), .int .i64 y.2]] w (fun v w' => v = .int .i64 (A2m x y) ∧ Gr w w') := by
 refine A7l ?_
 unfold A1B
 obtain ⟨w2, hw2⟩ : ∃ w2, w2 = ((w.alloc (.cells #[.int .u64 (x.1 : Nat), .int .i64 x.2] 210)).alloc (.cells #[.int .u64 (y.1 : Nat), .int .i64 y.2] 210)).drew := ⟨_, rfl⟩
 have hA : bl w2 (sz w) = some (.cells #[.int .u64 (x.1 : Nat), .int .i64 x.2] 210) := by
  subst hw2; show bl ((w.alloc _).alloc _) (sz w) = _; rw [A4v (by simp), l7]
 have hB : bl w2 (sz w + 1) = some (.cells #[.int .u64 (y.1 : Nat), .int .i64 y.2] 210) := by
  subst hw2; show bl ((w.alloc _).alloc _) (sz w + 1) = _; rw [← B70 w, l7]
 have a0 : w2.cell? ⟨sz w, 0, none⟩ = some (.int .u64 (x.1 : Nat)) := by rw [D8 hA]; rfl
 have a1 : w2.cell? ⟨sz w, 1, none⟩ = some (.int .i64 x.2) := by rw [D8 hA]; rfl
 have b0 : w2.cell? ⟨sz w + 1, 0, none⟩ = some (.int .u64 (y.1 : Nat)) := by rw [D8 hB]; rfl
 have b1 : w2.cell? ⟨sz w + 1, 1, none⟩ = some (.int .i64 y.2) := by rw [D8 hB]; rfl
 have hg : Gr w w2 := by subst hw2; exact (((Gr.refl w).alloc _).alloc _).drew
 rw [C0g, C0g, C2G, B70]
 simp only [Value.cells]
 rw [← hw2]
 clear hw2 hA hB
 have r1 : (Instr.loadAt 3 (.pointer (some ⟨sz w + 1, 0 + 1, none⟩))).run PR w2 = .ok (.int .i64 y.2) w2 := y0 G9 rfl b1
 have r2 : (Instr.loadAt 3 (.pointer (some ⟨sz w, 0 + 1, none⟩))).run PR w2 = .ok (.int .i64 x.2) w2 := y0 G9 rfl a1
 simp [a0, a1, b0, b1]
 refine A85 ((C4z w2 _ _).use ?_)
 rintro _ w3 ⟨rfl, hw3⟩ _
 rw [hw3, B3d, B3d, C29]
 refine ⟨r1, r2, ?_⟩
 refine B1S ((C4x w2 _ _).use ?_)
 rintro _ w4 ⟨rfl, hw4⟩ _
 rw [hw4, B0J A8s G9 (cs := #[.int .i64 (r9 x.1 y.1), .int .i64 (r9 x.2 y.2)]) (by decide) (by decide) (by kernel_rfl)]
 have hrow : N6 (w2.alloc (.cells #[.int .i64 (r9 x.1 y.1), .int .i64 (r9 x.2 y.2)] 3)) (sz w2) 0 [.int .i64 (r9 x.1 y.1), .int .i64 (r9 x.2 y.2)] := fun i hi => by
  rw [D8 (l7 _ _)]; simp
 refine B61 ((D0k _ _ _ _ hrow).use ?_)
 rintro _ w5 ⟨rfl, hw5⟩ _
 exact ⟨by simp [A2m], by rw [hw5]; exact hg.alloc _⟩
end Go.Proofs.YtpnidmkaobfhiaaGreat
namespace Go.Proofs.YtpnidmkaobfhiaaGreat
open Go Go.Sort Go.Lib
theorem C7j (x y : Nat × Int) : A2m x y < 0 ↔ x.1 < y.1 ∨ (x.1 = y.1 ∧ x.2 < y.2) := by
 unfold A2m r9
 by_cases h1 : (x.1 : Int) < y.1
 ·simp [h1]; omega
 by_cases h2 : (y.1 : Int) < x.1
 ·simp [h1, h2]; omega
 ·have : x.1 = y.1 := by omega
  by_cases h3 : x.2 < y.2
  ·simp [h1, h2, h3]; omega
  by_cases h4 : y.2 < x.2
  ·simp [h1, h2, h3, h4]; omega
  ·simp [h1, h2, h3, h4]; omega
theorem B9g (x y : Nat × Int) : ltOf A2m x y = true ↔ x.1 < y.1 ∨ (x.1 = y.1 ∧ x.2 < y.2) := by rw [ltOf, decide_eq_true_eq, C7j]
theorem B08 (x y : Nat × Int) : ltOf A2m x y = false ↔ ¬ (x.1 < y.1 ∨ (x.1 = y.1 ∧ x.2 < y.2)) := by rw [← B9g, Bool.not_eq_true]
theorem D4k : Sort.SWO (ltOf A2m) := by
 refine ⟨fun x => ?_, fun x y z h1 h2 => ?_, fun x y z h1 h2 => ?_⟩
 ·rw [B08]; omega
 ·rw [B9g] at *; omega
 ·rw [B08] at *; omega
theorem D4n (x y : Nat × Int) (h1 : ltOf A2m x y = false) (h2 : ltOf A2m y x = false) : x = y := by
 rw [B08] at *
 have e1 : x.1 = y.1 := by omega
 have e2 : x.2 = y.2 := by omega
 exact Prod.ext e1 e2
theorem C8K : (fun x y => !(ltOf A2m) y x) = leP := by
 funext x y
 rw [Bool.eq_iff_iff, Bool.not_eq_true', B08, leP, decide_eq_true_eq]; omega
theorem B7T (l : List (Nat × Int)) : flatK J0 2 l.toArray = (l.flatMap J0).toArray := by
 apply Array.toList_inj.1
 apply List.ext_getElem
 ·rw [Array.length_toList, size_flatK, List.toList_toArray, K3 Z5]; simp
 ·intro i h1 h2
  have hi : i < l.length * 2 := by simpa using h1
  have hf := Q8 (f := J0) (k := 2) Z5 l (i / 2) (i % 2) (by omega)
  rw [show i / 2 * 2 + i % 2 = i by omega] at hf
  have h2' : i < (l.flatMap J0).length := by simpa using h2
  rw [List.getElem?_eq_getElem h2', List.getElem?_eq_getElem (show i / 2 < l.length by omega)] at hf
  have hg := get_flatK J0 2 l.toArray i (by simpa using hi)
  rw [getElem!_pos _ _ (by simpa using hi)] at hg
  simp only [Array.getElem_toList, List.getElem_toArray]
  rw [hg]
  simp only [Option.bind_some] at hf
  rw [getElem!_pos l.toArray (i / 2) (by simp; omega)]
  simp only [List.getElem_toArray]
  have h3 : i % 2 < (J0 l[i / 2]).length := by rw [Z5]; omega
  rw [List.getElem?_eq_getElem h3] at hf
  rw [getElem!_pos (J0 l[i / 2]) (i % 2) h3]
  exact (Option.some.inj hf).symm
theorem C2Z {w : World} {g : Nat} {cur : Array Value} {T : TypeId} {F : Array Value} (h : bl w g = some (.cells cur T (0, 0))) : bl (Sort.putRow id w g 0 F) g = some (.cells (Sort.putCells id 0 F cur) T (0, 0)) := by
 have h' : w.heap[g]? = some (.cells cur T (0, 0)) := h
 simp only [bl, Sort.putRow, Sort.mapBlock, Array.getElem?_modify, if_true, h', Option.map_some]; rfl
theorem A4j {w : World} {g r : Nat} {F : Array Value} (h : r ≠ g) : bl (Sort.putRow id w g 0 F) r = bl w r := by
 simp [bl, Sort.putRow, Sort.mapBlock, Array.getElem?_modify, Ne.symm h]
theorem B51 {F cur : Array Value} (h : F.size ≤ cur.size) : (Sort.putCells id 0 F cur).toList.take F.size = F.toList := by
 apply List.ext_getElem (by simp [Sort.putCells]; omega)
 intro i h1 h2
 have hi : i < F.size := by simpa using h2
 simp [Sort.putCells, hi]
theorem B1F {w : World} {os : Array Obj} {r : Nat} {o : Obj} (h : bl w r = some o) : bl (Sort.grow w os) r = some o := by
 have hr : r < w.heap.size := K7 h
 simp only [bl, Sort.grow, Array.getElem?_append_left hr]; exact h
theorem B9L (w : World) (v : Value) (l : List (Nat × Int)) (hn : l.length ≤ 1000000) (hw : LW false (B2 [A8l v l]) w [A8l v l] w) :
  Fn PR B6 128 #[v, .func (.func 101) #[] #[]] w (Rn (B2 [A8l v l]) w (fun (_ : Unit) u => u = .tuple #[]) fun _ => [A8l v (U5 l)]) := by
 have ho : S8 w 210 2 v l.length (l.flatMap J0) := hw.hold _ A1
 rcases ho.2 with ⟨rfl, hl0⟩ | ⟨g, cap, cur, rfl, hb, hc, hcs, htk⟩
 ·have hl : l = [] := List.length_eq_zero_iff.1 hl0
  subst hl
  refine Calls.mono (AnyF.slices_SortFunc_none Tryz.sortPlace none 0 (.func (.func 101) #[] #[]) w) ?_
  rintro e w' ⟨he, rfl⟩
  exact ⟨_, he, ⟨(), rfl, by simpa [U5] using hw⟩, Sk.refl _ _⟩
 ·have hg : g < w.heap.size := K7 hb
  have hH : HoldsK J0 2 w g 0 l.toArray := by
   intro j hj
   rw [B7T] at hj ⊢
   have hj' : j < (l.flatMap J0).length := by simpa using hj
   constructor
   ·rw [D8 hb, Nat.zero_add]
    rw [getElem!_pos _ _ (by simpa using hj')]
    have : cur.toList[j]? = (l.flatMap J0)[j]? := by
     rw [← htk, List.getElem?_take_of_lt (by rw [K3 Z5] at hj'; exact hj')]
    rw [Array.getElem?_toList] at this
    rw [this, List.getElem?_eq_getElem hj']; rfl
   ·have hb' : w.heap[g]? = some (.cells cur 210 (0, 0)) := hb
    simp [World.frozen?, hb']
  have hcmp : CmpLays PR 101 #[] J0 2 A2m g 0 l.toArray.size w := by
   intro m os dk _ x y
   refine Calls.mono (C5F (sortWorldK J0 2 w g 0 m dk os) x y) ?_
   rintro e w' ⟨v, he, ⟨hv, hgr⟩, _⟩
   exact ⟨by rw [he, hv], hgr⟩
  have main := AnyQ.slices_SortFunc_total Tryz.sortPlace 2 (fun w => by kernel_rfl) (fun w => A8C.run_size) J0 Z5
   (by intro x u hu; simp only [J0, List.mem_cons, List.not_mem_nil, or_false] at hu; rcases hu with rfl | rfl <;> rfl) A2m D4k 101 #[] g 0 cap l.toArray w
   A6H hcmp hH hg (by simp; omega) D4n
  refine Calls.mono main ?_
  rintro e w' ⟨he, n, os, rfl⟩
  have e1 : sortWorldK J0 2 w g 0 n (l.toArray.toList.mergeSort fun x y => !(ltOf A2m) y x).toArray os = Sort.grow (Sort.putRow id (Sort.ahead w n) g 0 ((U5 l).flatMap J0).toArray) os := by
   unfold sortWorldK putRowK; rw [← B7T, C8K]; rfl
  rw [e1]
  have hsz : ((U5 l).flatMap J0).length = l.length * 2 := by rw [K3 Z5, x7]
  have hb2 : bl (Sort.ahead w n) g = some (.cells cur 210 (0, 0)) := hb
  have hbl := B1F (os := os) (C2Z (F := ((U5 l).flatMap J0).toArray) hb2)
  have hks : KS false [g] w (Sort.grow (Sort.putRow id (Sort.ahead w n) g 0 ((U5 l).flatMap J0).toArray) os) := by
   refine ⟨by simp [sz, Sort.grow, Sort.size_putRow], fun r o hr _ e => ?_, fun h => by cases h⟩
   exact B1F (by rw [A4j (by simpa using hr)]; exact e)
  refine ⟨_, he, ⟨(), rfl, ⟨hks.mono (by simp [B2, Res.foot, N9]), ?_, ?_, by simp⟩⟩, ?_⟩
  ·simp only [List.mem_singleton, forall_eq, Res.holds]
   refine ⟨by rw [hsz, x7], Or.inr ⟨g, cap, _, by rw [x7], hbl, by rw [x7]; exact hc, by simp [Sort.putCells, hcs], ?_⟩⟩
   rw [x7]
   have := B51 (F := ((U5 l).flatMap J0).toArray) (cur := cur) (by simp only [List.size_toArray, hsz]; rw [← hcs]; omega)
   simpa [hsz] using this
  ·simp only [List.mem_singleton, forall_eq, Res.foot, N9]
   exact ⟨Or.inl (by simp [B2, Res.foot, N9]), K7 hbl⟩
  ·refine ⟨by simp [Sort.grow, Sort.size_putRow], fun r d e => ?_, fun r lo _ e => ?_, rfl, rfl⟩
   ·exact B1F (by rw [A4j (by rintro rfl; have h2 : some (Obj.deferred d) = some (Obj.cells cur 210 (0, 0)) := e.symm.trans hb; cases h2)]; exact e)
   ·exact B1F (by rw [A4j (by rintro rfl; have h2 : some (Obj.loop lo) = some (Obj.cells cur 210 (0, 0)) := e.symm.trans hb; cases h2)]; exact e)
theorem B5u (w : World) (b : Nat) (v : Value) (p : List F2) (hn : p.length ≤ 1000) (hv : E2 w v p.length (p.flatMap E8)) (hS : 0 < p.length → ∀ g ∈ N9 v, g ∉ [b])
  (hw : LW false [b] w [.pt b (.cells #[v] 36)] w) :
  Fn PR B6 99 #[B23 b, .func (.func 101) #[] #[]] w (Rn [b] w (fun r u => u = r) fun r => [A8l r (U5 (K8 p))]) := by
 refine A0m (TW.goH (κ := false) (S := [b]) ?_ hw)
 unfold Z0
 have hll := B05 p
 refine D0 (Hc := [.pt b (.cells #[v] 36)]) A1c (fun w' hw' hs => C1M w' b v p hn (hv.ks0 (fun h => by rw [List.length_eq_zero_iff.1 h]; rfl) hw'.ks hS) hS hs) (by (repeat' constructor)) ?_
 rintro _ r rfl
 refine D0 (Hc := [A8l r (K8 p)]) g9 (fun w' hw' hs => B9L w' r (K8 p) (by omega) hs) (by (repeat' constructor)) ?_
 rintro _ _ rfl
 exact B1 r rfl (by (repeat' constructor))
theorem C53 (w : World) (v : Value) (p : List F2) (hn : p.length ≤ 1000) (hv : E2 w v p.length (p.flatMap E8)) :
  Fn PR B6 78 #[v] w (Rn [] w (fun r u => u = r) fun r => [.own 216 2 r (U5 (K8 p)).length ((U5 (K8 p)).flatMap J0)]) := by
 refine B69 (TW.go (κ := false) (S := []) ?_)
 unfold B0D
 have hll := B05 p
 refine H9 B3u (fun w' _ => C4A w' v (by obtain ⟨a, c, rfl, _⟩ := hv.form; exact ⟨a, _, c, rfl⟩)) ?_
 rintro b _ rfl
 refine D0 (Hc := [.pt b (.cells #[v] 36)]) A0T (fun w' hw' hs => B5u w' b v p hn (hv.ks hw'.ks (by simp)) (fun h0 g hg hgb => ?_) hs) (by (repeat' constructor)) ?_
 ·obtain ⟨a, c, rfl, hr⟩ := hv.form
  obtain ⟨b', o, rfl, hrow⟩ := hr h0
  have hlen : 0 < (p.flatMap E8).length := by rw [K3 (k := 2) fun _ => rfl]; omega
  have h1 := hrow 0 hlen
  rw [List.getElem?_eq_getElem hlen] at h1
  obtain ⟨c', t', z', h2, h3⟩ := n5 h1
  have hlt : b' < sz w := K7 h2
  simp [N9] at hg hgb
  subst hg
  rcases (hw'.own _ A1 b (by simp [Res.foot])).1 with h | h
  ·simp at h
  ·omega
 rintro _ r rfl
 have hsl : (U5 (K8 p)).length ≤ 128000 := by rw [x7]; omega
 generalize U5 (K8 p) = q at *
 refine T4 (e := 210) (k := 2) (v := r) (q := q.length) (xs := q.flatMap J0) (by (repeat constructor)) ?_
 rintro ra rc rfl
 (have zz:=trivial;repeat((first|clear zz|with_reducible first|refine A3 ?_|refine A5 fun _=>?_|refine A4 fun _=>?_);try simp(disch:=first|omega|assumption|((repeat(first|exact A1|exact uH|apply A2|apply uT));first|done|fail)|(simp;first|done|omega|fail))[]))
 refine s9 216 2 ?_
 refine w7 (α := Option Addr × Nat) q.length (fun i x => .slice x.1 i x.2) (fun i x => [.own 216 2 (.slice x.1 i x.2) i ((q.take i).flatMap J0), A8l (.slice ra q.length rc) q]) (fun i _ => True) (none, 0) trivial ?_
 rintro i ⟨xa, xc⟩ hi _ L hL
 by_cases hlt : i < q.length
 ·obtain ⟨x, hx⟩ : ∃ x, q[i]? = some x := ⟨_, List.getElem?_eq_getElem hlt⟩
  have hrl := B5B (f := J0) (k := 2) Z5 hx
  have hst : (q.take (i + 1)).flatMap J0 = (q.take i).flatMap J0 ++ J0 x := by rw [List.take_add_one, hx, List.flatMap_append]; simp
  have hL' := fun a c => hL hlt (a, c) trivial
  simp only [hst, J0] at hL'
  rw [J0] at hrl
  have hl0 : ((q.take i).flatMap J0).length = i * 2 := by rw [K3 Z5, List.length_take]; congr 1; omega
  refine l2 (e := 210) (k := 2) (v := .slice ra q.length rc) (q := q.length) (xs := q.flatMap J0) (by (repeat constructor)) (by omega) ?_
  rintro g gc hg
  cases hg
  (have zz:=trivial;repeat((first|clear zz|with_reducible first|refine A3 ?_|refine A5 fun _=>?_|refine A4 fun _=>?_|refine G1 fun _=>?_|refine F7 (hK:=fun _=>?_)|refine F9 (hK:=fun _=>?_)|refine F8 (hK:=fun _=>?_)|refine F6 (hK:=fun _=>?_)|refine G0 (hK:=fun _=>?_));try simp(disch:=first|omega|assumption|((repeat(first|exact A1|exact uH|apply A2|apply uT));first|done|fail)|(simp;first|done|omega|fail))[hlt, hrl]))
  refine A22 (e := 216) (k := 2) (q := i) (r := 1) (xs := (q.take i).flatMap J0) (news := [.int .u64 (x.1 : Nat), .int .i64 x.2]) (by (repeat constructor)) (P4.own (by (repeat constructor))) (by decide) (by simp) (by simp) (by simp only [maxLen]; omega) (by omega) fun a' c' => ?_
  (have zz:=trivial;repeat((first|clear zz|with_reducible first|refine A3 ?_|refine A5 fun _=>?_|refine A4 fun _=>?_);try simp(disch:=first|omega|assumption|((repeat(first|exact A1|exact uH|apply A2|apply uT));first|done|fail)|(simp;first|done|omega|fail))[]))
  exact Sels.tw (by (repeat' constructor)) (hL' a' c')
 ·obtain rfl : i = q.length := by omega
  rw [List.take_length]
  (have zz:=trivial;repeat((first|clear zz|with_reducible first|refine A3 ?_|refine A5 fun _=>?_|refine A4 fun _=>?_);try simp(disch:=first|omega|assumption|((repeat(first|exact A1|exact uH|apply A2|apply uT));first|done|fail)|(simp;first|done|omega|fail))[]))
  exact B1 (.slice xa q.length xc) rfl (by (repeat' constructor))
theorem C6j (w : World) (v : Value) (p : List F2) (h : Nat) (hn : p.length ≤ 1000) (hv : E2 w v p.length (p.flatMap E8)) :
  Fn PR B6 117 #[v, .int .u64 (h : Int)] w (fun r w' => r = .int .i64 (C1V p h) ∧ C6 [] w w') := by
 refine Fn.pure (B8b (TW.go (κ := false) (S := []) ?_))
 unfold B0Y
 refine H9 A89 (fun w' hw' => C53 w' v p hn (hv.ks hw'.ks (by simp))) ?_
 rintro _ r rfl
 have hll := B05 p
 refine C8 B50 (fun w' hw' => C7N w' r (U5 (K8 p)) h (by rw [x7]; omega) (P4.own (by (repeat constructor)) w' hw')) ?_
 exact B0 rfl
end Go.Proofs.YtpnidmkaobfhiaaGreat
namespace Go.Proofs.YtpnidmkaobfhiaaGreat
open Go
def A9r (X : Nat → Prop) (t0 : Value) (R : Value → WP) : WP :=
 B4 PR X (Instr.box 23 t0) fun t1 =>
 jn (n := 2) (fun t2 t3 =>
 drw <|
 A6 PR (Instr.loadAt 23 t1) fun t12 =>
 A0 PR (Instr.fieldAt 23 t1 1) fun t13 =>
 A6 PR (Instr.loadAt 3 t13) fun t14 =>
 B4 PR X (Instr.makeSlice 128 t14 t14) fun t15 =>
 watch PR [(none, (Instr.loadAt 23 t1), t12)] <|
 A0 PR (Instr.build 130 #[(0, t12), (2, t15)]) fun t16 =>
 B4 PR X (Instr.box 130 t16) fun t17 =>
 jn (n := 1) (fun t23 =>
 R (.tuple #[t17, (.int .i64 0)])) fun J1 =>
 A0 PR (B5 t17) fun t19 =>
 A0 PR (Instr.fieldAt 130 t19 2) fun t20 =>
 A6 PR (Instr.loadAt 128 t20) fun t21 =>
 A0 PR (A8 .len #[128] 0 [t21]) fun t22 =>
 lp (n := 1) (fun L2 t23_1 =>
 A0 PR (binOp .lss 3 t23_1 t22) fun t24 =>
 jn (n := 0) (
 jn (n := 0) (
 A0 PR (binOp .add 3 t23_1 (.int .i64 1)) fun t37 =>
 L2 t37) fun J3 =>
 drw <|
 A0 PR (B5 t17) fun t27 =>
 A0 PR (Instr.fieldAt 130 t27 2) fun t28 =>
 A6 PR (Instr.loadAt 128 t28) fun t29 =>
 A0 PR (Instr.fieldAt 23 t1 2) fun t31 =>
 A6 PR (Instr.loadAt 3 t31) fun t32 =>
 B7 PR X 39 [t32] fun t33 =>
 watch PR [(none, (Instr.loadAt 128 t28), t29)] <|
 A0 PR (Instr.indexAt 128 t29 t23_1) fun t34 =>
 A0 PR (Instr.fieldAt 134 t34 0) fun t35 =>
 A0 PR (Instr.fieldAt 132 t35 0) fun t36 =>
 B9 PR X (Instr.storeAt 55 t36 t33) <|
 J3) fun J4 =>
 C3 t24 (
 J4) (
 J1 t23_1)) (.int .i64 0)) fun J5 =>
 A6 PR (Instr.loadAt 23 t1) fun t7 =>
 B7 PR X 31 [t7] fun t8 =>
 A0 PR (binOp .neq 31 t8 (.int .i64 0)) fun t10 =>
 C3 t10 (
 R (.tuple #[(.pointer none), t8])) (
 J5 (.pointer none) (.int .i64 0))
theorem B6M : A9 PR 22 := A7 Tryz.func22 (by kernel_rfl) rfl
theorem B64 {X : Nat → Prop} {t0 : Value} {R : Value → WP} {w : World} (h : A9r X t0 R w) : Fn PR X 22 #[t0] w R := C4 (args := [t0]) mixed Tryz.func22 (by kernel_rfl) h
def A3x (X : Nat → Prop) (t0 t1 t2 : Value) (R : Value → WP) : WP :=
 B4 PR X (Instr.box 38 t1) fun t4 =>
 B4 PR X (Instr.alloc 57 true (.tuple #[])) fun t6 =>
 A0 PR (Instr.build 136 #[(0, (.func (.func 64) #[] #[])), (1, (.func (.func 65) #[] #[])), (2, (.func (.func 66) #[] #[])), (3, (.func (.func 67) #[] #[]))]) fun t8 =>
 B4 PR X (Instr.alloc 136 true (.tuple #[])) fun t7 =>
 B9 PR X (Instr.storeAt 136 t7 t8) <|
 jn (n := 0) (
 drw <|
 A0 PR (Instr.fieldAt 38 t4 0) fun t18 =>
 A6 PR (Instr.loadAt 3 t18) fun t19 =>
 A0 PR (Instr.indexAt 136 t7 t19) fun t20 =>
 A6 PR (Instr.loadAt 135 t20) fun t21 =>
 A6 PR (Instr.loadAt 38 t4) fun t23 =>
 M7 PR X t21 [t0, t23, t2] fun t25 =>
 B9 PR X (Instr.storeAt 57 t6 t25) <|
 A6 PR (D6 [.c 57 t6]) R) fun J1 =>
 A0 PR (Instr.fieldAt 38 t4 0) fun t9 =>
 A6 PR (Instr.loadAt 3 t9) fun t10 =>
 A0 PR (binOp .lss 3 t10 (.int .i64 0)) fun t11 =>
 gj t11 false (fun J => A0 PR (Instr.fieldAt 38 t4 0) J) fun t13 =>
 gj t11 false (fun J => A6 PR (Instr.loadAt 3 t13) J) fun t14 =>
 gj t11 false (fun J => A0 PR (binOp .geq 3 t14 (.int .i64 4)) J) fun t15 =>
 A0 PR (do pure (if ← asBool t11 then (.bool true) else t15)) fun t16 =>
 C3 t16 (
 A0 PR (Instr.build 57 #[(0, (.int .i64 1))]) fun t17 =>
 B9 PR X (Instr.storeAt 57 t6 t17) <|
 A6 PR (D6 [.c 57 t6]) R) (
 J1)
theorem B0b : A9 PR 24 := A7 Tryz.func24 (by kernel_rfl) rfl
theorem B1T {X : Nat → Prop} {t0 t1 t2 : Value} {R : Value → WP} {w : World} (h : A3x X t0 t1 t2 R w) : Fn PR X 24 #[t0, t1, t2] w R := C4 (args := [t0, t1, t2]) mixed Tryz.func24 (by kernel_rfl) h
def A1g (X : Nat → Prop) (t0 t1 : Value) (R : Value → WP) : WP :=
 jn (n := 1) (fun t4 =>
 A0 PR (B5 t0) fun t17 =>
 A0 PR (Instr.fieldAt 130 t17 2) fun t18 =>
 A6 PR (Instr.loadAt 128 t18) fun t19 =>
 A0 PR (Instr.indexAt 128 t19 t1) fun t21 =>
 A0 PR (Instr.fieldAt 134 t21 0) fun t22 =>
 A0 PR (Instr.fieldAt 132 t22 0) fun t23 =>
 A6 PR (Instr.loadAt 55 t23) fun t24 =>
 B7 PR X 71 [t24] fun t25 =>
 R t25) fun J1 =>
 A0 PR (binOp .lss 3 t1 (.int .i64 0)) fun t6 =>
 gj t6 false (fun J => J t1) fun t8 =>
 gj t6 false (fun J => J t0) fun t9 =>
 gj t6 false (fun J => A0 PR (B5 t9) J) fun t10 =>
 gj t6 false (fun J => A0 PR (Instr.fieldAt 130 t10 2) J) fun t11 =>
 gj t6 false (fun J => A6 PR (Instr.loadAt 128 t11) J) fun t12 =>
 gj t6 false (fun J => A0 PR (A8 .len #[128] 0 [t12]) J) fun t13 =>
 gj t6 false (fun J => A0 PR (binOp .geq 3 t8 t13) J) fun t14 =>
 A0 PR (do pure (if ← asBool t6 then (.bool true) else t14)) fun t15 =>
 C3 t15 (
 R (.slice none 0 0)) (
 J1 (.slice none 0 0))
theorem A69 : A9 PR 28 := A7 Tryz.func28 (by kernel_rfl) rfl
theorem A8e {X : Nat → Prop} {t0 t1 : Value} {R : Value → WP} {w : World} (h : A1g X t0 t1 R w) : Fn PR X 28 #[t0, t1] w R := C4 (args := [t0, t1]) mixed Tryz.func28 (by kernel_rfl) h
def A2d (X : Nat → Prop) (t0 : Value) (R : Value → WP) : WP :=
 A0 PR (B5 t0) fun t4 =>
 A0 PR (Instr.fieldAt 130 t4 1) fun t5 =>
 A6 PR (Instr.loadAt 36 t5) fun t6 =>
 B7 PR X 72 [t6] fun t7 =>
 R t7
theorem A8z : A9 PR 30 := A7 Tryz.func30 (by kernel_rfl) rfl
theorem A9b {X : Nat → Prop} {t0 : Value} {R : Value → WP} {w : World} (h : A2d X t0 R w) : Fn PR X 30 #[t0] w R := C4 (args := [t0]) mixed Tryz.func30 (by kernel_rfl) h
def A6v (X : Nat → Prop) (t0 : Value) (R : Value → WP) : WP :=
 B4 PR X (Instr.box 23 t0) fun t1 =>
 B4 PR X (Instr.alloc 31 true (.tuple #[])) fun t3 =>
 B9 PR X (Instr.storeAt 31 t3 (.int .i64 0)) <|
 A0 PR (Instr.makeFunc (.func 73) #[] #[t3]) fun t5 =>
 A0 PR (Instr.fieldAt 23 t1 0) fun t7 =>
 A6 PR (Instr.loadAt 3 t7) fun t8 =>
 M7 PR X t5 [t8, (.int .i64 1), (.int .i64 64)] fun t9 =>
 A0 PR (Instr.fieldAt 23 t1 1) fun t11 =>
 A6 PR (Instr.loadAt 3 t11) fun t12 =>
 M7 PR X t5 [t12, (.int .i64 1), (.int .i64 16)] fun t13 =>
 A0 PR (Instr.fieldAt 23 t1 2) fun t15 =>
 A6 PR (Instr.loadAt 3 t15) fun t16 =>
 M7 PR X t5 [t16, (.int .i64 1), (.int .i64 64)] fun t17 =>
 A0 PR (Instr.fieldAt 23 t1 3) fun t19 =>
 A6 PR (Instr.loadAt 3 t19) fun t20 =>
 M7 PR X t5 [t20, (.int .i64 0), (.int .i64 1000000)] fun t21 =>
 A0 PR (Instr.fieldAt 23 t1 4) fun t23 =>
 A6 PR (Instr.loadAt 3 t23) fun t24 =>
 M7 PR X t5 [t24, (.int .i64 2), (.int .i64 8)] fun t25 =>
 A6 PR (Instr.loadAt 31 t3) fun t26 =>
 R t26
theorem A5a : A9 PR 31 := A7 Tryz.func31 (by kernel_rfl) rfl
theorem B4m {X : Nat → Prop} {t0 : Value} {R : Value → WP} {w : World} (h : A6v X t0 R w) : Fn PR X 31 #[t0] w R := C4 (args := [t0]) mixed Tryz.func31 (by kernel_rfl) h
def A0M (X : Nat → Prop) (t0 t1 t2 : Value) (R : Value → WP) : WP :=
 B4 PR X (Instr.box 38 t1) fun t4 =>
 B4 PR X (Instr.alloc 57 true (.tuple #[])) fun t6 =>
 A0 PR (Instr.fieldAt 38 t4 1) fun t15 =>
 A6 PR (Instr.loadAt 9 t15) fun t16 =>
 B7 PR X 90 [t16] fun t17 =>
 A0 PR (Instr.extract t17 0) fun t18 =>
 A0 PR (Instr.extract t17 1) fun t19 =>
 B4 PR X (Instr.alloc 192 true (.tuple #[])) fun t7 =>
 B9 PR X (Instr.storeAt 192 t7 t18) <|
 jn (n := 0) (
 A0 PR (Instr.fieldAt 192 t7 0) fun t24 =>
 A6 PR (Instr.loadAt 190 t24) fun t25 =>
 B7 PR X 91 [t25] fun t26 =>
 A0 PR (Instr.extract t26 0) fun t27 =>
 A0 PR (Instr.extract t26 1) fun t28 =>
 drw <|
 A0 PR (B5 t0) fun t30 =>
 A0 PR (Instr.fieldAt 130 t30 2) fun t31 =>
 A6 PR (Instr.loadAt 128 t31) fun t32 =>
 A0 PR (B5 t0) fun t35 =>
 A0 PR (Instr.fieldAt 130 t35 0) fun t36 =>
 A0 PR (Instr.fieldAt 23 t36 1) fun t37 =>
 A6 PR (Instr.loadAt 3 t37) fun t38 =>
 B7 PR X 92 [t27, t38] fun t39 =>
 watch PR [(none, (Instr.loadAt 128 t31), t32)] <|
 A0 PR (Instr.indexAt 128 t32 t39) fun t40 =>
 drw <|
 kt (n := 2) (fun t13 t12 =>
 A0 PR (B5 t40) fun t65 =>
 A0 PR (Instr.fieldAt 134 t65 0) fun t66 =>
 A0 PR (Instr.fieldAt 132 t66 0) fun t67 =>
 B9 PR X (Instr.storeAt 55 t67 t12) <|
 A6 PR (Instr.loadAt 57 t13) fun t68 =>
 B9 PR X (Instr.storeAt 57 t6 t68) <|
 A6 PR (D6 [.c 57 t6]) R) fun C1 =>
 A0 PR (B5 t40) fun t43_1 =>
 A0 PR (Instr.fieldAt 134 t43_1 0) fun t44_1 =>
 A0 PR (Instr.fieldAt 132 t44_1 0) fun t45_1 =>
 A6 PR (Instr.loadAt 55 t45_1) fun t46_1 =>
 A0 PR (B5 t0) fun t48_1 =>
 A0 PR (Instr.fieldAt 130 t48_1 1) fun t49_1 =>
 A6 PR (Instr.loadAt 36 t49_1) fun t50_1 =>
 A6 PR (Instr.loadAt 192 t7) fun t52_1 =>
 A0 PR (B5 t0) fun t56_1 =>
 A0 PR (Instr.fieldAt 130 t56_1 0) fun t57_1 =>
 A0 PR (Instr.fieldAt 23 t57_1 3) fun t58_1 =>
 A6 PR (Instr.loadAt 3 t58_1) fun t59_1 =>
 both (B7 PR X 94 [t52_1] fun t53_2 =>
 watch PR [(none, (Instr.loadAt 3 t58_1), t59_1), (none, (Instr.loadAt 36 t49_1), t50_1), (none, (Instr.loadAt 55 t45_1), t46_1)] <|
 both (B7 PR X 93 [t46_1, t50_1, t27, t53_2, t2, t59_1] fun t60_3 =>
 A0 PR (Instr.extract t60_3 0) fun t61_3 =>
 A0 PR (Instr.extract t60_3 1) fun t62_3 =>
 B4 PR X (Instr.alloc 57 true (.tuple #[])) fun t13_3 =>
 B9 PR X (Instr.storeAt 57 t13_3 t62_3) <|
 C1 t13_3 t61_3) (both (B4 PR X (Instr.alloc 57 true (.tuple #[])) fun t13_2 =>
 watch PR [(none, (Instr.loadAt 3 t58_1), t59_1), (none, (Instr.loadAt 36 t49_1), t50_1), (none, (Instr.loadAt 55 t45_1), t46_1)] <|
 B7 PR X 93 [t46_1, t50_1, t27, t53_2, t2, t59_1] fun t60_2 =>
 A0 PR (Instr.extract t60_2 0) fun t61_2 =>
 A0 PR (Instr.extract t60_2 1) fun t62_2 =>
 B9 PR X (Instr.storeAt 57 t13_2 t62_2) <|
 C1 t13_2 t61_2) ((fun _ => True)))) (both (B4 PR X (Instr.alloc 57 true (.tuple #[])) fun t13_1 =>
 watch PR [(none, (Instr.loadAt 3 t58_1), t59_1), (none, (Instr.loadAt 192 t7), t52_1), (none, (Instr.loadAt 36 t49_1), t50_1), (none, (Instr.loadAt 55 t45_1), t46_1)] <|
 B7 PR X 94 [t52_1] fun t53_1 =>
 watch PR [(none, (Instr.loadAt 3 t58_1), t59_1), (none, (Instr.loadAt 36 t49_1), t50_1), (none, (Instr.loadAt 55 t45_1), t46_1)] <|
 B7 PR X 93 [t46_1, t50_1, t27, t53_1, t2, t59_1] fun t60_1 =>
 A0 PR (Instr.extract t60_1 0) fun t61_1 =>
 A0 PR (Instr.extract t60_1 1) fun t62_1 =>
 B9 PR X (Instr.storeAt 57 t13_1 t62_1) <|
 C1 t13_1 t61_1) ((fun _ => True)))) fun J2 =>
 A0 PR (binOp .neq 31 t19 (.int .i64 0)) fun t21 =>
 C3 t21 (
 A0 PR (Instr.build 57 #[(0, (.int .i64 9))]) fun t22 =>
 B9 PR X (Instr.storeAt 57 t6 t22) <|
 A6 PR (D6 [.c 57 t6]) R) (
 J2)
theorem A4S : A9 PR 64 := A7 Tryz.func64 (by kernel_rfl) rfl
theorem A45 {X : Nat → Prop} {t0 t1 t2 : Value} {R : Value → WP} {w : World} (h : A0M X t0 t1 t2 R w) : Fn PR X 64 #[t0, t1, t2] w R := C4 (args := [t0, t1, t2]) mixed Tryz.func64 (by kernel_rfl) h
def A1K (X : Nat → Prop) (t0 t1 t2 : Value) (R : Value → WP) : WP :=
 B4 PR X (Instr.box 38 t1) fun t4 =>
 B4 PR X (Instr.alloc 57 true (.tuple #[])) fun t6 =>
 jn (n := 0) (
 A0 PR (Instr.fieldAt 38 t4 2) fun t16 =>
 A6 PR (Instr.loadAt 36 t16) fun t17 =>
 B7 PR X 72 [t17] fun t18 =>
 A0 PR (B5 t0) fun t19 =>
 A0 PR (Instr.fieldAt 130 t19 1) fun t20 =>
 B9 PR X (Instr.storeAt 36 t20 t18) <|
 A0 PR (Instr.build 57 #[]) fun t21 =>
 B9 PR X (Instr.storeAt 57 t6 t21) <|
 A6 PR (D6 [.c 57 t6]) R) fun J1 =>
 A0 PR (Instr.fieldAt 38 t4 2) fun t8 =>
 A6 PR (Instr.loadAt 36 t8) fun t9 =>
 B7 PR X 77 [t9] fun t10 =>
 A0 PR (binOp .neq 31 t10 (.int .i64 0)) fun t12 =>
 C3 t12 (
 A0 PR (Instr.build 57 #[(0, t10)]) fun t14 =>
 B9 PR X (Instr.storeAt 57 t6 t14) <|
 A6 PR (D6 [.c 57 t6]) R) (
 J1)
theorem A6k : A9 PR 65 := A7 Tryz.func65 (by kernel_rfl) rfl
theorem A68 {X : Nat → Prop} {t0 t1 t2 : Value} {R : Value → WP} {w : World} (h : A1K X t0 t1 t2 R w) : Fn PR X 65 #[t0, t1, t2] w R := C4 (args := [t0, t1, t2]) mixed Tryz.func65 (by kernel_rfl) h
def A1a (X : Nat → Prop) (t0 t1 t2 : Value) (R : Value → WP) : WP :=
 B4 PR X (Instr.box 38 t1) fun t4 =>
 B4 PR X (Instr.alloc 57 true (.tuple #[])) fun t6 =>
 jn (n := 0) (
 B4 PR X (Instr.alloc 57 true (.tuple #[])) fun t7 =>
 drw <|
 A0 PR (B5 t0) fun t24 =>
 A0 PR (Instr.fieldAt 130 t24 2) fun t25 =>
 A6 PR (Instr.loadAt 128 t25) fun t26 =>
 A0 PR (Instr.fieldAt 38 t4 3) fun t27 =>
 A6 PR (Instr.loadAt 3 t27) fun t28 =>
 A0 PR (Instr.indexAt 128 t26 t28) fun t29 =>
 drw <|
 A0 PR (B5 t29) fun t34 =>
 A0 PR (Instr.fieldAt 134 t34 0) fun t35 =>
 A0 PR (Instr.fieldAt 132 t35 0) fun t36 =>
 A6 PR (Instr.loadAt 55 t36) fun t37 =>
 A0 PR (B5 t29) fun t39 =>
 A0 PR (Instr.fieldAt 134 t39 1) fun t40 =>
 A6 PR (Instr.loadAt 3 t40) fun t41 =>
 B7 PR X 95 [t37, t41, (.int .i64 4), t2] fun t43 =>
 A0 PR (Instr.extract t43 0) fun t44 =>
 A0 PR (Instr.extract t43 1) fun t45 =>
 A0 PR (Instr.extract t43 2) fun t46 =>
 A0 PR (B5 t29) fun t47 =>
 A0 PR (Instr.fieldAt 134 t47 0) fun t48 =>
 A0 PR (Instr.fieldAt 132 t48 0) fun t49 =>
 B9 PR X (Instr.storeAt 55 t49 t44) <|
 A0 PR (B5 t29) fun t50 =>
 A0 PR (Instr.fieldAt 134 t50 1) fun t51 =>
 B9 PR X (Instr.storeAt 3 t51 t45) <|
 A0 PR (Instr.fieldAt 57 t7 3) fun t52 =>
 B9 PR X (Instr.storeAt 3 t52 t46) <|
 A6 PR (Instr.loadAt 57 t7) fun t53 =>
 B9 PR X (Instr.storeAt 57 t6 t53) <|
 A6 PR (D6 [.c 57 t6]) R) fun J1 =>
 drw <|
 A0 PR (Instr.fieldAt 38 t4 3) fun t9 =>
 A6 PR (Instr.loadAt 3 t9) fun t10 =>
 A0 PR (binOp .lss 3 t10 (.int .i64 0)) fun t11 =>
 gj t11 false (fun J => A0 PR (Instr.fieldAt 38 t4 3) J) fun t13 =>
 gj t11 false (fun J => A6 PR (Instr.loadAt 3 t13) J) fun t14 =>
 gj t11 false (fun J => J t0) fun t15 =>
 gj t11 false (fun J => A0 PR (B5 t15) J) fun t16 =>
 gj t11 false (fun J => A0 PR (Instr.fieldAt 130 t16 2) J) fun t17 =>
 gj t11 false (fun J => A6 PR (Instr.loadAt 128 t17) J) fun t18 =>
 gj t11 false (fun J => A0 PR (A8 .len #[128] 0 [t18]) J) fun t19 =>
 gj t11 false (fun J => A0 PR (binOp .geq 3 t14 t19) J) fun t20 =>
 A0 PR (do pure (if ← asBool t11 then (.bool true) else t20)) fun t21 =>
 C3 t21 (
 A0 PR (Instr.build 57 #[(0, (.int .i64 1))]) fun t22 =>
 B9 PR X (Instr.storeAt 57 t6 t22) <|
 A6 PR (D6 [.c 57 t6]) R) (
 J1)
theorem A6F : A9 PR 66 := A7 Tryz.func66 (by kernel_rfl) rfl
theorem A7v {X : Nat → Prop} {t0 t1 t2 : Value} {R : Value → WP} {w : World} (h : A1a X t0 t1 t2 R w) : Fn PR X 66 #[t0, t1, t2] w R := C4 (args := [t0, t1, t2]) mixed Tryz.func66 (by kernel_rfl) h
def A12 (X : Nat → Prop) (t0 t1 t2 : Value) (R : Value → WP) : WP :=
 B4 PR X (Instr.box 38 t1) fun t4 =>
 B4 PR X (Instr.alloc 57 true (.tuple #[])) fun t6 =>
 B4 PR X (Instr.alloc 57 true (.tuple #[])) fun t7 =>
 jn (n := 1) (fun t14 =>
 A6 PR (Instr.loadAt 57 t7) fun t30 =>
 B9 PR X (Instr.storeAt 57 t6 t30) <|
 A6 PR (D6 [.c 57 t6]) R) fun J1 =>
 A0 PR (B5 t0) fun t10 =>
 A0 PR (Instr.fieldAt 130 t10 2) fun t11 =>
 A6 PR (Instr.loadAt 128 t11) fun t12 =>
 A0 PR (A8 .len #[128] 0 [t12]) fun t13 =>
 lp (n := 1) (fun L2 t14_1 =>
 A0 PR (binOp .lss 3 t14_1 t13) fun t15 =>
 jn (n := 0) (
 jn (n := 0) (
 A0 PR (binOp .add 3 t14_1 (.int .i64 1)) fun t29 =>
 L2 t29) fun J3 =>
 drw <|
 A0 PR (Instr.fieldAt 57 t7 3) fun t17 =>
 A6 PR (Instr.loadAt 3 t17) fun t18 =>
 A0 PR (B5 t0) fun t20 =>
 A0 PR (Instr.fieldAt 130 t20 2) fun t21 =>
 A6 PR (Instr.loadAt 128 t21) fun t22 =>
 A0 PR (Instr.indexAt 128 t22 t14_1) fun t24 =>
 A0 PR (Instr.fieldAt 134 t24 0) fun t25 =>
 B7 PR X 96 [t25] fun t26 =>
 watch PR [(none, (Instr.loadAt 3 t17), t18)] <|
 A0 PR (binOp .add 3 t18 t26) fun t27 =>
 A0 PR (Instr.fieldAt 57 t7 3) fun t28 =>
 B9 PR X (Instr.storeAt 3 t28 t27) <|
 J3) fun J4 =>
 C3 t15 (
 J4) (
 J1 t14_1)) (.int .i64 0)
theorem A7P : A9 PR 67 := A7 Tryz.func67 (by kernel_rfl) rfl
theorem A8F {X : Nat → Prop} {t0 t1 t2 : Value} {R : Value → WP} {w : World} (h : A12 X t0 t1 t2 R w) : Fn PR X 67 #[t0, t1, t2] w R := C4 (args := [t0, t1, t2]) mixed Tryz.func67 (by kernel_rfl) h
def A3u (X : Nat → Prop) (t0 t1 t2 t3 : Value) (R : Value → WP) : WP :=
 A0 PR (binOp .lss 3 t0 t1) fun t9 =>
 gj t9 false (fun J => J t0) fun t11 =>
 gj t9 false (fun J => J t2) fun t12 =>
 gj t9 false (fun J => A0 PR (binOp .gtr 3 t11 t12) J) fun t13 =>
 A0 PR (do pure (if ← asBool t9 then (.bool true) else t13)) fun t14 =>
 C3 t14 (
 B9 PR X (Instr.storeAt 31 t3 (.int .i64 1)) <|
 R (.tuple #[])) (
 R (.tuple #[]))
theorem V7 : A9 PR 73 := A7 Tryz.func73 (by kernel_rfl) rfl
theorem B1d {X : Nat → Prop} {t0 t1 t2 t3 : Value} {R : Value → WP} {w : World} (h : A3u X t0 t1 t2 t3 R w) : Fn PR X 73 #[t0, t1, t2, t3] w R := C4 (args := [t0, t1, t2, t3]) mixed Tryz.func73 (by kernel_rfl) h
def A60 (X : Nat → Prop) (t0 t1 : Value) (R : Value → WP) : WP :=
 jn (n := 1) (fun t4 =>
 B7 PR X 115 [t0] fun t8 =>
 A0 PR (binOp .shr 208 t8 (.int .u64 32)) fun t9 =>
 A0 PR (convert 3 208 t1) fun t11 =>
 A0 PR (binOp .rem 208 t9 t11) fun t12 =>
 A0 PR (convert 208 3 t12) fun t13 =>
 R t13) fun J1 =>
 A0 PR (binOp .lss 3 t1 (.int .i64 1)) fun t6 =>
 C3 t6 (
 R (.int .i64 0)) (
 J1 (.int .i64 0))
theorem B3f : A9 PR 92 := A7 Tryz.func92 (by kernel_rfl) rfl
theorem B4j {X : Nat → Prop} {t0 t1 : Value} {R : Value → WP} {w : World} (h : A60 X t0 t1 R w) : Fn PR X 92 #[t0, t1] w R := C4 (args := [t0, t1]) mixed Tryz.func92 (by kernel_rfl) h
def A5y (X : Nat → Prop) (t0 t1 t2 t3 t4 t5 : Value) (R : Value → WP) : WP :=
 B4 PR X (Instr.alloc 57 true (.tuple #[])) fun t13 =>
 B7 PR X 116 [t0, t1, t2, t4] fun t25 =>
 A0 PR (Instr.extract t25 0) fun t26 =>
 A0 PR (Instr.extract t25 1) fun t27 =>
 jn (n := 2) (fun t12 t14 =>
 jn (n := 1) (fun t12_1 =>
 A0 PR (binOp .add 3 t4 t5) fun t56 =>
 B7 PR X 119 [t0, t2, t14, t56] fun t57 =>
 A0 PR (Instr.extract t57 0) fun t58 =>
 A0 PR (Instr.extract t57 1) fun t59 =>
 jn (n := 1) (fun t12_2 =>
 A0 PR (Op.unary .not t27) fun t68 =>
 A0 PR (Instr.build 57 #[(1, t14), (2, t68)]) fun t69 =>
 B9 PR X (Instr.storeAt 57 t13 t69) <|
 A6 PR (D6 [.v t58, .c 57 t13]) R) fun J1 =>
 A0 PR (binOp .neq 31 t59 (.int .i64 0)) fun t61 =>
 C3 t61 (
 A0 PR (Instr.build 57 #[(0, t59)]) fun t64 =>
 B9 PR X (Instr.storeAt 57 t13 t64) <|
 A6 PR (D6 [.v t0, .c 57 t13]) R) (
 J1 t12_1)) fun J2 =>
 C3 t3 (
 B7 PR X 118 [t0, t2] fun t44 =>
 A0 PR (Instr.extract t44 0) fun t45 =>
 A0 PR (Instr.extract t44 1) fun t46 =>
 A0 PR (Instr.build 57 #[(1, t14)]) fun t49 =>
 B9 PR X (Instr.storeAt 57 t13 t49) <|
 A6 PR (D6 [.v t45, .c 57 t13]) R) (
 J2 t12)) fun J3 =>
 C3 t27 (
 J3 (.slice none 0 0) t26) (
 A0 PR (A8 .len #[36] 0 [t1]) fun t36 =>
 A0 PR (binOp .eql 3 t36 (.int .i64 0)) fun t37 =>
 C3 t37 (
 A0 PR (Instr.build 57 #[(0, (.int .i64 11))]) fun t39 =>
 B9 PR X (Instr.storeAt 57 t13 t39) <|
 A6 PR (D6 [.v t0, .c 57 t13]) R) (
 B7 PR X 115 [t2] fun t30 =>
 B7 PR X 117 [t1, t30] fun t31 =>
 J3 (.slice none 0 0) t31))
theorem V1 : A9 PR 93 := A7 Tryz.func93 (by kernel_rfl) rfl
theorem B2u {X : Nat → Prop} {t0 t1 t2 t3 t4 t5 : Value} {R : Value → WP} {w : World} (h : A5y X t0 t1 t2 t3 t4 t5 R w) : Fn PR X 93 #[t0, t1, t2, t3, t4, t5] w R := C4 (args := [t0, t1, t2, t3, t4, t5]) mixed Tryz.func93 (by kernel_rfl) h
def A2Q (X : Nat → Prop) (t0 : Value) (R : Value → WP) : WP :=
 A0 PR (B5 t0) fun t4 =>
 A0 PR (Instr.fieldAt 132 t4 0) fun t5 =>
 A6 PR (Instr.loadAt 55 t5) fun t6 =>
 B7 PR X 122 [t6, (.int .i64 1)] fun t7 =>
 R t7
theorem A8m : A9 PR 96 := A7 Tryz.func96 (by kernel_rfl) rfl
theorem A9d {X : Nat → Prop} {t0 : Value} {R : Value → WP} {w : World} (h : A2Q X t0 R w) : Fn PR X 96 #[t0] w R := C4 (args := [t0]) mixed Tryz.func96 (by kernel_rfl) h
def A6u (X : Nat → Prop) (t0 t1 t2 t3 : Value) (R : Value → WP) : WP :=
 B7 PR X 148 [t0, t2] fun t13 =>
 jn (n := 2) (fun t8 t9 =>
 A0 PR (Instr.indexAt 55 t0 t13) fun t37 =>
 A0 PR (Instr.fieldAt 155 t37 2) fun t38 =>
 A6 PR (Instr.loadAt 3 t38) fun t39 =>
 R (.tuple #[t39, (.bool true)])) fun J1 =>
 A0 PR (binOp .lss 3 t13 (.int .i64 0)) fun t15 =>
 gj t15 false (fun J => J t0) fun t17 =>
 gj t15 false (fun J => J t13) fun t18 =>
 gj t15 false (fun J => A0 PR (Instr.indexAt 55 t17 t18) J) fun t19 =>
 gj t15 false (fun J => A0 PR (Instr.fieldAt 155 t19 3) J) fun t20 =>
 gj t15 false (fun J => A6 PR (Instr.loadAt 3 t20) J) fun t21 =>
 gj t15 false (fun J => J t3) fun t22 =>
 gj t15 false (fun J => A0 PR (binOp .lss 3 t21 t22) J) fun t23 =>
 A0 PR (do pure (if ← asBool t15 then (.bool true) else t23)) fun t24 =>
 gj t24 false (fun J => J t1) fun t26 =>
 gj t24 false (fun J => J t0) fun t27 =>
 gj t24 false (fun J => J t13) fun t28 =>
 gj t24 false (fun J => A0 PR (Instr.indexAt 55 t27 t28) J) fun t29 =>
 gj t24 false (fun J => A0 PR (Instr.fieldAt 155 t29 2) J) fun t30 =>
 gj t24 false (fun J => A6 PR (Instr.loadAt 3 t30) J) fun t31 =>
 gj t24 false (fun J => B7 PR X 149 [t26, t31] J) fun t32 =>
 gj t24 false (fun J => A0 PR (binOp .lss 3 t32 (.int .i64 0)) J) fun t33 =>
 A0 PR (do pure (if ← asBool t24 then (.bool true) else t33)) fun t34 =>
 C3 t34 (
 R (.tuple #[(.int .i64 0), (.bool false)])) (
 J1 (.int .i64 0) (.bool false))
theorem B37 : A9 PR 116 := A7 Tryz.func116 (by kernel_rfl) rfl
theorem B45 {X : Nat → Prop} {t0 t1 t2 t3 : Value} {R : Value → WP} {w : World} (h : A6u X t0 t1 t2 t3 R w) : Fn PR X 116 #[t0, t1, t2, t3] w R := C4 (args := [t0, t1, t2, t3]) mixed Tryz.func116 (by kernel_rfl) h
end Go.Proofs.YtpnidmkaobfhiaaGreat
namespace Go.Proofs.YtpnidmkaobfhiaaGreat
open Go
def M9 (key : ByteArray) (n : Int) : Nat := if n < 1 then 0 else r7 key / 4294967296 % n.toNat
theorem C5J (w : World) (key : ByteArray) (n : Int) (hk : key.size < 2 ^ 60) (hn : n < 2 ^ 63) : Fn PR B6 92 #[.string key, .int .i64 n] w (fun v w' => v = .int .i64 (M9 key n : Nat) ∧ C6 [] w w') := by
 refine Fn.pure (B4j (TW.go (κ := false) (S := []) ?_))
 unfold A60
 by_cases c1 : n < 1
 ·(have zz:=trivial;repeat((first|clear zz|with_reducible first|refine A3 ?_|refine A5 fun _=>?_|refine A4 fun _=>?_);try simp(disch:=first|omega|assumption|((repeat(first|exact A1|exact uH|apply A2|apply uT));first|done|fail)|(simp;first|done|omega|fail))[c1]))
  exact B0 (by simp [M9, c1])
 (have zz:=trivial;repeat((first|clear zz|with_reducible first|refine A3 ?_|refine A5 fun _=>?_|refine A4 fun _=>?_);try simp(disch:=first|omega|assumption|((repeat(first|exact A1|exact uH|apply A2|apply uT));first|done|fail)|(simp;first|done|omega|fail))[c1]))
 refine C8 A26 (fun w' _ => A5p w' key hk) ?_
 obtain ⟨m, rfl⟩ : ∃ m : Nat, n = m := ⟨n.toNat, by omega⟩
 have hl := B39 key
 have hm : r7 key / 4294967296 % m < m := Nat.mod_lt _ (by omega)
 have e0 : ((r7 key : Nat) : Int).fdiv (2 ^ min 32 IntKind.u64.bits) = (r7 key / 4294967296 : Nat) := by rw [show (2 : Int) ^ min 32 IntKind.u64.bits = 4294967296 from rfl, Int.fdiv_eq_ediv_of_nonneg _ (by omega)]; omega
 have e1 : ((r7 key / 4294967296 : Nat) : Int).tmod m = (r7 key / 4294967296 % m : Nat) := by rw [Int.tmod_eq_emod_of_nonneg (by omega), Int.natCast_emod]
 have e2 : M9 key m = r7 key / 4294967296 % m := by simp only [M9, if_neg c1, Int.toNat_natCast]
 have hnz : ¬ (m : Int) = 0 := by omega
 rw [e2]
 (have zz:=trivial;repeat((first|clear zz|with_reducible first|refine A3 ?_|refine A5 fun _=>?_|refine A4 fun _=>?_);try simp(disch:=first|omega|assumption|((repeat(first|exact A1|exact uH|apply A2|apply uT));first|done|fail)|(simp;first|done|omega|fail))[hnz]))
 rw [e0]
 (have zz:=trivial;repeat((first|clear zz|with_reducible first|refine A3 ?_|refine A5 fun _=>?_|refine A4 fun _=>?_);try simp(disch:=first|omega|assumption|((repeat(first|exact A1|exact uH|apply A2|apply uT));first|done|fail)|(simp;first|done|omega|fail))[hnz, y4]))
 have e3 : (((r7 key : Nat) : Int) / 4294967296).tmod m = (r7 key / 4294967296 % m : Nat) := by rw [← e1]; congr 1
 rw [e3, T2 (n := ((r7 key / 4294967296 % m : Nat) : Int)) (by omega) (by omega)]
 exact B0 (by simp)
theorem C3G {l : List EnV} {key : ByteArray} (h : 0 ≤ E4 l key) : ∃ i : Nat, E4 l key = i ∧ i < l.length := ⟨(E4 l key).toNat, by omega, A2f h⟩
def atE (l : List EnV) (key : ByteArray) : EnV := l.getD (E4 l key).toNat noE
def V6 (l : List EnV) (p : List F2) (key : ByteArray) (now : Int) : Int × Bool :=
 if E4 l key < 0 ∨ (atE l key).dl < now ∨ B3U p (atE l key).bk < 0 then (0, false) else ((atE l key).bk, true)
theorem C4S (w : World) (v u : Value) (l : List EnV) (p : List F2) (key : ByteArray) (now : Int) (hk : key.size < 2 ^ 60) (hn : l.length ≤ 1000000) (hp : p.length ≤ 1000000) (hv : E2 w v l.length (l.flatMap F1)) (hu : E2 w u p.length (p.flatMap E8)) :
  Fn PR B6 116 #[v, u, .string key, .int .i64 now] w (fun r w' => r = .tuple #[.int .i64 (V6 l p key now).1, .bool (V6 l p key now).2] ∧ C6 [] w w') := by
 refine Fn.pure (B45 (TW.go (κ := false) (S := []) ?_))
 unfold A6u
 refine C8 z6 (fun w' hw' => A2A w' v l key hk hn (hv.ks hw'.ks (by simp))) ?_
 by_cases c1 : E4 l key < 0
 ·(have zz:=trivial;repeat((first|clear zz|with_reducible first|refine A3 ?_|refine A5 fun _=>?_|refine A4 fun _=>?_);try simp(disch:=first|omega|assumption|((repeat(first|exact A1|exact uH|apply A2|apply uT));first|done|fail)|(simp;first|done|omega|fail))[c1]))
  exact B0 (by simp [V6, c1])
 obtain ⟨i, hi, hlt⟩ := C3G (l := l) (key := key) (by omega)
 have hx : l[i]? = some (atE l key) := by rw [atE, hi, Int.toNat_natCast]; exact getD_some noE hlt
 obtain ⟨a, c, rfl, hr⟩ := hv.form
 obtain ⟨b, o, rfl, hrow⟩ := hr (by omega)
 have h2 := hrow.cellAt (f := F1) (k := 4) (j := 2) (fun _ => rfl) hx rfl
 have h3 := hrow.cellAt (f := F1) (k := 4) (j := 3) (fun _ => rfl) hx rfl
 have hk1 : V6 l p key now = if (atE l key).dl < now ∨ B3U p (atE l key).bk < 0 then (0, false) else ((atE l key).bk, true) := by simp [V6, c1]
 rw [hk1]
 generalize atE l key = x at *
 rw [hi]
 by_cases c2 : x.dl < now
 ·(have zz:=trivial;repeat((first|clear zz|with_reducible first|refine A3 ?_|refine A5 fun _=>?_|refine A4 fun _=>?_);try simp(disch:=first|omega|assumption|((repeat(first|exact A1|exact uH|apply A2|apply uT));first|done|fail)|(simp;first|done|omega|fail))[hlt, h3, c2]))
  exact B0 (by simp [c2])
 (have zz:=trivial;repeat((first|clear zz|with_reducible first|refine A3 ?_|refine A5 fun _=>?_|refine A4 fun _=>?_);try simp(disch:=first|omega|assumption|((repeat(first|exact A1|exact uH|apply A2|apply uT));first|done|fail)|(simp;first|done|omega|fail))[hlt, h3, c2, h2]))
 refine C8 B6C (fun w' hw' => B9B w' u p x.bk hp (hu.ks hw'.ks (by simp))) ?_
 by_cases c3 : B3U p x.bk < 0
 ·(have zz:=trivial;repeat((first|clear zz|with_reducible first|refine A3 ?_|refine A5 fun _=>?_|refine A4 fun _=>?_);try simp(disch:=first|omega|assumption|((repeat(first|exact A1|exact uH|apply A2|apply uT));first|done|fail)|(simp;first|done|omega|fail))[c3]))
  exact B0 (by simp [c3])
 ·(have zz:=trivial;repeat((first|clear zz|with_reducible first|refine A3 ?_|refine A5 fun _=>?_|refine A4 fun _=>?_);try simp(disch:=first|omega|assumption|((repeat(first|exact A1|exact uH|apply A2|apply uT));first|done|fail)|(simp;first|done|omega|fail))[c3, hlt, h2]))
  exact B0 (by simp [c2, c3])
theorem A2C (w : World) (n lo hi e : Int) (b : Nat) (hw : LW false [b] w [.pt b (.cells #[.int .i64 e] 31)] w) :
  Fn PR B6 73 #[.int .i64 n, .int .i64 lo, .int .i64 hi, .pointer (some ⟨b, 0, none⟩)] w (Rn [b] w (fun (_ : Unit) u => u = .tuple #[]) fun _ => [.pt b (.cells #[.int .i64 (if Z8 n lo hi then e else 1)] 31)]) := by
 refine B1d (TW.goH (κ := false) (S := [b]) ?_ hw)
 unfold A3u
 by_cases c1 : n < lo
 ·have hf : Z8 n lo hi = false := by simp [Z8]; omega
  (have zz:=trivial;repeat((first|clear zz|with_reducible first|refine A3 ?_|refine A5 fun _=>?_|refine A4 fun _=>?_);try simp(disch:=first|omega|assumption|((repeat(first|exact A1|exact uH|apply A2|apply uT));first|done|fail)|(simp;first|done|omega|fail))[c1]))
  exact B1 () rfl (by simp only [hf]; (repeat' constructor))
 by_cases c2 : hi < n
 ·have hf : Z8 n lo hi = false := by simp [Z8]; omega
  (have zz:=trivial;repeat((first|clear zz|with_reducible first|refine A3 ?_|refine A5 fun _=>?_|refine A4 fun _=>?_);try simp(disch:=first|omega|assumption|((repeat(first|exact A1|exact uH|apply A2|apply uT));first|done|fail)|(simp;first|done|omega|fail))[c1, c2]))
  exact B1 () rfl (by simp only [hf]; (repeat' constructor))
 ·have hf : Z8 n lo hi = true := by simp [Z8]; omega
  (have zz:=trivial;repeat((first|clear zz|with_reducible first|refine A3 ?_|refine A5 fun _=>?_|refine A4 fun _=>?_);try simp(disch:=first|omega|assumption|((repeat(first|exact A1|exact uH|apply A2|apply uT));first|done|fail)|(simp;first|done|omega|fail))[c1, c2]))
  exact B1 () rfl (by simp only [hf]; (repeat' constructor))
theorem B5M (w : World) (c : CfgV) : Fn PR B6 31 #[c.val] w (fun v w' => v = .int .i64 (if N1 c then 0 else 1) ∧ C6 [] w w') := by
 refine Fn.pure (B4m (TW.go (κ := false) (S := []) ?_))
 unfold A6v
 simp only [CfgV.val]
 (have zz:=trivial;repeat((first|clear zz|with_reducible first|refine A3 ?_|refine A5 fun _=>?_|refine A4 fun _=>?_);try simp(disch:=first|omega|assumption|((repeat(first|exact A1|exact uH|apply A2|apply uT));first|done|fail)|(simp;first|done|omega|fail))[]))
 rename_i bc be
 refine D0 (Hc := [.pt be (.cells #[.int .i64 0] 31)]) V7 (fun w' hw hs => A2C w' c.wk 1 64 0 be hs) (by (repeat' constructor)) ?_
 rintro _ _ rfl
 generalize he1 : (if Z8 c.wk 1 64 = true then (0 : Int) else 1) = e1
 (have zz:=trivial;repeat((first|clear zz|with_reducible first|refine A3 ?_|refine A5 fun _=>?_|refine A4 fun _=>?_);try simp(disch:=first|omega|assumption|((repeat(first|exact A1|exact uH|apply A2|apply uT));first|done|fail)|(simp;first|done|omega|fail))[]))
 refine D0 (Hc := [.pt be (.cells #[.int .i64 e1] 31)]) V7 (fun w' hw hs => A2C w' c.sh 1 16 e1 be hs) (by (repeat' constructor)) ?_
 rintro _ _ rfl
 generalize he2 : (if Z8 c.sh 1 16 = true then e1 else 1) = e2
 (have zz:=trivial;repeat((first|clear zz|with_reducible first|refine A3 ?_|refine A5 fun _=>?_|refine A4 fun _=>?_);try simp(disch:=first|omega|assumption|((repeat(first|exact A1|exact uH|apply A2|apply uT));first|done|fail)|(simp;first|done|omega|fail))[]))
 refine D0 (Hc := [.pt be (.cells #[.int .i64 e2] 31)]) V7 (fun w' hw hs => A2C w' c.cp 1 64 e2 be hs) (by (repeat' constructor)) ?_
 rintro _ _ rfl
 generalize he3 : (if Z8 c.cp 1 64 = true then e2 else 1) = e3
 (have zz:=trivial;repeat((first|clear zz|with_reducible first|refine A3 ?_|refine A5 fun _=>?_|refine A4 fun _=>?_);try simp(disch:=first|omega|assumption|((repeat(first|exact A1|exact uH|apply A2|apply uT));first|done|fail)|(simp;first|done|omega|fail))[]))
 refine D0 (Hc := [.pt be (.cells #[.int .i64 e3] 31)]) V7 (fun w' hw hs => A2C w' c.idle 0 1000000 e3 be hs) (by (repeat' constructor)) ?_
 rintro _ _ rfl
 generalize he4 : (if Z8 c.idle 0 1000000 = true then e3 else 1) = e4
 (have zz:=trivial;repeat((first|clear zz|with_reducible first|refine A3 ?_|refine A5 fun _=>?_|refine A4 fun _=>?_);try simp(disch:=first|omega|assumption|((repeat(first|exact A1|exact uH|apply A2|apply uT));first|done|fail)|(simp;first|done|omega|fail))[]))
 refine D0 (Hc := [.pt be (.cells #[.int .i64 e4] 31)]) V7 (fun w' hw hs => A2C w' c.sl 2 8 e4 be hs) (by (repeat' constructor)) ?_
 rintro _ _ rfl
 generalize he5 : (if Z8 c.sl 2 8 = true then e4 else 1) = e5
 (have zz:=trivial;repeat((first|clear zz|with_reducible first|refine A3 ?_|refine A5 fun _=>?_|refine A4 fun _=>?_);try simp(disch:=first|omega|assumption|((repeat(first|exact A1|exact uH|apply A2|apply uT));first|done|fail)|(simp;first|done|omega|fail))[]))
 refine B0 ?_
 have : e5 = if N1 c then 0 else 1 := by
  rw [← he5, ← he4, ← he3, ← he2, ← he1]
  unfold N1
  cases Z8 c.wk 1 64 <;> cases Z8 c.sh 1 16 <;> cases Z8 c.cp 1 64 <;> cases Z8 c.idle 0 1000000 <;> cases Z8 c.sl 2 8 <;> rfl
 rw [this]
def y2 (l : List EnV) (p : List F2) (key : ByteArray) (now : Int) : Int := if (V6 l p key now).2 then (V6 l p key now).1 else C1V p (r7 key)
def B4F (l : List EnV) (p : List F2) (key : ByteArray) (now idle : Int) : EnV := ⟨1, key, y2 l p key now, IntKind.i64.wrap (now + idle)⟩
def E6 (l : List EnV) (p : List F2) (key : ByteArray) (closing : Bool) (now idle : Int) : List EnV × AnsV × Bool :=
 if (V6 l p key now).2 = false ∧ p = [] then (l, ⟨11, 0, false, 0⟩, false)
 else if closing then (A4Z l key, ⟨0, y2 l p key now, false, 0⟩, (p5 l key).isSome)
 else match M3 l (B4F l p key now idle) with
  | none => (l, ⟨12, 0, false, 0⟩, false)
  | some u => (u, ⟨0, y2 l p key now, !(V6 l p key now).2, 0⟩, true)
section
variable {κ : Bool} {S : List Nat} {w0 : World} {H Hj : List Res} {K : Value → WP}
@[simp] theorem D5E {t : TypeId} {n : Nat} {z : Value} [h : TG t n z] {b o : Nat} {c : Array Value} {T : TypeId} {f : Nat × Nat} {x : Value} (hm : Res.pt b (.cells c T f) ∈ H) :
  TW κ S w0 H (A6 PR (D6 [.v x, .c t (.pointer (some ⟨b, o, none⟩))]) K) = TW κ S w0 H (rdq (U3 c.toList o n) (fun l => K (.tuple #[x, .agg l.toArray])) (A6 PR (D6 [.v x, .c t (.pointer (some ⟨b, o, none⟩))]) K)) := by
 cases hl : U3 c.toList o n with
 | none => rfl
 | some l =>
   obtain ⟨_, _, h, hd⟩ := h.ti
   refine TW.congr fun w hw => ?_
   rw [B2f]
   have hr := A1A hl (N6.bl (hw.pt hm)); have h2 := x5 hr
   refine Y2 ?_ K
   have := A1S h hd h2.1 h2.2
   simp only [Instr.loadAt, Instr.sureAddr, Sem.run_bind, Sem.run_pure, Result.andThen_ok] at this
   simp [D6, A3m, RV.sem, asAddr, this, one]
theorem D1k {F : Value → Value → WP} {A : (Value → Value → WP) → WP} (v1 v2 : Value) (hF : TW κ S w0 Hj (F v1 v2)) (hA : ∀ J : Value → Value → WP, TW κ S w0 Hj (J v1 v2) → TW κ S w0 H (A J)) : TW κ S w0 H (jn (n := 2) F A) := hA F hF
end
theorem A1M (w : World) (v u : Value) (l : List EnV) (p : List F2) (key : ByteArray) (closing : Bool) (now idle : Int) (hk : key.size < 2 ^ 60) (hks : N8 l) (hn : l.length ≤ 1000000) (hp : p.length ≤ 1000) (hv : E2 w v l.length (l.flatMap F1)) (hu : E2 w u p.length (p.flatMap E8)) :
  Fn PR B6 93 #[v, u, .string key, .bool closing, .int .i64 now, .int .i64 idle] w
   (Rn [] w (fun r x => x = .tuple #[if (E6 l p key closing now idle).2.2 then r else v, (E6 l p key closing now idle).2.1.val]) fun r => if (E6 l p key closing now idle).2.2 then [G5 r (E6 l p key closing now idle).1] else []) := by
 refine B2u (TW.go (κ := false) (S := []) ?_)
 unfold A5y
 (have zz:=trivial;repeat((first|clear zz|with_reducible first|refine A3 ?_|refine A5 fun _=>?_|refine A4 fun _=>?_);try simp(disch:=first|omega|assumption|((repeat(first|exact A1|exact uH|apply A2|apply uT));first|done|fail)|(simp;first|done|omega|fail))[]))
 refine C8 B37 (fun w' hw' => C4S w' v u l p key now hk hn (by omega) (hv.ks hw'.ks (by simp)) (hu.ks hw'.ks (by simp))) ?_
 rename_i ba
 obtain ⟨a, c, rfl, _⟩ := hu.form
 by_cases hne : (V6 l p key now).2 = false ∧ p = []
 ·have hd : E6 l p key closing now idle = (l, ⟨11, 0, false, 0⟩, false) := if_pos hne
  obtain ⟨h1, rfl⟩ := hne
  rw [hd]
  (have zz:=trivial;repeat((first|clear zz|with_reducible first|refine A3 ?_|refine A5 fun _=>?_|refine A4 fun _=>?_);try simp(disch:=first|omega|assumption|((repeat(first|exact A1|exact uH|apply A2|apply uT));first|done|fail)|(simp;first|done|omega|fail))[h1]))
  exact B1 v (by simp [AnsV.val]) Sels.nil
 have hd : E6 l p key closing now idle = if closing then (A4Z l key, ⟨0, y2 l p key now, false, 0⟩, (p5 l key).isSome)
  else match M3 l (B4F l p key now idle) with
   | none => (l, ⟨12, 0, false, 0⟩, false)
   | some u => (u, ⟨0, y2 l p key now, !(V6 l p key now).2, 0⟩, true) := if_neg hne
 rw [B7E, B6l]
 refine D1k (Hj := [.pt ba (.cells #[.int .i64 0, .int .i64 0, .bool false, .int .i64 0] 57)]) (.slice none 0 0) (.int .i64 (y2 l p key now)) ?_ ?_
 case refine_2 =>
  intro J hJ
  cases h1 : (V6 l p key now).2 with
  | true =>
   have e : y2 l p key now = (V6 l p key now).1 := by simp [y2, h1]
   rw [e] at hJ
   (have zz:=trivial;repeat((first|clear zz|with_reducible first|refine A3 ?_|refine A5 fun _=>?_|refine A4 fun _=>?_);try simp(disch:=first|omega|assumption|((repeat(first|exact A1|exact uH|apply A2|apply uT));first|done|fail)|(simp;first|done|omega|fail))[]))
   exact hJ
  | false =>
   have hp0 : ¬ p = [] := fun h => hne ⟨h1, h⟩
   have hp1 : ¬ (p.length : Int) = 0 := by have := List.length_pos_iff.2 hp0; omega
   have e : y2 l p key now = C1V p (r7 key) := by simp [y2, h1]
   rw [e] at hJ
   (have zz:=trivial;repeat((first|clear zz|with_reducible first|refine A3 ?_|refine A5 fun _=>?_|refine A4 fun _=>?_);try simp(disch:=first|omega|assumption|((repeat(first|exact A1|exact uH|apply A2|apply uT));first|done|fail)|(simp;first|done|omega|fail))[hp1, hp0]))
   refine C8 A26 (fun w' _ => A5p w' key hk) ?_
   (have zz:=trivial;repeat((first|clear zz|with_reducible first|refine A3 ?_|refine A5 fun _=>?_|refine A4 fun _=>?_);try simp(disch:=first|omega|assumption|((repeat(first|exact A1|exact uH|apply A2|apply uT));first|done|fail)|(simp;first|done|omega|fail))[]))
   refine C8 B6K (fun w' hw' => C6j w' (.slice a p.length c) p _ hp (hu.ks hw'.ks (by simp))) ?_
   (have zz:=trivial;repeat((first|clear zz|with_reducible first|refine A3 ?_|refine A5 fun _=>?_|refine A4 fun _=>?_);try simp(disch:=first|omega|assumption|((repeat(first|exact A1|exact uH|apply A2|apply uT));first|done|fail)|(simp;first|done|omega|fail))[]))
   exact hJ
 ·rw [hd]
  cases closing with
  | true =>
   (have zz:=trivial;repeat((first|clear zz|with_reducible first|refine A3 ?_|refine A5 fun _=>?_|refine A4 fun _=>?_);try simp(disch:=first|omega|assumption|((repeat(first|exact A1|exact uH|apply A2|apply uT));first|done|fail)|(simp;first|done|omega|fail))[]))
   refine H9 B15 (fun w' hw' => B4l w' v l key hk hks hn (hv.ks hw'.ks (by simp))) ?_
   rintro r _ rfl
   cases h2 : (p5 l key).isSome with
   | true =>
    (have zz:=trivial;repeat((first|clear zz|with_reducible first|refine A3 ?_|refine A5 fun _=>?_|refine A4 fun _=>?_);try simp(disch:=first|omega|assumption|((repeat(first|exact A1|exact uH|apply A2|apply uT));first|done|fail)|(simp;first|done|omega|fail))[]))
    exact B1 r (by simp [AnsV.val]) (by (repeat' constructor))
   | false =>
    (have zz:=trivial;repeat((first|clear zz|with_reducible first|refine A3 ?_|refine A5 fun _=>?_|refine A4 fun _=>?_);try simp(disch:=first|omega|assumption|((repeat(first|exact A1|exact uH|apply A2|apply uT));first|done|fail)|(simp;first|done|omega|fail))[]))
    exact B1 r (by simp [AnsV.val]) (by (repeat' constructor))
  | false =>
   (have zz:=trivial;repeat((first|clear zz|with_reducible first|refine A3 ?_|refine A5 fun _=>?_|refine A4 fun _=>?_);try simp(disch:=first|omega|assumption|((repeat(first|exact A1|exact uH|apply A2|apply uT));first|done|fail)|(simp;first|done|omega|fail))[]))
   refine H9 B6J (fun w' hw' => B8n w' v l key (y2 l p key now) (IntKind.i64.wrap (now + idle)) hk hn (hv.ks hw'.ks (by simp))) ?_
   rintro r _ rfl
   cases h2 : M3 l (B4F l p key now idle) with
   | none =>
    have h2' : M3 l ⟨1, key, y2 l p key now, IntKind.i64.wrap (now + idle)⟩ = none := h2
    simp only [h2']
    (have zz:=trivial;repeat((first|clear zz|with_reducible first|refine A3 ?_|refine A5 fun _=>?_|refine A4 fun _=>?_);try simp(disch:=first|omega|assumption|((repeat(first|exact A1|exact uH|apply A2|apply uT));first|done|fail)|(simp;first|done|omega|fail))[]))
    exact B1 r (by simp [AnsV.val]) (by (repeat' constructor))
   | some u =>
    have h2' : M3 l ⟨1, key, y2 l p key now, IntKind.i64.wrap (now + idle)⟩ = some u := h2
    simp only [h2']
    (have zz:=trivial;repeat((first|clear zz|with_reducible first|refine A3 ?_|refine A5 fun _=>?_|refine A4 fun _=>?_);try simp(disch:=first|omega|assumption|((repeat(first|exact A1|exact uH|apply A2|apply uT));first|done|fail)|(simp;first|done|omega|fail))[]))
    exact B1 r (by simp [AnsV.val]) (by (repeat' constructor))
end Go.Proofs.YtpnidmkaobfhiaaGreat
namespace Go.Proofs.YtpnidmkaobfhiaaGreat
open Go
def A4k (ts : List (Value × List EnV)) : List Nat := ts.flatMap fun t => N9 t.1
def A7z (ts : List (Value × List EnV)) (w : World) : Prop := ∀ t ∈ ts, S8 w 155 4 t.1 t.2.length (t.2.flatMap F1)
def E5 (ts : List (Value × List EnV)) : Res := .ab (A4k ts) (A7z ts) fun w w' hk h t ht =>
 Res.stable (r := G5 t.1 t.2) (fun b hb => hk b (by rw [A4k, List.mem_flatMap]; exact ⟨t, ht, hb⟩)) (h t ht)
section
variable {κ : Bool} {S : List Nat} {w0 w : World} {H Hk Hc : List Res} {K0 : WP} {ts : List (Value × List EnV)}
theorem p9 (hw : LW κ S w0 H w) (hm : E5 ts ∈ H) {t : Value × List EnV} (ht : t ∈ ts) : E2 w t.1 t.2.length (t.2.flatMap F1) := S8.rd ((hw.hold _ hm : A7z ts w) t ht)
theorem A2k {r : Res} (hp : Part Hc H Hk) (hh : ∀ w, (∀ s ∈ Hc, s.holds w) → r.holds w) (hf : ∀ b ∈ r.foot, b ∈ B2 Hc) (h : TW κ S w0 (r :: Hk) K0) : TW κ S w0 H K0 := fun w hw => by
 have hw2 := hw.perm hp.perm
 refine h w ⟨hw2.ks, ?_, ?_, ?_⟩
 ·intro s hs
  rcases List.mem_cons.1 hs with rfl | hs
  ·exact hh w fun s hs => hw2.hold s (List.mem_append_left _ hs)
  ·exact hw2.hold s (List.mem_append_right _ hs)
 ·intro s hs b hb
  rcases List.mem_cons.1 hs with rfl | hs
  ·obtain ⟨q, hq, hbq⟩ := G8.1 (hf b hb)
   exact hw2.own q (List.mem_append_left _ hq) b hbq
  ·exact hw2.own s (List.mem_append_right _ hs) b hb
 ·have hd := List.pairwise_append.1 hw2.dis
  refine List.pairwise_cons.2 ⟨fun s hs b hb => ?_, hd.2.1⟩
  obtain ⟨q, hq, hbq⟩ := G8.1 (hf b hb)
  exact hd.2.2 q hq s hs b hbq
theorem B8Y (h : TW κ S w0 (E5 [] :: H) K0) : TW κ S w0 H K0 :=
 A2k (r := E5 []) (Hc := []) Part.nil (fun w _ => (fun t ht => (by cases ht) : A7z [] w)) (fun b hb => (by cases (hb : b ∈ A4k []))) h
theorem B8W {r : Value} {l : List EnV} {i : Nat} (hp : Part [G5 r l, E5 ts] H Hk) (h : TW κ S w0 (E5 (ts.set i (r, l)) :: Hk) K0) : TW κ S w0 H K0 := by
 refine A2k (r := E5 (ts.set i (r, l))) hp (fun w hh => (fun t ht => ?_ : A7z (ts.set i (r, l)) w)) (fun b hb => ?_) h
 ·rcases List.mem_or_eq_of_mem_set ht with ht | rfl
  ·exact (hh _ (List.mem_cons_of_mem _ (List.mem_cons_self ..)) : A7z ts w) t ht
  ·exact hh (G5 r l) (List.mem_cons_self ..)
 ·have hb' : b ∈ A4k (ts.set i (r, l)) := hb
  rw [A4k, List.mem_flatMap] at hb'
  obtain ⟨t, ht, hbt⟩ := hb'
  rcases List.mem_or_eq_of_mem_set ht with ht | rfl
  ·exact G8.2 ⟨E5 ts, by simp, by show b ∈ A4k ts; rw [A4k, List.mem_flatMap]; exact ⟨t, ht, hbt⟩⟩
  ·exact G8.2 ⟨G5 r l, by simp, hbt⟩
theorem A5z {r : Value} {l : List EnV} (hp : Part [G5 r l, E5 ts] H Hk) (h : TW κ S w0 (E5 (ts ++ [(r, l)]) :: Hk) K0) : TW κ S w0 H K0 := by
 refine A2k (r := E5 (ts ++ [(r, l)])) hp (fun w hh => (fun t ht => ?_ : A7z (ts ++ [(r, l)]) w)) (fun b hb => ?_) h
 ·rcases List.mem_append.1 ht with ht | ht
  ·exact (hh _ (List.mem_cons_of_mem _ (List.mem_cons_self ..)) : A7z ts w) t ht
  ·obtain rfl : t = (r, l) := by simpa using ht
   exact hh (G5 r l) (List.mem_cons_self ..)
 ·have hb' : b ∈ A4k (ts ++ [(r, l)]) := hb
  rw [A4k, List.mem_flatMap] at hb'
  obtain ⟨t, ht, hbt⟩ := hb'
  rcases List.mem_append.1 ht with ht | ht
  ·exact G8.2 ⟨E5 ts, by simp, by show b ∈ A4k ts; rw [A4k, List.mem_flatMap]; exact ⟨t, ht, hbt⟩⟩
  ·obtain rfl : t = (r, l) := by simpa using ht
   exact G8.2 ⟨G5 r l, by simp, hbt⟩
end
abbrev ShV := (Value × List EnV) × Nat
def H5 (t : ShV) : List Value := [t.1.1, .int .i64 (t.2 : Nat)]
structure MoH where
 b : Nat
 pv : Value
 sv : Value
 c : CfgV
 pool : List F2
 ts : List ShV
def D4 (m : MoH) : List Res := [.pt m.b (.cells #[.int .i64 m.c.wk, .int .i64 m.c.sh, .int .i64 m.c.cp, .int .i64 m.c.idle, .int .i64 m.c.sl, m.pv, m.sv] 130),
 .own 83 2 m.pv m.pool.length (m.pool.flatMap E8), .own 134 2 m.sv m.ts.length (m.ts.flatMap H5), E5 (m.ts.map (·.1))]
theorem A81 (l : List F2) : (l.flatMap E8).all plain = true := by
 rw [List.all_eq_true]; intro v hv; rw [List.mem_flatMap] at hv
 obtain ⟨x, _, hx⟩ := hv
 simp only [E8, List.mem_cons, List.not_mem_nil, or_false] at hx
 rcases hx with rfl | rfl <;> rfl
theorem C5Y (w : World) (b : Nat) (pv : Value) (p : List F2) (hp : p.length ≤ 1000000) (hc : w.cell? ⟨b, 5, none⟩ = some pv) (hv : E2 w pv p.length (p.flatMap E8)) :
  Fn PR B6 30 #[.pointer (some ⟨b, 0, none⟩)] w (Rn [] w (fun r u => u = r) fun r => [.own 83 2 r p.length (p.flatMap E8)]) := by
 refine A9b (TW.go (κ := false) (S := []) ?_)
 unfold A2d
 (have zz:=trivial;repeat((first|clear zz|with_reducible first|refine A3 ?_|refine A5 fun _=>?_|refine A4 fun _=>?_);try simp(disch:=first|omega|assumption|((repeat(first|exact A1|exact uH|apply A2|apply uT));first|done|fail)|(simp;first|done|omega|fail))[hc]))
 refine H9 N0 (fun w' hw' => B0B w' pv p.length (p.flatMap E8) hp (K3 (k := 2) (fun _ => rfl) p) (A81 p) (hv.ks hw'.ks (by simp))) ?_
 rintro _ r rfl
 exact B1 r rfl (by (repeat' constructor))
def A3S (ts : List ShV) (i : Int) : List EnV := if i < 0 ∨ (ts.length : Int) ≤ i then [] else (ts.getD i.toNat ((.nilIface, []), 0)).1.2
theorem C18 (w : World) (b : Nat) (sv : Value) (ts : List ShV) (i : Int) (hts : ts.length ≤ 1000) (hc : w.cell? ⟨b, 6, none⟩ = some sv) (hs : E2 w sv ts.length (ts.flatMap H5)) (ht : ∀ t ∈ ts, E2 w t.1.1 t.1.2.length (t.1.2.flatMap F1)) (hl : ∀ t ∈ ts, t.1.2.length ≤ 1000000) :
  Fn PR B6 28 #[.pointer (some ⟨b, 0, none⟩), .int .i64 i] w (Rn [] w (fun r u => u = r) fun r => [G5 r (A3S ts i)]) := by
 refine A8e (TW.go (κ := false) (S := []) ?_)
 unfold A1g
 obtain ⟨sa, sc, rfl, hr⟩ := hs.form
 by_cases c1 : i < 0
 ·have e : A3S ts i = [] := if_pos (Or.inl c1)
  rw [e]
  (have zz:=trivial;repeat((first|clear zz|with_reducible first|refine A3 ?_|refine A5 fun _=>?_|refine A4 fun _=>?_);try simp(disch:=first|omega|assumption|((repeat(first|exact A1|exact uH|apply A2|apply uT));first|done|fail)|(simp;first|done|omega|fail))[c1]))
  refine s9 155 4 ?_
  exact B1 (.slice none 0 0) rfl (by (repeat' constructor))
 by_cases c2 : (ts.length : Int) ≤ i
 ·have e : A3S ts i = [] := if_pos (Or.inr c2)
  rw [e]
  (have zz:=trivial;repeat((first|clear zz|with_reducible first|refine A3 ?_|refine A5 fun _=>?_|refine A4 fun _=>?_);try simp(disch:=first|omega|assumption|((repeat(first|exact A1|exact uH|apply A2|apply uT));first|done|fail)|(simp;first|done|omega|fail))[c1, c2, hc]))
  refine s9 155 4 ?_
  exact B1 (.slice none 0 0) rfl (by (repeat' constructor))
 obtain ⟨j, rfl⟩ : ∃ j : Nat, i = j := ⟨i.toNat, by omega⟩
 have hj : j < ts.length := by omega
 have hx : ts[j]? = some (ts.getD j ((.nilIface, []), 0)) := getD_some _ hj
 have e : A3S ts j = (ts.getD j ((.nilIface, []), 0)).1.2 := by unfold A3S; rw [if_neg (by omega), Int.toNat_natCast]
 rw [e]
 generalize ts.getD j ((.nilIface, []), 0) = x at *
 obtain ⟨sb, so, rfl, hrow⟩ := hr (by omega)
 have h0 := hrow.cellAt (f := H5) (k := 2) (j := 0) (fun _ => rfl) hx rfl
 have hxm := List.mem_of_getElem? hx
 (have zz:=trivial;repeat((first|clear zz|with_reducible first|refine A3 ?_|refine A5 fun _=>?_|refine A4 fun _=>?_);try simp(disch:=first|omega|assumption|((repeat(first|exact A1|exact uH|apply A2|apply uT));first|done|fail)|(simp;first|done|omega|fail))[c1, c2, hc, hj, h0]))
 refine H9 P3 (fun w' hw' => A9y w' x.1.1 x.1.2.length (x.1.2.flatMap F1) (hl x hxm) (A0A _) (B0s _) ((ht x hxm).ks hw'.ks (by simp))) ?_
 rintro _ r rfl
 exact B1 r rfl (by (repeat' constructor))
end Go.Proofs.YtpnidmkaobfhiaaGreat
namespace Go.Proofs.YtpnidmkaobfhiaaGreat
open Go
section
variable {P : Program} {t x : TypeId} {d : TypeDesc} {n m : Nat} {z : Value} {K : Value → WP}
theorem B7G (h : TI P t d n m z) (hd : ∀ ms, d ≠ .interface ms) : A0 P (Instr.typeAssert .nilIface x t true) K = K (.tuple #[z, .bool false]) :=
 E7 (fun w => by
  simp only [Instr.typeAssert, Sem.run_bind, h.run_und, Result.andThen_ok]
  cases d <;> first | (simp [h.run_zero]; done) | exact absurd rfl (hd _)) K
theorem B8C (h : TI P t d n m z) (hd : ∀ ms, d ≠ .interface ms) (v : Value) : A0 P (Instr.typeAssert (.iface t v) x t true) K = K (.tuple #[v, .bool true]) :=
 E7 (fun w => by
  simp only [Instr.typeAssert, Sem.run_bind, h.run_und, Result.andThen_ok]
  cases d <;> first | (simp; done) | exact absurd rfl (hd _)) K
theorem B91 (h : TI P t d n m z) (hd : ∀ ms, d ≠ .interface ms) {u : TypeId} (hu : u ≠ t) (v : Value) : A0 P (Instr.typeAssert (.iface u v) x t true) K = K (.tuple #[z, .bool false]) :=
 E7 (fun w => by
  simp only [Instr.typeAssert, Sem.run_bind, h.run_und, Result.andThen_ok]
  cases d <;> first | (simp [hu, h.run_zero]; done) | exact absurd rfl (hd _)) K
end
@[simp] theorem C98 (x : TypeId) (K : Value → WP) : A0 PR (Instr.typeAssert .nilIface x 170 true) K = K (.tuple #[.agg #[], .bool false]) := B7G B09 (by intro ms h; cases h)
@[simp] theorem D0T (x : TypeId) (v : Value) (K : Value → WP) : A0 PR (Instr.typeAssert (.iface 170 v) x 170 true) K = K (.tuple #[v, .bool true]) := B8C B09 (by intro ms h; cases h) v
@[simp] theorem C9k (x : TypeId) (v : Value) (K : Value → WP) : A0 PR (Instr.typeAssert (.iface 152 v) x 170 true) K = K (.tuple #[.agg #[], .bool false]) := B91 B09 (by intro ms h; cases h) (by decide) v
@[simp] theorem D1V (x : TypeId) (K : Value → WP) : A0 PR (Instr.typeAssert .nilIface x 152 true) K = K (.tuple #[.agg #[.slice none 0 0, .slice none 0 0], .bool false]) := B7G A8N (by intro ms h; cases h)
@[simp] theorem D0H (x : TypeId) (v : Value) (K : Value → WP) : A0 PR (Instr.typeAssert (.iface 152 v) x 152 true) K = K (.tuple #[v, .bool true]) := B8C A8N (by intro ms h; cases h) v
@[simp] theorem D1Q (x : TypeId) (v : Value) (K : Value → WP) : A0 PR (Instr.typeAssert (.iface 170 v) x 152 true) K = K (.tuple #[.agg #[.slice none 0 0, .slice none 0 0], .bool false]) := B91 A8N (by intro ms h; cases h) (by decide) v
inductive SlH where
 | no
 | bld
 | rdy (p : List F2) (pv rv : Value)
def SlH.val : SlH → Value
 | .no => .nilIface
 | .bld => .iface 170 (.agg #[])
 | .rdy _ pv rv => .iface 152 (.agg #[pv, rv])
def SlH.sp : SlH → SlV
 | .no => .no
 | .bld => .bld
 | .rdy p _ _ => .rdy p
def SlH.fo : SlH → List Nat
 | .rdy _ pv rv => N9 pv ++ N9 rv
 | _ => []
def B29 (pv : Value) (p : List F2) : Res := .own 83 2 pv p.length (p.flatMap E8)
def B3m (rv : Value) (p : List F2) : Res := .own 216 2 rv (U5 (K8 p)).length ((U5 (K8 p)).flatMap J0)
def SlH.ok (w : World) : SlH → Prop
 | .rdy p pv rv => (B29 pv p).holds w ∧ (B3m rv p).holds w ∧ p.length ≤ 32
 | _ => True
theorem SlH.keep {w w' : World} {s : SlH} (hk : ∀ b ∈ s.fo, ∀ o, B4Z o = true → bl w b = some o → bl w' b = some o) (h : s.ok w) : s.ok w' := by
 cases s with
 | no => trivial
 | bld => trivial
 | rdy p pv rv =>
  refine ⟨Res.stable (fun b hb => hk b ?_) h.1, Res.stable (fun b hb => hk b ?_) h.2.1, h.2.2⟩
  ·exact List.mem_append_left _ hb
  ·exact List.mem_append_right _ hb
def A0u (ls : List SlH) : List Nat := ls.flatMap SlH.fo
def A75 (ls : List SlH) (w : World) : Prop := ∀ s ∈ ls, s.ok w
def z7 (ls : List SlH) : Res := .ab (A0u ls) (A75 ls) fun w w' hk h s hs => SlH.keep (fun b hb => hk b (by rw [A0u, List.mem_flatMap]; exact ⟨s, hs, hb⟩)) (h s hs)
def W8 (ls : List SlH) (i : Int) (x : SlH) : List SlH := if 0 ≤ i ∧ i < ls.length then ls.set i.toNat x else ls
theorem B72 (ls : List SlH) (i : Int) (x : SlH) : (W8 ls i x).length = ls.length := by unfold W8; split <;> simp
theorem B4N (ls : List SlH) (i : Int) (x : SlH) : (W8 ls i x).map SlH.sp = Q3 (ls.map SlH.sp) i x.sp := by
 unfold W8 Q3
 rw [List.length_map]
 split
 ·rw [List.map_set]
 ·rfl
theorem A73 {ls : List SlH} {i : Int} {x s : SlH} (h : s ∈ W8 ls i x) : s ∈ ls ∨ s = x := by
 unfold W8 at h
 split at h
 ·exact List.mem_or_eq_of_mem_set h
 ·exact Or.inl h
def H0 (b : Nat) (sv : Value) (ls : List SlH) : List Res := [.pt b (.cells #[sv] 162), .own 174 1 sv ls.length (ls.map SlH.val), z7 ls]
section
variable {κ : Bool} {S : List Nat} {w0 w : World} {H Hk Hc : List Res} {K0 : WP} {ls : List SlH}
theorem B99 {i : Int} {x : SlH} (hx : x.fo = [] ∧ ∀ w, x.ok w) (hp : Part [z7 ls] H Hk) (h : TW κ S w0 (z7 (W8 ls i x) :: Hk) K0) : TW κ S w0 H K0 := by
 refine A2k (r := z7 (W8 ls i x)) hp (fun w hh => (fun s hs => ?_ : A75 (W8 ls i x) w)) (fun b hb => ?_) h
 ·rcases A73 hs with hs | rfl
  ·exact (hh _ (List.mem_cons_self ..) : A75 ls w) s hs
  ·exact hx.2 w
 ·have hb' : b ∈ A0u (W8 ls i x) := hb
  rw [A0u, List.mem_flatMap] at hb'
  obtain ⟨s, hs, hbs⟩ := hb'
  rcases A73 hs with hs | rfl
  ·exact G8.2 ⟨z7 ls, by simp, by show b ∈ A0u ls; rw [A0u, List.mem_flatMap]; exact ⟨s, hs, hbs⟩⟩
  ·rw [hx.1] at hbs; cases hbs
theorem C65 {i : Int} {p : List F2} {pv rv : Value} (hl : p.length ≤ 32) (hp : Part [B29 pv p, B3m rv p, z7 ls] H Hk) (h : TW κ S w0 (z7 (W8 ls i (.rdy p pv rv)) :: Hk) K0) : TW κ S w0 H K0 := by
 refine A2k (r := z7 (W8 ls i (.rdy p pv rv))) hp (fun w hh => (fun s hs => ?_ : A75 (W8 ls i (.rdy p pv rv)) w)) (fun b hb => ?_) h
 ·rcases A73 hs with hs | rfl
  ·exact (hh (z7 ls) (by simp) : A75 ls w) s hs
  ·exact ⟨hh (B29 pv p) (by simp), hh (B3m rv p) (by simp), hl⟩
 ·have hb' : b ∈ A0u (W8 ls i (.rdy p pv rv)) := hb
  rw [A0u, List.mem_flatMap] at hb'
  obtain ⟨s, hs, hbs⟩ := hb'
  rcases A73 hs with hs | rfl
  ·exact G8.2 ⟨z7 ls, by simp, by show b ∈ A0u ls; rw [A0u, List.mem_flatMap]; exact ⟨s, hs, hbs⟩⟩
  ·rcases List.mem_append.1 hbs with hbs | hbs
   ·exact G8.2 ⟨B29 pv p, by simp, hbs⟩
   ·exact G8.2 ⟨B3m rv p, by simp, hbs⟩
end
theorem C7E (w : World) (b : Nat) (sv : Value) (xs : List Value) (i : Int) (x : Value) (hx : plain x = true) (hn : xs.length ≤ 1000) (hw : LW false (B2 [.pt b (.cells #[sv] 162), .own 174 1 sv xs.length xs]) w [.pt b (.cells #[sv] 162), .own 174 1 sv xs.length xs] w) :
  Fn PR B6 76 #[.pointer (some ⟨b, 0, none⟩), .int .i64 i, x] w (Rn (B2 [.pt b (.cells #[sv] 162), .own 174 1 sv xs.length xs]) w (fun (_ : Unit) u => A2n u) fun _ => [.pt b (.cells #[sv] 162), .own 174 1 sv xs.length (if 0 ≤ i ∧ i < xs.length then xs.set i.toNat x else xs)]) := by
 refine B0C (TW.goH (κ := false) ?_ hw)
 unfold A3H
 refine T4 (e := 174) (k := 1) (v := sv) (q := xs.length) (xs := xs) (by (repeat constructor)) fun a c e => ?_
 subst e
 by_cases c1 : i < 0
 ·(have zz:=trivial;repeat((first|clear zz|with_reducible first|refine A3 ?_|refine A5 fun _=>?_|refine A4 fun _=>?_);try simp(disch:=first|omega|assumption|((repeat(first|exact A1|exact uH|apply A2|apply uT));first|done|fail)|(simp;first|done|omega|fail))[c1]))
  rw [if_neg (by omega)]
  exact B1 () (W6 _) (by (repeat' constructor))
 by_cases c2 : (xs.length : Int) ≤ i
 ·(have zz:=trivial;repeat((first|clear zz|with_reducible first|refine A3 ?_|refine A5 fun _=>?_|refine A4 fun _=>?_);try simp(disch:=first|omega|assumption|((repeat(first|exact A1|exact uH|apply A2|apply uT));first|done|fail)|(simp;first|done|omega|fail))[c1, c2]))
  rw [if_neg (by omega)]
  exact B1 () (W6 _) (by (repeat' constructor))
 obtain ⟨j, rfl⟩ : ∃ j : Nat, i = j := ⟨i.toNat, by omega⟩
 have hj : j < xs.length := by omega
 have hj2 : ¬ xs.length ≤ j := by omega
 rw [if_pos (by omega)]
 refine l2 (e := 174) (k := 1) (v := .slice a xs.length c) (q := xs.length) (xs := xs) (by (repeat constructor)) (by omega) fun g gc hg => ?_
 cases hg
 (have zz:=trivial;repeat((first|clear zz|with_reducible first|refine A3 ?_|refine A5 fun _=>?_|refine A4 fun _=>?_);try simp(disch:=first|omega|assumption|((repeat(first|exact A1|exact uH|apply A2|apply uT));first|done|fail)|(simp;first|done|omega|fail))[c1, c2, hj, hj2]))
 have hxc : x.cells = #[x] := by cases x <;> first | rfl | cases hx
 refine Q7 (by (repeat constructor)) (by rw [hxc]; rfl) (by omega) (by rw [hxc]; simpa using hx) ?_
 have e : W0 xs j x.cells.toList = xs.set j x := by
  rw [hxc, List.set_eq_take_append_cons_drop, if_pos hj]; simp [W0]
 refine B1 () (W6 _) ?_
 rw [Int.toNat_natCast, ← e]
 (repeat' constructor)
theorem C7T (ls : List SlH) (i : Int) (x : SlH) : (if 0 ≤ i ∧ i < (ls.map SlH.val).length then (ls.map SlH.val).set i.toNat x.val else ls.map SlH.val) = (W8 ls i x).map SlH.val := by
 unfold W8
 rw [List.length_map]
 split
 ·rw [List.map_set]
 ·rfl
theorem SlH.plain (x : SlH) : Go.Proofs.YtpnidmkaobfhiaaGreat.plain x.val = true := by cases x <;> rfl
theorem B0y {κ : Bool} {X : Nat → Prop} {S : List Nat} {w0 : World} {H Hk : List Res} {K : Value → WP} {b : Nat} {sv : Value} {ls : List SlH} {i : Int} {x : SlH} (hl : ls.length ≤ 1000) (hp : Part [.pt b (.cells #[sv] 162), .own 174 1 sv ls.length (ls.map SlH.val)] H Hk)
  (hK : ∀ u, A2n u → TW κ S w0 (.pt b (.cells #[sv] 162) :: .own 174 1 sv (W8 ls i x).length ((W8 ls i x).map SlH.val) :: Hk) (K u)) :
  TW κ S w0 H (B7 PR X 76 [.pointer (some ⟨b, 0, none⟩), .int .i64 i, x.val] K) := by
 have hlm : (ls.map SlH.val).length = ls.length := List.length_map ..
 refine D0 (Hc := [.pt b (.cells #[sv] 162), .own 174 1 sv ls.length (ls.map SlH.val)]) A9g (fun w' _ hs => ?_) hp (fun _ u hu => ?_) (α := Unit) (φ := fun _ u => A2n u) (Hn := fun _ => [.pt b (.cells #[sv] 162), .own 174 1 sv (W8 ls i x).length ((W8 ls i x).map SlH.val)])
 ·have := C7E w' b sv (ls.map SlH.val) i x.val x.plain (by rw [hlm]; exact hl) (by rw [hlm]; exact hs)
  rw [C7T, hlm] at this
  rw [B72]
  exact this
 ·exact hK u hu
theorem C1e (w : World) (b : Nat) (sv : Value) (ls : List SlH) (i : Int) (hl : ls.length ≤ 8) (hw : LW false (B2 (H0 b sv ls)) w (H0 b sv ls) w) :
  Fn PR B6 46 #[.pointer (some ⟨b, 0, none⟩), .int .i64 i] w (Rn (B2 (H0 b sv ls)) w (fun (_ : Unit) u => A2n u) fun _ => H0 b sv (W8 ls i .bld)) := by
 refine A8y (TW.goH (κ := false) ?_ hw)
 unfold A1e
 simp only [H0]
 (have zz:=trivial;repeat((first|clear zz|with_reducible first|refine A3 ?_|refine A5 fun _=>?_|refine A4 fun _=>?_);try simp(disch:=first|omega|assumption|((repeat(first|exact A1|exact uH|apply A2|apply uT));first|done|fail)|(simp;first|done|omega|fail))[]))
 refine B0y (x := .bld) (ls := ls) (sv := sv) (by omega) (by (repeat' constructor)) fun u hu => ?_
 refine B99 (ls := ls) (i := i) (x := .bld) ⟨rfl, fun _ => trivial⟩ (by (repeat' constructor)) ?_
 exact B1 () hu (by (repeat' constructor))
theorem C2j (w : World) (b : Nat) (sv : Value) (ls : List SlH) (i : Int) (hl : ls.length ≤ 8) (hw : LW false (B2 (H0 b sv ls)) w (H0 b sv ls) w) :
  Fn PR B6 50 #[.pointer (some ⟨b, 0, none⟩), .int .i64 i] w (Rn (B2 (H0 b sv ls)) w (fun (_ : Unit) u => A2n u) fun _ => H0 b sv (W8 ls i .no)) := by
 refine A78 (TW.goH (κ := false) ?_ hw)
 unfold A2J
 simp only [H0]
 (have zz:=trivial;repeat((first|clear zz|with_reducible first|refine A3 ?_|refine A5 fun _=>?_|refine A4 fun _=>?_);try simp(disch:=first|omega|assumption|((repeat(first|exact A1|exact uH|apply A2|apply uT));first|done|fail)|(simp;first|done|omega|fail))[]))
 refine B0y (x := .no) (ls := ls) (sv := sv) (by omega) (by (repeat' constructor)) fun u hu => ?_
 refine B99 (ls := ls) (i := i) (x := .no) ⟨rfl, fun _ => trivial⟩ (by (repeat' constructor)) ?_
 exact B1 () hu (by (repeat' constructor))
end Go.Proofs.YtpnidmkaobfhiaaGreat
namespace Go.Proofs.YtpnidmkaobfhiaaGreat
open Go
theorem C6l {κ : Bool} {H : List Res} {r : Res} (h : r ∈ H) : Up r r H H := by
 induction H with
 | nil => cases h
 | cons a H ih =>
  rcases List.mem_cons.1 h with rfl | h
  ·exact .here
  ·exact .there (ih h)
theorem C0d {κ : Bool} {X : Nat → Prop} {S : List Nat} {w0 : World} {H : List Res} {K0 : WP} {b : Nat} (hm : Res.pt b (.cells #[] 170) ∈ H) (hK : TW κ S w0 H K0) :
  TW κ S w0 H (B9 PR X (Instr.storeAt 170 (.pointer (some ⟨b, 0, none⟩)) (.agg #[])) K0) := by
 have h := D4e (κ := κ) (X := X) (S := S) (w0 := w0) (K0 := K0) (t := 170) (v := .agg #[]) (b := b) (o := 0) (c := #[]) (T := 170) rfl (C6l (κ := κ) hm) (by simp) rfl
 exact h ▸ hK
def B0S (ls : List SlH) (i : Int) : SlH := if 0 ≤ i ∧ i < ls.length then ls.getD i.toNat .no else .no
theorem B9a (ls : List SlH) (i : Int) : N3 (ls.map SlH.sp) i = (B0S ls i).sp := by
 unfold N3 B0S
 rw [List.length_map]
 split
 ·rename_i h
  rw [List.getD_eq_getElem?_getD, List.getD_eq_getElem?_getD, List.getElem?_map, List.getElem?_eq_getElem (by omega)]; rfl
 ·rfl
theorem B9V {ls : List SlH} {i : Nat} (h : i < ls.length) : (ls.map SlH.val)[i]? = some (ls.getD i .no).val := by
 rw [List.getElem?_map, List.getD_eq_getElem?_getD, List.getElem?_eq_getElem h]; rfl
theorem C5a {l : List SlV} {i : Int} {p : List F2} (h : N3 l i ≠ .bld ∨ L8 p ≠ 0) : l3 l i p = l := by
 unfold l3
 cases hg : N3 l i with
 | no => rfl
 | rdy q => rfl
 | bld =>
  rcases h with h | h
  ·exact absurd hg h
  ·simp [h]
set_option maxHeartbeats 400000 in
theorem C4B (w : World) (b : Nat) (sv : Value) (ls : List SlH) (i : Int) (pv : Value) (p : List F2) (hl : ls.length ≤ 8) (hp : p.length ≤ 1000) (hv : ∀ w', KS false (B2 (H0 b sv ls)) w w' → E2 w' pv p.length (p.flatMap E8)) (hw : LW false (B2 (H0 b sv ls)) w (H0 b sv ls) w) :
  Fn PR B6 47 #[.pointer (some ⟨b, 0, none⟩), .int .i64 i, pv] w (Rn (B2 (H0 b sv ls)) w (fun (ls' : List SlH) u => A2n u ∧ ls'.length = ls.length ∧ ls'.map SlH.sp = l3 (ls.map SlH.sp) i p) fun ls' => H0 b sv ls') := by
 refine A9T (TW.goH (κ := false) ?_ hw)
 unfold A2c
 refine T4 (e := 174) (k := 1) (v := sv) (q := ls.length) (xs := ls.map SlH.val) (by simp only [H0]; (repeat constructor)) fun a c e => ?_
 subst e
 have no : N3 (ls.map SlH.sp) i ≠ .bld ∨ L8 p ≠ 0 → ∀ u, A2n u → A2n u ∧ ls.length = ls.length ∧ ls.map SlH.sp = l3 (ls.map SlH.sp) i p := fun h u hu => ⟨hu, rfl, (C5a h).symm⟩
 simp only [H0] at hv ⊢
 by_cases c1 : i < 0
 ·(have zz:=trivial;repeat((first|clear zz|with_reducible first|refine A3 ?_|refine A5 fun _=>?_|refine A4 fun _=>?_);try simp(disch:=first|omega|assumption|((repeat(first|exact A1|exact uH|apply A2|apply uT));first|done|fail)|(simp;first|done|omega|fail))[c1]))
  exact B1 ls (no (Or.inl (by unfold N3; rw [if_neg (by omega)]; simp)) _ (W6 _)) (by (repeat' constructor))
 by_cases c2 : (ls.length : Int) ≤ i
 ·(have zz:=trivial;repeat((first|clear zz|with_reducible first|refine A3 ?_|refine A5 fun _=>?_|refine A4 fun _=>?_);try simp(disch:=first|omega|assumption|((repeat(first|exact A1|exact uH|apply A2|apply uT));first|done|fail)|(simp;first|done|omega|fail))[c1, c2]))
  exact B1 ls (no (Or.inl (by unfold N3; rw [if_neg (by simp; omega)]; simp)) _ (W6 _)) (by (repeat' constructor))
 obtain ⟨j, rfl⟩ : ∃ j : Nat, i = j := ⟨i.toNat, by omega⟩
 have hj : j < ls.length := by omega
 have hj2 : ¬ ls.length ≤ j := by omega
 refine l2 (e := 174) (k := 1) (v := .slice a ls.length c) (q := ls.length) (xs := ls.map SlH.val) (by (repeat constructor)) (by omega) fun g gc hg => ?_
 cases hg
 (have zz:=trivial;repeat((first|clear zz|with_reducible first|refine A3 ?_|refine A5 fun _=>?_|refine A4 fun _=>?_);try simp(disch:=first|omega|assumption|((repeat(first|exact A1|exact uH|apply A2|apply uT));first|done|fail)|(simp;first|done|omega|fail))[c1, c2, hj, hj2]))
 refine C8 A2g (fun w' hw' => A4n w' pv p (by omega) (hv w' hw'.ks)) ?_
 by_cases c3 : L8 p = 0
 case neg =>
  (have zz:=trivial;repeat((first|clear zz|with_reducible first|refine A3 ?_|refine A5 fun _=>?_|refine A4 fun _=>?_);try simp(disch:=first|omega|assumption|((repeat(first|exact A1|exact uH|apply A2|apply uT));first|done|fail)|(simp;first|done|omega|fail))[c3]))
  exact B1 ls (no (Or.inr c3) _ (W6 _)) (by (repeat' constructor))
 have hat := B9V hj
 have hget : N3 (ls.map SlH.sp) j = (ls.getD j .no).sp := by rw [B9a]; unfold B0S; rw [if_pos (by omega), Int.toNat_natCast]
 obtain ⟨x, hx⟩ : ∃ x, x = ls.getD j .no := ⟨_, rfl⟩
 rw [← hx] at hat hget
 have hatt := (List.getElem?_eq_some_iff.1 hat).2
 cases x with
 | no =>
  simp only [SlH.val] at hat hatt
  (have zz:=trivial;repeat((first|clear zz|with_reducible first|refine A3 ?_|refine A5 fun _=>?_|refine A4 fun _=>?_);try simp(disch:=first|omega|assumption|((repeat(first|exact A1|exact uH|apply A2|apply uT));first|done|fail)|(simp;first|done|omega|fail))[c3, hat, hatt, hj, hj2]))
  refine C0d (by (repeat constructor)) ?_
  (have zz:=trivial;repeat((first|clear zz|with_reducible first|refine A3 ?_|refine A5 fun _=>?_|refine A4 fun _=>?_);try simp(disch:=first|omega|assumption|((repeat(first|exact A1|exact uH|apply A2|apply uT));first|done|fail)|(simp;first|done|omega|fail))[]))
  exact B1 ls (no (Or.inl (by rw [hget]; simp [SlH.sp])) _ (W6 _)) (by (repeat' constructor))
 | rdy q qv rv =>
  simp only [SlH.val] at hat hatt
  (have zz:=trivial;repeat((first|clear zz|with_reducible first|refine A3 ?_|refine A5 fun _=>?_|refine A4 fun _=>?_);try simp(disch:=first|omega|assumption|((repeat(first|exact A1|exact uH|apply A2|apply uT));first|done|fail)|(simp;first|done|omega|fail))[c3, hat, hatt, hj, hj2]))
  refine C0d (by (repeat constructor)) ?_
  (have zz:=trivial;repeat((first|clear zz|with_reducible first|refine A3 ?_|refine A5 fun _=>?_|refine A4 fun _=>?_);try simp(disch:=first|omega|assumption|((repeat(first|exact A1|exact uH|apply A2|apply uT));first|done|fail)|(simp;first|done|omega|fail))[]))
  exact B1 ls (no (Or.inl (by rw [hget]; simp [SlH.sp])) _ (W6 _)) (by (repeat' constructor))
 | bld =>
  simp only [SlH.val] at hat hatt
  have hp32 : p.length ≤ 32 := by
   unfold L8 at c3
   by_cases h : A0f p && decide (p.length ≤ 32)
   ·simp at h; exact h.2
   ·rw [if_neg h] at c3; omega
  (have zz:=trivial;repeat((first|clear zz|with_reducible first|refine A3 ?_|refine A5 fun _=>?_|refine A4 fun _=>?_);try simp(disch:=first|omega|assumption|((repeat(first|exact A1|exact uH|apply A2|apply uT));first|done|fail)|(simp;first|done|omega|fail))[c3, hat, hatt, hj, hj2]))
  refine C0d (by (repeat constructor)) ?_
  (have zz:=trivial;repeat((first|clear zz|with_reducible first|refine A3 ?_|refine A5 fun _=>?_|refine A4 fun _=>?_);try simp(disch:=first|omega|assumption|((repeat(first|exact A1|exact uH|apply A2|apply uT));first|done|fail)|(simp;first|done|omega|fail))[]))
  refine H9 N0 (fun w' hw' => B0B w' pv p.length (p.flatMap E8) (by omega) (K3 (k := 2) (fun _ => rfl) p) (A81 p) (hv w' hw'.ks)) ?_
  rintro _ qv rfl
  refine H9 A89 (fun w' hw' => C53 w' pv p (by omega) (hv w' hw'.ks)) ?_
  rintro _ rv rfl
  refine q6 (e := 83) (k := 2) (v := qv) (q := p.length) (xs := p.flatMap E8) (by (repeat constructor)) fun hq1 hq2 hq3 => ?_
  refine q6 (e := 216) (k := 2) (v := rv) (q := (U5 (K8 p)).length) (xs := (U5 (K8 p)).flatMap J0) (by (repeat constructor)) fun hr1 hr2 hr3 => ?_
  (have zz:=trivial;repeat((first|clear zz|with_reducible first|refine A3 ?_|refine A5 fun _=>?_|refine A4 fun _=>?_);try simp(disch:=first|omega|assumption|((repeat(first|exact A1|exact uH|apply A2|apply uT));first|done|fail)|(simp;first|done|omega|fail))[hq1, hq2, hr1, hr2]))
  refine B0y (x := .rdy p qv rv) (ls := ls) (by omega) (by (repeat' constructor)) fun u hu => ?_
  refine C65 (ls := ls) (i := (j : Nat)) (p := p) (pv := qv) (rv := rv) hp32 (by unfold B29 B3m; (repeat' constructor)) ?_
  refine B1 (W8 ls (j : Nat) (.rdy p qv rv)) ⟨hu, B72 _ _ _, ?_⟩ (by (repeat' constructor))
  rw [B4N]
  unfold l3
  rw [hget]
  show Q3 _ _ (.rdy p) = (if L8 p = 0 then Q3 _ _ (.rdy p) else _)
  rw [if_pos c3]
def SlH.rd (w : World) : SlH → Prop
 | .rdy p pv rv => E2 w pv p.length (p.flatMap E8) ∧ E2 w rv (U5 (K8 p)).length ((U5 (K8 p)).flatMap J0) ∧ p.length ≤ 32
 | _ => True
structure SlAt (w : World) (b : Nat) (sv : Value) (ls : List SlH) : Prop where
 blk : bl w b = some (.cells #[sv] 162 (0, 0))
 rd : E2 w sv ls.length (ls.map SlH.val)
 all : ∀ s ∈ ls, s.rd w
theorem SlAt.own {κ : Bool} {S : List Nat} {w0 w : World} {H : List Res} {b : Nat} {sv : Value} {ls : List SlH} (hw : LW κ S w0 H w) (h1 : Res.pt b (.cells #[sv] 162) ∈ H) (h2 : Res.own 174 1 sv ls.length (ls.map SlH.val) ∈ H) (h3 : z7 ls ∈ H) : SlAt w b sv ls := by
 refine ⟨hw.pt h1, P4.own (e := 174) (k := 1) h2 w hw, fun s hs => ?_⟩
 have := (hw.hold _ h3 : A75 ls w) s hs
 cases s with
 | no => trivial
 | bld => trivial
 | rdy p pv rv => exact ⟨S8.rd this.1, S8.rd this.2.1, this.2.2⟩
theorem SlAt.at {w : World} {b : Nat} {sv : Value} {ls : List SlH} (h : SlAt w b sv ls) {i : Nat} (hi : i < ls.length) : (ls.getD i .no).rd w := by
 apply h.all
 rw [List.getD_eq_getElem?_getD, List.getElem?_eq_getElem hi]
 exact List.getElem_mem hi
def A21 (l : List SlH) (i : Int) (f : List F2 → Int) : Int × Bool :=
 match B0S l i with
 | .rdy p _ _ => (f p, true)
 | _ => (0, false)
theorem C69 (w : World) (b : Nat) (sv : Value) (ls : List SlH) (i : Int) (g : FuncId) (cap : List Value) (f : List F2 → Int) (hl : ls.length ≤ 8) (h : SlAt w b sv ls) (he : A9 PR g)
  (hg : ∀ p pv rv, (SlH.rdy p pv rv).rd w → ∀ w', KS false [] w w' → Fn PR B6 g (Value.agg #[pv, rv] :: cap).toArray w' (fun u w'' => u = .int .i64 (f p) ∧ C6 [] w' w'')) :
  Fn PR B6 69 #[.pointer (some ⟨b, 0, none⟩), .int .i64 i, .func (.func g) #[] cap.toArray] w (fun u w' => u = .tuple #[.int .i64 (A21 ls i f).1, .bool (A21 ls i f).2] ∧ C6 [] w w') := by
 refine Fn.pure (B1a (TW.go (κ := false) (S := []) ?_))
 unfold A3z
 obtain ⟨a, c, rfl, hr⟩ := h.rd.form
 have h0 : w.cell? ⟨b, 0, none⟩ = some (.slice a ls.length c) := by rw [D8 h.blk]; rfl
 by_cases c1 : i < 0
 ·have e : A21 ls i f = (0, false) := by unfold A21 B0S; rw [if_neg (by omega)]
  rw [e]
  (have zz:=trivial;repeat((first|clear zz|with_reducible first|refine A3 ?_|refine A5 fun _=>?_|refine A4 fun _=>?_);try simp(disch:=first|omega|assumption|((repeat(first|exact A1|exact uH|apply A2|apply uT));first|done|fail)|(simp;first|done|omega|fail))[c1]))
  exact B0 rfl
 by_cases c2 : (ls.length : Int) ≤ i
 ·have e : A21 ls i f = (0, false) := by unfold A21 B0S; rw [if_neg (by omega)]
  rw [e]
  (have zz:=trivial;repeat((first|clear zz|with_reducible first|refine A3 ?_|refine A5 fun _=>?_|refine A4 fun _=>?_);try simp(disch:=first|omega|assumption|((repeat(first|exact A1|exact uH|apply A2|apply uT));first|done|fail)|(simp;first|done|omega|fail))[c1, c2, h0]))
  exact B0 rfl
 obtain ⟨j, rfl⟩ : ∃ j : Nat, i = j := ⟨i.toNat, by omega⟩
 have hj : j < ls.length := by omega
 have hj2 : ¬ ls.length ≤ j := by omega
 obtain ⟨gb, o, rfl, hrow⟩ := hr (by omega)
 have hrd := h.at hj
 have hx : w.cell? ⟨gb, o + j, none⟩ = some (ls.getD j .no).val := hrow.get (B9V hj)
 have e : A21 ls j f = match ls.getD j .no with | .rdy p _ _ => (f p, true) | _ => (0, false) := by unfold A21 B0S; rw [if_pos (by omega), Int.toNat_natCast]
 rw [e]
 generalize ls.getD j .no = x at *
 cases x with
 | no =>
  simp only [SlH.val] at hx
  (have zz:=trivial;repeat((first|clear zz|with_reducible first|refine A3 ?_|refine A5 fun _=>?_|refine A4 fun _=>?_);try simp(disch:=first|omega|assumption|((repeat(first|exact A1|exact uH|apply A2|apply uT));first|done|fail)|(simp;first|done|omega|fail))[c1, c2, hj, hj2, h0, hx]))
  exact B0 rfl
 | bld =>
  simp only [SlH.val] at hx
  (have zz:=trivial;repeat((first|clear zz|with_reducible first|refine A3 ?_|refine A5 fun _=>?_|refine A4 fun _=>?_);try simp(disch:=first|omega|assumption|((repeat(first|exact A1|exact uH|apply A2|apply uT));first|done|fail)|(simp;first|done|omega|fail))[c1, c2, hj, hj2, h0, hx]))
  exact B0 rfl
 | rdy p pv rv =>
  simp only [SlH.val] at hx
  have hpv := hrd.1.form
  have hrv := hrd.2.1.form
  obtain ⟨pa, pc, hpe, _⟩ := hpv
  obtain ⟨ra, rc, hre, _⟩ := hrv
  subst hpe hre
  (have zz:=trivial;repeat((first|clear zz|with_reducible first|refine A3 ?_|refine A5 fun _=>?_|refine A4 fun _=>?_);try simp(disch:=first|omega|assumption|((repeat(first|exact A1|exact uH|apply A2|apply uT));first|done|fail)|(simp;first|done|omega|fail))[c1, c2, hj, hj2, h0, hx]))
  refine C8 he (fun w' hw' => hg _ _ _ hrd w' hw'.ks) ?_
  exact B0 rfl
theorem C31 (ls : List SlH) (i : Int) (f : List F2 → Int) : A21 ls i f = match N3 (ls.map SlH.sp) i with | .rdy p => (f p, true) | _ => (0, false) := by
 rw [B9a]; unfold A21; cases B0S ls i <;> rfl
theorem SlH.rdks {κ : Bool} {w w' : World} {s : SlH} (hk : KS κ [] w w') (h : s.rd w) : s.rd w' := by
 cases s with
 | no => trivial
 | bld => trivial
 | rdy p pv rv => exact ⟨h.1.ks hk (by simp), h.2.1.ks hk (by simp), h.2.2⟩
theorem SlAt.ks {κ : Bool} {w w' : World} {b : Nat} {sv : Value} {ls : List SlH} (h : SlAt w b sv ls) (hk : KS κ [] w w') : SlAt w' b sv ls :=
 ⟨hk.2.1 _ _ (by simp) rfl h.blk, h.rd.ks hk (by simp), fun s hs => SlH.rdks hk (h.all s hs)⟩
theorem C3a (w : World) (p : List F2) (pv rv : Value) (hx : (SlH.rdy p pv rv).rd w) :
  Fn PR B6 70 #[.agg #[pv, rv]] w (fun u w' => u = .int .i64 (p.length : Nat) ∧ C6 [] w w') := by
 refine Fn.pure (A6g (TW.go (κ := false) (S := []) ?_))
 unfold A0d
 obtain ⟨h1, h2, h3⟩ := hx
 obtain ⟨pa, pc, rfl, _⟩ := h1.form
 obtain ⟨ra, rc, rfl, _⟩ := h2.form
 (have zz:=trivial;repeat((first|clear zz|with_reducible first|refine A3 ?_|refine A5 fun _=>?_|refine A4 fun _=>?_);try simp(disch:=first|omega|assumption|((repeat(first|exact A1|exact uH|apply A2|apply uT));first|done|fail)|(simp;first|done|omega|fail))[]))
 exact B0 rfl
theorem C5D (w : World) (b : Nat) (sv : Value) (ls : List SlH) (i : Int) (hl : ls.length ≤ 8) (hs : SlAt w b sv ls) :
  Fn PR B6 26 #[.pointer (some ⟨b, 0, none⟩), .int .i64 i] w (fun u w' => u = .tuple #[.int .i64 (B31 (ls.map SlH.sp) i).1, .bool (B31 (ls.map SlH.sp) i).2] ∧ C6 [] w w') := by
 refine Fn.pure (A9a (TW.go (κ := false) (S := []) ?_))
 unfold A2a
 refine C8 B0k (fun w' hw' => C69 w' b sv ls i 70 [] (fun p => (p.length : Nat)) hl (hs.ks hw'.ks) A49 fun p pv rv hrd w'' hk => C3a w'' p pv rv (SlH.rdks hk hrd)) ?_
 (have zz:=trivial;repeat((first|clear zz|with_reducible first|refine A3 ?_|refine A5 fun _=>?_|refine A4 fun _=>?_);try simp(disch:=first|omega|assumption|((repeat(first|exact A1|exact uH|apply A2|apply uT));first|done|fail)|(simp;first|done|omega|fail))[]))
 exact B0 (by rw [C31]; unfold B31; cases N3 (ls.map SlH.sp) i <;> rfl)
theorem C9Q (n : Nat) : (Builtin.zeroCells Value.nilIface.cells n).toList = (List.replicate n SlH.no).map SlH.val := by
 have hz : (Builtin.zeroCells Value.nilIface.cells n).toList.length = n := by simp [size_zeroCells, Value.cells]
 apply List.ext_getElem (by rw [hz]; simp)
 intro i h1 h2
 simp [Builtin.zeroCells, Value.cells, SlH.val, Nat.mod_one]
theorem C7q (w : World) (n : Nat) (hn : n ≤ 8) : Fn PR B6 36 #[.int .i64 (n : Nat)] w (Rn [] w (fun (x : Nat × Value) u => u = .pointer (some ⟨x.1, 0, none⟩)) fun x => H0 x.1 x.2 (List.replicate n SlH.no)) := by
 refine B7w (TW.go (κ := false) (S := []) ?_)
 unfold B0V
 have h1 : min ((n : Nat) : Int) 8 = n := by omega
 have h2 : max 0 ((n : Nat) : Int) = n := by omega
 (have zz:=trivial;repeat((first|clear zz|with_reducible first|refine A3 ?_|refine A5 fun _=>?_|refine A4 fun _=>?_);try simp(disch:=first|omega|assumption|((repeat(first|exact A1|exact uH|apply A2|apply uT));first|done|fail)|(simp;first|done|omega|fail))[h1, h2]))
 refine A6N (by omega) (by omega) (by omega) (by omega) fun bs => ?_
 rw [Int.toNat_natCast, C9Q]
 (have zz:=trivial;repeat((first|clear zz|with_reducible first|refine A3 ?_|refine A5 fun _=>?_|refine A4 fun _=>?_);try simp(disch:=first|omega|assumption|((repeat(first|exact A1|exact uH|apply A2|apply uT));first|done|fail)|(simp;first|done|omega|fail))[]))
 rename_i b
 refine A2k (r := z7 (List.replicate n SlH.no)) (Hc := []) Part.nil (fun w _ => (fun s hs => by rw [List.eq_of_mem_replicate hs]; trivial : A75 _ w)) (fun b hb => ?_) ?_
 ·have hb' : b ∈ A0u (List.replicate n SlH.no) := hb
  rw [A0u, List.mem_flatMap] at hb'
  obtain ⟨s, hs, hbs⟩ := hb'
  rw [List.eq_of_mem_replicate hs] at hbs; cases hbs
 ·refine B1 (b, .slice (some ⟨bs, 0, none⟩) n n) rfl ?_
  simp only [H0, List.length_replicate, List.map_replicate]
  (repeat' constructor)
end Go.Proofs.YtpnidmkaobfhiaaGreat
namespace Go.Proofs.YtpnidmkaobfhiaaGreat
open Go
def B2q (c : CfgV) : Array Value := #[.int .i64 c.wk, .int .i64 c.sh, .int .i64 c.cp, .int .i64 c.idle, .int .i64 c.sl]
def M8 (c : CfgV) (pc ps pk tv pv now : Value) : Array Value := #[.int .i64 c.wk, .int .i64 c.sh, .int .i64 c.cp, .int .i64 c.idle, .int .i64 c.sl, pc, ps, pk, tv, pv, now]
def H3 (b : Nat) (c : CfgV) (pc ps pk tv pv now : Value) : Res := .pt b (.cells (M8 c pc ps pk tv pv now) 74)
theorem C4g (w : World) (b b1 : Nat) (c : CfgV) (pc ps pk tv pv now : Value) (hw1 : 0 ≤ c.wk ∧ c.wk ≤ 64) (hs1 : 0 ≤ c.sh ∧ c.sh ≤ 16) (hb1 : bl w b1 = some (.cells (B2q c) 23 (0, 0))) (hne : b1 ≠ b) (hw : LW false [b] w [H3 b c pc ps pk tv pv now] w) :
  Fn PR B6 33 #[.pointer (some ⟨b, 0, none⟩), .pointer (some ⟨b1, 0, none⟩)] w (Rn [b] w (fun (x : Nat × Value × Value) u => u = .tuple #[]) fun x => H3 b c (.pointer (some ⟨x.1, 0, none⟩)) ps pk tv pv now :: D2 x.1 0 x.2.1 x.2.2 (List.replicate (2 + c.wk.toNat) 0) (List.replicate c.sh.toNat (-1))) := by
 refine B35 (TW.goH (κ := false) (S := [b]) ?_ hw)
 unfold A5q
 have h0 : w.cell? ⟨b1, 0, none⟩ = some (.int .i64 c.wk) := by rw [D8 hb1]; rfl
 have h1 : w.cell? ⟨b1, 1, none⟩ = some (.int .i64 c.sh) := by rw [D8 hb1]; rfl
 obtain ⟨n, hn⟩ : ∃ n : Nat, c.wk = n := ⟨c.wk.toNat, by omega⟩
 obtain ⟨k, hk⟩ : ∃ k : Nat, c.sh = k := ⟨c.sh.toNat, by omega⟩
 rw [hn] at h0
 rw [hk] at h1
 simp only [H3, M8, hn, hk, Int.toNat_natCast]
 (have zz:=trivial;repeat((first|clear zz|with_reducible first|refine A3 ?_|refine A5 fun _=>?_|refine A4 fun _=>?_);try simp(disch:=first|omega|assumption|((repeat(first|exact A1|exact uH|apply A2|apply uT));first|done|fail)|(simp;first|done|omega|fail))[h0, h1, hne]))
 rw [show (2 + (n : Int)) = ((2 + n : Nat) : Int) by omega]
 refine H9 B5q (fun w' _ => B89 w' (2 + n) k (by omega) (by omega)) ?_
 rintro x v rfl
 simp only [D2]
 (have zz:=trivial;repeat((first|clear zz|with_reducible first|refine A3 ?_|refine A5 fun _=>?_|refine A4 fun _=>?_);try simp(disch:=first|omega|assumption|((repeat(first|exact A1|exact uH|apply A2|apply uT));first|done|fail)|(simp;first|done|omega|fail))[]))
 exact B1 x rfl (by (repeat' constructor))
theorem C5j (w : World) (b b1 : Nat) (c : CfgV) (pc ps pk tv pv now : Value) (hsl : 0 ≤ c.sl ∧ c.sl ≤ 8) (hb1 : bl w b1 = some (.cells (B2q c) 23 (0, 0))) (hne : b1 ≠ b) (hw : LW false [b] w [H3 b c pc ps pk tv pv now] w) :
  Fn PR B6 35 #[.pointer (some ⟨b, 0, none⟩), .pointer (some ⟨b1, 0, none⟩)] w (Rn [b] w (fun (x : Nat × Value × Nat) u => u = .tuple #[]) fun x => H3 b c pc (.pointer (some ⟨x.1, 0, none⟩)) (.pointer (some ⟨x.2.2, 0, none⟩)) tv pv now :: T6 x.2.2 (List.replicate c.sl.toNat (0, 0)) :: H0 x.1 x.2.1 (List.replicate c.sl.toNat SlH.no)) := by
 refine B3J (TW.goH (κ := false) (S := [b]) ?_ hw)
 unfold A6B
 have h0 : w.cell? ⟨b1, 4, none⟩ = some (.int .i64 c.sl) := by rw [D8 hb1]; rfl
 obtain ⟨n, hn⟩ : ∃ n : Nat, c.sl = n := ⟨c.sl.toNat, by omega⟩
 rw [hn] at h0
 simp only [H3, M8, hn, Int.toNat_natCast]
 (have zz:=trivial;repeat((first|clear zz|with_reducible first|refine A3 ?_|refine A5 fun _=>?_|refine A4 fun _=>?_);try simp(disch:=first|omega|assumption|((repeat(first|exact A1|exact uH|apply A2|apply uT));first|done|fail)|(simp;first|done|omega|fail))[h0, hne]))
 refine H9 B5z (fun w' _ => C7q w' n (by omega)) ?_
 rintro x v rfl
 simp only [H0]
 (have zz:=trivial;repeat((first|clear zz|with_reducible first|refine A3 ?_|refine A5 fun _=>?_|refine A4 fun _=>?_);try simp(disch:=first|omega|assumption|((repeat(first|exact A1|exact uH|apply A2|apply uT));first|done|fail)|(simp;first|done|omega|fail))[h0, hne]))
 refine H9 B5x (fun w' _ => C7z w' n (by omega)) ?_
 rintro bk v rfl
 (have zz:=trivial;repeat((first|clear zz|with_reducible first|refine A3 ?_|refine A5 fun _=>?_|refine A4 fun _=>?_);try simp(disch:=first|omega|assumption|((repeat(first|exact A1|exact uH|apply A2|apply uT));first|done|fail)|(simp;first|done|omega|fail))[]))
 refine B1 (x.1, x.2, bk) rfl ?_
 simp only [List.length_replicate, List.map_replicate]
 (repeat' constructor)
def A0V (l : List Nat) : List Value := l.map fun n : Nat => .int .i64 (n : Int)
@[simp] theorem D4H (l : List Nat) : (A0V l).length = l.length := by unfold A0V; rw [List.length_map]
theorem C5l (w : World) (b b1 : Nat) (c : CfgV) (pc ps pk now : Value) (hs1 : 1 ≤ c.sh ∧ c.sh ≤ 16) (hc1 : 1 ≤ c.cp ∧ c.cp ≤ 64) (hb1 : bl w b1 = some (.cells (B2q c) 23 (0, 0))) (hne : b1 ≠ b) (hw : LW false [b] w [H3 b c pc ps pk (.slice none 0 0) (.slice none 0 0) now] w) :
  Fn PR B6 38 #[.pointer (some ⟨b, 0, none⟩), .pointer (some ⟨b1, 0, none⟩)] w (Rn [b] w (fun (x : Value × Value × List (Value × List EnV)) u => u = .tuple #[] ∧ x.2.2.map (·.2) = List.replicate c.sh.toNat (newE c.cp.toNat)) fun x => [H3 b c pc ps pk x.1 x.2.1 now, .own 55 1 x.1 x.2.2.length (x.2.2.map (·.1)), .own 3 1 x.2.1 x.2.2.length (A0V (List.replicate c.sh.toNat 0)), E5 x.2.2]) := by
 refine B3p (TW.goH (κ := false) (S := [b]) ?_ hw)
 unfold A51
 have h0 : w.cell? ⟨b1, 1, none⟩ = some (.int .i64 c.sh) := by rw [D8 hb1]; rfl
 have h1 : w.cell? ⟨b1, 2, none⟩ = some (.int .i64 c.cp) := by rw [D8 hb1]; rfl
 obtain ⟨n, hn⟩ : ∃ n : Nat, c.sh = n := ⟨c.sh.toNat, by omega⟩
 obtain ⟨k, hk⟩ : ∃ k : Nat, c.cp = k := ⟨c.cp.toNat, by omega⟩
 rw [hn] at h0
 rw [hk] at h1
 simp only [H3, M8, hn, hk, Int.toNat_natCast]
 (have zz:=trivial;repeat((first|clear zz|with_reducible first|refine A3 ?_|refine A5 fun _=>?_|refine A4 fun _=>?_);try simp(disch:=first|omega|assumption|((repeat(first|exact A1|exact uH|apply A2|apply uT));first|done|fail)|(simp;first|done|omega|fail))[h0, h1, hne]))
 refine s9 55 1 ?_
 refine s9 3 1 ?_
 refine B8Y ?_
 refine Sels.tw (rs := [.pt b (.cells #[.int .i64 c.wk, .int .i64 (n : Nat), .int .i64 (k : Nat), .int .i64 c.idle, .int .i64 c.sl, pc, ps, pk, .slice none 0 0, .slice none 0 0, now] 74), .own 55 1 (.slice none 0 0) 0 [], .own 3 1 (.slice none 0 0) 0 [], E5 []]) (by (repeat' constructor)) ?_
 refine B03 (α := Option Addr × Nat × Option Addr × Nat × List (Value × List EnV)) n (fun i x => [.pt b (.cells #[.int .i64 c.wk, .int .i64 (n : Nat), .int .i64 (k : Nat), .int .i64 c.idle, .int .i64 c.sl, pc, ps, pk, .slice x.1 i x.2.1, .slice x.2.2.1 i x.2.2.2.1, now] 74), .own 55 1 (.slice x.1 i x.2.1) i (x.2.2.2.2.map (·.1)), .own 3 1 (.slice x.2.2.1 i x.2.2.2.1) i (A0V (List.replicate i 0)), E5 x.2.2.2.2]) (fun i x => x.2.2.2.2.length = i ∧ x.2.2.2.2.map (·.2) = List.replicate i (newE k)) (none, 0, none, 0, []) ⟨rfl, rfl⟩ ?_
 ·rintro i ⟨ta, tc, pa, qc, ts⟩ hi ⟨hlen, hmap⟩ L hL
  simp only at hlen hmap ⊢
  by_cases hlt : i < n
  ·(have zz:=trivial;repeat((first|clear zz|with_reducible first|refine A3 ?_|refine A5 fun _=>?_|refine A4 fun _=>?_);try simp(disch:=first|omega|assumption|((repeat(first|exact A1|exact uH|apply A2|apply uT));first|done|fail)|(simp;first|done|omega|fail))[h1, hne, hlt]))
   refine H9 A3p (fun w' _ => A6S w' k (by omega)) ?_
   intro y u hu
   subst hu
   refine T4 (e := 155) (k := 4) (v := u) (q := (newE k).length) (xs := (newE k).flatMap F1) (by (repeat constructor)) fun ua uc hu => ?_
   subst hu
   (have zz:=trivial;repeat((first|clear zz|with_reducible first|refine A3 ?_|refine A5 fun _=>?_|refine A4 fun _=>?_|refine G1 fun _=>?_|refine F7 (hK:=fun _=>?_)|refine F9 (hK:=fun _=>?_)|refine F8 (hK:=fun _=>?_)|refine F6 (hK:=fun _=>?_)|refine G0 (hK:=fun _=>?_));try simp(disch:=first|omega|assumption|((repeat(first|exact A1|exact uH|apply A2|apply uT));first|done|fail)|(simp;first|done|omega|fail))[h1, hne, hlt]))
   refine A22 (e := 55) (k := 1) (q := i) (r := 1) (xs := ts.map (·.1)) (news := [.slice ua (newE k).length uc]) (by (repeat constructor)) (P4.own (by (repeat constructor))) (by decide) (by simp [hlen]) (by simp) (by simp only [maxLen]; omega) (by omega) fun a' c' => ?_
   (have zz:=trivial;repeat((first|clear zz|with_reducible first|refine A3 ?_|refine A5 fun _=>?_|refine A4 fun _=>?_|refine G1 fun _=>?_|refine F7 (hK:=fun _=>?_)|refine F9 (hK:=fun _=>?_)|refine F8 (hK:=fun _=>?_)|refine F6 (hK:=fun _=>?_)|refine G0 (hK:=fun _=>?_));try simp(disch:=first|omega|assumption|((repeat(first|exact A1|exact uH|apply A2|apply uT));first|done|fail)|(simp;first|done|omega|fail))[h1, hne, hlt]))
   refine A22 (e := 3) (k := 1) (q := i) (r := 1) (xs := A0V (List.replicate i 0)) (news := [.int .i64 0]) (by (repeat constructor)) (P4.own (by (repeat constructor))) (by decide) (by simp) (by simp) (by simp only [maxLen]; omega) (by omega) fun a'' c'' => ?_
   (have zz:=trivial;repeat((first|clear zz|with_reducible first|refine A3 ?_|refine A5 fun _=>?_|refine A4 fun _=>?_);try simp(disch:=first|omega|assumption|((repeat(first|exact A1|exact uH|apply A2|apply uT));first|done|fail)|(simp;first|done|omega|fail))[]))
   refine A5z (r := .slice ua (newE k).length uc) (l := newE k) (ts := ts) (by (repeat' constructor)) ?_
   have h := hL hlt (a', c', a'', c'', ts ++ [(.slice ua (newE k).length uc, newE k)]) ⟨by simp [hlen], by rw [List.map_append, hmap, List.replicate_succ']; rfl⟩
   have e : A0V (List.replicate (i + 1) 0) = A0V (List.replicate i 0) ++ [.int .i64 0] := by rw [List.replicate_succ', A0V, List.map_append]; rfl
   simp only [List.map_append, List.map_cons, List.map_nil, e] at h
   exact Sels.tw (by (repeat' constructor)) h
  ·obtain rfl : i = n := by omega
   (have zz:=trivial;repeat((first|clear zz|with_reducible first|refine A3 ?_|refine A5 fun _=>?_|refine A4 fun _=>?_);try simp(disch:=first|omega|assumption|((repeat(first|exact A1|exact uH|apply A2|apply uT));first|done|fail)|(simp;first|done|omega|fail))[]))
   refine B1 (.slice ta i tc, .slice pa i qc, ts) ⟨rfl, hmap⟩ ?_
   simp only [hlen]
   (repeat' constructor)
end Go.Proofs.YtpnidmkaobfhiaaGreat
namespace Go.Proofs.YtpnidmkaobfhiaaGreat
open Go
structure WoH where
 b : Nat
 bc : Nat
 bs : Nat
 bk : Nat
 cn : Int
 cv : Value
 ov : Value
 sv : Value
 tv : Value
 pv : Value
 c : CfgV
 cells : List Int
 own : List Int
 ls : List SlH
 keep : List (Int × Int)
 ts : List (Value × List EnV)
 pl : List Nat
 now : Int
def C9 (m : WoH) : List Res := [H3 m.b m.c (.pointer (some ⟨m.bc, 0, none⟩)) (.pointer (some ⟨m.bs, 0, none⟩)) (.pointer (some ⟨m.bk, 0, none⟩)) m.tv m.pv (.int .i64 m.now),
 .pt m.bc (.cells #[.int .i64 m.cn, m.cv, m.ov] 147), .own 3 1 m.cv m.cells.length (G2 m.cells), .own 3 1 m.ov m.own.length (G2 m.own),
 .pt m.bs (.cells #[m.sv] 162), .own 174 1 m.sv m.ls.length (m.ls.map SlH.val), z7 m.ls, T6 m.bk m.keep,
 .own 55 1 m.tv m.ts.length (m.ts.map (·.1)), .own 3 1 m.pv m.pl.length (A0V m.pl)]
def WoH.ws (m : WoH) : WS := ⟨m.c, m.cells, m.own, m.ls.map SlH.sp, m.keep, m.ts.map (·.2), m.pl, m.now⟩
def L0 (c : CfgV) : WS := ⟨c, List.replicate (2 + c.wk.toNat) 0, List.replicate c.sh.toNat (-1), List.replicate c.sl.toNat .no, List.replicate c.sl.toNat (0, 0), List.replicate c.sh.toNat (newE c.cp.toNat), List.replicate c.sh.toNat 0, 0⟩
abbrev C6W := (Nat × Value × Value) × (Nat × Value × Nat) × (Value × Value × List (Value × List EnV))
def V8 : Value := .pointer none
def N2 : Value := .slice none 0 0
def B1B (b : Nat) (c : CfgV) : Nat → C6W → List Res
 | 0, x => [H3 b c V8 V8 V8 N2 N2 (.int .i64 0)]
 | 1, x => H3 b c (.pointer (some ⟨x.1.1, 0, none⟩)) V8 V8 N2 N2 (.int .i64 0) :: D2 x.1.1 0 x.1.2.1 x.1.2.2 (List.replicate (2 + c.wk.toNat) 0) (List.replicate c.sh.toNat (-1))
 | 2, x => H3 b c (.pointer (some ⟨x.1.1, 0, none⟩)) (.pointer (some ⟨x.2.1.1, 0, none⟩)) (.pointer (some ⟨x.2.1.2.2, 0, none⟩)) N2 N2 (.int .i64 0) :: (D2 x.1.1 0 x.1.2.1 x.1.2.2 (List.replicate (2 + c.wk.toNat) 0) (List.replicate c.sh.toNat (-1)) ++ T6 x.2.1.2.2 (List.replicate c.sl.toNat (0, 0)) :: H0 x.2.1.1 x.2.1.2.1 (List.replicate c.sl.toNat SlH.no))
 | _, x => H3 b c (.pointer (some ⟨x.1.1, 0, none⟩)) (.pointer (some ⟨x.2.1.1, 0, none⟩)) (.pointer (some ⟨x.2.1.2.2, 0, none⟩)) x.2.2.1 x.2.2.2.1 (.int .i64 0) :: (D2 x.1.1 0 x.1.2.1 x.1.2.2 (List.replicate (2 + c.wk.toNat) 0) (List.replicate c.sh.toNat (-1)) ++ T6 x.2.1.2.2 (List.replicate c.sl.toNat (0, 0)) :: (H0 x.2.1.1 x.2.1.2.1 (List.replicate c.sl.toNat SlH.no) ++ [.own 55 1 x.2.2.1 x.2.2.2.2.length (x.2.2.2.2.map (·.1)), .own 3 1 x.2.2.2.1 x.2.2.2.2.length (A0V (List.replicate c.sh.toNat 0)), E5 x.2.2.2.2]))
theorem C5Q (w : World) (b1 : Nat) (c : CfgV) (pv : Value) (hok : N1 c = true) (hb1 : bl w b1 = some (.cells (B2q c) 23 (0, 0)))
  (hv : E2 w pv 3 [.func (.func 33) #[] #[.pointer (some ⟨b1, 0, none⟩)], .func (.func 35) #[] #[.pointer (some ⟨b1, 0, none⟩)], .func (.func 38) #[] #[.pointer (some ⟨b1, 0, none⟩)]]) :
  Fn PR B6 32 #[c.val, pv] w (Rn [] w (fun (y : WoH) u => u = .pointer (some ⟨y.b, 0, none⟩) ∧ y.c = c ∧ y.ws = L0 c) fun y => C9 y ++ [E5 y.ts]) := by
 refine B6N (TW.go (κ := false) (S := []) ?_)
 unfold A9C
 have hb : (1 ≤ c.wk ∧ c.wk ≤ 64) ∧ (1 ≤ c.sh ∧ c.sh ≤ 16) ∧ (1 ≤ c.cp ∧ c.cp ≤ 64) ∧ (2 ≤ c.sl ∧ c.sl ≤ 8) := by
  simp [N1, Z8] at hok; omega
 obtain ⟨a, cap, rfl, hr⟩ := hv.form
 obtain ⟨g, o, rfl, hrow⟩ := hr (by omega)
 simp only [CfgV.val]
 (have zz:=trivial;repeat((first|clear zz|with_reducible first|refine A3 ?_|refine A5 fun _=>?_|refine A4 fun _=>?_);try simp(disch:=first|omega|assumption|((repeat(first|exact A1|exact uH|apply A2|apply uT));first|done|fail)|(simp;first|done|omega|fail))[]))
 rename_i b2 b
 refine B03 (α := C6W) 3 (fun i x => B1B b c i x ++ [.pt b2 (.cells (B2q c) 23)]) (fun i x => i = 3 → x.2.2.2.2.map (·.2) = List.replicate c.sh.toNat (newE c.cp.toNat)) ((0, V8, V8), (0, V8, 0), (V8, V8, [])) (by omega) ?_ (by simp [B1B, H3, M8, B2q, V8, N2])
 have r0 : w.cell? ⟨g, o, none⟩ = some (.func (.func 33) #[] #[.pointer (some ⟨b1, 0, none⟩)]) := hrow 0 (by simp)
 have r1 : w.cell? ⟨g, o + 1, none⟩ = some (.func (.func 35) #[] #[.pointer (some ⟨b1, 0, none⟩)]) := hrow 1 (by simp)
 have r2 : w.cell? ⟨g, o + 2, none⟩ = some (.func (.func 38) #[] #[.pointer (some ⟨b1, 0, none⟩)]) := hrow 2 (by simp)
 have hne : ∀ {w' : World} {A : List Res}, LW false [] w A w' → ∀ pc ps pk tv pv now, H3 b c pc ps pk tv pv now ∈ A → b1 ≠ b := fun {w' A} hw' pc ps pk tv pv now hm e => by
  have := (hw'.own _ hm b (by simp [H3, Res.foot])).1
  have h1 := K7 hb1
  rcases this with h | h
  ·cases h
  ·omega
 have hbb : ∀ w', KS false [] w w' → bl w' b1 = some (.cells (B2q c) 23 (0, 0)) := fun w' hk => hk.2.1 _ _ (by simp) rfl hb1
 rintro i ⟨⟨bc, cv, ov⟩, ⟨bs, sv, bk⟩, ⟨tv, pv', ts⟩⟩ hi hφ L hL
 have hi4 : i = 0 ∨ i = 1 ∨ i = 2 ∨ i = 3 := by omega
 rcases hi4 with rfl | rfl | rfl | rfl
 ·simp only [B1B, List.cons_append, List.nil_append, D2] at hL ⊢
  (have zz:=trivial;repeat((first|clear zz|with_reducible first|refine A3 ?_|refine A5 fun _=>?_|refine A4 fun _=>?_);try simp(disch:=first|omega|assumption|((repeat(first|exact A1|exact uH|apply A2|apply uT));first|done|fail)|(simp;first|done|omega|fail))[r0]))
  refine D0 (Hc := [H3 b c V8 V8 V8 N2 N2 (.int .i64 0)]) B2Y (fun w' hw' hs => C4g w' b b1 c _ _ _ _ _ _ (by omega) (by omega) (hbb w' hw'.ks) (hne hw' _ _ _ _ _ _ (List.mem_cons_self ..)) hs) (by (repeat' constructor)) ?_
  rintro x v rfl
  simp only [D2, List.cons_append, List.nil_append]
  (have zz:=trivial;repeat((first|clear zz|with_reducible first|refine A3 ?_|refine A5 fun _=>?_|refine A4 fun _=>?_);try simp(disch:=first|omega|assumption|((repeat(first|exact A1|exact uH|apply A2|apply uT));first|done|fail)|(simp;first|done|omega|fail))[]))
  have h := hL (by omega) (x, (0, V8, 0), (V8, V8, [])) (by omega)
  simp only [List.length_replicate, List.map_replicate] at h ⊢
  exact Sels.tw (by (repeat' constructor)) h
 ·simp only [B1B, List.cons_append, List.nil_append, D2, H0] at hL ⊢
  (have zz:=trivial;repeat((first|clear zz|with_reducible first|refine A3 ?_|refine A5 fun _=>?_|refine A4 fun _=>?_);try simp(disch:=first|omega|assumption|((repeat(first|exact A1|exact uH|apply A2|apply uT));first|done|fail)|(simp;first|done|omega|fail))[r1]))
  refine D0 (Hc := [H3 b c (.pointer (some ⟨bc, 0, none⟩)) V8 V8 N2 N2 (.int .i64 0)]) B11 (fun w' hw' hs => C5j w' b b1 c _ _ _ _ _ _ (by omega) (hbb w' hw'.ks) (hne hw' _ _ _ _ _ _ (List.mem_cons_self ..)) hs) (by (repeat' constructor)) ?_
  rintro x v rfl
  simp only [H0, List.cons_append, List.nil_append]
  (have zz:=trivial;repeat((first|clear zz|with_reducible first|refine A3 ?_|refine A5 fun _=>?_|refine A4 fun _=>?_);try simp(disch:=first|omega|assumption|((repeat(first|exact A1|exact uH|apply A2|apply uT));first|done|fail)|(simp;first|done|omega|fail))[]))
  have h := hL (by omega) ((bc, cv, ov), x, (V8, V8, [])) (by omega)
  simp only [List.length_replicate, List.map_replicate] at h ⊢
  exact Sels.tw (by (repeat' constructor)) h
 ·simp only [B1B, List.cons_append, List.nil_append, D2, H0] at hL ⊢
  (have zz:=trivial;repeat((first|clear zz|with_reducible first|refine A3 ?_|refine A5 fun _=>?_|refine A4 fun _=>?_);try simp(disch:=first|omega|assumption|((repeat(first|exact A1|exact uH|apply A2|apply uT));first|done|fail)|(simp;first|done|omega|fail))[r2]))
  refine D0 (Hc := [H3 b c (.pointer (some ⟨bc, 0, none⟩)) (.pointer (some ⟨bs, 0, none⟩)) (.pointer (some ⟨bk, 0, none⟩)) N2 N2 (.int .i64 0)]) B2l (fun w' hw' hs => C5l w' b b1 c _ _ _ _ (by omega) (by omega) (hbb w' hw'.ks) (hne hw' _ _ _ _ _ _ (List.mem_cons_self ..)) hs) (by (repeat' constructor)) ?_
  rintro x v ⟨rfl, hx⟩
  simp only [List.cons_append, List.nil_append]
  (have zz:=trivial;repeat((first|clear zz|with_reducible first|refine A3 ?_|refine A5 fun _=>?_|refine A4 fun _=>?_);try simp(disch:=first|omega|assumption|((repeat(first|exact A1|exact uH|apply A2|apply uT));first|done|fail)|(simp;first|done|omega|fail))[]))
  have h := hL (by omega) ((bc, cv, ov), (bs, sv, bk), x) (fun _ => hx)
  simp only [List.length_replicate, List.map_replicate] at h ⊢
  exact Sels.tw (by (repeat' constructor)) h
 ·have ht := hφ rfl
  simp only [B1B, List.cons_append, List.nil_append, D2, H0] at ht ⊢
  have hlen : ts.length = c.sh.toNat := by
   have := congrArg List.length ht
   simpa using this
  (have zz:=trivial;repeat((first|clear zz|with_reducible first|refine A3 ?_|refine A5 fun _=>?_|refine A4 fun _=>?_);try simp(disch:=first|omega|assumption|((repeat(first|exact A1|exact uH|apply A2|apply uT));first|done|fail)|(simp;first|done|omega|fail))[]))
  refine B1 ⟨b, bc, bs, bk, 0, cv, ov, sv, tv, pv', c, List.replicate (2 + c.wk.toNat) 0, List.replicate c.sh.toNat (-1), List.replicate c.sl.toNat SlH.no, List.replicate c.sl.toNat (0, 0), ts, List.replicate c.sh.toNat 0, 0⟩ ⟨rfl, rfl, by simp [WoH.ws, L0, ht, SlH.sp]⟩ ?_
  simp only [C9, List.cons_append, List.nil_append, List.length_replicate, List.map_replicate, hlen]
  (repeat' constructor)
end Go.Proofs.YtpnidmkaobfhiaaGreat
namespace Go.Proofs.YtpnidmkaobfhiaaGreat
open Go
theorem B9k (w : World) (c : CfgV) : Fn PR B6 9 #[c.val] w (Rn [] w (fun (y : WoH) u => if N1 c then u = .tuple #[.pointer (some ⟨y.b, 0, none⟩), .int .i64 0] ∧ y.c = c ∧ y.ws = L0 c else u = .tuple #[.pointer none, .int .i64 1]) fun y => if N1 c then C9 y ++ [E5 y.ts] else []) := by
 refine B8E (TW.go (κ := false) (S := []) ?_)
 unfold A99
 simp only [CfgV.val]
 (have zz:=trivial;repeat((first|clear zz|with_reducible first|refine A3 ?_|refine A5 fun _=>?_|refine A4 fun _=>?_);try simp(disch:=first|omega|assumption|((repeat(first|exact A1|exact uH|apply A2|apply uT));first|done|fail)|(simp;first|done|omega|fail))[]))
 rename_i b1
 refine C8 A5a (fun w' _ => B5M w' c) ?_
 cases hok : N1 c with
 | false =>
  (have zz:=trivial;repeat((first|clear zz|with_reducible first|refine A3 ?_|refine A5 fun _=>?_|refine A4 fun _=>?_);try simp(disch:=first|omega|assumption|((repeat(first|exact A1|exact uH|apply A2|apply uT));first|done|fail)|(simp;first|done|omega|fail))[]))
  exact B1 ⟨0, 0, 0, 0, 0, V8, V8, V8, V8, V8, c, [], [], [], [], [], [], 0⟩ (by simp) Sels.nil
 | true =>
  (have zz:=trivial;repeat((first|clear zz|with_reducible first|refine A3 ?_|refine A5 fun _=>?_|refine A4 fun _=>?_|refine G1 fun _=>?_|refine F7 (hK:=fun _=>?_)|refine F9 (hK:=fun _=>?_)|refine F8 (hK:=fun _=>?_)|refine F6 (hK:=fun _=>?_)|refine G0 (hK:=fun _=>?_));try simp(disch:=first|omega|assumption|((repeat(first|exact A1|exact uH|apply A2|apply uT));first|done|fail)|(simp;first|done|omega|fail))[]))
  rename_i g
  refine H9 B4s (fun w' hw' => C5Q w' b1 c _ hok (hw'.pt (by (repeat constructor))) (P4.own (e := 87) (k := 1) (by (repeat constructor)) w' hw')) ?_
  rintro y v ⟨rfl, hy⟩
  (have zz:=trivial;repeat((first|clear zz|with_reducible first|refine A3 ?_|refine A5 fun _=>?_|refine A4 fun _=>?_);try simp(disch:=first|omega|assumption|((repeat(first|exact A1|exact uH|apply A2|apply uT));first|done|fail)|(simp;first|done|omega|fail))[]))
  refine B1 y ⟨rfl, hy⟩ ?_
  simp only [C9, List.cons_append, List.nil_append]
  (repeat' constructor)
theorem B96 (w : World) (b : Nat) (c : CfgV) (pc ps pk tv pv now : Value) (who : Int) (hwk : c.wk ≤ 64) (hb : bl w b = some (.cells (M8 c pc ps pk tv pv now) 74 (0, 0))) :
  Fn PR B6 87 #[.pointer (some ⟨b, 0, none⟩), .int .i64 who] w (fun u w' => u = .int .i64 (G7 c who) ∧ C6 [] w w') := by
 refine Fn.pure (B0j (TW.go (κ := false) (S := []) ?_))
 unfold A3Y
 have h0 : w.cell? ⟨b, 0, none⟩ = some (.int .i64 c.wk) := by rw [D8 hb]; rfl
 unfold G7
 by_cases c1 : who < 1
 ·rw [if_pos (Or.inl c1)]
  (have zz:=trivial;repeat((first|clear zz|with_reducible first|refine A3 ?_|refine A5 fun _=>?_|refine A4 fun _=>?_);try simp(disch:=first|omega|assumption|((repeat(first|exact A1|exact uH|apply A2|apply uT));first|done|fail)|(simp;first|done|omega|fail))[c1]))
  exact B0 rfl
 by_cases c2 : c.wk < who
 ·rw [if_pos (Or.inr c2)]
  (have zz:=trivial;repeat((first|clear zz|with_reducible first|refine A3 ?_|refine A5 fun _=>?_|refine A4 fun _=>?_);try simp(disch:=first|omega|assumption|((repeat(first|exact A1|exact uH|apply A2|apply uT));first|done|fail)|(simp;first|done|omega|fail))[c1, c2, h0]))
  exact B0 rfl
 rw [if_neg (by omega)]
 (have zz:=trivial;repeat((first|clear zz|with_reducible first|refine A3 ?_|refine A5 fun _=>?_|refine A4 fun _=>?_);try simp(disch:=first|omega|assumption|((repeat(first|exact A1|exact uH|apply A2|apply uT));first|done|fail)|(simp;first|done|omega|fail))[c1, c2, h0]))
 exact B0 (by congr 1; omega)
end Go.Proofs.YtpnidmkaobfhiaaGreat
namespace Go.Proofs.YtpnidmkaobfhiaaGreat
open Go
def D5 (b : JB) (rest : List Value) : Array Value := (.int .i64 b.who :: .int .i64 b.st :: .int .i64 b.ans.err :: .int .i64 b.ans.bk :: .bool b.ans.made :: .int .i64 b.ans.count :: rest).toArray
def L9 (t : y6) : Value := .agg #[.bool t.1, .bool t.2.1, .bool t.2.2]
theorem A2K (w : World) (b : Nat) (T : TypeId) (j : JB) (rest : List Value) (e : Int) (hw : LW false [b] w [.pt b (.cells (D5 j rest) T)] w) :
  Fn PR B6 238 #[.pointer (some ⟨b, 0, none⟩), .int .i64 e] w (Rn [b] w (fun (_ : Unit) u => u = L9 (true, true, false)) fun _ => [.pt b (.cells (D5 (j.refuse e) rest) T)]) := by
 refine A6b (TW.goH (κ := false) (S := [b]) ?_ hw)
 unfold A0r
 simp only [D5, JB.refuse]
 (have zz:=trivial;repeat((first|clear zz|with_reducible first|refine A3 ?_|refine A5 fun _=>?_|refine A4 fun _=>?_);try simp(disch:=first|omega|assumption|((repeat(first|exact A1|exact uH|apply A2|apply uT));first|done|fail)|(simp;first|done|omega|fail))[]))
 exact B1 () rfl (by (repeat' constructor))
theorem A4D (w : World) (b : Nat) (T : TypeId) (j : JB) (rest : List Value) (hw : LW false [b] w [.pt b (.cells (D5 j rest) T)] w) :
  Fn PR B6 241 #[.pointer (some ⟨b, 0, none⟩)] w (Rn [b] w (fun (_ : Unit) u => u = L9 (false, true, false)) fun _ => [.pt b (.cells (D5 { j with st := -1 } rest) T)]) := by
 refine A6Q (TW.goH (κ := false) (S := [b]) ?_ hw)
 unfold A0g
 simp only [D5]
 (have zz:=trivial;repeat((first|clear zz|with_reducible first|refine A3 ?_|refine A5 fun _=>?_|refine A4 fun _=>?_);try simp(disch:=first|omega|assumption|((repeat(first|exact A1|exact uH|apply A2|apply uT));first|done|fail)|(simp;first|done|omega|fail))[]))
 exact B1 () rfl (by (repeat' constructor))
end Go.Proofs.YtpnidmkaobfhiaaGreat
namespace Go.Proofs.YtpnidmkaobfhiaaGreat
open Go
def L7 (b : Nat) (j : JU) (pv qv : Value) : Res := .pt b (.cells (D5 j.b [pv, qv, .int .i64 j.slot, .int .i64 j.old]) 94)
def N4 (j : JU) (qv : Value) : Res := .own 3 1 qv j.pins.length (G2 j.pins)
structure WsOk (x : WS) : Prop where
 wk : 1 ≤ x.c.wk ∧ x.c.wk ≤ 64
 cells : x.cells.length = 2 + x.c.wk.toNat
 own : x.own.length ≤ 16
 sl : x.sl.length ≤ 8
 keep : x.keep.length ≤ 8
def WoH.sk (m : WoH) (ls : List SlH) (keep : List (Int × Int)) : WoH := { m with ls := ls, keep := keep }
theorem C3x (w : World) (b : Nat) (j : JU) (pv qv : Value) (m : WoH) (hx : WsOk m.ws) (hp : j.pins.length ≤ 1000) (hst : -1 ≤ j.b.st ∧ j.b.st ≤ 1000) (hw : LW false (B2 (L7 b j pv qv :: N4 j qv :: C9 m)) w (L7 b j pv qv :: N4 j qv :: C9 m) w) :
  Fn PR B6 239 #[.pointer (some ⟨b, 0, none⟩), .pointer (some ⟨m.b, 0, none⟩)] w (Rn (B2 (L7 b j pv qv :: N4 j qv :: C9 m)) w (fun (y : List SlH × List (Int × Int)) u => u = L9 (S4 j m.ws).2.2 ∧ (m.sk y.1 y.2).ws = (S4 j m.ws).2.1) fun y => L7 b (S4 j m.ws).1 pv qv :: N4 j qv :: C9 (m.sk y.1 y.2)) := by
 refine A6L (TW.goH (κ := false) ?_ hw)
 unfold A0c
 obtain ⟨h1, h2, h3, h4, h5⟩ := hx
 simp only [WoH.ws, List.length_map] at h1 h2 h3 h4 h5
 have hkp : m.ws.keep = m.keep := rfl
 have hRipe := fun (w' : World) => C4P w' m.bk m.keep qv j.pins h5
 by_cases c1 : 0 ≤ S2 m.keep j.pins
 ·have e : S4 j m.ws = (j, { m.ws with sl := Q3 m.ws.sl (S2 m.keep j.pins) .no, keep := A38 m.keep (S2 m.keep j.pins) }, false, false, false) := if_pos c1
  rw [e]
  generalize S2 m.keep j.pins = r at *
  simp only [C9, L7, D5, H3, M8, WoH.sk]
  (have zz:=trivial;repeat((first|clear zz|with_reducible first|refine A3 ?_|refine A5 fun _=>?_|refine A4 fun _=>?_);try simp(disch:=first|omega|assumption|((repeat(first|exact A1|exact uH|apply A2|apply uT));first|done|fail)|(simp;first|done|omega|fail))[]))
  refine C8 m5 (fun w' hw' => hRipe w' (A0U.own hw' (by (repeat constructor))) (P4.own (e := 3) (k := 1) (by unfold N4; (repeat constructor)) w' hw') (by omega)) ?_
  (have zz:=trivial;repeat((first|clear zz|with_reducible first|refine A3 ?_|refine A5 fun _=>?_|refine A4 fun _=>?_);try simp(disch:=first|omega|assumption|((repeat(first|exact A1|exact uH|apply A2|apply uT));first|done|fail)|(simp;first|done|omega|fail))[c1]))
  refine D0 (Hc := H0 m.bs m.sv m.ls) A7d (fun w' _ hs => C2j w' m.bs m.sv m.ls r h4 hs) (by unfold H0; (repeat' constructor)) ?_
  intro _ v hv
  simp only [H0, List.cons_append, List.nil_append]
  (have zz:=trivial;repeat((first|clear zz|with_reducible first|refine A3 ?_|refine A5 fun _=>?_|refine A4 fun _=>?_);try simp(disch:=first|omega|assumption|((repeat(first|exact A1|exact uH|apply A2|apply uT));first|done|fail)|(simp;first|done|omega|fail))[]))
  refine D0 (Hc := [T6 m.bk m.keep]) A7p (fun w' _ hs => C3m w' m.bk m.keep r h5 hs) (by (repeat' constructor)) ?_
  intro _ v2 hv2
  simp only [List.cons_append, List.nil_append]
  (have zz:=trivial;repeat((first|clear zz|with_reducible first|refine A3 ?_|refine A5 fun _=>?_|refine A4 fun _=>?_);try simp(disch:=first|omega|assumption|((repeat(first|exact A1|exact uH|apply A2|apply uT));first|done|fail)|(simp;first|done|omega|fail))[]))
  exact B1 (W8 m.ls r .no, A38 m.keep r) ⟨rfl, by simp only [WoH.ws, B4N]; rfl⟩ (by (repeat' constructor))
 have hrneg : S2 m.keep j.pins < 0 := by omega
 by_cases c2 : G4 m.keep < 0
 ·have e : S4 j m.ws = ({ j with b := j.b.refuse 13, slot := G4 m.keep }, m.ws, true, true, false) := by unfold S4; rw [if_neg (by rw [hkp]; exact c1), if_pos (by rw [hkp]; exact c2)]; rfl
  rw [e]
  have e2 : M1 m.keep = m.keep := by unfold M1; rw [if_pos c2]
  generalize S2 m.keep j.pins = r at *
  obtain ⟨t, ht⟩ : ∃ t, t = G4 m.keep := ⟨_, rfl⟩
  rw [← ht] at c2
  simp only [C9, L7, D5, H3, M8, WoH.sk, ← ht]
  (have zz:=trivial;repeat((first|clear zz|with_reducible first|refine A3 ?_|refine A5 fun _=>?_|refine A4 fun _=>?_);try simp(disch:=first|omega|assumption|((repeat(first|exact A1|exact uH|apply A2|apply uT));first|done|fail)|(simp;first|done|omega|fail))[]))
  refine C8 m5 (fun w' hw' => hRipe w' (A0U.own hw' (by (repeat constructor))) (P4.own (e := 3) (k := 1) (by unfold N4; (repeat constructor)) w' hw') (by omega)) ?_
  (have zz:=trivial;repeat((first|clear zz|with_reducible first|refine A3 ?_|refine A5 fun _=>?_|refine A4 fun _=>?_);try simp(disch:=first|omega|assumption|((repeat(first|exact A1|exact uH|apply A2|apply uT));first|done|fail)|(simp;first|done|omega|fail))[c1]))
  refine D0 (Hc := [T6 m.bk m.keep]) A1J (fun w' _ hs => B7j w' m.bk m.keep h5 hs) (by (repeat' constructor)) ?_
  rintro _ v rfl
  rw [e2, ← ht]
  simp only [List.cons_append, List.nil_append]
  (have zz:=trivial;repeat((first|clear zz|with_reducible first|refine A3 ?_|refine A5 fun _=>?_|refine A4 fun _=>?_);try simp(disch:=first|omega|assumption|((repeat(first|exact A1|exact uH|apply A2|apply uT));first|done|fail)|(simp;first|done|omega|fail))[c2]))
  refine D0 (Hc := [.pt b (.cells (D5 j.b [pv, qv, .int .i64 t, .int .i64 j.old]) 94)]) Q5 (fun w' _ hs => A2K w' b _ j.b _ 13 hs) (by unfold D5; (repeat' constructor)) ?_
  rintro _ v rfl
  simp only [List.cons_append, List.nil_append, L9, D5]
  (have zz:=trivial;repeat((first|clear zz|with_reducible first|refine A3 ?_|refine A5 fun _=>?_|refine A4 fun _=>?_);try simp(disch:=first|omega|assumption|((repeat(first|exact A1|exact uH|apply A2|apply uT));first|done|fail)|(simp;first|done|omega|fail))[]))
  exact B1 (m.ls, m.keep) ⟨rfl, rfl⟩ (by (repeat' constructor))
 ·have e : S4 j m.ws = ({ j with slot := G4 m.keep, b := { j.b with st := j.b.st + 1 } }, { m.ws with sl := Q3 m.ws.sl (G4 m.keep) .bld, keep := M1 m.keep }, false, false, false) := by unfold S4; rw [if_neg (by rw [hkp]; exact c1), if_neg (by rw [hkp]; exact c2)]; rfl
  rw [e]
  generalize S2 m.keep j.pins = r at *
  obtain ⟨t, ht⟩ : ∃ t, t = G4 m.keep := ⟨_, rfl⟩
  rw [← ht] at c2
  simp only [C9, L7, D5, H3, M8, WoH.sk, ← ht]
  (have zz:=trivial;repeat((first|clear zz|with_reducible first|refine A3 ?_|refine A5 fun _=>?_|refine A4 fun _=>?_);try simp(disch:=first|omega|assumption|((repeat(first|exact A1|exact uH|apply A2|apply uT));first|done|fail)|(simp;first|done|omega|fail))[]))
  refine C8 m5 (fun w' hw' => hRipe w' (A0U.own hw' (by (repeat constructor))) (P4.own (e := 3) (k := 1) (by unfold N4; (repeat constructor)) w' hw') (by omega)) ?_
  (have zz:=trivial;repeat((first|clear zz|with_reducible first|refine A3 ?_|refine A5 fun _=>?_|refine A4 fun _=>?_);try simp(disch:=first|omega|assumption|((repeat(first|exact A1|exact uH|apply A2|apply uT));first|done|fail)|(simp;first|done|omega|fail))[c1]))
  refine D0 (Hc := [T6 m.bk m.keep]) A1J (fun w' _ hs => B7j w' m.bk m.keep h5 hs) (by (repeat' constructor)) ?_
  rintro _ v rfl
  rw [← ht]
  simp only [List.cons_append, List.nil_append]
  (have zz:=trivial;repeat((first|clear zz|with_reducible first|refine A3 ?_|refine A5 fun _=>?_|refine A4 fun _=>?_);try simp(disch:=first|omega|assumption|((repeat(first|exact A1|exact uH|apply A2|apply uT));first|done|fail)|(simp;first|done|omega|fail))[c2]))
  refine D0 (Hc := H0 m.bs m.sv m.ls) A7u (fun w' _ hs => C1e w' m.bs m.sv m.ls t h4 hs) (by unfold H0; (repeat' constructor)) ?_
  intro _ v hv
  simp only [H0, List.cons_append, List.nil_append]
  (have zz:=trivial;repeat((first|clear zz|with_reducible first|refine A3 ?_|refine A5 fun _=>?_|refine A4 fun _=>?_);try simp(disch:=first|omega|assumption|((repeat(first|exact A1|exact uH|apply A2|apply uT));first|done|fail)|(simp;first|done|omega|fail))[]))
  exact B1 (W8 m.ls t .bld, M1 m.keep) ⟨rfl, by simp only [WoH.ws, B4N]; rfl⟩ (by (repeat' constructor))
end Go.Proofs.YtpnidmkaobfhiaaGreat
namespace Go.Proofs.YtpnidmkaobfhiaaGreat
open Go
structure WoD where
 cn : Int
 cells : List Int
 ls : List SlH
 keep : List (Int × Int)
def WoH.up (m : WoH) (d : WoD) : WoH := { m with cn := d.cn, cells := d.cells, ls := d.ls, keep := d.keep }
def WoH.dd (m : WoH) : WoD := ⟨m.cn, m.cells, m.ls, m.keep⟩
theorem B5E (w : World) (b : Nat) (j : JU) (pv qv : Value) (hp : j.pool.length ≤ 1000) (hv : E2 w pv j.pool.length (j.pool.flatMap E8)) (hb : bl w b = some (.cells (D5 j.b [pv, qv, .int .i64 j.slot, .int .i64 j.old]) 94 (0, 0))) :
  Fn PR B6 234 #[.pointer (some ⟨b, 0, none⟩)] w (fun u w' => u = .int .i64 (S0 j) ∧ C6 [] w w') := by
 refine Fn.pure (A42 (TW.go (κ := false) (S := []) ?_))
 unfold A0K
 have h0 : w.cell? ⟨b, 0, none⟩ = some (.int .i64 j.b.who) := by rw [D8 hb]; rfl
 have h6 : w.cell? ⟨b, 6, none⟩ = some pv := by rw [D8 hb]; rfl
 unfold S0
 obtain ⟨a, c, rfl, _⟩ := hv.form
 by_cases c1 : j.b.who = 0
 ·rw [if_pos c1]
  (have zz:=trivial;repeat((first|clear zz|with_reducible first|refine A3 ?_|refine A5 fun _=>?_|refine A4 fun _=>?_);try simp(disch:=first|omega|assumption|((repeat(first|exact A1|exact uH|apply A2|apply uT));first|done|fail)|(simp;first|done|omega|fail))[h0, h6, c1]))
  refine C8 A2g (fun w' hw' => A4n w' _ j.pool (by omega) (hv.ks hw'.ks (by simp))) ?_
  exact B0 rfl
 ·rw [if_neg c1]
  (have zz:=trivial;repeat((first|clear zz|with_reducible first|refine A3 ?_|refine A5 fun _=>?_|refine A4 fun _=>?_);try simp(disch:=first|omega|assumption|((repeat(first|exact A1|exact uH|apply A2|apply uT));first|done|fail)|(simp;first|done|omega|fail))[h0, h6, c1]))
  exact B0 rfl
theorem B7M (l : List Int) (x : Int) : G2 (l ++ [x]) = G2 l ++ [.int .i64 x] := by unfold G2; rw [List.map_append]; rfl
theorem B7C (j : JU) (x : WS) : (S4 j x).1.pins = j.pins := by unfold S4; split; rfl; split <;> rfl
set_option maxHeartbeats 4000000 in
theorem C4m (w : World) (b : Nat) (j : JU) (pv qv : Value) (m : WoH) (hx : WsOk m.ws) (hp : j.pins.length ≤ 500) (hpl : j.pool.length ≤ 1000) (hst : 0 ≤ j.b.st ∧ j.b.st ≤ 500) (hsl : -1 ≤ j.slot ∧ j.slot ≤ 100) (hold : 0 ≤ j.old ∧ j.old ≤ 1000)
  (hv : ∀ w', KS false (B2 (L7 b j pv qv :: N4 j qv :: C9 m)) w w' → E2 w' pv j.pool.length (j.pool.flatMap E8))
  (hw : LW false (B2 (L7 b j pv qv :: N4 j qv :: C9 m)) w (L7 b j pv qv :: N4 j qv :: C9 m) w) :
  Fn PR B6 236 #[.pointer (some ⟨b, 0, none⟩), .pointer (some ⟨m.b, 0, none⟩)] w (Rn (B2 (L7 b j pv qv :: N4 j qv :: C9 m)) w (fun (y : Value × WoD) u => u = L9 (E9 j m.ws).2.2 ∧ (m.up y.2).ws = (E9 j m.ws).2.1) fun y => L7 b (E9 j m.ws).1 pv y.1 :: N4 (E9 j m.ws).1 y.1 :: C9 (m.up y.2)) := by
 refine A6m (TW.goH (κ := false) ?_ hw)
 unfold A0Z
 have hxx := hx
 obtain ⟨h1, h2, h3, h4, h5⟩ := hx
 simp only [WoH.ws, List.length_map] at h1 h2 h3 h4 h5
 have hc : m.ws.c = m.c := rfl
 by_cases c1 : j.b.st = 0 ∧ S0 j ≠ 0
 ·have e : E9 j m.ws = ({ j with b := j.b.refuse (S0 j) }, m.ws, true, true, false) := if_pos c1
  rw [e]
  obtain ⟨c0, c1⟩ := c1
  generalize hbe : S0 j = be at *
  simp only [C9, L7, D5, H3, M8, WoH.up] at hv ⊢
  (have zz:=trivial;repeat((first|clear zz|with_reducible first|refine A3 ?_|refine A5 fun _=>?_|refine A4 fun _=>?_);try simp(disch:=first|omega|assumption|((repeat(first|exact A1|exact uH|apply A2|apply uT));first|done|fail)|(simp;first|done|omega|fail))[c0]))
  refine C8 x6 (fun w' hw' => by have := B5E w' b j pv qv hpl (hv w' hw'.ks) (by rw [hw'.pt (b := b) (by (repeat constructor))]; simp only [D5, c0]); rw [hbe] at this; exact this) ?_
  (have zz:=trivial;repeat((first|clear zz|with_reducible first|refine A3 ?_|refine A5 fun _=>?_|refine A4 fun _=>?_);try simp(disch:=first|omega|assumption|((repeat(first|exact A1|exact uH|apply A2|apply uT));first|done|fail)|(simp;first|done|omega|fail))[c1]))
  refine D0 (Hc := [.pt b (.cells (D5 j.b [pv, qv, .int .i64 j.slot, .int .i64 j.old]) 94)]) Q5 (fun w' _ hs => A2K w' b _ j.b _ be hs) (by unfold D5; rw [c0]; (repeat' constructor)) ?_
  rintro _ v rfl
  simp only [List.cons_append, List.nil_append, L9, D5]
  (have zz:=trivial;repeat((first|clear zz|with_reducible first|refine A3 ?_|refine A5 fun _=>?_|refine A4 fun _=>?_);try simp(disch:=first|omega|assumption|((repeat(first|exact A1|exact uH|apply A2|apply uT));first|done|fail)|(simp;first|done|omega|fail))[]))
  exact B1 (qv, m.dd) ⟨rfl, rfl⟩ (by unfold WoH.dd; (repeat' constructor))
 by_cases c2 : j.b.st = 0 ∨ j.b.st - m.c.wk < 0
 ·have e : E9 j m.ws = ({ E1 j with pins := j.pins ++ [D3 m.cells (G7 m.c (j.b.st + 1))] }, m.ws, false, false, false) := by unfold E9; rw [if_neg c1, if_pos (show j.b.st = 0 ∨ j.b.st - m.ws.c.wk < 0 from c2)]; rfl
  rw [e]
  have hld : ∀ i, D3 m.ws.cells i = D3 m.cells i := fun _ => rfl
  simp only [C9, L7, D5, H3, M8, WoH.up, E1] at hv ⊢
  by_cases c0 : j.b.st = 0
  ·have hbe : S0 j = 0 := Decidable.byContradiction fun h => c1 ⟨c0, h⟩
   (have zz:=trivial;repeat((first|clear zz|with_reducible first|refine A3 ?_|refine A5 fun _=>?_|refine A4 fun _=>?_);try simp(disch:=first|omega|assumption|((repeat(first|exact A1|exact uH|apply A2|apply uT));first|done|fail)|(simp;first|done|omega|fail))[c0]))
   refine C8 x6 (fun w' hw' => by have := B5E w' b j pv qv hpl (hv w' hw'.ks) (by rw [hw'.pt (b := b) (by (repeat constructor))]; simp only [D5, c0]); rw [hbe] at this; exact this) ?_
   have c01 : j.b.st + 1 = 1 := by omega
   (have zz:=trivial;repeat((first|clear zz|with_reducible first|refine A3 ?_|refine A5 fun _=>?_|refine A4 fun _=>?_);try simp(disch:=first|omega|assumption|((repeat(first|exact A1|exact uH|apply A2|apply uT));first|done|fail)|(simp;first|done|omega|fail))[c0]))
   refine C8 A2b (fun w' hw' => B96 w' m.b m.c _ _ _ _ _ _ 1 (by omega) (hw'.pt (b := m.b) (by (repeat constructor)))) ?_
   (have zz:=trivial;repeat((first|clear zz|with_reducible first|refine A3 ?_|refine A5 fun _=>?_|refine A4 fun _=>?_);try simp(disch:=first|omega|assumption|((repeat(first|exact A1|exact uH|apply A2|apply uT));first|done|fail)|(simp;first|done|omega|fail))[]))
   refine D0 (Hc := D2 m.bc m.cn m.cv m.ov m.cells m.own) Y5 (fun w' _ hs => A8r w' m.bc m.cn m.cv m.ov m.cells m.own (G7 m.c 1) (by omega) hs) (by unfold D2; (repeat' constructor)) ?_
   rintro n' v rfl
   simp only [D2, List.cons_append, List.nil_append]
   refine T4 (e := 3) (k := 1) (v := qv) (q := j.pins.length) (xs := G2 j.pins) (by unfold N4; (repeat constructor)) fun qa qc hq => ?_
   subst hq
   simp only [N4]
   (have zz:=trivial;repeat((first|clear zz|with_reducible first|refine A3 ?_|refine A5 fun _=>?_|refine A4 fun _=>?_|refine G1 fun _=>?_|refine F7 (hK:=fun _=>?_)|refine F9 (hK:=fun _=>?_)|refine F8 (hK:=fun _=>?_)|refine F6 (hK:=fun _=>?_)|refine G0 (hK:=fun _=>?_));try simp(disch:=first|omega|assumption|((repeat(first|exact A1|exact uH|apply A2|apply uT));first|done|fail)|(simp;first|done|omega|fail))[]))
   refine A22 (e := 3) (k := 1) (q := j.pins.length) (r := 1) (xs := G2 j.pins) (news := [.int .i64 (D3 m.cells (G7 m.c 1))]) (by (repeat constructor)) (P4.own (by (repeat constructor))) (by decide) (by simp) (by simp) (by simp only [maxLen]; omega) (by omega) fun a' c' => ?_
   (have zz:=trivial;repeat((first|clear zz|with_reducible first|refine A3 ?_|refine A5 fun _=>?_|refine A4 fun _=>?_);try simp(disch:=first|omega|assumption|((repeat(first|exact A1|exact uH|apply A2|apply uT));first|done|fail)|(simp;first|done|omega|fail))[]))
   refine B1 (.slice a' (j.pins.length + 1) c', { m.dd with cn := n' }) ⟨rfl, rfl⟩ ?_
   simp only [WoH.dd, B7M, List.length_append, List.length_singleton, c0, Int.zero_add]
   (repeat' constructor)
  ·have c3 : j.b.st - m.c.wk < 0 := by omega
   have c4 : j.b.st < m.c.wk := by omega
   (have zz:=trivial;repeat((first|clear zz|with_reducible first|refine A3 ?_|refine A5 fun _=>?_|refine A4 fun _=>?_);try simp(disch:=first|omega|assumption|((repeat(first|exact A1|exact uH|apply A2|apply uT));first|done|fail)|(simp;first|done|omega|fail))[c0, c3, c4]))
   refine C8 A2b (fun w' hw' => B96 w' m.b m.c _ _ _ _ _ _ (j.b.st + 1) (by omega) (hw'.pt (b := m.b) (by (repeat constructor)))) ?_
   (have zz:=trivial;repeat((first|clear zz|with_reducible first|refine A3 ?_|refine A5 fun _=>?_|refine A4 fun _=>?_);try simp(disch:=first|omega|assumption|((repeat(first|exact A1|exact uH|apply A2|apply uT));first|done|fail)|(simp;first|done|omega|fail))[]))
   refine D0 (Hc := D2 m.bc m.cn m.cv m.ov m.cells m.own) Y5 (fun w' _ hs => A8r w' m.bc m.cn m.cv m.ov m.cells m.own (G7 m.c (j.b.st + 1)) (by omega) hs) (by unfold D2; (repeat' constructor)) ?_
   rintro n' v rfl
   simp only [D2, List.cons_append, List.nil_append]
   refine T4 (e := 3) (k := 1) (v := qv) (q := j.pins.length) (xs := G2 j.pins) (by unfold N4; (repeat constructor)) fun qa qc hq => ?_
   subst hq
   simp only [N4]
   (have zz:=trivial;repeat((first|clear zz|with_reducible first|refine A3 ?_|refine A5 fun _=>?_|refine A4 fun _=>?_|refine G1 fun _=>?_|refine F7 (hK:=fun _=>?_)|refine F9 (hK:=fun _=>?_)|refine F8 (hK:=fun _=>?_)|refine F6 (hK:=fun _=>?_)|refine G0 (hK:=fun _=>?_));try simp(disch:=first|omega|assumption|((repeat(first|exact A1|exact uH|apply A2|apply uT));first|done|fail)|(simp;first|done|omega|fail))[]))
   refine A22 (e := 3) (k := 1) (q := j.pins.length) (r := 1) (xs := G2 j.pins) (news := [.int .i64 (D3 m.cells (G7 m.c (j.b.st + 1)))]) (by (repeat constructor)) (P4.own (by (repeat constructor))) (by decide) (by simp) (by simp) (by simp only [maxLen]; omega) (by omega) fun a' c' => ?_
   (have zz:=trivial;repeat((first|clear zz|with_reducible first|refine A3 ?_|refine A5 fun _=>?_|refine A4 fun _=>?_);try simp(disch:=first|omega|assumption|((repeat(first|exact A1|exact uH|apply A2|apply uT));first|done|fail)|(simp;first|done|omega|fail))[]))
   refine B1 (.slice a' (j.pins.length + 1) c', { m.dd with cn := n' }) ⟨rfl, rfl⟩ ?_
   simp only [WoH.dd, B7M, List.length_append, List.length_singleton]
   (repeat' constructor)
 have c0 : ¬ j.b.st = 0 := fun h => c2 (Or.inl h)
 have c3 : ¬ j.b.st - m.c.wk < 0 := fun h => c2 (Or.inr h)
 have c3' : ¬ j.b.st < m.c.wk := by omega
 have hu : E9 j m.ws = if j.b.st - m.c.wk = 0 then S4 j m.ws
  else if j.b.st - m.c.wk = 1 then (E1 j, { m.ws with sl := l3 m.ws.sl j.slot j.pool }, false, false, false)
  else if j.b.st - m.c.wk = 2 then ({ E1 j with old := D3 m.cells 1 }, m.ws, false, false, false)
  else if j.b.st - m.c.wk = 3 then (E1 j, { m.ws with cells := M5 m.cells 1 (j.slot + 1) }, true, false, false)
  else A4f (E1 j) m.ws := by
  unfold E9
  rw [if_neg c1, if_neg (show ¬ (j.b.st = 0 ∨ j.b.st - m.ws.c.wk < 0) from c2)]
  rfl
 by_cases d0 : j.b.st - m.c.wk = 0
 ·rw [if_pos d0] at hu
  rw [hu]
  simp only [C9, L7, D5, H3, M8, WoH.up] at hv ⊢
  have d0' : j.b.st = m.c.wk := by omega
  have z0 : ¬ m.c.wk = 0 := by omega
  (have zz:=trivial;repeat((first|clear zz|with_reducible first|refine A3 ?_|refine A5 fun _=>?_|refine A4 fun _=>?_);try simp(disch:=first|omega|assumption|((repeat(first|exact A1|exact uH|apply A2|apply uT));first|done|fail)|(simp;first|done|omega|fail))[c0, c3, c3', d0]))
  refine D0 (Hc := L7 b j pv qv :: N4 j qv :: C9 m) A5H (fun w' _ hs => C3x w' b j pv qv m hxx (by omega) (by omega) hs) (by simp only [C9, L7, D5, H3, M8]; (repeat' constructor)) ?_
  rintro ⟨ls', k'⟩ v ⟨rfl, hv2⟩
  have hpn := B7C j m.ws
  generalize S4 j m.ws = ut at *
  simp only [C9, L7, D5, H3, M8, WoH.sk, List.cons_append, List.nil_append, L9]
  (have zz:=trivial;repeat((first|clear zz|with_reducible first|refine A3 ?_|refine A5 fun _=>?_|refine A4 fun _=>?_);try simp(disch:=first|omega|assumption|((repeat(first|exact A1|exact uH|apply A2|apply uT));first|done|fail)|(simp;first|done|omega|fail))[]))
  refine B1 (qv, { m.dd with ls := ls', keep := k' }) ⟨rfl, hv2⟩ ?_
  simp only [N4, hpn, WoH.dd]
  (repeat' constructor)
 have f0 : ¬ j.b.st = m.c.wk := by omega
 rw [if_neg d0] at hu
 by_cases d1 : j.b.st - m.c.wk = 1
 ·rw [if_pos d1] at hu
  rw [hu]
  simp only [C9, L7, D5, H3, M8, WoH.up, E1] at hv ⊢
  (have zz:=trivial;repeat((first|clear zz|with_reducible first|refine A3 ?_|refine A5 fun _=>?_|refine A4 fun _=>?_);try simp(disch:=first|omega|assumption|((repeat(first|exact A1|exact uH|apply A2|apply uT));first|done|fail)|(simp;first|done|omega|fail))[c0, c3, c3', d0, d1]))
  refine D0 (Hc := H0 m.bs m.sv m.ls) A77 (fun w' hw' hs => C4B w' m.bs m.sv m.ls j.slot pv j.pool h4 hpl (fun w'' hk => hv w'' ?_) hs) (by unfold H0; (repeat' constructor)) ?_
  ·refine hw'.ks.then hk fun x hx => ?_
   obtain ⟨r, hr, hxr⟩ := G8.1 hx
   exact (hw'.own r (List.mem_append_left _ hr) x hxr).1
  rintro ls' v ⟨hv1, hv2, hv3⟩
  simp only [H0, List.cons_append, List.nil_append]
  (have zz:=trivial;repeat((first|clear zz|with_reducible first|refine A3 ?_|refine A5 fun _=>?_|refine A4 fun _=>?_);try simp(disch:=first|omega|assumption|((repeat(first|exact A1|exact uH|apply A2|apply uT));first|done|fail)|(simp;first|done|omega|fail))[]))
  refine B1 (qv, { m.dd with ls := ls' }) ⟨rfl, by simp only [WoH.ws, WoH.dd, hv3]⟩ ?_
  simp only [N4, WoH.dd]
  (repeat' constructor)
 rw [if_neg d1] at hu
 by_cases d2 : j.b.st - m.c.wk = 2
 ·rw [if_pos d2] at hu
  rw [hu]
  simp only [C9, L7, D5, H3, M8, WoH.up, E1] at hv ⊢
  (have zz:=trivial;repeat((first|clear zz|with_reducible first|refine A3 ?_|refine A5 fun _=>?_|refine A4 fun _=>?_);try simp(disch:=first|omega|assumption|((repeat(first|exact A1|exact uH|apply A2|apply uT));first|done|fail)|(simp;first|done|omega|fail))[c0, c3, c3', d0, d1, d2]))
  refine D0 (Hc := D2 m.bc m.cn m.cv m.ov m.cells m.own) Y5 (fun w' _ hs => A8r w' m.bc m.cn m.cv m.ov m.cells m.own 1 (by omega) hs) (by unfold D2; (repeat' constructor)) ?_
  rintro n' v rfl
  simp only [D2, List.cons_append, List.nil_append]
  (have zz:=trivial;repeat((first|clear zz|with_reducible first|refine A3 ?_|refine A5 fun _=>?_|refine A4 fun _=>?_);try simp(disch:=first|omega|assumption|((repeat(first|exact A1|exact uH|apply A2|apply uT));first|done|fail)|(simp;first|done|omega|fail))[]))
  refine B1 (qv, { m.dd with cn := n' }) ⟨rfl, rfl⟩ ?_
  simp only [N4, WoH.dd]
  (repeat' constructor)
 rw [if_neg d2] at hu
 by_cases d3 : j.b.st - m.c.wk = 3
 ·rw [if_pos d3] at hu
  rw [hu]
  simp only [C9, L7, D5, H3, M8, WoH.up, E1] at hv ⊢
  (have zz:=trivial;repeat((first|clear zz|with_reducible first|refine A3 ?_|refine A5 fun _=>?_|refine A4 fun _=>?_);try simp(disch:=first|omega|assumption|((repeat(first|exact A1|exact uH|apply A2|apply uT));first|done|fail)|(simp;first|done|omega|fail))[c0, c3, c3', d0, d1, d2, d3]))
  refine D0 (Hc := D2 m.bc m.cn m.cv m.ov m.cells m.own) A7C (fun w' _ hs => C2P w' m.bc m.cn m.cv m.ov m.cells m.own 1 (j.slot + 1) (by omega) hs) (by unfold D2; (repeat' constructor)) ?_
  rintro n' v rfl
  simp only [D2, List.cons_append, List.nil_append]
  (have zz:=trivial;repeat((first|clear zz|with_reducible first|refine A3 ?_|refine A5 fun _=>?_|refine A4 fun _=>?_);try simp(disch:=first|omega|assumption|((repeat(first|exact A1|exact uH|apply A2|apply uT));first|done|fail)|(simp;first|done|omega|fail))[]))
  refine B1 (qv, { m.dd with cn := n', cells := M5 m.cells 1 (j.slot + 1) }) ⟨rfl, rfl⟩ ?_
  simp only [N4, WoH.dd]
  (repeat' constructor)
 rw [if_neg d3] at hu
 rw [hu]
 have hcl : ∀ v, (M5 m.cells 0 v).length = m.cells.length := fun v => by unfold M5; split <;> simp
 unfold A4f
 by_cases o1 : 0 < j.old
 ·have hup : (E1 j).old = j.old := rfl
  simp only [hup]
  rw [if_pos o1]
  simp only [C9, L7, D5, H3, M8, WoH.up, E1] at hv ⊢
  (have zz:=trivial;repeat((first|clear zz|with_reducible first|refine A3 ?_|refine A5 fun _=>?_|refine A4 fun _=>?_);try simp(disch:=first|omega|assumption|((repeat(first|exact A1|exact uH|apply A2|apply uT));first|done|fail)|(simp;first|done|omega|fail))[c0, c3, c3', d0, d1, d2, d3, o1]))
  refine D0 (Hc := D2 m.bc m.cn m.cv m.ov m.cells m.own) A2Y (fun w' _ hs => B9Q w' m.bc m.cn m.cv m.ov m.cells m.own 0 1 (by omega) (by omega) hs) (by unfold D2; (repeat' constructor)) ?_
  rintro n' v rfl
  simp only [D2, List.cons_append, List.nil_append]
  (have zz:=trivial;repeat((first|clear zz|with_reducible first|refine A3 ?_|refine A5 fun _=>?_|refine A4 fun _=>?_);try simp(disch:=first|omega|assumption|((repeat(first|exact A1|exact uH|apply A2|apply uT));first|done|fail)|(simp;first|done|omega|fail))[o1]))
  refine D0 (Hc := [T6 m.bk m.keep]) A47 (fun w' _ hs => C0c w' m.bk m.keep (j.old - 1) (IntKind.i64.wrap (D3 m.cells 0 + 1)) h5 hs) (by (repeat' constructor)) ?_
  rintro _ v hv2
  simp only [List.cons_append, List.nil_append]
  (have zz:=trivial;repeat((first|clear zz|with_reducible first|refine A3 ?_|refine A5 fun _=>?_|refine A4 fun _=>?_);try simp(disch:=first|omega|assumption|((repeat(first|exact A1|exact uH|apply A2|apply uT));first|done|fail)|(simp;first|done|omega|fail))[]))
  refine D0 (Hc := [.pt b (.cells (D5 { j.b with st := j.b.st + 1 } [pv, qv, .int .i64 j.slot, .int .i64 j.old]) 94)]) U6 (fun w' _ hs => A4D w' b _ { j.b with st := j.b.st + 1 } _ hs) (by unfold D5; (repeat' constructor)) ?_
  rintro _ v rfl
  simp only [List.cons_append, List.nil_append, L9, D5]
  (have zz:=trivial;repeat((first|clear zz|with_reducible first|refine A3 ?_|refine A5 fun _=>?_|refine A4 fun _=>?_);try simp(disch:=first|omega|assumption|((repeat(first|exact A1|exact uH|apply A2|apply uT));first|done|fail)|(simp;first|done|omega|fail))[]))
  refine B1 (qv, { m.dd with cn := n', cells := M5 m.cells 0 (IntKind.i64.wrap (D3 m.cells 0 + 1)), keep := A6W m.keep (j.old - 1) (IntKind.i64.wrap (D3 m.cells 0 + 1)) }) ⟨rfl, rfl⟩ ?_
  simp only [N4, WoH.dd]
  (repeat' constructor)
 ·have hup : (E1 j).old = j.old := rfl
  simp only [hup]
  rw [if_neg o1]
  simp only [C9, L7, D5, H3, M8, WoH.up, E1] at hv ⊢
  (have zz:=trivial;repeat((first|clear zz|with_reducible first|refine A3 ?_|refine A5 fun _=>?_|refine A4 fun _=>?_);try simp(disch:=first|omega|assumption|((repeat(first|exact A1|exact uH|apply A2|apply uT));first|done|fail)|(simp;first|done|omega|fail))[c0, c3, c3', d0, d1, d2, d3, o1]))
  refine D0 (Hc := D2 m.bc m.cn m.cv m.ov m.cells m.own) A2Y (fun w' _ hs => B9Q w' m.bc m.cn m.cv m.ov m.cells m.own 0 1 (by omega) (by omega) hs) (by unfold D2; (repeat' constructor)) ?_
  rintro n' v rfl
  simp only [D2, List.cons_append, List.nil_append]
  (have zz:=trivial;repeat((first|clear zz|with_reducible first|refine A3 ?_|refine A5 fun _=>?_|refine A4 fun _=>?_);try simp(disch:=first|omega|assumption|((repeat(first|exact A1|exact uH|apply A2|apply uT));first|done|fail)|(simp;first|done|omega|fail))[o1]))
  refine D0 (Hc := [.pt b (.cells (D5 { j.b with st := j.b.st + 1 } [pv, qv, .int .i64 j.slot, .int .i64 j.old]) 94)]) U6 (fun w' _ hs => A4D w' b _ { j.b with st := j.b.st + 1 } _ hs) (by unfold D5; (repeat' constructor)) ?_
  rintro _ v rfl
  simp only [List.cons_append, List.nil_append, L9, D5]
  (have zz:=trivial;repeat((first|clear zz|with_reducible first|refine A3 ?_|refine A5 fun _=>?_|refine A4 fun _=>?_);try simp(disch:=first|omega|assumption|((repeat(first|exact A1|exact uH|apply A2|apply uT));first|done|fail)|(simp;first|done|omega|fail))[]))
  refine B1 (qv, { m.dd with cn := n', cells := M5 m.cells 0 (IntKind.i64.wrap (D3 m.cells 0 + 1)) }) ⟨rfl, rfl⟩ ?_
  simp only [N4, WoH.dd]
  (repeat' constructor)
end Go.Proofs.YtpnidmkaobfhiaaGreat
namespace Go.Proofs.YtpnidmkaobfhiaaGreat
open Go
theorem C2L {κ : Bool} {X : Nat → Prop} {S : List Nat} {w0 : World} {H Hk Hc : List Res} {K : Value → WP} {g : Value} {name : String} {args : List Value} {f : FuncId} {args' : Array Value} {α : Type} {φ : α → Value → Prop} {Hn : α → List Res} (hr : ∀ w, (callMethod g name args.toArray).run PR w = .ok (.enter f args') w)
  (hf : ∀ w, LW κ S w0 (Hc ++ Hk) w → LW false (B2 Hc) w Hc w → Fn PR B6 f args' w (Rn (B2 Hc) w φ Hn)) (hp : Part Hc H Hk) (hK : ∀ a v, φ a v → TW κ S w0 (Hn a ++ Hk) (K v)) : TW κ S w0 H (inv PR X g name args K) := fun w hw =>
 let h := hw.perm hp.perm
 ⟨f, args', hr w, (hf w h (h.sub (List.sublist_append_left _ _)).self).use fun v w' ⟨a, h1, h2⟩ hsk => hK a v h1 w' (h.part (h2.high fun _ => hsk))⟩
abbrev P6 (b : Nat) : Value := .iface 92 (.pointer (some ⟨b, 0, none⟩))
abbrev A2H (b : Nat) : Value := .iface 99 (.pointer (some ⟨b, 0, none⟩))
abbrev A15 (b : Nat) : Value := .iface 102 (.pointer (some ⟨b, 0, none⟩))
abbrev A18 (b : Nat) : Value := .iface 105 (.pointer (some ⟨b, 0, none⟩))
theorem B4L (w : World) (b : Nat) (v : Value) : (callMethod (P6 b) "gangplank/control.step" [v].toArray).run PR w = .ok (.enter 236 #[.pointer (some ⟨b, 0, none⟩), v]) w := by kernel_rfl
theorem B4Q (w : World) (b : Nat) (v : Value) : (callMethod (A2H b) "gangplank/control.step" [v].toArray).run PR w = .ok (.enter 247 #[.pointer (some ⟨b, 0, none⟩), v]) w := by kernel_rfl
theorem B4z (w : World) (b : Nat) (v : Value) : (callMethod (A15 b) "gangplank/control.step" [v].toArray).run PR w = .ok (.enter 250 #[.pointer (some ⟨b, 0, none⟩), v]) w := by kernel_rfl
theorem B38 (w : World) (b : Nat) (v : Value) : (callMethod (A18 b) "gangplank/control.step" [v].toArray).run PR w = .ok (.enter 252 #[.pointer (some ⟨b, 0, none⟩), v]) w := by kernel_rfl
theorem u0 (w : World) (b : Nat) (v : Value) : (callMethod (P6 b) "gangplank/control.waits" [v].toArray).run PR w = .ok (.enter 237 #[.pointer (some ⟨b, 0, none⟩), v]) w := by kernel_rfl
theorem A5S (w : World) (b : Nat) (v : Value) : (callMethod (A2H b) "gangplank/control.waits" [v].toArray).run PR w = .ok (.enter 248 #[.pointer (some ⟨b, 0, none⟩), v]) w := by kernel_rfl
theorem A5r (w : World) (b : Nat) (v : Value) : (callMethod (A15 b) "gangplank/control.waits" [v].toArray).run PR w = .ok (.enter 251 #[.pointer (some ⟨b, 0, none⟩), v]) w := by kernel_rfl
theorem A56 (w : World) (b : Nat) (v : Value) : (callMethod (A18 b) "gangplank/control.waits" [v].toArray).run PR w = .ok (.enter 253 #[.pointer (some ⟨b, 0, none⟩), v]) w := by kernel_rfl
theorem B17 (w : World) (b : Nat) : (callMethod (P6 b) "gangplank/control.common" ([] : List Value).toArray).run PR w = .ok (.enter 235 #[.pointer (some ⟨b, 0, none⟩)]) w := by kernel_rfl
theorem B2p (w : World) (b : Nat) : (callMethod (A2H b) "gangplank/control.common" ([] : List Value).toArray).run PR w = .ok (.enter 235 #[.pointer (some ⟨b, 0, none⟩)]) w := by kernel_rfl
theorem B2L (w : World) (b : Nat) : (callMethod (A15 b) "gangplank/control.common" ([] : List Value).toArray).run PR w = .ok (.enter 235 #[.pointer (some ⟨b, 0, none⟩)]) w := by kernel_rfl
theorem B2n (w : World) (b : Nat) : (callMethod (A18 b) "gangplank/control.common" ([] : List Value).toArray).run PR w = .ok (.enter 235 #[.pointer (some ⟨b, 0, none⟩)]) w := by kernel_rfl
theorem B5f (w : World) (v : Value) : Fn PR B6 235 #[v] w (fun u w' => u = v ∧ C6 [] w w') := by
 refine Fn.pure (A6P (TW.go (κ := false) (S := []) ?_))
 unfold A0q
 exact B0 rfl
theorem B1f {I : Value} {b : Nat} (hI : I = P6 b ∨ I = A2H b ∨ I = A15 b ∨ I = A18 b) (w : World) : (callMethod I "gangplank/control.common" ([] : List Value).toArray).run PR w = .ok (.enter 235 #[.pointer (some ⟨b, 0, none⟩)]) w := by
 rcases hI with rfl | rfl | rfl | rfl
 ·exact B17 w b
 ·exact B2p w b
 ·exact B2L w b
 ·exact B2n w b
theorem A95 (w : World) (jb b : Nat) (I : Value) (j : JB) (rest : List Value) (T : TypeId) (hI : I = P6 b ∨ I = A2H b ∨ I = A15 b ∨ I = A18 b) (h1 : bl w jb = some (.cells #[I] 98 (0, 0))) (h2 : bl w b = some (.cells (D5 j rest) T (0, 0))) :
  Fn PR B6 19 #[.pointer (some ⟨jb, 0, none⟩)] w (fun u w' => u = .int .i64 j.st ∧ C6 [] w w') := by
 refine Fn.pure (A8M (TW.go (κ := false) (S := []) ?_))
 unfold A1f
 have e1 : w.cell? ⟨jb, 0, none⟩ = some I := by rw [D8 h1]; rfl
 have e2 : w.cell? ⟨b, 1, none⟩ = some (.int .i64 j.st) := by rw [D8 h2]; rfl
 (have zz:=trivial;repeat((first|clear zz|with_reducible first|refine A3 ?_|refine A5 fun _=>?_|refine A4 fun _=>?_);try simp(disch:=first|omega|assumption|((repeat(first|exact A1|exact uH|apply A2|apply uT));first|done|fail)|(simp;first|done|omega|fail))[e1]))
 refine A74 (B1f hI) (fun w' _ => B5f w' _) ?_
 (have zz:=trivial;repeat((first|clear zz|with_reducible first|refine A3 ?_|refine A5 fun _=>?_|refine A4 fun _=>?_);try simp(disch:=first|omega|assumption|((repeat(first|exact A1|exact uH|apply A2|apply uT));first|done|fail)|(simp;first|done|omega|fail))[e2]))
 exact B0 rfl
theorem A8T (w : World) (jb b : Nat) (I : Value) (j : JB) (rest : List Value) (T : TypeId) (hI : I = P6 b ∨ I = A2H b ∨ I = A15 b ∨ I = A18 b) (h1 : bl w jb = some (.cells #[I] 98 (0, 0))) (h2 : bl w b = some (.cells (D5 j rest) T (0, 0))) :
  Fn PR B6 20 #[.pointer (some ⟨jb, 0, none⟩)] w (fun u w' => u = j.ans.val ∧ C6 [] w w') := by
 refine Fn.pure (A61 (TW.go (κ := false) (S := []) ?_))
 unfold A1Y
 have e1 : w.cell? ⟨jb, 0, none⟩ = some I := by rw [D8 h1]; rfl
 have e2 : a6 w b 2 4 = some [.int .i64 j.ans.err, .int .i64 j.ans.bk, .bool j.ans.made, .int .i64 j.ans.count] := A1A (by rfl) (N6.bl h2)
 (have zz:=trivial;repeat((first|clear zz|with_reducible first|refine A3 ?_|refine A5 fun _=>?_|refine A4 fun _=>?_);try simp(disch:=first|omega|assumption|((repeat(first|exact A1|exact uH|apply A2|apply uT));first|done|fail)|(simp;first|done|omega|fail))[e1]))
 refine A74 (B1f hI) (fun w' _ => B5f w' _) ?_
 (have zz:=trivial;repeat((first|clear zz|with_reducible first|refine A3 ?_|refine A5 fun _=>?_|refine A4 fun _=>?_);try simp(disch:=first|omega|assumption|((repeat(first|exact A1|exact uH|apply A2|apply uT));first|done|fail)|(simp;first|done|omega|fail))[e2]))
 exact B0 rfl
theorem m9 (w : World) (jb b : Nat) (I : Value) (j : JB) (rest : List Value) (T : TypeId) (wv : Value) (x : Bool) (f : FuncId) (args' : Array Value) (hI : I = P6 b ∨ I = A2H b ∨ I = A15 b ∨ I = A18 b) (h1 : bl w jb = some (.cells #[I] 98 (0, 0))) (h2 : bl w b = some (.cells (D5 j rest) T (0, 0)))
  (hr : ∀ w, (callMethod I "gangplank/control.waits" [wv].toArray).run PR w = .ok (.enter f args') w) (hf : ∀ w', KS false [] w w' → Fn PR B6 f args' w' (fun v w'' => v = .bool x ∧ C6 [] w' w'')) :
  Fn PR B6 15 #[.pointer (some ⟨jb, 0, none⟩), wv] w (fun u w' => u = .bool (!decide (j.st = -1) && !x) ∧ C6 [] w w') := by
 refine Fn.pure (A83 (TW.go (κ := false) (S := []) ?_))
 unfold A1s
 have k1 : ∀ w', KS false [] w w' → bl w' jb = some (.cells #[I] 98 (0, 0)) := fun w' hk => hk.2.1 _ _ (by simp) rfl h1
 have k2 : ∀ w', KS false [] w w' → bl w' b = some (.cells (D5 j rest) T (0, 0)) := fun w' hk => hk.2.1 _ _ (by simp) rfl h2
 refine C8 l4 (fun w' hw' => A95 w' jb b I j rest T hI (k1 w' hw'.ks) (k2 w' hw'.ks)) ?_
 have e1 : w.cell? ⟨jb, 0, none⟩ = some I := by rw [D8 h1]; rfl
 by_cases c1 : j.st = -1
 ·(have zz:=trivial;repeat((first|clear zz|with_reducible first|refine A3 ?_|refine A5 fun _=>?_|refine A4 fun _=>?_);try simp(disch:=first|omega|assumption|((repeat(first|exact A1|exact uH|apply A2|apply uT));first|done|fail)|(simp;first|done|omega|fail))[c1]))
  exact B0 (by simp [c1])
 ·(have zz:=trivial;repeat((first|clear zz|with_reducible first|refine A3 ?_|refine A5 fun _=>?_|refine A4 fun _=>?_);try simp(disch:=first|omega|assumption|((repeat(first|exact A1|exact uH|apply A2|apply uT));first|done|fail)|(simp;first|done|omega|fail))[c1, e1]))
  refine A74 hr (fun w' hw' => hf w' hw'.ks) ?_
  cases x
  ·(have zz:=trivial;repeat((first|clear zz|with_reducible first|refine A3 ?_|refine A5 fun _=>?_|refine A4 fun _=>?_);try simp(disch:=first|omega|assumption|((repeat(first|exact A1|exact uH|apply A2|apply uT));first|done|fail)|(simp;first|done|omega|fail))[c1]))
   exact B0 (by first | rfl | simp [c1])
  ·(have zz:=trivial;repeat((first|clear zz|with_reducible first|refine A3 ?_|refine A5 fun _=>?_|refine A4 fun _=>?_);try simp(disch:=first|omega|assumption|((repeat(first|exact A1|exact uH|apply A2|apply uT));first|done|fail)|(simp;first|done|omega|fail))[c1]))
   exact B0 (by first | rfl | simp [c1])
theorem A5N (w : World) (a b : Value) : Fn PR B6 237 #[a, b] w (fun u w' => u = .bool false ∧ C6 [] w w') := by
 refine Fn.pure (A5C (TW.go (κ := false) (S := []) ?_))
 unfold A0G
 exact B0 rfl
theorem B48 (w : World) (a b : Value) : Fn PR B6 253 #[a, b] w (fun u w' => u = .bool false ∧ C6 [] w w') := by
 refine Fn.pure (A7L (TW.go (κ := false) (S := []) ?_))
 unfold A1T
 exact B0 rfl
end Go.Proofs.YtpnidmkaobfhiaaGreat
namespace Go.Proofs.YtpnidmkaobfhiaaGreat
open Go
def H4 (jb : Nat) (I : Value) : Res := .pt jb (.cells #[I] 98)
def A2r (j : JU) (x : WS) : JU × WS × y6 := if j.b.st = -1 then (j, x, false, false, false) else E9 j x
set_option maxHeartbeats 1000000 in
theorem B5l (w : World) (jb b : Nat) (j : JU) (pv qv : Value) (m : WoH) (hx : WsOk m.ws) (hp : j.pins.length ≤ 500) (hpl : j.pool.length ≤ 1000) (hst : -1 ≤ j.b.st ∧ j.b.st ≤ 500) (hsl : -1 ≤ j.slot ∧ j.slot ≤ 100) (hold : 0 ≤ j.old ∧ j.old ≤ 1000)
  (hv : ∀ w', KS false (B2 (H4 jb (P6 b) :: L7 b j pv qv :: N4 j qv :: C9 m)) w w' → E2 w' pv j.pool.length (j.pool.flatMap E8))
  (hw : LW false (B2 (H4 jb (P6 b) :: L7 b j pv qv :: N4 j qv :: C9 m)) w (H4 jb (P6 b) :: L7 b j pv qv :: N4 j qv :: C9 m) w) :
  Fn PR B6 17 #[.pointer (some ⟨jb, 0, none⟩), .pointer (some ⟨m.b, 0, none⟩)] w (Rn (B2 (H4 jb (P6 b) :: L7 b j pv qv :: N4 j qv :: C9 m)) w (fun (y : Value × WoD) u => u = L9 (A2r j m.ws).2.2 ∧ (m.up y.2).ws = (A2r j m.ws).2.1) fun y => H4 jb (P6 b) :: L7 b (A2r j m.ws).1 pv y.1 :: N4 (A2r j m.ws).1 y.1 :: C9 (m.up y.2)) := by
 refine A2P (TW.goH (κ := false) ?_ hw)
 unfold r5
 generalize hS : B2 (H4 jb (P6 b) :: L7 b j pv qv :: N4 j qv :: C9 m) = S at *
 have hR := fun (w' : World) (h1 : bl w' jb = some (.cells #[P6 b] 98 (0, 0))) (h2 : bl w' b = some (.cells (D5 j.b [pv, qv, .int .i64 j.slot, .int .i64 j.old]) 94 (0, 0))) =>
  m9 w' jb b (P6 b) j.b _ _ (.pointer (some ⟨m.b, 0, none⟩)) false _ _ (Or.inl rfl) h1 h2 (fun w => u0 w b _) (fun w'' _ => A5N w'' _ _)
 (have zz:=trivial;repeat((first|clear zz|with_reducible first|refine A3 ?_|refine A5 fun _=>?_|refine A4 fun _=>?_);try simp(disch:=first|omega|assumption|((repeat(first|exact A1|exact uH|apply A2|apply uT));first|done|fail)|(simp;first|done|omega|fail))[]))
 refine C8 P1 (fun w' hw' => hR w' (hw'.pt (b := jb) (by unfold H4; (repeat constructor))) (hw'.pt (b := b) (by unfold L7; (repeat constructor)))) ?_
 unfold A2r
 by_cases c1 : j.b.st = -1
 ·simp only [if_pos c1]
  (have zz:=trivial;repeat((first|clear zz|with_reducible first|refine A3 ?_|refine A5 fun _=>?_|refine A4 fun _=>?_);try simp(disch:=first|omega|assumption|((repeat(first|exact A1|exact uH|apply A2|apply uT));first|done|fail)|(simp;first|done|omega|fail))[c1]))
  exact B1 (qv, m.dd) ⟨rfl, rfl⟩ (by simp only [WoH.dd, WoH.up]; (repeat' constructor))
 ·simp only [if_neg c1]
  simp only [H4]
  (have zz:=trivial;repeat((first|clear zz|with_reducible first|refine A3 ?_|refine A5 fun _=>?_|refine A4 fun _=>?_);try simp(disch:=first|omega|assumption|((repeat(first|exact A1|exact uH|apply A2|apply uT));first|done|fail)|(simp;first|done|omega|fail))[c1]))
  refine C2L (Hc := L7 b j pv qv :: N4 j qv :: C9 m) (fun w => B4L w b _) (fun w' hw' hs => C4m w' b j pv qv m hx hp hpl (by omega) hsl hold (fun w'' hk => hv w'' ?_) hs) (by simp only [C9]; (repeat' constructor)) ?_
  ·refine hw'.ks.then hk fun x hx => ?_
   obtain ⟨r, hr, hxr⟩ := G8.1 hx
   exact (hw'.own r (List.mem_append_left _ hr) x hxr).1
  rintro ⟨qv', d⟩ v ⟨rfl, hv2⟩
  generalize E9 j m.ws = us at *
  simp only [L9, C9, List.cons_append, List.nil_append]
  (have zz:=trivial;repeat((first|clear zz|with_reducible first|refine A3 ?_|refine A5 fun _=>?_|refine A4 fun _=>?_);try simp(disch:=first|omega|assumption|((repeat(first|exact A1|exact uH|apply A2|apply uT));first|done|fail)|(simp;first|done|omega|fail))[]))
  exact B1 (qv', d) ⟨rfl, hv2⟩ (by (repeat' constructor))
theorem B9p (w : World) (who : Int) (pa : Option Addr) (pn pc : Nat) (pk : ByteArray) (shard : Int) :
  Fn PR B6 10 #[.int .i64 who, .agg #[.int .i64 1, .string pk, .slice pa pn pc, .int .i64 shard]] w (Rn [] w (fun (x : Nat × Nat) u => u = .pointer (some ⟨x.1, 0, none⟩)) fun x => H4 x.1 (P6 x.2) :: [.pt x.2 (.cells (D5 ⟨who, 0, S7⟩ [.slice pa pn pc, .slice none 0 0, .int .i64 0, .int .i64 0]) 94)]) := by
 refine A6x (TW.go (κ := false) (S := []) ?_)
 unfold A2s
 (have zz:=trivial;repeat((first|clear zz|with_reducible first|refine A3 ?_|refine A5 fun _=>?_|refine A4 fun _=>?_);try simp(disch:=first|omega|assumption|((repeat(first|exact A1|exact uH|apply A2|apply uT));first|done|fail)|(simp;first|done|omega|fail))[]))
 rename_i a1 a2 a3 a4
 refine B1 (a4, a3) rfl ?_
 simp only [H4, D5, S7]
 (repeat' constructor)
end Go.Proofs.YtpnidmkaobfhiaaGreat
namespace Go.Proofs.YtpnidmkaobfhiaaGreat
open Go
def U2 : Nat → RunV → RunV → Prop
 | 0, r, r' => r = r'
 | k + 1, r, r' => r.j.ready r.x = true ∧ U2 k r.next r'
theorem U2.trans {r r' r'' : RunV} : ∀ {k m : Nat}, U2 k r r' → U2 m r' r'' → U2 (k + m) r r''
 | 0, m, h, h' => by cases h; simpa using h'
 | k + 1, m, h, h' => by
  rw [show k + 1 + m = k + m + 1 by omega]
  exact ⟨h.1, U2.trans h.2 h'⟩
theorem U2.run {r r' : RunV} : ∀ {k : Nat} (f : Nat), U2 k r r' → T0 (k + f) r = T0 f r'
 | 0, f, h => by cases h; simp
 | k + 1, f, h => by
  rw [show k + 1 + f = k + f + 1 by omega, T0, if_pos h.1]
  exact U2.run f h.2
theorem C7B {r : RunV} (h : r.j.b.st = -1) : ∀ f, T0 f r = r
 | 0 => rfl
 | f + 1 => by rw [T0, if_neg (by simp [JV.ready, h])]
theorem U2.ends {r r' : RunV} {k : Nat} (h : U2 k r r') (hk : k ≤ 200) (he : r'.j.b.st = -1) : T0 200 r = r' := by
 have := h.run (200 - k)
 rw [show k + (200 - k) = 200 by omega] at this
 rw [this, C7B he]
theorem U2.one {r : RunV} (h : r.j.ready r.x = true) : U2 1 r r.next := ⟨h, rfl⟩
theorem m8 {j : JU} {x : WS} (h : j.b.st ≠ -1) : (JV.upd j).ready x = true := by simp [JV.ready, JV.waits, JV.b, h]
theorem x9 (j : JU) (x : WS) (n t b : Nat) : RunV.next ⟨.upd j, x, n, t, b⟩ = ⟨.upd (E9 j x).1, (E9 j x).2.1, n + 1, t + (E9 j x).2.2.1.toNat, b + (E9 j x).2.2.2.2.toNat⟩ := rfl
def B1H (x : WS) (k : Nat) : List Int := (List.range k).map fun i : Nat => D3 x.cells (G7 x.c (((i : Nat) : Int) + 1))
theorem B8c {j : JU} {x : WS} (hs : j.b.st = 0) (hb : S0 j = 0) (hp : j.pins = []) : ∀ k : Nat, (k : Int) ≤ x.c.wk → U2 k ⟨.upd j, x, 0, 0, 0⟩ ⟨.upd { j with b := { j.b with st := (k : Nat) }, pins := B1H x k }, x, k, 0, 0⟩
 | 0, _ => by
  obtain ⟨⟨who, st, ans⟩, pool, pins, slot, old⟩ := j
  simp only at hs hp
  subst hs hp
  rfl
 | k + 1, hk => by
  have ih := B8c (x := x) hs hb hp k (by omega)
  have hrd : ({ j with b := { j.b with st := (k : Nat) }, pins := B1H x k } : JU).b.st ≠ -1 := by show ((k : Nat) : Int) ≠ -1; omega
  refine ih.trans ⟨m8 hrd, ?_⟩
  rw [x9]
  have hb' : ¬ (((k : Nat) : Int) = 0 ∧ S0 { j with b := { j.b with st := (k : Nat) }, pins := B1H x k } ≠ 0) := fun h => h.2 hb
  unfold E9
  simp only
  rw [if_neg hb', if_pos (by omega)]
  show (_ : RunV) = _
  simp only [E1, B1H, List.range_succ, List.map_append, List.map_cons, List.map_nil, Bool.toNat_false, Nat.add_zero]
  rfl
def Y4 (P : List Int) (l : List (Int × Int)) : List (Int × Int) := l.map fun s => if F5 P s then (0, 0) else s
def u4 (P : List Int) (l : List (Int × Int)) (s : List SlV) : List SlV := List.zipWith (fun k s => if F5 P k then .no else s) l s
theorem B3S (P : List Int) (l : List (Int × Int)) : (S2 l P = -1 ∧ ∀ s ∈ l, F5 P s = false) ∨ ∃ i, ∃ h : i < l.length, S2 l P = (i : Nat) ∧ F5 P l[i] = true := by
 unfold S2
 by_cases h : l.findIdx (F5 P) < l.length
 ·right
  refine ⟨_, h, by rw [if_pos h], ?_⟩
  have := List.findIdx_getElem (w := h)
  exact this
 ·left
  rw [if_neg h]
  refine ⟨rfl, fun s hs => ?_⟩
  rw [List.findIdx_lt_length] at h
  cases hr : F5 P s with
  | false => rfl
  | true => exact absurd ⟨s, hs, hr⟩ h
theorem C3n {P : List Int} {l : List (Int × Int)} (h : ∀ s ∈ l, F5 P s = false) : Y4 P l = l := by
 unfold Y4
 rw [List.map_congr_left (g := id) fun s hs => by rw [h s hs]; rfl]
 simp
theorem C11 {P : List Int} {l : List (Int × Int)} (h : ∀ s ∈ l, F5 P s = false) {s : List SlV} (hl : l.length = s.length) : u4 P l s = s := by
 unfold u4
 apply List.ext_getElem (by simp [hl])
 intro i h1 h2
 rw [List.getElem_zipWith, h _ (List.getElem_mem ..)]
 simp
theorem B3K (P : List Int) : F5 P (0, 0) = false := rfl
theorem C0r {P : List Int} {l : List (Int × Int)} {i : Nat} (h : i < l.length) (hr : F5 P l[i] = true) : Y4 P (l.set i (0, 0)) = Y4 P l := by
 unfold Y4
 apply List.ext_getElem (by simp)
 intro k h1 h2
 simp only [List.getElem_map, List.getElem_set]
 by_cases e : i = k
 ·subst e; simp [hr, B3K]
 ·simp [e]
theorem C0A {P : List Int} {l : List (Int × Int)} {i : Nat} (h : i < l.length) (hr : F5 P l[i] = true) {s : List SlV} (hl : l.length = s.length) : u4 P (l.set i (0, 0)) (s.set i .no) = u4 P l s := by
 unfold u4
 apply List.ext_getElem (by simp)
 intro k h1 h2
 simp only [List.getElem_zipWith, List.getElem_set]
 by_cases e : i = k
 ·subst e; simp [hr, B3K]
 ·simp [e]
theorem C1z {P : List Int} {l : List (Int × Int)} {i : Nat} (h : i < l.length) (hr : F5 P l[i] = true) : (l.set i (0, 0)).countP (F5 P) + 1 = l.countP (F5 P) := by
 rw [List.countP_set h, if_pos hr]
 have h1 : 0 < l.countP (F5 P) := List.countP_pos_iff.2 ⟨_, List.getElem_mem h, hr⟩
 simp only [B3K, Bool.false_eq_true, if_false]
 omega
theorem B7P {j : JU} : ∀ (m : Nat) {x : WS} {n t b : Nat}, x.keep.countP (F5 j.pins) = m → j.b.st = x.c.wk → 1 ≤ x.c.wk → x.keep.length = x.sl.length →
  U2 m ⟨.upd j, x, n, t, b⟩ ⟨.upd j, { x with sl := u4 j.pins x.keep x.sl, keep := Y4 j.pins x.keep }, n + m, t, b⟩
 | m, x, n, t, b, hm, hs, hw, hl => by
  rcases B3S j.pins x.keep with ⟨h1, h2⟩ | ⟨i, hi, h1, h2⟩
  ·have : x.keep.countP (F5 j.pins) = 0 := by
    rw [List.countP_eq_zero]; intro s hs; rw [h2 s hs]; simp
   obtain rfl : m = 0 := by omega
   rw [C3n h2, C11 h2 hl]
   rfl
  ·have hc := C1z hi h2
   obtain ⟨m, rfl⟩ : ∃ q, m = q + 1 := ⟨m - 1, by omega⟩
   refine ⟨m8 (by omega), ?_⟩
   rw [x9]
   have hb' : ¬ (j.b.st = 0 ∧ S0 j ≠ 0) := fun h => by omega
   have hst : E9 j x = (j, { x with sl := x.sl.set i .no, keep := x.keep.set i (0, 0) }, false, false, false) := by
    unfold E9
    rw [if_neg hb', if_neg (by omega), if_pos (by omega)]
    unfold S4
    rw [h1, if_pos (by omega)]
    have e1 : Q3 x.sl i .no = x.sl.set i .no := by unfold Q3; rw [if_pos (by omega)]; simp
    have h3 : (x.keep[i]).1 = 2 := by unfold F5 at h2; simp only [Bool.and_eq_true, decide_eq_true_eq] at h2; exact h2.1
    have e3 : stK x.keep i = 2 := by
     unfold stK; rw [if_pos (by omega), Int.toNat_natCast, List.getD_eq_getElem?_getD, List.getElem?_eq_getElem hi]; exact h3
    have e2 : A38 x.keep i = x.keep.set i (0, 0) := by
     unfold A38 A2x; rw [if_pos ⟨e3, by omega⟩, Int.toNat_natCast]
    rw [e1, e2]
   rw [hst]
   have ih := B7P (j := j) m (x := { x with sl := x.sl.set i .no, keep := x.keep.set i (0, 0) }) (n := n + 1) (t := t) (b := b) (by simp only; omega) hs hw (by simp [hl])
   simp only [C0r hi h2, C0A hi h2 hl] at ih
   simpa [Nat.add_assoc, Nat.add_comm 1 m] using ih
end Go.Proofs.YtpnidmkaobfhiaaGreat
namespace Go.Proofs.YtpnidmkaobfhiaaGreat
open Go
structure UInv (n : Nat) (j : JU) (x : WS) : Prop where
 ok : WsOk x
 st : -1 ≤ j.b.st ∧ j.b.st ≤ n
 pins : j.pins.length ≤ n
 slot : -1 ≤ j.slot ∧ j.slot ≤ 8
 old : 0 ≤ j.old ∧ j.old ≤ 1000
 cur : 0 ≤ D3 x.cells 1 ∧ D3 x.cells 1 ≤ 1000
theorem W9 (l : List SlV) (i : Int) (x : SlV) : (Q3 l i x).length = l.length := by unfold Q3; split <;> simp
theorem A3V (l : List SlV) (i : Int) (p : List F2) : (l3 l i p).length = l.length := by
 unfold l3; split
 ·split
  ·exact W9 _ _ _
  ·rfl
 ·rfl
theorem A1W (l : List (Int × Int)) (i a : Int) (s : Int × Int) : (A2x l i a s).length = l.length := by unfold A2x; split <;> simp
theorem A1n (l : List (Int × Int)) : (M1 l).length = l.length := by unfold M1; split <;> simp
theorem c7 (l : List Int) (i v : Int) : (M5 l i v).length = l.length := by unfold M5; split <;> simp
theorem b8 (l : List Int) (i v : Int) : D3 (M5 l i v) i = if 0 ≤ i ∧ i < l.length then v else 0 := by
 unfold D3 M5
 by_cases h : 0 ≤ i ∧ i < l.length
 ·rw [if_pos h, if_pos h, if_pos (by rw [List.length_set]; exact h), List.getD_eq_getElem?_getD, List.getElem?_set_self (by omega)]; rfl
 ·rw [if_neg h, if_neg h, if_neg h]
theorem Q6 {i k : Int} (l : List Int) (v : Int) (h : i ≠ k) : D3 (M5 l i v) k = D3 l k := by
 unfold D3 M5
 by_cases h1 : 0 ≤ i ∧ i < l.length
 ·rw [if_pos h1, List.length_set]
  by_cases h2 : 0 ≤ k ∧ k < l.length
  ·rw [if_pos h2, if_pos h2, List.getD_eq_getElem?_getD, List.getD_eq_getElem?_getD, List.getElem?_set_ne (by omega)]
  ·rw [if_neg h2, if_neg h2]
 ·rw [if_neg h1]
theorem B7q (l : List (Int × Int)) : -1 ≤ G4 l ∧ G4 l < max 1 l.length := by
 unfold G4; split <;> omega
theorem A9v (j : JU) (x : WS) : (E9 j x).1.pool = j.pool := by
 unfold E9 S4 E1 A4f
 repeat' split
 all_goals rfl
theorem C27 {n : Nat} {j : JU} {x : WS} (h : UInv n j x) (hst : j.b.st ≠ -1) : UInv (n + 1) (E9 j x).1 (E9 j x).2.1 := by
 obtain ⟨⟨w1, w2, w3, w4, w5⟩, s1, s2, s3, s4, s5⟩ := h
 have ht := B7q x.keep
 unfold E9
 by_cases c1 : j.b.st = 0 ∧ S0 j ≠ 0
 ·rw [if_pos c1]
  exact ⟨⟨w1, w2, w3, w4, w5⟩, by simp only [JB.refuse]; omega, by simp only; omega, s3, s4, s5⟩
 rw [if_neg c1]
 by_cases c2 : j.b.st = 0 ∨ j.b.st - x.c.wk < 0
 ·rw [if_pos c2]
  exact ⟨⟨w1, w2, w3, w4, w5⟩, by simp only [E1]; omega, by simp only [List.length_append, List.length_singleton]; omega, s3, s4, s5⟩
 rw [if_neg c2]
 by_cases d0 : j.b.st - x.c.wk = 0
 ·rw [if_pos d0]
  unfold S4
  by_cases e1 : 0 ≤ S2 x.keep j.pins
  ·rw [if_pos e1]
   exact ⟨⟨w1, w2, w3, by simp only [W9]; omega, by simp only [A38, A1W]; omega⟩, by simp only; omega, by simp only; omega, s3, s4, s5⟩
  rw [if_neg e1]
  by_cases e2 : G4 x.keep < 0
  ·rw [if_pos e2]
   exact ⟨⟨w1, w2, w3, w4, w5⟩, by simp only [JB.refuse]; omega, by simp only; omega, by simp only; omega, s4, s5⟩
  rw [if_neg e2]
  exact ⟨⟨w1, w2, w3, by simp only [W9]; omega, by simp only [A1n]; omega⟩, by simp only; omega, by simp only; omega, by simp only; omega, s4, s5⟩
 rw [if_neg d0]
 by_cases d1 : j.b.st - x.c.wk = 1
 ·rw [if_pos d1]
  exact ⟨⟨w1, w2, w3, by simp only [A3V]; omega, w5⟩, by simp only [E1]; omega, by simp only [E1]; omega, s3, s4, s5⟩
 rw [if_neg d1]
 by_cases d2 : j.b.st - x.c.wk = 2
 ·rw [if_pos d2]
  exact ⟨⟨w1, w2, w3, w4, w5⟩, by simp only [E1]; omega, by simp only [E1]; omega, s3, s5, s5⟩
 rw [if_neg d2]
 by_cases d3 : j.b.st - x.c.wk = 3
 ·rw [if_pos d3]
  refine ⟨⟨w1, by simp only [c7]; omega, w3, w4, w5⟩, by simp only [E1]; omega, by simp only [E1]; omega, s3, s4, ?_⟩
  simp only [b8]
  split <;> omega
 rw [if_neg d3]
 unfold A4f
 refine ⟨⟨w1, by simp only [c7]; omega, w3, w4, ?_⟩, by simp only; omega, by simp only [E1]; omega, s3, s4, ?_⟩
 ·simp only
  split
  ·simp only [A6W, A1W]; omega
  ·omega
 ·simp only
  rw [Q6 _ _ (by omega)]
  exact s5
end Go.Proofs.YtpnidmkaobfhiaaGreat
namespace Go.Proofs.YtpnidmkaobfhiaaGreat
open Go
theorem n4 : ∀ A : List Res, Sels A A
 | [] => Sels.nil
 | r :: A => Sels.cons Sel.here (n4 A)
theorem B5F : ∀ A : List Res, Part A A []
 | [] => Part.nil
 | r :: A => Part.cons Sel.here (B5F A)
theorem B2Q (B : List Res) : ∀ A : List Res, Part A (A ++ B) B
 | [] => Part.nil
 | r :: A => Part.cons Sel.here (B2Q B A)
def A5m (x : JV × WS) : JV × WS := ((x.1.step0 x.2).1, (x.1.step0 x.2).2.1)
def Z9 (x : JV × WS) (n tk bad : Nat) : RunV := ⟨x.1, x.2, n, tk, bad⟩
theorem B8S {x : JV × WS} {n tk bad : Nat} (h : x.1.ready x.2 = false) : ∀ f, T0 f (Z9 x n tk bad) = Z9 x n tk bad
 | 0 => rfl
 | f + 1 => by rw [T0, if_neg (by rw [show (Z9 x n tk bad).j.ready (Z9 x n tk bad).x = false from h]; decide)]
theorem B5N {x : JV × WS} {n tk bad : Nat} (h : x.1.ready x.2 = true) (f : Nat) : T0 (f + 1) (Z9 x n tk bad) = T0 f (Z9 (A5m x) (n + 1) (tk + (x.1.step0 x.2).2.2.1.toNat) (bad + (x.1.step0 x.2).2.2.2.2.toNat)) := by
 rw [T0, if_pos (show (Z9 x n tk bad).j.ready (Z9 x n tk bad).x = true from h)]; rfl
abbrev C0p (α : Type) := α × Nat × Nat × Nat
def D1U (α : Type) (φ : Nat → α → Prop) (V : α → JV × WS) (R : RunV) (y : C0p α) : Prop := φ y.2.1 y.1 ∧ T0 (200 - y.2.1) (Z9 (V y.1) y.2.1 y.2.2.1 y.2.2.2) = R
set_option maxHeartbeats 1000000 in
theorem C5q {α : Type} (w : World) (jp wp : Value) (Hh : α → List Res) (φ : Nat → α → Prop) (V : α → JV × WS) (a0 : α) (h0 : φ 0 a0)
  (hR : ∀ n a w', φ n a → LW false (B2 (Hh a0)) w (Hh a) w' → Fn PR B6 15 #[jp, wp] w' (fun u w'' => u = .bool ((V a).1.ready (V a).2) ∧ C6 [] w' w''))
  (hS : ∀ n a w', n < 200 → φ n a → (V a).1.ready (V a).2 = true → LW false (B2 (Hh a0)) w (Hh a) w' → LW false (B2 (Hh a)) w' (Hh a) w' → Fn PR B6 17 #[jp, wp] w' (Rn (B2 (Hh a)) w' (fun (a' : α) u => u = L9 ((V a).1.step0 (V a).2).2.2 ∧ V a' = A5m (V a) ∧ φ (n + 1) a') Hh))
  (hw : LW false (B2 (Hh a0)) w (Hh a0) w) :
  Fn PR B6 23 #[jp, wp] w (Rn (B2 (Hh a0)) w (fun (y : C0p α) u => u = .tuple #[.int .i64 (y.2.1 : Nat), .int .i64 (y.2.2.1 : Nat), .int .i64 (y.2.2.2 : Nat)] ∧ φ y.2.1 y.1 ∧ Z9 (V y.1) y.2.1 y.2.2.1 y.2.2.2 = T0 200 (Z9 (V a0) 0 0 0)) fun y => Hh y.1) := by
 refine A6r (TW.goH (κ := false) ?_ hw)
 unfold A1V
 generalize hR0 : T0 200 (Z9 (V a0) 0 0 0) = R0
 generalize hS0 : B2 (Hh a0) = S at *
 (have zz:=trivial;repeat((first|clear zz|with_reducible first|refine A3 ?_|refine A5 fun _=>?_|refine A4 fun _=>?_);try simp(disch:=first|omega|assumption|((repeat(first|exact A1|exact uH|apply A2|apply uT));first|done|fail)|(simp;first|done|omega|fail))[]))
 refine C50 (fun y : C0p α => Hh y.1) (fun y => (y.2.1 ≤ 200 ∧ y.2.2.1 ≤ y.2.1 ∧ y.2.2.2 ≤ y.2.1) ∧ D1U α φ V R0 y) (fun y => 200 - y.2.1) (a0, 0, 0, 0) (fun y => .int .i64 (y.2.1 : Nat)) (fun y => .int .i64 (y.2.2.1 : Nat)) (fun y => .int .i64 (y.2.2.2 : Nat)) ⟨⟨Nat.zero_le _, Nat.le_refl _, Nat.le_refl _⟩, h0, hR0⟩ ?_
 rintro ⟨a, n, tk, bad⟩ ⟨⟨h1, h2, h3⟩, h6, h7⟩ L hL
 simp only at h1 h2 h3 h6 h7 ⊢
 have hR' := fun w' hw' => hR n a w' h6 hw'
 have hfin : (V a).1.ready (V a).2 = false ∨ n = 200 → Z9 (V a) n tk bad = R0 := fun h => by
  rcases h with h | h
  ·rw [← h7, B8S h]
  ·rw [← h7, show 200 - n = 0 by omega]; rfl
 by_cases c1 : n < 200
 case neg =>
  have c1' : ¬ ((n : Nat) : Int) < 200 := by omega
  have c2 := hfin (Or.inr (by omega))
  clear hfin h7 hR hS hL hR0
  (have zz:=trivial;repeat((first|clear zz|with_reducible first|refine A3 ?_|refine A5 fun _=>?_|refine A4 fun _=>?_);try simp(disch:=first|omega|assumption|((repeat(first|exact A1|exact uH|apply A2|apply uT));first|done|fail)|(simp;first|done|omega|fail))[c1, c1']))
  exact B1 (a, n, tk, bad) ⟨rfl, h6, c2⟩ (n4 _)
 have hS' := fun w' hr hw' hs => hS n a w' c1 h6 hr hw' hs
 have hnx : (V a).1.ready (V a).2 = true → T0 (200 - (n + 1)) (Z9 (A5m (V a)) (n + 1) (tk + ((V a).1.step0 (V a).2).2.2.1.toNat) (bad + ((V a).1.step0 (V a).2).2.2.2.2.toNat)) = R0 := fun h => by
  rw [← h7, ← B5N h, show 200 - (n + 1) + 1 = 200 - n by omega]
 obtain ⟨told, ht⟩ : ∃ t, t = ((V a).1.step0 (V a).2).2.2 := ⟨_, rfl⟩
 rw [← ht] at hnx hS'
 obtain ⟨rd, hrd⟩ : ∃ r, r = (V a).1.ready (V a).2 := ⟨_, rfl⟩
 rw [← hrd] at hnx hR' hS' hfin
 obtain ⟨x', hx'⟩ : ∃ x, x = A5m (V a) := ⟨_, rfl⟩
 rw [← hx'] at hnx hS'
 clear hR hS hR0 h7 hrd ht hx'
 have c1' : ((n : Nat) : Int) < 200 := by omega
 (have zz:=trivial;repeat((first|clear zz|with_reducible first|refine A3 ?_|refine A5 fun _=>?_|refine A4 fun _=>?_);try simp(disch:=first|omega|assumption|((repeat(first|exact A1|exact uH|apply A2|apply uT));first|done|fail)|(simp;first|done|omega|fail))[c1, c1']))
 refine C8 P1 (fun w' hw' => hR' w' hw') ?_
 cases rd with
 | false =>
  (have zz:=trivial;repeat((first|clear zz|with_reducible first|refine A3 ?_|refine A5 fun _=>?_|refine A4 fun _=>?_);try simp(disch:=first|omega|assumption|((repeat(first|exact A1|exact uH|apply A2|apply uT));first|done|fail)|(simp;first|done|omega|fail))[c1, c1']))
  exact B1 (a, n, tk, bad) ⟨rfl, h6, hfin (Or.inl rfl)⟩ (n4 _)
 | true =>
  (have zz:=trivial;repeat((first|clear zz|with_reducible first|refine A3 ?_|refine A5 fun _=>?_|refine A4 fun _=>?_);try simp(disch:=first|omega|assumption|((repeat(first|exact A1|exact uH|apply A2|apply uT));first|done|fail)|(simp;first|done|omega|fail))[c1, c1']))
  refine D0 (Hc := Hh a) (Hk := []) n9 (fun w' hw' hs => hS' w' rfl (by simpa using hw') hs) (B5F _) ?_
  rintro a' v ⟨rfl, hv2, hv3⟩
  obtain ⟨t1, t2, t3⟩ := told
  have h := hnx rfl
  simp only at h
  rw [← hv2] at h
  simp only [L9, List.append_nil]
  cases t1 <;> cases t3
  all_goals
   (have zz:=trivial;repeat((first|clear zz|with_reducible first|refine A3 ?_|refine A5 fun _=>?_|refine A4 fun _=>?_);try simp(disch:=first|omega|assumption|((repeat(first|exact A1|exact uH|apply A2|apply uT));first|done|fail)|(simp;first|done|omega|fail))[]))
   refine TW.sub (hL (a', n + 1, _, _) ⟨⟨by simp only; omega, by simp only; omega, by simp only; omega⟩, hv3, h⟩ (by simp only; omega)) (by ((try simp only [List.cons_append, List.nil_append, List.append_assoc]); (repeat (first | exact List.Sublist.refl _ | exact List.nil_sublist _ | with_reducible apply List.Sublist.cons_cons | apply List.Sublist.cons)); first | done | fail))
end Go.Proofs.YtpnidmkaobfhiaaGreat
namespace Go.Proofs.YtpnidmkaobfhiaaGreat
open Go
def G3 (who : Int) (p : List F2) : JU := ⟨⟨who, 0, S7⟩, p, [], 0, 0⟩
abbrev pW (x : WS) : List Int := B1H x x.c.wk.toNat
abbrev kF (x : WS) : List (Int × Int) := Y4 (pW x) x.keep
abbrev sF (x : WS) : List SlV := u4 (pW x) x.keep x.sl
theorem C1F (P : List Int) (l : List (Int × Int)) : S2 (Y4 P l) P = -1 := by
 rcases B3S P (Y4 P l) with ⟨h, _⟩ | ⟨i, hi, _, h⟩
 ·exact h
 ·exfalso
  have hi' : i < l.length := by unfold Y4 at hi; simpa using hi
  have e : (Y4 P l)[i] = if F5 P l[i] then (0, 0) else l[i] := by simp [Y4]
  rw [e] at h
  cases hr : F5 P l[i] with
  | true => rw [hr] at h; simp [B3K] at h
  | false => rw [hr] at h; simp [hr] at h
theorem S6 (P : List Int) (l : List (Int × Int)) : (Y4 P l).length = l.length := by unfold Y4; simp
theorem y3 {P : List Int} {l : List (Int × Int)} {s : List SlV} (h : l.length = s.length) : (u4 P l s).length = s.length := by unfold u4; simp [h]
theorem A7e {l : List SlV} {i : Int} {x : SlV} (h : 0 ≤ i ∧ i < l.length) : Q3 l i x = l.set i.toNat x := if_pos h
theorem C47 {l : List SlV} {i : Int} {x : SlV} (h : 0 ≤ i ∧ i < l.length) : N3 (Q3 l i x) i = x := by
 rw [A7e h]; unfold N3
 rw [if_pos (by rw [List.length_set]; exact h), List.getD_eq_getElem?_getD, List.getElem?_set_self (by omega)]; rfl
theorem C4N {l : List SlV} {i : Int} {p : List F2} (h : 0 ≤ i ∧ i < l.length) (hp : L8 p = 0) : l3 (Q3 l i .bld) i p = Q3 l i (.rdy p) := by
 unfold l3
 rw [C47 h]
 simp only [if_pos hp]
 have h' : 0 ≤ i ∧ i < (Q3 l i .bld).length := by rw [W9]; exact h
 rw [A7e h', A7e h, A7e h, List.set_set]
def A08 (x : WS) : Nat := x.keep.countP (F5 (pW x))
theorem C6k {p : List F2} {x : WS} (hp : L8 p = 0) (hw : 1 ≤ x.c.wk) (hl : x.keep.length = x.sl.length) :
  U2 (x.c.wk.toNat + A08 x) ⟨.upd (G3 0 p), x, 0, 0, 0⟩ ⟨.upd { G3 0 p with b := ⟨0, x.c.wk, S7⟩, pins := pW x }, { x with sl := sF x, keep := kF x }, x.c.wk.toNat + A08 x, 0, 0⟩ := by
 have h1 := B8c (j := G3 0 p) (x := x) rfl (by simpa [S0, G3] using hp) rfl x.c.wk.toNat (by omega)
 have e : ((x.c.wk.toNat : Nat) : Int) = x.c.wk := by omega
 rw [e] at h1
 have h2 := B7P (j := { G3 0 p with b := ⟨0, x.c.wk, S7⟩, pins := pW x }) (A08 x) (x := x) (n := x.c.wk.toNat) (t := 0) (b := 0) rfl rfl hw hl
 exact h1.trans h2
def epW (x : WS) : Int := IntKind.i64.wrap (D3 x.cells 0 + 1)
def H8 (x : WS) (p : List F2) : WS :=
 { x with cells := M5 (M5 x.cells 1 (G4 (kF x) + 1)) 0 (epW x), sl := Q3 (sF x) (G4 (kF x)) (.rdy p), keep := if 0 < D3 x.cells 1 then A6W (M1 (kF x)) (D3 x.cells 1 - 1) (epW x) else M1 (kF x) }
theorem C4j {l : List (Int × Int)} (h : ¬ G4 l < 0) : 0 ≤ G4 l ∧ G4 l < l.length := by
 unfold G4 at *
 split at h
 ·rw [if_pos (by assumption)]; omega
 ·omega
theorem C4W {p : List F2} {x : WS} (hp : L8 p = 0) (hw : 1 ≤ x.c.wk ∧ x.c.wk ≤ 64) (hl : x.keep.length = x.sl.length) (h8 : x.keep.length ≤ 8) (ht : ¬ G4 (kF x) < 0) :
  T0 200 ⟨.upd (G3 0 p), x, 0, 0, 0⟩ = ⟨.upd { G3 0 p with b := ⟨0, -1, S7⟩, pins := pW x, slot := G4 (kF x), old := D3 x.cells 1 }, H8 x p, x.c.wk.toNat + A08 x + 5, 1, 0⟩ := by
 have h := C6k (p := p) hp hw.1 hl
 have hc : A08 x ≤ x.keep.length := List.countP_le_length
 have hin : 0 ≤ G4 (kF x) ∧ G4 (kF x) < (sF x).length := by
  have := C4j ht
  rw [S6] at this
  rw [y3 hl]
  omega
 have hrd : ∀ {j : JU} {k : Int}, j.b.st = x.c.wk + k → 0 ≤ k → j.b.st ≠ -1 := fun h h' => by omega
 generalize hq : G4 (kF x) = s at *
 have g1 : U2 1 ⟨.upd { G3 0 p with b := ⟨0, x.c.wk, S7⟩, pins := pW x }, { x with sl := sF x, keep := kF x }, x.c.wk.toNat + A08 x, 0, 0⟩ ⟨.upd { G3 0 p with b := ⟨0, x.c.wk + 1, S7⟩, pins := pW x, slot := s }, { x with sl := Q3 (sF x) s .bld, keep := M1 (kF x) }, x.c.wk.toNat + A08 x + 1, 0, 0⟩ := by
  refine ⟨m8 (hrd (k := 0) (by simp) (by omega)), ?_⟩
  rw [x9]
  unfold E9
  simp only
  rw [if_neg (by omega), if_neg (by omega), if_pos (by omega)]
  unfold S4
  simp only
  rw [C1F, if_neg (by omega), hq, if_neg ht]
  rfl
 have g2 : U2 1 ⟨.upd { G3 0 p with b := ⟨0, x.c.wk + 1, S7⟩, pins := pW x, slot := s }, { x with sl := Q3 (sF x) s .bld, keep := M1 (kF x) }, x.c.wk.toNat + A08 x + 1, 0, 0⟩ ⟨.upd { G3 0 p with b := ⟨0, x.c.wk + 2, S7⟩, pins := pW x, slot := s }, { x with sl := Q3 (sF x) s (.rdy p), keep := M1 (kF x) }, x.c.wk.toNat + A08 x + 2, 0, 0⟩ := by
  refine ⟨m8 (hrd (k := 1) rfl (by omega)), ?_⟩
  rw [x9]
  unfold E9
  simp only
  rw [if_neg (by omega), if_neg (by omega), if_neg (by omega), if_pos (by omega)]
  show (_ : RunV) = _
  simp only [E1, G3, C4N hin hp, show x.c.wk + 1 + 1 = x.c.wk + 2 by omega, Bool.toNat_false, Nat.add_zero]
 have g3 : U2 1 ⟨.upd { G3 0 p with b := ⟨0, x.c.wk + 2, S7⟩, pins := pW x, slot := s }, { x with sl := Q3 (sF x) s (.rdy p), keep := M1 (kF x) }, x.c.wk.toNat + A08 x + 2, 0, 0⟩ ⟨.upd { G3 0 p with b := ⟨0, x.c.wk + 3, S7⟩, pins := pW x, slot := s, old := D3 x.cells 1 }, { x with sl := Q3 (sF x) s (.rdy p), keep := M1 (kF x) }, x.c.wk.toNat + A08 x + 3, 0, 0⟩ := by
  refine ⟨m8 (hrd (k := 2) rfl (by omega)), ?_⟩
  rw [x9]
  unfold E9
  simp only
  rw [if_neg (by omega), if_neg (by omega), if_neg (by omega), if_neg (by omega), if_pos (by omega)]
  show (_ : RunV) = _
  simp only [E1, G3, show x.c.wk + 2 + 1 = x.c.wk + 3 by omega, Bool.toNat_false, Nat.add_zero]
 have g4 : U2 1 ⟨.upd { G3 0 p with b := ⟨0, x.c.wk + 3, S7⟩, pins := pW x, slot := s, old := D3 x.cells 1 }, { x with sl := Q3 (sF x) s (.rdy p), keep := M1 (kF x) }, x.c.wk.toNat + A08 x + 3, 0, 0⟩ ⟨.upd { G3 0 p with b := ⟨0, x.c.wk + 4, S7⟩, pins := pW x, slot := s, old := D3 x.cells 1 }, { x with cells := M5 x.cells 1 (s + 1), sl := Q3 (sF x) s (.rdy p), keep := M1 (kF x) }, x.c.wk.toNat + A08 x + 4, 1, 0⟩ := by
  refine ⟨m8 (hrd (k := 3) rfl (by omega)), ?_⟩
  rw [x9]
  unfold E9
  simp only
  rw [if_neg (by omega), if_neg (by omega), if_neg (by omega), if_neg (by omega), if_neg (by omega), if_pos (by omega)]
  show (_ : RunV) = _
  simp only [E1, G3, show x.c.wk + 3 + 1 = x.c.wk + 4 by omega, Bool.toNat_false, Bool.toNat_true, Nat.add_zero]
 have g5 : U2 1 ⟨.upd { G3 0 p with b := ⟨0, x.c.wk + 4, S7⟩, pins := pW x, slot := s, old := D3 x.cells 1 }, { x with cells := M5 x.cells 1 (s + 1), sl := Q3 (sF x) s (.rdy p), keep := M1 (kF x) }, x.c.wk.toNat + A08 x + 4, 1, 0⟩ ⟨.upd { G3 0 p with b := ⟨0, -1, S7⟩, pins := pW x, slot := s, old := D3 x.cells 1 }, H8 x p, x.c.wk.toNat + A08 x + 5, 1, 0⟩ := by
  refine ⟨m8 (hrd (k := 4) rfl (by omega)), ?_⟩
  rw [x9]
  unfold E9
  simp only
  rw [if_neg (by omega), if_neg (by omega), if_neg (by omega), if_neg (by omega), if_neg (by omega), if_neg (by omega)]
  show (_ : RunV) = _
  simp only [E1, A4f, G3, H8, epW, hq, Q6 x.cells (s + 1) (show (1 : Int) ≠ 0 by omega), Bool.toNat_false, Nat.add_zero]
 refine Eq.trans (((((h.trans g1).trans g2).trans g3).trans g4).trans g5 |>.ends (by omega) rfl) rfl
end Go.Proofs.YtpnidmkaobfhiaaGreat
namespace Go.Proofs.YtpnidmkaobfhiaaGreat
open Go
abbrev UpA := JU × Value × WoD
def upH (jb b : Nat) (pv : Value) (m : WoH) (a : UpA) : List Res := H4 jb (P6 b) :: L7 b a.1 pv a.2.1 :: N4 a.1 a.2.1 :: C9 (m.up a.2.2)
theorem C15 {j : JU} {x : WS} (h : j.b.st ≠ -1) : A2r j x = E9 j x := if_neg h
theorem C3F (w w' : World) (jb b : Nat) (pv : Value) (m : WoH) (a : UpA) {κ : Bool} {S : List Nat} {H : List Res} (h1 : H4 jb (P6 b) ∈ H) (h2 : L7 b a.1 pv a.2.1 ∈ H) (v : Value) (x : WS) (hw' : LW κ S w H w') :
  Fn PR B6 15 #[.pointer (some ⟨jb, 0, none⟩), v] w' (fun u w'' => u = .bool ((JV.upd a.1).ready x) ∧ C6 [] w' w'') :=
 m9 w' jb b (P6 b) a.1.b _ _ v false _ _ (Or.inl rfl) (hw'.pt h1) (hw'.pt h2) (fun w => u0 w b _) (fun w'' _ => A5N w'' _ _)
theorem B5K (w w' : World) (jb b : Nat) (pv : Value) (m : WoH) (p : List F2) (hpl : p.length ≤ 1000) {S : List Nat} (n : Nat) (hn : n < 400) (a : UpA) (hi : UInv n a.1 (m.up a.2.2).ws) (hp : a.1.pool = p) (hrd : (JV.upd a.1).ready (m.up a.2.2).ws = true) (hv : ∀ w', KS false S w w' → E2 w' pv p.length (p.flatMap E8))
  (hw' : LW false S w (upH jb b pv m a) w') (hs : LW false (B2 (upH jb b pv m a)) w' (upH jb b pv m a) w') :
  Fn PR B6 17 #[.pointer (some ⟨jb, 0, none⟩), .pointer (some ⟨m.b, 0, none⟩)] w' (Rn (B2 (upH jb b pv m a)) w' (fun (a' : UpA) u => u = L9 ((JV.upd a.1).step0 (m.up a.2.2).ws).2.2 ∧ (JV.upd a'.1, (m.up a'.2.2).ws) = A5m (.upd a.1, (m.up a.2.2).ws) ∧ UInv (n + 1) a'.1 (m.up a'.2.2).ws ∧ a'.1.pool = p) (upH jb b pv m)) := by
 obtain ⟨j, qv, d⟩ := a
 simp only at hi hp hrd
 subst hp
 have hst : j.b.st ≠ -1 := by
  intro h
  simp [JV.ready, JV.b, h] at hrd
 obtain ⟨i1, i2, i3, i4, i5, i6⟩ := hi
 have h := B5l w' jb b j pv qv (m.up d) i1 (by omega) hpl (by omega) (by omega) i5 (fun w'' hk => hv w'' ?_) hs
 ·rw [C15 hst] at h
  refine Fn.mono h fun u w'' hr => ?_
  obtain ⟨⟨qv', d'⟩, ⟨h1, h2⟩, h3⟩ := hr
  have hn := C27 ⟨i1, i2, i3, i4, i5, i6⟩ hst
  have e2 : (m.up d').ws = (E9 j (m.up d).ws).2.1 := h2
  refine ⟨((E9 j (m.up d).ws).1, qv', d'), ⟨h1, ?_, ?_, ?_⟩, h3⟩
  ·simp only [A5m, JV.step0, e2]
  ·simp only [e2]; exact hn
  ·exact A9v _ _
 ·refine hw'.ks.then hk fun x hx => ?_
  obtain ⟨r, hr, hxr⟩ := G8.1 hx
  exact (hw'.own r hr x hxr).1
end Go.Proofs.YtpnidmkaobfhiaaGreat
namespace Go.Proofs.YtpnidmkaobfhiaaGreat
open Go
theorem B79 {c : CfgV} (h : N1 c = true) : WsOk (L0 c) := by
 simp only [N1, Z8, Bool.and_eq_true, decide_eq_true_eq] at h
 refine ⟨by simp only [L0]; omega, by simp only [L0, List.length_replicate], by simp only [L0, List.length_replicate]; omega, by simp only [L0, List.length_replicate]; omega, by simp only [L0, List.length_replicate]; omega⟩
theorem A1Z (n : Nat) (i : Int) : D3 (List.replicate n 0) i = 0 := by
 unfold D3
 split
 ·rw [List.getD_eq_getElem?_getD, List.getElem?_replicate]; split <;> rfl
 ·rfl
end Go.Proofs.YtpnidmkaobfhiaaGreat
namespace Go.Proofs.YtpnidmkaobfhiaaGreat
open Go
theorem B9r {α : Type} {l : List α} {d : α} {i : Nat} (h : i < l.length) : l.getD i d = l[i] := by rw [List.getD_eq_getElem?_getD, List.getElem?_eq_getElem h]; rfl
theorem C2V {x : WS} {i : Nat} (h : (i : Int) < x.c.wk) : G7 x.c (((i : Nat) : Int) + 1) = (i : Nat) + 2 := by unfold G7; rw [if_neg (by omega)]; omega
theorem C86 {x : WS} {p : Int} : p ∈ pW x ↔ ∃ i : Nat, (i : Int) < x.c.wk ∧ p = D3 x.cells ((i : Nat) + 2) := by
 unfold pW B1H
 rw [List.mem_map]
 constructor
 ·rintro ⟨i, hi, rfl⟩
  rw [List.mem_range] at hi
  exact ⟨i, by omega, by rw [C2V (by omega)]⟩
 ·rintro ⟨i, hi, rfl⟩
  exact ⟨i, List.mem_range.2 (by omega), by rw [C2V hi]⟩
theorem C0a {x : WS} (h : ∀ i : Nat, D3 x.cells ((i : Nat) + 2) = 0) (e : Int) : A11 (pW x) e = true := by
 unfold A11
 rw [List.all_eq_true]
 intro p hp
 obtain ⟨i, hi, rfl⟩ := C86.1 hp
 simp [h i]
def C0T (n t : Nat) : List (Int × Int) := (List.range n).map fun k => if k + 1 < t then (2, (k : Int) + 2) else if k + 1 = t then (1, 0) else (0, 0)
theorem C3A (n t : Nat) : (C0T n t).length = n := by simp [C0T]
theorem B7m {l : List (Int × Int)} {i : Nat} (h : i < l.length) : stK l (i : Nat) = l[i].1 := by
 unfold stK
 rw [if_pos (by omega), Int.toNat_natCast, List.getD_eq_getElem?_getD, List.getElem?_eq_getElem h]; rfl
structure BusyI (n t : Nat) (x : WS) : Prop where
 ok : WsOk x
 ep : D3 x.cells 0 = (t : Nat)
 cur : D3 x.cells 1 = (t : Nat)
 keep : x.keep = C0T n t
 sl : x.sl.length = n
 le : t ≤ n
theorem BusyI.kl {n t : Nat} {x : WS} (h : BusyI n t x) : x.keep.length = x.sl.length := by rw [h.sl, h.keep, C3A]
theorem C4f {x : WS} {p : List F2} (h : WsOk x) (hl : x.keep.length = x.sl.length) : WsOk (H8 x p) := by
 obtain ⟨w1, w2, w3, w4, w5⟩ := h
 refine ⟨w1, by simp only [H8, c7]; exact w2, w3, by simp only [H8, W9]; rw [y3 hl]; exact w4, ?_⟩
 simp only [H8]
 split
 ·simp only [A6W, A1W, A1n, S6]; exact w5
 ·simp only [A1n, S6]; exact w5
theorem C4Z {x : WS} {p : List F2} (h : WsOk x) : D3 (H8 x p).cells 0 = epW x := by
 have h1 := h.wk; have h2 := h.cells
 simp only [H8]
 rw [b8, if_pos (by rw [c7]; omega)]
theorem C2J {x : WS} {p : List F2} (h : WsOk x) : D3 (H8 x p).cells 1 = G4 (kF x) + 1 := by
 have h1 := h.wk; have h2 := h.cells
 simp only [H8]
 rw [Q6 _ _ (by omega), b8, if_pos (by omega)]
theorem C2S {x : WS} {p : List F2} (i : Nat) : D3 (H8 x p).cells ((i : Nat) + 2) = D3 x.cells ((i : Nat) + 2) := by
 simp only [H8]
 rw [Q6 _ _ (by omega), Q6 _ _ (by omega)]
end Go.Proofs.YtpnidmkaobfhiaaGreat
namespace Go.Proofs.YtpnidmkaobfhiaaGreat
open Go
theorem C1d (w : World) (m : WoH) (hb : bl w m.b = some (.cells (M8 m.c (.pointer (some ⟨m.bc, 0, none⟩)) (.pointer (some ⟨m.bs, 0, none⟩)) (.pointer (some ⟨m.bk, 0, none⟩)) m.tv m.pv (.int .i64 m.now)) 74 (0, 0))) :
  Fn PR B6 11 #[.pointer (some ⟨m.b, 0, none⟩)] w (fun u w' => u = .bool true ∧ C6 [] w w') := by
 refine Fn.pure (A5G (TW.go (κ := false) (S := []) ?_))
 unfold A0F
 have h5 : w.cell? ⟨m.b, 5, none⟩ = some (.pointer (some ⟨m.bc, 0, none⟩)) := by rw [D8 hb]; rfl
 have h6 : w.cell? ⟨m.b, 6, none⟩ = some (.pointer (some ⟨m.bs, 0, none⟩)) := by rw [D8 hb]; rfl
 have h7 : w.cell? ⟨m.b, 7, none⟩ = some (.pointer (some ⟨m.bk, 0, none⟩)) := by rw [D8 hb]; rfl
 (have zz:=trivial;repeat((first|clear zz|with_reducible first|refine A3 ?_|refine A5 fun _=>?_|refine A4 fun _=>?_);try simp(disch:=first|omega|assumption|((repeat(first|exact A1|exact uH|apply A2|apply uT));first|done|fail)|(simp;first|done|omega|fail))[h5, h6, h7]))
 exact B0 rfl
theorem C5U {κ : Bool} {S : List Nat} {w0 w' : World} {Hc Hk : List Res} {e : TypeId} {k q : Nat} {v : Value} {xs : List Value} (hw' : LW κ S w0 (Hc ++ Hk) w') (hm : Res.own e k v q xs ∈ Hk) : ∀ w'', KS false (B2 Hc) w' w'' → E2 w'' v q xs := fun w'' hk => by
 have h := S8.rd (hw'.hold _ (List.mem_append_right _ hm))
 refine h.ks hk fun g hg hin => ?_
 obtain ⟨r, hr, hgr⟩ := G8.1 hin
 exact (List.pairwise_append.1 hw'.dis).2.2 r hr _ hm g hgr hg
def C09 : CfgV := ⟨1, 1, 1, 5, 2⟩
def p20 : List F2 := [(7, 1)]
def R20 : RunV := T0 20 ⟨.upd (G3 0 p20), L0 C09, 0, 0, 0⟩
theorem D1S : R20.n = 6 := by kernel_rfl
theorem D0x : R20.j.b = ⟨0, -1, S7⟩ := by kernel_rfl
theorem C8j : N1 C09 = true := by kernel_rfl
theorem C4F {c : CfgV} (h : N1 c = true) (who : Int) (p : List F2) : UInv 0 (G3 who p) (L0 c) :=
 ⟨B79 h, by simp [G3], by simp [G3], by simp [G3], by simp [G3], by simp [L0, A1Z]⟩
theorem B9Y {who : Int} (hw : who ≠ 0) (p : List F2) (x : WS) : (JV.upd (G3 who p)).step0 x = (.upd { G3 who p with b := ⟨who, -1, ⟨1, 0, false, 0⟩⟩ }, x, true, true, false) := by
 have hb : S0 (G3 who p) = 1 := if_neg hw
 simp only [JV.step0]
 unfold E9
 rw [if_pos ⟨rfl, by rw [hb]; decide⟩, hb]
 rfl
set_option maxHeartbeats 2000000 in
theorem C0b (w : World) : Fn PR B6 5 #[] w (fun r w' => r = .bool true ∧ C6 [] w w') := by
 refine Fn.pure (A5D (TW.go (κ := false) (S := []) ?_))
 unfold A0J
 (have zz:=trivial;repeat((first|clear zz|with_reducible first|refine A3 ?_|refine A5 fun _=>?_|refine A4 fun _=>?_);try simp(disch:=first|omega|assumption|((repeat(first|exact A1|exact uH|apply A2|apply uT));first|done|fail)|(simp;first|done|omega|fail))[]))
 refine H9 A9D (fun w' hw' => B9k w' C09) ?_
 rw [C8j]
 simp only [if_true]
 rintro m v ⟨rfl, hmc, hws⟩
 (have zz:=trivial;repeat((first|clear zz|with_reducible first|refine A3 ?_|refine A5 fun _=>?_|refine A4 fun _=>?_|refine G1 fun _=>?_|refine F7 (hK:=fun _=>?_)|refine F9 (hK:=fun _=>?_)|refine F8 (hK:=fun _=>?_)|refine F6 (hK:=fun _=>?_)|refine G0 (hK:=fun _=>?_));try simp(disch:=first|omega|assumption|((repeat(first|exact A1|exact uH|apply A2|apply uT));first|done|fail)|(simp;first|done|omega|fail))[]))
 rename_i bp
 refine H9 A1u (fun w' hw' => B9p w' 0 (some ⟨bp, 0, none⟩) 1 1 ⟨#[]⟩ 0) ?_
 rintro ⟨jb, b⟩ v rfl
 (have zz:=trivial;repeat((first|clear zz|with_reducible first|refine A3 ?_|refine A5 fun _=>?_|refine A4 fun _=>?_);try simp(disch:=first|omega|assumption|((repeat(first|exact A1|exact uH|apply A2|apply uT));first|done|fail)|(simp;first|done|omega|fail))[]))
 refine H9 A1u (fun w' hw' => B9p w' 1 none 0 0 ⟨#[]⟩ 0) ?_
 rintro ⟨kb, kc⟩ v rfl
 refine s9 3 1 ?_
 refine s9 3 1 ?_
 (have zz:=trivial;repeat((first|clear zz|with_reducible first|refine A3 ?_|refine A5 fun _=>?_|refine A4 fun _=>?_);try simp(disch:=first|omega|assumption|((repeat(first|exact A1|exact uH|apply A2|apply uT));first|done|fail)|(simp;first|done|omega|fail))[]))
 have hdd : m.up m.dd = m := rfl
 obtain ⟨pv, hpv⟩ : ∃ pv, pv = Value.slice (some ⟨bp, 0, none⟩) 1 1 := ⟨_, rfl⟩
 rw [← hpv]
 obtain ⟨Hf, hHf⟩ : ∃ Hf : List Res, Hf = [.own 83 2 pv 1 [.int .i64 7, .int .i64 1], .own 3 1 (.slice none 0 0) 0 [], H4 kb (P6 kc), .pt kc (.cells (D5 ⟨1, 0, S7⟩ [.slice none 0 0, .slice none 0 0, .int .i64 0, .int .i64 0]) 94)] := ⟨_, rfl⟩
 refine Sels.tw (rs := upH jb b pv m (G3 0 p20, N2, m.dd) ++ Hf) (by subst hHf; simp only [upH, L7, N4, G3, N2, G2, List.map_nil, List.length_nil, hdd, C9, List.cons_append, List.nil_append]; (repeat' constructor)) ?_
 have hrdp : ∀ (d : UpA) (w' : World), LW false [] w (upH jb b pv m d ++ Hf) w' → ∀ w'', KS false (B2 (upH jb b pv m d)) w' w'' → E2 w'' pv p20.length (p20.flatMap E8) := fun d w' hw' w'' hk =>
  C5U (e := 83) (k := 2) hw' (by rw [hHf]; exact List.mem_cons_self ..) w'' hk
 refine C0G (fun (y : UpA × Nat) => upH jb b pv m y.1 ++ Hf) (fun y => y.2 ≤ 20 ∧ UInv y.2 y.1.1 (m.up y.1.2.2).ws ∧ y.1.1.pool = p20 ∧ ∃ tk bad, T0 (20 - y.2) (Z9 (.upd y.1.1, (m.up y.1.2.2).ws) y.2 tk bad) = R20) (fun y => 20 - y.2) ((G3 0 p20, N2, m.dd), 0) (fun y => .int .i64 (y.2 : Nat)) ⟨Nat.zero_le _, by rw [hdd, hws]; exact C4F C8j 0 p20, rfl, 0, 0, by rw [hdd, hws]; rfl⟩ ?_
 rintro ⟨⟨j', qv, d⟩, n⟩ ⟨h1, h2, h3, tk, bad, h4⟩ L hL
 simp only at h1 h2 h3 h4 hL ⊢
 have hfin : (JV.upd j').ready (m.up d).ws = false ∨ n = 20 → n = 6 ∧ j'.b = ⟨0, -1, S7⟩ := fun h => by
  have e : Z9 (.upd j', (m.up d).ws) n tk bad = R20 := by
   rw [← h4]
   rcases h with h | h
   ·rw [B8S h]
   ·rw [show 20 - n = 0 by omega]; rfl
  exact ⟨by rw [← D1S, ← e]; rfl, by rw [← D0x, ← e]; rfl⟩
 have hnx : (JV.upd j').ready (m.up d).ws = true → n < 20 → ∃ tk bad, T0 (20 - (n + 1)) (Z9 (A5m (.upd j', (m.up d).ws)) (n + 1) tk bad) = R20 := fun h hn => by
  rw [← h4, show 20 - n = 20 - (n + 1) + 1 by omega, B5N h]
  exact ⟨_, _, rfl⟩
 have hR := fun (w' : World) (hw' : LW false [] w (upH jb b pv m (j', qv, d) ++ Hf) w') => C3F w w' jb b pv m (j', qv, d) (List.mem_append_left _ (by unfold upH; (repeat constructor))) (List.mem_append_left _ (by unfold upH; (repeat constructor))) (.pointer (some ⟨m.b, 0, none⟩)) (m.up d).ws hw'
 obtain ⟨rd, hrd⟩ : ∃ r, r = (JV.upd j').ready (m.up d).ws := ⟨_, rfl⟩
 have hn20 : n < 20 ∨ rd = false := by
  by_cases h : n < 20
  ·exact Or.inl h
  ·have := (hfin (Or.inr (by omega))).1; omega
 simp only [← hrd] at hfin hnx hR
 have hexit : rd = false → n = 6 ∧ j'.b = ⟨0, -1, S7⟩ := fun h => hfin (Or.inl h)
 clear hfin h4
 cases rd with
 | true =>
  have c1 : n < 20 := by rcases hn20 with h | h; exact h; cases h
  have c1' : ((n : Nat) : Int) < 20 := by omega
  (have zz:=trivial;repeat((first|clear zz|with_reducible first|refine A3 ?_|refine A5 fun _=>?_|refine A4 fun _=>?_);try simp(disch:=first|omega|assumption|((repeat(first|exact A1|exact uH|apply A2|apply uT));first|done|fail)|(simp;first|done|omega|fail))[c1, c1']))
  refine C8 P1 (fun w' hw' => hR w' hw') ?_
  (have zz:=trivial;repeat((first|clear zz|with_reducible first|refine A3 ?_|refine A5 fun _=>?_|refine A4 fun _=>?_);try simp(disch:=first|omega|assumption|((repeat(first|exact A1|exact uH|apply A2|apply uT));first|done|fail)|(simp;first|done|omega|fail))[c1, c1']))
  refine D0 (Hc := upH jb b pv m (j', qv, d)) (Hk := Hf) n9 (fun w' hw' hs => B5K w' w' jb b pv m p20 (by simp [p20]) n (by omega) (j', qv, d) h2 h3 hrd.symm (hrdp (j', qv, d) w' hw') hs hs) (B2Q _ _) ?_
  rintro ⟨j2, qv2, d2⟩ v ⟨rfl, k1, k2, k3⟩
  obtain ⟨tk', bad', h⟩ := hnx rfl c1
  rw [← k1] at h
  (have zz:=trivial;repeat((first|clear zz|with_reducible first|refine A3 ?_|refine A5 fun _=>?_|refine A4 fun _=>?_);try simp(disch:=first|omega|assumption|((repeat(first|exact A1|exact uH|apply A2|apply uT));first|done|fail)|(simp;first|done|omega|fail))[]))
  exact hL ((j2, qv2, d2), n + 1) ⟨by simp only; omega, k2, k3, tk', bad', h⟩ (by simp only; omega)
 | false =>
  obtain ⟨rfl, hb⟩ := hexit rfl
  clear hL hnx hexit
  (have zz:=trivial;repeat((first|clear zz|with_reducible first|refine A3 ?_|refine A5 fun _=>?_|refine A4 fun _=>?_);try simp(disch:=first|omega|assumption|((repeat(first|exact A1|exact uH|apply A2|apply uT));first|done|fail)|(simp;first|done|omega|fail))[]))
  refine C8 P1 (fun w' hw' => hR w' hw') ?_
  (have zz:=trivial;repeat((first|clear zz|with_reducible first|refine A3 ?_|refine A5 fun _=>?_|refine A4 fun _=>?_);try simp(disch:=first|omega|assumption|((repeat(first|exact A1|exact uH|apply A2|apply uT));first|done|fail)|(simp;first|done|omega|fail))[]))
  obtain ⟨m2, hm2⟩ : ∃ m2, m2 = m.up d := ⟨_, rfl⟩
  have hb2 : m.b = m2.b := by rw [hm2]; rfl
  rw [← hm2] at h2
  have h20 : UInv 0 (G3 1 []) (m2.up m2.dd).ws := ⟨h2.ok, by simp [G3], by simp [G3], by simp [G3], by simp [G3], h2.cur⟩
  have hA := fun (w' : World) (g1 : bl w' jb = some (.cells #[P6 b] 98 (0, 0))) (g2 : bl w' b = some (.cells (D5 j'.b [pv, qv, .int .i64 j'.slot, .int .i64 j'.old]) 94 (0, 0))) =>
   A8T w' jb b (P6 b) j'.b _ _ (Or.inl rfl) g1 g2
  have hSt := fun (w' : World) (g1 : bl w' jb = some (.cells #[P6 b] 98 (0, 0))) (g2 : bl w' b = some (.cells (D5 j'.b [pv, qv, .int .i64 j'.slot, .int .i64 j'.old]) 94 (0, 0))) =>
   A95 w' jb b (P6 b) j'.b _ _ (Or.inl rfl) g1 g2
  refine D0 (Hc := upH kb kc N2 m2 (G3 1 [], N2, m2.dd)) (Hk := [H4 jb (P6 b), L7 b j' pv qv, N4 j' qv, .own 83 2 pv 1 [.int .i64 7, .int .i64 1]]) n9 (fun w' hw' hs => by rw [hb2]; exact B5K w' w' kb kc N2 m2 [] (by simp) 0 (by omega) (G3 1 [], N2, m2.dd) h20 rfl rfl (fun w'' _ => Or.inl ⟨rfl, rfl, none, 0, rfl⟩) hs hs) (by subst hHf; simp only [upH, ← hm2, show m2.up m2.dd = m2 from rfl, C9, List.cons_append, List.nil_append]; simp only [L7, N4, G3, N2, G2, List.map_nil, List.length_nil]; (repeat' constructor)) ?_
  rintro ⟨k2, qk, dk⟩ v ⟨rfl, e1, _, _⟩
  simp only [A5m, B9Y (show (1 : Int) ≠ 0 by decide)] at e1
  obtain ⟨e2, -⟩ := Prod.mk.inj e1
  injection e2 with e2
  subst e2
  simp only [B9Y (show (1 : Int) ≠ 0 by decide), L9, upH]
  have hA2 := fun (w' : World) (g1 : bl w' kb = some (.cells #[P6 kc] 98 (0, 0))) (g2 : bl w' kc = some (.cells (D5 ⟨1, -1, ⟨1, 0, false, 0⟩⟩ [N2, qk, .int .i64 0, .int .i64 0]) 94 (0, 0))) =>
   A8T w' kb kc (P6 kc) ⟨1, -1, ⟨1, 0, false, 0⟩⟩ _ _ (Or.inl rfl) g1 g2
  have hR2 := fun (w' : World) (g1 : bl w' kb = some (.cells #[P6 kc] 98 (0, 0))) (g2 : bl w' kc = some (.cells (D5 ⟨1, -1, ⟨1, 0, false, 0⟩⟩ [N2, qk, .int .i64 0, .int .i64 0]) 94 (0, 0))) =>
   m9 w' kb kc (P6 kc) ⟨1, -1, ⟨1, 0, false, 0⟩⟩ _ _ (.pointer (some ⟨m.b, 0, none⟩)) false _ _ (Or.inl rfl) g1 g2 (fun w => u0 w kc _) (fun w'' _ => A5N w'' _ _)
  simp only [hb] at hA hSt
  (have zz:=trivial;repeat((first|clear zz|with_reducible first|refine A3 ?_|refine A5 fun _=>?_|refine A4 fun _=>?_);try simp(disch:=first|omega|assumption|((repeat(first|exact A1|exact uH|apply A2|apply uT));first|done|fail)|(simp;first|done|omega|fail))[]))
  refine C8 j0 (fun w' hw' => hA w' (hw'.pt (b := jb) (by unfold H4; (repeat constructor))) (hw'.pt (b := b) (by unfold L7; rw [hb]; (repeat constructor)))) ?_
  simp only [S7, AnsV.val]
  (have zz:=trivial;repeat((first|clear zz|with_reducible first|refine A3 ?_|refine A5 fun _=>?_|refine A4 fun _=>?_);try simp(disch:=first|omega|assumption|((repeat(first|exact A1|exact uH|apply A2|apply uT));first|done|fail)|(simp;first|done|omega|fail))[]))
  refine C8 l4 (fun w' hw' => hSt w' (hw'.pt (b := jb) (by unfold H4; (repeat constructor))) (hw'.pt (b := b) (by unfold L7; rw [hb]; (repeat constructor)))) ?_
  (have zz:=trivial;repeat((first|clear zz|with_reducible first|refine A3 ?_|refine A5 fun _=>?_|refine A4 fun _=>?_);try simp(disch:=first|omega|assumption|((repeat(first|exact A1|exact uH|apply A2|apply uT));first|done|fail)|(simp;first|done|omega|fail))[]))
  refine C8 j0 (fun w' hw' => hA2 w' (hw'.pt (b := kb) (by unfold H4; (repeat constructor))) (hw'.pt (b := kc) (by unfold L7; simp only [G3]; (repeat constructor)))) ?_
  simp only [AnsV.val]
  (have zz:=trivial;repeat((first|clear zz|with_reducible first|refine A3 ?_|refine A5 fun _=>?_|refine A4 fun _=>?_);try simp(disch:=first|omega|assumption|((repeat(first|exact A1|exact uH|apply A2|apply uT));first|done|fail)|(simp;first|done|omega|fail))[]))
  refine C8 P1 (fun w' hw' => hR2 w' (hw'.pt (b := kb) (by unfold H4; (repeat constructor))) (hw'.pt (b := kc) (by unfold L7; simp only [G3]; (repeat constructor)))) ?_
  (have zz:=trivial;repeat((first|clear zz|with_reducible first|refine A3 ?_|refine A5 fun _=>?_|refine A4 fun _=>?_);try simp(disch:=first|omega|assumption|((repeat(first|exact A1|exact uH|apply A2|apply uT));first|done|fail)|(simp;first|done|omega|fail))[]))
  exact B0 rfl
end Go.Proofs.YtpnidmkaobfhiaaGreat
namespace Go.Proofs.YtpnidmkaobfhiaaGreat
open Go
theorem B2S {κ : Bool} {S : List Nat} {w0 : World} {H : List Res} {K0 : WP} {t : TypeId} {n : Nat} {z : Value} [h : TG t n z] {b o : Nat} {c : Array Value} {T : TypeId} {f : Nat × Nat} {xs : Array Value} {l : List Rd} (hm : Res.pt b (.cells c T f) ∈ H) (hl : U3 c.toList o n = some xs.toList) :
  TW κ S w0 H (watch PR ((none, Instr.loadAt t (.pointer (some ⟨b, o, none⟩)), .agg xs) :: l) K0) = TW κ S w0 H (watch PR l K0) := by
 obtain ⟨_, _, h, hd⟩ := h.ti
 refine B07 fun w hw => ?_
 have hr := A1A hl (N6.bl (hw.pt hm))
 have h2 := x5 hr
 have := A1S h hd h2.1 h2.2
 simpa using this
@[simp] theorem C77 {κ : Bool} {S : List Nat} {w0 : World} {H : List Res} {K0 : WP} {t : TypeId} {n : Nat} {z : Value} [h : TG t n z] {b o : Nat} {xs : Array Value} {l : List Rd} {x y : Bool} (hc : a6 w0 b o n = some xs.toList) (hS : b ∉ S) :
  TW κ S w0 H (watch PR ((some (.bool x, y), Instr.loadAt t (.pointer (some ⟨b, o, none⟩)), .agg xs) :: l) K0) = TW κ S w0 H (watch PR l K0) := by
 obtain ⟨_, _, h, hd⟩ := h.ti
 refine A90 fun _ w hw => ?_
 have h2 := x5 hc
 have := A1S h hd h2.1 (hw.ks.row hS h2.2)
 simpa using this
theorem N6.sub {w : World} {b o : Nat} {l : List Value} (h : N6 w b o l) (j n : Nat) (hn : j + n ≤ l.length) : a6 w b (o + j) n = some ((l.drop j).take n) := by
 have hl : ((l.drop j).take n).length = n := by simp; omega
 have h1 : N6 w b (o + j) ((l.drop j).take n) := fun q hq => by
  rw [hl] at hq
  rw [Nat.add_assoc, h (j + q) (by omega), List.getElem?_take_of_lt hq, List.getElem?_drop]
 have := A4L h1
 rwa [hl] at this
end Go.Proofs.YtpnidmkaobfhiaaGreat
namespace Go.Proofs.YtpnidmkaobfhiaaGreat
open Go
theorem B3F {l : List ShV} {i n : Nat} {v r : Value} {e e' : List EnV} (hx : l[i]? = some ((v, e), n)) : W0 (l.flatMap H5) (i * 2) [r] = (l.set i ((r, e'), n)).flatMap H5 := by
 obtain ⟨hi, _⟩ := List.getElem?_eq_some_iff.1 hx
 have h1 := A3N (f := H5) (k := 2) (fun _ => rfl) l i ((r, e'), n) hi
 rw [← h1]
 have h2 := Q8 (f := H5) (k := 2) (fun _ => rfl) l i 1 (by omega)
 rw [hx] at h2
 have h3 : (l.flatMap H5)[i * 2 + 1]? = some (.int .i64 (n : Int)) := h2
 obtain ⟨h4, h5⟩ := List.getElem?_eq_some_iff.1 h3
 simp only [W0, H5, List.length_cons, List.length_nil, Nat.zero_add]
 rw [List.drop_eq_getElem_cons h4, h5]
 simp
def C0D : ShV := ((.slice none 0 0, []), 0)
def shL (n : Nat) (ts : List (Value × List EnV)) : List ShV := ts.map (fun t => (t, 0)) ++ List.replicate (n - ts.length) C0D
theorem B4B {n : Nat} {ts : List (Value × List EnV)} (h : ts.length ≤ n) : (shL n ts).length = n := by simp [shL]; omega
theorem C8b {n : Nat} {ts : List (Value × List EnV)} (h : ts.length < n) : (shL n ts)[ts.length]? = some C0D := by
 unfold shL
 rw [List.getElem?_append_right (by simp), List.getElem?_replicate_of_lt (by simp; omega)]
theorem C6m {n : Nat} {ts : List (Value × List EnV)} (h : ts.length < n) (t : Value × List EnV) : (shL n ts).set ts.length (t, 0) = shL n (ts ++ [t]) := by
 unfold shL
 rw [List.set_append_right _ _ (by simp)]
 obtain ⟨k, hk⟩ : ∃ k, n - ts.length = k + 1 := ⟨n - ts.length - 1, by omega⟩
 have : n - (ts ++ [t]).length = k := by simp; omega
 rw [hk, this]
 simp [List.replicate_succ]
theorem C8Q (n : Nat) : (Builtin.zeroCells (Value.agg #[.slice none 0 0, .int .i64 0]).cells n).toList = (shL n []).flatMap H5 := by
 have hz : (Builtin.zeroCells (Value.agg #[.slice none 0 0, .int .i64 0]).cells n).toList.length = n * 2 := by simp [size_zeroCells]
 have hr : ((shL n []).flatMap H5).length = n * 2 := by rw [K3 (k := 2) fun _ => rfl, B4B (by simp)]
 apply List.ext_getElem (by rw [hz, hr])
 intro i h1 h2
 rw [hz] at h1
 have hf := Q8 (f := H5) (k := 2) (fun _ => rfl) (shL n []) (i / 2) (i % 2) (by omega)
 have hs : (shL n [])[i / 2]? = some C0D := by simp only [shL, List.map_nil, List.nil_append]; rw [List.getElem?_replicate_of_lt (by simp; omega)]
 rw [show i / 2 * 2 + i % 2 = i by omega, List.getElem?_eq_getElem h2, hs] at hf
 have e : (Builtin.zeroCells (Value.agg #[.slice none 0 0, .int .i64 0]).cells n).toList[i]'(by rw [hz]; exact h1) = (Value.agg #[.slice none 0 0, .int .i64 0]).cells[i % 2]! := by
  simp [Builtin.zeroCells]
 rw [e]
 have h3 : i % 2 = 0 ∨ i % 2 = 1 := by omega
 rcases h3 with h3 | h3 <;> (rw [h3] at hf ⊢; simp [H5, C0D] at hf ⊢; exact hf.symm)
def A19 (c : CfgV) : List (List EnV × Nat) := List.replicate c.sh.toNat (newE c.cp.toNat, 0)
theorem C7k (w : World) (c : CfgV) : Fn PR B6 22 #[c.val] w (Rn [] w (fun (m : MoH) u => if N1 c then u = .tuple #[.pointer (some ⟨m.b, 0, none⟩), .int .i64 0] ∧ m.c = c ∧ m.pool = [] ∧ m.ts.map (fun t => (t.1.2, t.2)) = A19 c else u = .tuple #[.pointer none, .int .i64 1])
  fun m => if N1 c then D4 m else []) := by
 refine B64 (TW.go (κ := false) (S := []) ?_)
 unfold A9r
 simp only [CfgV.val]
 (have zz:=trivial;repeat((first|clear zz|with_reducible first|refine A3 ?_|refine A5 fun _=>?_|refine A4 fun _=>?_);try simp(disch:=first|omega|assumption|((repeat(first|exact A1|exact uH|apply A2|apply uT));first|done|fail)|(simp;first|done|omega|fail))[]))
 rename_i bc
 refine C8 A5a (fun w' _ => B5M w' c) ?_
 cases hok : N1 c with
 | false =>
  (have zz:=trivial;repeat((first|clear zz|with_reducible first|refine A3 ?_|refine A5 fun _=>?_|refine A4 fun _=>?_);try simp(disch:=first|omega|assumption|((repeat(first|exact A1|exact uH|apply A2|apply uT));first|done|fail)|(simp;first|done|omega|fail))[]))
  exact B1 ⟨0, .nilIface, .nilIface, c, [], []⟩ (by simp) Sels.nil
 | true =>
  have hb : 1 ≤ c.sh ∧ c.sh ≤ 16 ∧ 1 ≤ c.cp ∧ c.cp ≤ 64 := by
   simp [N1, Z8] at hok; omega
  obtain ⟨n, hn⟩ : ∃ n : Nat, c.sh = n := ⟨c.sh.toNat, by omega⟩
  obtain ⟨k, hk⟩ : ∃ k : Nat, c.cp = k := ⟨c.cp.toNat, by omega⟩
  rw [hn] at hb
  rw [hk] at hb
  rw [hn, hk]
  (have zz:=trivial;repeat((first|clear zz|with_reducible first|refine A3 ?_|refine A5 fun _=>?_|refine A4 fun _=>?_);try simp(disch:=first|omega|assumption|((repeat(first|exact A1|exact uH|apply A2|apply uT));first|done|fail)|(simp;first|done|omega|fail))[]))
  refine A6N (by omega) (by omega) (by omega) (by omega) fun bs => ?_
  rw [Int.toNat_natCast, C8Q]
  (have zz:=trivial;repeat((first|clear zz|with_reducible first|refine A3 ?_|refine A5 fun _=>?_|refine A4 fun _=>?_);try simp(disch:=first|omega|assumption|((repeat(first|exact A1|exact uH|apply A2|apply uT));first|done|fail)|(simp;first|done|omega|fail))[]))
  rw [B2S (by (repeat constructor)) (by rfl)]
  (have zz:=trivial;repeat((first|clear zz|with_reducible first|refine A3 ?_|refine A5 fun _=>?_|refine A4 fun _=>?_);try simp(disch:=first|omega|assumption|((repeat(first|exact A1|exact uH|apply A2|apply uT));first|done|fail)|(simp;first|done|omega|fail))[]))
  rename_i bm
  refine B8Y ?_
  refine Sels.tw (rs := [.pt bm (.cells #[.int .i64 c.wk, .int .i64 n, .int .i64 k, .int .i64 c.idle, .int .i64 c.sl, .slice none 0 0, .slice (some ⟨bs, 0, none⟩) n n] 130), .own 134 2 (.slice (some ⟨bs, 0, none⟩) n n) n ((shL n []).flatMap H5), E5 [],
   .pt bc (.cells #[.int .i64 c.wk, .int .i64 n, .int .i64 k, .int .i64 c.idle, .int .i64 c.sl] 23)]) (by (repeat' constructor)) ?_
  refine B03 n (fun i (ts : List (Value × List EnV)) => [.pt bm (.cells #[.int .i64 c.wk, .int .i64 n, .int .i64 k, .int .i64 c.idle, .int .i64 c.sl, .slice none 0 0, .slice (some ⟨bs, 0, none⟩) n n] 130), .own 134 2 (.slice (some ⟨bs, 0, none⟩) n n) n ((shL n ts).flatMap H5), E5 ts,
   .pt bc (.cells #[.int .i64 c.wk, .int .i64 n, .int .i64 k, .int .i64 c.idle, .int .i64 c.sl] 23)]) (fun i ts => ts.length = i ∧ ts.map (·.2) = List.replicate i (newE k)) [] ⟨rfl, rfl⟩ ?_
  rintro i ts hi ⟨hlen, hmap⟩ L hL
  by_cases hlt : i < n
  ·(have zz:=trivial;repeat((first|clear zz|with_reducible first|refine A3 ?_|refine A5 fun _=>?_|refine A4 fun _=>?_);try simp(disch:=first|omega|assumption|((repeat(first|exact A1|exact uH|apply A2|apply uT));first|done|fail)|(simp;first|done|omega|fail))[hlt]))
   refine H9 A3p (fun w' _ => A6S w' k (by omega)) ?_
   rintro _ r rfl
   refine q6 (e := 155) (k := 4) (v := r) (q := (newE k).length) (xs := (newE k).flatMap F1) (by (repeat constructor)) fun hr1 hr2 hr3 => ?_
   (have zz:=trivial;repeat((first|clear zz|with_reducible first|refine A3 ?_|refine A5 fun _=>?_|refine A4 fun _=>?_);try simp(disch:=first|omega|assumption|((repeat(first|exact A1|exact uH|apply A2|apply uT));first|done|fail)|(simp;first|done|omega|fail))[hlt]))
   refine Q7 (by (repeat constructor)) (by simp [hr1]) (by rw [K3 (k := 2) fun _ => rfl, B4B (by omega)]; omega) (by simp [hr3]) ?_
   have hat := C8b (n := n) (ts := ts) (by omega)
   rw [hlen] at hat
   have hset : W0 ((shL n ts).flatMap H5) (i * 2) [r] = (shL n (ts ++ [(r, newE k)])).flatMap H5 := by
    rw [B3F (e' := newE k) hat, ← hlen, C6m (by omega)]
   have hr4 : r.cells.toList = [r] := by rw [hr1]
   rw [hr4, hset]
   refine A5z (r := r) (l := newE k) (by (repeat' constructor)) ?_
   (have zz:=trivial;repeat((first|clear zz|with_reducible first|refine A3 ?_|refine A5 fun _=>?_|refine A4 fun _=>?_);try simp(disch:=first|omega|assumption|((repeat(first|exact A1|exact uH|apply A2|apply uT));first|done|fail)|(simp;first|done|omega|fail))[]))
   exact Sels.tw (by (repeat' constructor)) (hL hlt (ts ++ [(r, newE k)]) ⟨by simp [hlen], by rw [List.map_append, hmap, List.replicate_succ']; rfl⟩)
  ·obtain rfl : i = n := by omega
   (have zz:=trivial;repeat((first|clear zz|with_reducible first|refine A3 ?_|refine A5 fun _=>?_|refine A4 fun _=>?_);try simp(disch:=first|omega|assumption|((repeat(first|exact A1|exact uH|apply A2|apply uT));first|done|fail)|(simp;first|done|omega|fail))[]))
   have hsh : shL i ts = ts.map (fun t => (t, 0)) := by simp [shL, hlen]
   have hfst : (shL i ts).map (·.1) = ts := by rw [hsh, List.map_map]; simp [Function.comp_def]
   have hmm : (shL i ts).map (fun t => (t.1.2, t.2)) = A19 c := by
    have e1 : (shL i ts).map (fun t => (t.1.2, t.2)) = (ts.map (·.2)).map (fun l => (l, 0)) := by rw [hsh, List.map_map, List.map_map]; rfl
    rw [e1, hmap, A19, hn, hk]; simp
   refine s9 83 2 ?_
   refine B1 ⟨bm, .slice none 0 0, .slice (some ⟨bs, 0, none⟩) i i, c, [], shL i ts⟩ ⟨rfl, rfl, rfl, hmm⟩ ?_
   simp only [D4, hfst, B4B (show ts.length ≤ i by omega), hn, hk, List.length_nil, List.flatMap_nil]
   (repeat' constructor)
end Go.Proofs.YtpnidmkaobfhiaaGreat
namespace Go.Proofs.YtpnidmkaobfhiaaGreat
open Go
structure MoS where
 c : CfgV
 pool : List F2
 tabs : List (List EnV × Nat)
def MoH.st (m : MoH) : MoS := ⟨m.c, m.pool, m.ts.map fun t => (t.1.2, t.2)⟩
abbrev DoR (w : World) (m : MoH) (r : MoS × AnsV) : Value → WP := Rn (B2 (D4 m)) w (fun (m' : MoH) u => u = r.2.val ∧ m'.b = m.b ∧ m'.st = r.1) D4
structure PoolAt (w : World) (m : MoH) (v : Value) (p : List F2) : Prop where
 rd : E2 w v p.length (p.flatMap E8)
 off : 0 < p.length → ∀ g ∈ N9 v, g ∉ B2 (D4 m)
 len : p.length ≤ 1000
 form : v.cells = #[v] ∧ plain v = true
theorem PoolAt.at {w w' : World} {m : MoH} {v : Value} {p : List F2} {κ : Bool} (h : PoolAt w m v p) (hk : KS κ (B2 (D4 m)) w w') : E2 w' v p.length (p.flatMap E8) :=
 h.rd.ks0 (fun e => by rw [List.length_eq_zero_iff.1 e]; rfl) hk h.off
def A8k (s : MoS) (p : List F2) : MoS × AnsV := if L8 p = 0 then ({ s with pool := p }, ⟨0, 0, false, 0⟩) else (s, ⟨L8 p, 0, false, 0⟩)
theorem C3S (w : World) (m : MoH) (o : OpV) (v : Value) (now : Int) (hv : PoolAt w m v o.pool) (hw : LW false (B2 (D4 m)) w (D4 m) w) :
  Fn PR B6 65 #[.pointer (some ⟨m.b, 0, none⟩), o.val v, .int .i64 now] w (DoR w m (A8k m.st o.pool)) := by
 refine A68 (TW.goH (κ := false) (S := B2 (D4 m)) ?_ hw)
 unfold A1K
 obtain ⟨a, c, hvf, _⟩ := hv.rd.form
 simp only [OpV.val]
 have hv2 := hv
 subst hvf
 have hlen := hv.len
 unfold DoR
 generalize hS : B2 (D4 m) = S at *
 simp only [D4]
 (have zz:=trivial;repeat((first|clear zz|with_reducible first|refine A3 ?_|refine A5 fun _=>?_|refine A4 fun _=>?_);try simp(disch:=first|omega|assumption|((repeat(first|exact A1|exact uH|apply A2|apply uT));first|done|fail)|(simp;first|done|omega|fail))[]))
 refine C8 A2g (fun w' hw' => A4n w' (.slice a o.pool.length c) o.pool (by omega) (hv.at (by rw [hS]; exact hw'.ks))) ?_
 by_cases c1 : L8 o.pool = 0
 ·have e : A8k m.st o.pool = ({ m.st with pool := o.pool }, ⟨0, 0, false, 0⟩) := if_pos c1
  rw [e]
  (have zz:=trivial;repeat((first|clear zz|with_reducible first|refine A3 ?_|refine A5 fun _=>?_|refine A4 fun _=>?_);try simp(disch:=first|omega|assumption|((repeat(first|exact A1|exact uH|apply A2|apply uT));first|done|fail)|(simp;first|done|omega|fail))[c1]))
  refine H9 N0 (fun w' hw' => B0B w' (.slice a o.pool.length c) o.pool.length (o.pool.flatMap E8) (by omega) (K3 (k := 2) (fun _ => rfl) _) (A81 _) (hv.at (by rw [hS]; exact hw'.ks))) ?_
  rintro _ r rfl
  refine q6 (e := 83) (k := 2) (v := r) (q := o.pool.length) (xs := o.pool.flatMap E8) (by (repeat constructor)) fun hr1 hr2 hr3 => ?_
  (have zz:=trivial;repeat((first|clear zz|with_reducible first|refine A3 ?_|refine A5 fun _=>?_|refine A4 fun _=>?_);try simp(disch:=first|omega|assumption|((repeat(first|exact A1|exact uH|apply A2|apply uT));first|done|fail)|(simp;first|done|omega|fail))[hr1]))
  refine B1 { m with pv := r, pool := o.pool } ⟨by simp [AnsV.val], rfl, rfl⟩ ?_
  simp only [D4]
  (repeat' constructor)
 ·have e : A8k m.st o.pool = (m.st, ⟨L8 o.pool, 0, false, 0⟩) := if_neg c1
  rw [e]
  (have zz:=trivial;repeat((first|clear zz|with_reducible first|refine A3 ?_|refine A5 fun _=>?_|refine A4 fun _=>?_);try simp(disch:=first|omega|assumption|((repeat(first|exact A1|exact uH|apply A2|apply uT));first|done|fail)|(simp;first|done|omega|fail))[c1]))
  refine B1 m ⟨by simp [AnsV.val], rfl, rfl⟩ ?_
  simp only [D4]
  (repeat' constructor)
theorem C39 (w : World) (b o : Nat) (v : Value) (l : List EnV) (hc : w.cell? ⟨b, o, none⟩ = some v) (hn : l.length ≤ 1000000) (hv : E2 w v l.length (l.flatMap F1)) :
  Fn PR B6 96 #[.pointer (some ⟨b, o, none⟩)] w (fun r w' => r = .int .i64 (P8 l 1 : Nat) ∧ C6 [] w w') := by
 refine Fn.pure (A9d (TW.go (κ := false) (S := []) ?_))
 unfold A2Q
 (have zz:=trivial;repeat((first|clear zz|with_reducible first|refine A3 ?_|refine A5 fun _=>?_|refine A4 fun _=>?_);try simp(disch:=first|omega|assumption|((repeat(first|exact A1|exact uH|apply A2|apply uT));first|done|fail)|(simp;first|done|omega|fail))[hc]))
 refine C8 s7 (fun w' hw' => A8B w' v l 1 hn (hv.ks hw'.ks (by simp))) ?_
 exact B0 rfl
end Go.Proofs.YtpnidmkaobfhiaaGreat
namespace Go.Proofs.YtpnidmkaobfhiaaGreat
open Go
theorem C7w {l : List ShV} {i n n' : Nat} {t : Value × List EnV} (hx : l[i]? = some (t, n)) : W0 (l.flatMap H5) (i * 2 + 1) [.int .i64 (n' : Int)] = (l.set i (t, n')).flatMap H5 := by
 obtain ⟨hi, _⟩ := List.getElem?_eq_some_iff.1 hx
 have h1 := A3N (f := H5) (k := 2) (fun _ => rfl) l i (t, n') hi
 rw [← h1]
 have h2 := Q8 (f := H5) (k := 2) (fun _ => rfl) l i 0 (by omega)
 rw [hx] at h2
 have h3 : (l.flatMap H5)[i * 2]? = some t.1 := h2
 obtain ⟨h4, h5⟩ := List.getElem?_eq_some_iff.1 h3
 simp only [W0, H5, List.length_cons, List.length_nil, Nat.zero_add]
 rw [List.take_add_one, h3]
 simp
structure MoOk (m : MoH) : Prop where
 few : m.ts.length ≤ 1000
 len : ∀ t ∈ m.ts, t.1.2.length ≤ 1000000
 keys : ∀ t ∈ m.ts, N8 t.1.2
def A4m (s : MoS) (i now : Int) : MoS × AnsV :=
 if i < 0 ∨ (s.tabs.length : Int) ≤ i then (s, ⟨1, 0, false, 0⟩)
 else let t := s.tabs.getD i.toNat ([], 0); let r := K9 t.1 t.2 4 now; ({ s with tabs := s.tabs.set i.toNat (r.1, r.2.1) }, ⟨0, 0, false, (r.2.2 : Nat)⟩)
theorem C3B (w : World) (m : MoH) (o : OpV) (v : Value) (now : Int) (hv : v.cells = #[v] ∧ plain v = true) (hm : MoOk m) (hw : LW false (B2 (D4 m)) w (D4 m) w) :
  Fn PR B6 66 #[.pointer (some ⟨m.b, 0, none⟩), o.val v, .int .i64 now] w (DoR w m (A4m m.st o.shard now)) := by
 refine A7v (TW.goH (κ := false) (S := B2 (D4 m)) ?_ hw)
 unfold A1a
 simp only [OpV.val]
 unfold DoR
 have hlen := hm.few
 have hstl : m.st.tabs.length = m.ts.length := by simp [MoH.st]
 generalize hS : B2 (D4 m) = S at *
 simp only [D4]
 refine T4 (e := 134) (k := 2) (v := m.sv) (q := m.ts.length) (xs := m.ts.flatMap H5) (by (repeat constructor)) ?_
 intro sa sc hsv
 rw [hsv]
 have hpt : ∀ r' : MoS × AnsV, r' = (m.st, ⟨1, 0, false, 0⟩) → True := fun _ _ => trivial
 by_cases c1 : o.shard < 0
 ·have e : A4m m.st o.shard now = (m.st, ⟨1, 0, false, 0⟩) := if_pos (Or.inl c1)
  rw [e]
  (have zz:=trivial;repeat((first|clear zz|with_reducible first|refine A3 ?_|refine A5 fun _=>?_|refine A4 fun _=>?_);try simp(disch:=first|omega|assumption|((repeat(first|exact A1|exact uH|apply A2|apply uT));first|done|fail)|(simp;first|done|omega|fail))[c1]))
  refine B1 m ⟨by simp [AnsV.val], rfl, rfl⟩ ?_
  simp only [D4, hsv]
  (repeat' constructor)
 by_cases c2 : (m.ts.length : Int) ≤ o.shard
 ·have e : A4m m.st o.shard now = (m.st, ⟨1, 0, false, 0⟩) := if_pos (Or.inr (by rw [hstl]; exact c2))
  rw [e]
  (have zz:=trivial;repeat((first|clear zz|with_reducible first|refine A3 ?_|refine A5 fun _=>?_|refine A4 fun _=>?_);try simp(disch:=first|omega|assumption|((repeat(first|exact A1|exact uH|apply A2|apply uT));first|done|fail)|(simp;first|done|omega|fail))[c1, c2]))
  refine B1 m ⟨by simp [AnsV.val], rfl, rfl⟩ ?_
  simp only [D4, hsv]
  (repeat' constructor)
 obtain ⟨i, hi⟩ : ∃ i : Nat, o.shard = i := ⟨o.shard.toNat, by omega⟩
 rw [hi] at c1 c2 ⊢
 have hlt : i < m.ts.length := by omega
 obtain ⟨⟨⟨tv, tl⟩, tn⟩, hx⟩ : ∃ x, m.ts[i]? = some x := ⟨_, List.getElem?_eq_getElem hlt⟩
 have hxm := List.mem_of_getElem? hx
 have hgd : m.st.tabs.getD i ([], 0) = (tl, tn) := by simp [MoH.st, List.getD_eq_getElem?_getD, hx]
 have e : A4m m.st i now = ({ m.st with tabs := m.st.tabs.set i ((K9 tl tn 4 now).1, (K9 tl tn 4 now).2.1) }, ⟨0, 0, false, ((K9 tl tn 4 now).2.2 : Nat)⟩) := by
  unfold A4m
  rw [if_neg (by rw [hstl]; omega)]
  simp only [Int.toNat_natCast, hgd]
 rw [e]
 have h0 : (m.ts.flatMap H5)[i * 2]? = some tv := by
  have := Q8 (f := H5) (k := 2) (fun _ => rfl) m.ts i 0 (by omega); rw [hx] at this; exact this
 have h1 : (m.ts.flatMap H5)[i * 2 + 1]? = some (.int .i64 (tn : Int)) := by
  have := Q8 (f := H5) (k := 2) (fun _ => rfl) m.ts i 1 (by omega); rw [hx] at this; exact this
 refine l2 (e := 134) (k := 2) (v := .slice sa m.ts.length sc) (q := m.ts.length) (xs := m.ts.flatMap H5) (by (repeat constructor)) (by omega) ?_
 rintro g gc hg
 cases hg
 (have zz:=trivial;repeat((first|clear zz|with_reducible first|refine A3 ?_|refine A5 fun _=>?_|refine A4 fun _=>?_);try simp(disch:=first|omega|assumption|((repeat(first|exact A1|exact uH|apply A2|apply uT));first|done|fail)|(simp;first|done|omega|fail))[c1, c2, hlt, h0, h1]))
 refine H9 A7N (fun w' hw' => B9v w' tv tl tn 4 now (hm.keys _ hxm) (hm.len _ hxm) (p9 (t := (tv, tl)) hw' (ts := m.ts.map (·.1)) (by (repeat constructor)) (List.mem_map.2 ⟨_, hxm, rfl⟩))) ?_
 rintro r _ rfl
 refine q6 (e := 155) (k := 4) (v := r) (q := (K9 tl tn 4 now).1.length) (xs := (K9 tl tn 4 now).1.flatMap F1) (by (repeat constructor)) fun hr1 hr2 hr3 => ?_
 (have zz:=trivial;repeat((first|clear zz|with_reducible first|refine A3 ?_|refine A5 fun _=>?_|refine A4 fun _=>?_);try simp(disch:=first|omega|assumption|((repeat(first|exact A1|exact uH|apply A2|apply uT));first|done|fail)|(simp;first|done|omega|fail))[c1, c2, hlt]))
 have hr4 : r.cells.toList = [r] := by rw [hr1]
 refine Q7 (by (repeat constructor)) (by simp [hr1]) (by rw [K3 (k := 2) fun _ => rfl]; omega) (by simp [hr3]) ?_
 rw [hr4, B3F (e' := (K9 tl tn 4 now).1) hx]
 have hx2 : (m.ts.set i ((r, (K9 tl tn 4 now).1), tn))[i]? = some ((r, (K9 tl tn 4 now).1), tn) := by simp [hlt]
 (have zz:=trivial;repeat((first|clear zz|with_reducible first|refine A3 ?_|refine A5 fun _=>?_|refine A4 fun _=>?_);try simp(disch:=first|omega|assumption|((repeat(first|exact A1|exact uH|apply A2|apply uT));first|done|fail)|(simp;first|done|omega|fail))[c1, c2, hlt]))
 refine Q7 (by (repeat constructor)) (by simp) (by rw [K3 (k := 2) fun _ => rfl, List.length_set]; omega) (by simp) ?_
 simp only [C3M]
 rw [C7w hx2, List.set_set]
 (have zz:=trivial;repeat((first|clear zz|with_reducible first|refine A3 ?_|refine A5 fun _=>?_|refine A4 fun _=>?_);try simp(disch:=first|omega|assumption|((repeat(first|exact A1|exact uH|apply A2|apply uT));first|done|fail)|(simp;first|done|omega|fail))[]))
 refine B8W (r := r) (l := (K9 tl tn 4 now).1) (i := i) (by (repeat' constructor)) ?_
 refine B1 { m with sv := .slice (some ⟨g, 0, none⟩) m.ts.length sc, ts := m.ts.set i ((r, (K9 tl tn 4 now).1), (K9 tl tn 4 now).2.1) } ⟨by simp [AnsV.val], rfl, by simp [MoH.st, List.map_set]⟩ ?_
 simp only [D4, List.map_set, List.length_set]
 (repeat' constructor)
end Go.Proofs.YtpnidmkaobfhiaaGreat
namespace Go.Proofs.YtpnidmkaobfhiaaGreat
open Go
def y7 (ts : List (List EnV × Nat)) : Nat := (ts.map fun t => P8 t.1 1).sum
theorem C4c (ts : List (List EnV × Nat)) (h : ∀ t ∈ ts, t.1.length ≤ 1000000) : y7 ts ≤ ts.length * 1000000 := by
 induction ts with
 | nil => simp [y7]
 | cons t ts ih =>
  have h1 := ih fun x hx => h x (by simp [hx])
  have h2 := h t (by simp)
  have h3 : P8 t.1 1 ≤ t.1.length := List.countP_le_length
  have e : y7 (t :: ts) = P8 t.1 1 + y7 ts := by simp [y7]
  rw [e, List.length_cons]; omega
def B02 (s : MoS) : MoS × AnsV := (s, ⟨0, 0, false, (y7 s.tabs : Nat)⟩)
theorem C5G (w : World) (m : MoH) (o : OpV) (v : Value) (now : Int) (hv : v.cells = #[v] ∧ plain v = true) (hm : MoOk m) (hw : LW false (B2 (D4 m)) w (D4 m) w) :
  Fn PR B6 67 #[.pointer (some ⟨m.b, 0, none⟩), o.val v, .int .i64 now] w (DoR w m (B02 m.st)) := by
 refine A8F (TW.goH (κ := false) (S := B2 (D4 m)) ?_ hw)
 unfold A12
 simp only [OpV.val]
 unfold DoR
 have hlen := hm.few
 generalize hS : B2 (D4 m) = S at *
 simp only [D4]
 refine T4 (e := 134) (k := 2) (v := m.sv) (q := m.ts.length) (xs := m.ts.flatMap H5) (by (repeat constructor)) ?_
 intro sa sc hsv
 rw [hsv]
 (have zz:=trivial;repeat((first|clear zz|with_reducible first|refine A3 ?_|refine A5 fun _=>?_|refine A4 fun _=>?_);try simp(disch:=first|omega|assumption|((repeat(first|exact A1|exact uH|apply A2|apply uT));first|done|fail)|(simp;first|done|omega|fail))[]))
 rename_i b4 b6 b7
 obtain ⟨tb, htb⟩ : ∃ tb, tb = m.ts.map fun t => (t.1.2, t.2) := ⟨_, rfl⟩
 have htl : tb.length = m.ts.length := by rw [htb]; simp
 refine C3T m.ts.length (fun i => [.pt b7 (.cells #[.int .i64 0, .int .i64 0, .bool false, .int .i64 (y7 (tb.take i) : Nat)] 57), .pt b6 (.cells #[.int .i64 0, .int .i64 0, .bool false, .int .i64 0] 57),
  .pt b4 (.cells #[.int .i64 o.kind, .string o.packet, v, .int .i64 o.shard] 38), .pt m.b (.cells #[.int .i64 m.c.wk, .int .i64 m.c.sh, .int .i64 m.c.cp, .int .i64 m.c.idle, .int .i64 m.c.sl, m.pv, .slice sa m.ts.length sc] 130),
  .own 83 2 m.pv m.pool.length (m.pool.flatMap E8), .own 134 2 (.slice sa m.ts.length sc) m.ts.length (m.ts.flatMap H5), E5 (m.ts.map (·.1))]) ?_
 intro i hi L hL
 have hsum : y7 (tb.take i) ≤ 1000000000 := by
  have := C4c (tb.take i) (by
   intro t ht
   have ht2 := List.mem_of_mem_take ht
   rw [htb] at ht2
   obtain ⟨x, hx, rfl⟩ := List.mem_map.1 ht2; exact hm.len x hx)
  have h2 : (tb.take i).length ≤ 1000 := by rw [List.length_take]; omega
  have h3 : (tb.take i).length * 1000000 ≤ 1000 * 1000000 := Nat.mul_le_mul_right _ h2
  omega
 by_cases hlt : i < m.ts.length
 ·obtain ⟨⟨⟨tv, tl⟩, tn⟩, hx⟩ : ∃ x, m.ts[i]? = some x := ⟨_, List.getElem?_eq_getElem hlt⟩
  have hxm := List.mem_of_getElem? hx
  have h0 : (m.ts.flatMap H5)[i * 2]? = some tv := by
   have := Q8 (f := H5) (k := 2) (fun _ => rfl) m.ts i 0 (by omega); rw [hx] at this; exact this
  have hst : y7 (tb.take (i + 1)) = y7 (tb.take i) + P8 tl 1 := by
   have hx2 : tb[i]? = some (tl, tn) := by rw [htb, List.getElem?_map, hx]; rfl
   rw [List.take_add_one, hx2]; simp [y7]
  have hcl : P8 tl 1 ≤ 1000000 := Nat.le_trans List.countP_le_length (hm.len _ hxm)
  have hL' := hL hlt
  rw [hst] at hL'
  refine l2 (e := 134) (k := 2) (v := .slice sa m.ts.length sc) (q := m.ts.length) (xs := m.ts.flatMap H5) (by (repeat constructor)) (by omega) ?_
  rintro g gc hg
  cases hg
  (have zz:=trivial;repeat((first|clear zz|with_reducible first|refine A3 ?_|refine A5 fun _=>?_|refine A4 fun _=>?_);try simp(disch:=first|omega|assumption|((repeat(first|exact A1|exact uH|apply A2|apply uT));first|done|fail)|(simp;first|done|omega|fail))[hlt]))
  refine C8 A8m (fun w' hw' => C39 w' g (i * 2) tv tl (by have := (hw'.ownr (e := 134) (k := 2) (q := m.ts.length) (c := sc) (xs := m.ts.flatMap H5) (by (repeat constructor))).get h0; rwa [Nat.zero_add] at this) (hm.len _ hxm) (p9 (t := (tv, tl)) hw' (ts := m.ts.map (·.1)) (by (repeat constructor)) (List.mem_map.2 ⟨_, hxm, rfl⟩))) ?_
  (have zz:=trivial;repeat((first|clear zz|with_reducible first|refine A3 ?_|refine A5 fun _=>?_|refine A4 fun _=>?_);try simp(disch:=first|omega|assumption|((repeat(first|exact A1|exact uH|apply A2|apply uT));first|done|fail)|(simp;first|done|omega|fail))[]))
  exact TW.eqH (by simp) hL'
 ·obtain rfl : i = m.ts.length := by omega
  rw [← htl, List.take_length, htl]
  (have zz:=trivial;repeat((first|clear zz|with_reducible first|refine A3 ?_|refine A5 fun _=>?_|refine A4 fun _=>?_);try simp(disch:=first|omega|assumption|((repeat(first|exact A1|exact uH|apply A2|apply uT));first|done|fail)|(simp;first|done|omega|fail))[]))
  refine B1 m ⟨by simp [AnsV.val, B02, MoH.st, htb], rfl, rfl⟩ ?_
  simp only [D4, hsv]
  (repeat' constructor)
end Go.Proofs.YtpnidmkaobfhiaaGreat
namespace Go.Proofs.YtpnidmkaobfhiaaGreat
open Go
def s6 (k : KeyV) : ByteArray := if c6 k then A4V k else Z1
def A5u (s : MoS) (pk : ByteArray) (now : Int) : MoS × AnsV :=
 let x := C7 pk
 if x.2.2 ≠ 0 then (s, ⟨9, 0, false, 0⟩)
 else
  let i := M9 (s6 x.1) s.c.sh
  let t := s.tabs.getD i ([], 0)
  let r := E6 t.1 s.pool (s6 x.1) (Z3 x.1 x.2.1) now s.c.idle
  ({ s with tabs := s.tabs.set i (r.1, t.2) }, r.2.1)
structure MoOk2 (m : MoH) : Prop extends MoOk m where
 pool : m.pool.length ≤ 1000
 sh : m.c.sh = m.ts.length
 pos : 0 < m.ts.length
theorem B77 {l : List EnV} {p : List F2} {key : ByteArray} {c : Bool} {now idle : Int} (h : (E6 l p key c now idle).2.2 = false) : (E6 l p key c now idle).1 = l := by
 unfold E6 at h ⊢
 split
 ·rfl
 ·rw [if_neg ‹_›] at h
  split
  ·rw [if_pos ‹_›] at h
   simp only at h
   cases hd : p5 l key with
   | none => simp [A4Z, hd]
   | some u => rw [hd] at h; cases h
  ·rw [if_neg ‹_›] at h
   cases hp : M3 l (B4F l p key now idle) with
   | none => rfl
   | some u => rw [hp] at h; cases h
theorem C1p {κ : Bool} {S : List Nat} {w0 : World} {H : List Res} {K0 : WP} {ts : List (Value × List EnV)} {t : Value × List EnV} (hm : E5 ts ∈ H) (ht : t ∈ ts) (h : t.1.cells = #[t.1] → t.1.cells.size = 1 → t.1.cells.toList.all plain = true → TW κ S w0 H K0) : TW κ S w0 H K0 := fun w hw => by
 obtain ⟨a, c, e⟩ := S8.form ((hw.hold _ hm : A7z ts w) t ht)
 exact h (by rw [e]; rfl) (by rw [e]; rfl) (by rw [e]; rfl) w hw
theorem B4H (s t : ByteArray) (o : Nat) : (j5 s o t).size ≤ o + t.size + s.size := by
 simp only [j5, ByteArray.size_append, ByteArray.size_extract]; omega
theorem B1x (x : Int) : (M2 x 2).size ≤ 2 := by simp
theorem A5j (k : KeyV) : (s6 k).size < 2 ^ 60 := by
 unfold s6
 split
 ·rename_i h
  simp only [c6, decide_eq_true_eq] at h
  have hl : d6 k.v ≤ 16 := by unfold d6; split <;> (try split) <;> omega
  have h1 := B4H (j5 (j5 z38 0 (M2 (k.v * 256 + k.proto) 2 ++ M2 k.fr 2 ++ M2 k.tp 2)) 6 k.src) k.dst 22
  have h2 := B4H (j5 z38 0 (M2 (k.v * 256 + k.proto) 2 ++ M2 k.fr 2 ++ M2 k.tp 2)) k.src 6
  have h3 := B4H z38 (M2 (k.v * 256 + k.proto) 2 ++ M2 k.fr 2 ++ M2 k.tp 2) 0
  have h4 := B1x (k.v * 256 + k.proto)
  have h5 := B1x k.fr
  have h6 := B1x k.tp
  have h7 := A8U
  simp only [ByteArray.size_append] at h3
  unfold A4V
  omega
 ·simp
theorem B9C (w : World) (m : MoH) (o : OpV) (v : Value) (now : Int) (hv : v.cells = #[v] ∧ plain v = true) (hpk : o.packet.size < 2 ^ 40) (hm : MoOk2 m) (hw : LW false (B2 (D4 m)) w (D4 m) w) :
  Fn PR B6 64 #[.pointer (some ⟨m.b, 0, none⟩), o.val v, .int .i64 now] w (DoR w m (A5u m.st o.packet now)) := by
 refine A45 (TW.goH (κ := false) (S := B2 (D4 m)) ?_ hw)
 unfold A0M
 simp only [OpV.val]
 unfold DoR
 have hlen := hm.few
 generalize hS : B2 (D4 m) = S at *
 simp only [D4]
 refine T4 (e := 134) (k := 2) (v := m.sv) (q := m.ts.length) (xs := m.ts.flatMap H5) (by (repeat constructor)) ?_
 intro sa sc hsv
 rw [hsv]
 (have zz:=trivial;repeat((first|clear zz|with_reducible first|refine A3 ?_|refine A5 fun _=>?_|refine A4 fun _=>?_);try simp(disch:=first|omega|assumption|((repeat(first|exact A1|exact uH|apply A2|apply uT));first|done|fail)|(simp;first|done|omega|fail))[]))
 refine C8 B2G (fun w' hw' => B4y w' o.packet hpk) ?_
 by_cases c1 : (C7 o.packet).2.2 = 0
 case neg =>
  have e : A5u m.st o.packet now = (m.st, ⟨9, 0, false, 0⟩) := by unfold A5u; simp only; rw [if_pos c1]
  rw [e]
  (have zz:=trivial;repeat((first|clear zz|with_reducible first|refine A3 ?_|refine A5 fun _=>?_|refine A4 fun _=>?_);try simp(disch:=first|omega|assumption|((repeat(first|exact A1|exact uH|apply A2|apply uT));first|done|fail)|(simp;first|done|omega|fail))[packet.val, m0, c1]))
  refine B1 m ⟨by simp [AnsV.val], rfl, rfl⟩ ?_
  simp only [D4, hsv]
  (repeat' constructor)
 have hk := A5j (C7 o.packet).1
 (have zz:=trivial;repeat((first|clear zz|with_reducible first|refine A3 ?_|refine A5 fun _=>?_|refine A4 fun _=>?_);try simp(disch:=first|omega|assumption|((repeat(first|exact A1|exact uH|apply A2|apply uT));first|done|fail)|(simp;first|done|omega|fail))[packet.val, m0, c1]))
 refine C8 (u := A7J (C7 o.packet).1) B2d (fun w' hw' => C3z w' (C7 o.packet).1) ?_
 (have zz:=trivial;repeat((first|clear zz|with_reducible first|refine A3 ?_|refine A5 fun _=>?_|refine A4 fun _=>?_);try simp(disch:=first|omega|assumption|((repeat(first|exact A1|exact uH|apply A2|apply uT));first|done|fail)|(simp;first|done|omega|fail))[A7J]))
 rename_i b4 b6 b7
 have hsh := hm.sh
 have hpos := hm.pos
 rw [show (if c6 (C7 o.packet).1 = true then A4V (C7 o.packet).1 else Z1) = s6 (C7 o.packet).1 from rfl]
 generalize hkey : s6 (C7 o.packet).1 = key at *
 refine C8 B3f (fun w' hw' => C5J w' key m.c.sh hk (by omega)) ?_
 have hlt : M9 key m.c.sh < m.ts.length := by
  unfold M9; rw [if_neg (by omega), hsh, Int.toNat_natCast]; exact Nat.mod_lt _ hpos
 have e : A5u m.st o.packet now = ({ m.st with tabs := m.st.tabs.set (M9 key m.c.sh) ((E6 (m.st.tabs.getD (M9 key m.c.sh) ([], 0)).1 m.pool key (Z3 (C7 o.packet).1 (C7 o.packet).2.1) now m.c.idle).1, (m.st.tabs.getD (M9 key m.c.sh) ([], 0)).2) },
   (E6 (m.st.tabs.getD (M9 key m.c.sh) ([], 0)).1 m.pool key (Z3 (C7 o.packet).1 (C7 o.packet).2.1) now m.c.idle).2.1) := by
  unfold A5u; simp only; rw [if_neg (by rw [c1]; simp), hkey]; rfl
 rw [e]
 generalize M9 key m.c.sh = i at *
 obtain ⟨⟨⟨tv, tl⟩, tn⟩, hx⟩ : ∃ x, m.ts[i]? = some x := ⟨_, List.getElem?_eq_getElem hlt⟩
 have hxm := List.mem_of_getElem? hx
 have hgd : m.st.tabs.getD i ([], 0) = (tl, tn) := by simp [MoH.st, List.getD_eq_getElem?_getD, hx]
 rw [hgd]
 simp only
 generalize hcl : Z3 (C7 o.packet).1 (C7 o.packet).2.1 = cl at *
 have h0 : (m.ts.flatMap H5)[i * 2]? = some tv := by
  have := Q8 (f := H5) (k := 2) (fun _ => rfl) m.ts i 0 (by omega); rw [hx] at this; exact this
 refine l2 (e := 134) (k := 2) (v := .slice sa m.ts.length sc) (q := m.ts.length) (xs := m.ts.flatMap H5) (by (repeat constructor)) (by omega) ?_
 rintro g gc hg
 cases hg
 (have zz:=trivial;repeat((first|clear zz|with_reducible first|refine A3 ?_|refine A5 fun _=>?_|refine A4 fun _=>?_);try simp(disch:=first|omega|assumption|((repeat(first|exact A1|exact uH|apply A2|apply uT));first|done|fail)|(simp;first|done|omega|fail))[hlt]))
 cases hnw : (E6 tl m.pool key cl now m.c.idle).2.2 with
 | true =>
  refine C0x (α := Nat × Value) (fun x => x.2.cells = #[x.2] ∧ x.2.cells.size = 1 ∧ x.2.cells.toList.all plain = true) (fun x => [.pt x.1 (.cells #[.int .i64 (E6 tl m.pool key cl now m.c.idle).2.1.err, .int .i64 (E6 tl m.pool key cl now m.c.idle).2.1.bk, .bool (E6 tl m.pool key cl now m.c.idle).2.1.made, .int .i64 (E6 tl m.pool key cl now m.c.idle).2.1.count] 57), G5 x.2 (E6 tl m.pool key cl now m.c.idle).1, 
   .pt b7 (.cells #[.int .i64 (C7 o.packet).1.v, .string (C7 o.packet).1.src, .string (C7 o.packet).1.dst, .int .i64 (C7 o.packet).1.fr, .int .i64 (C7 o.packet).1.tp, .int .i64 (C7 o.packet).1.proto, .int .i64 (C7 o.packet).2.1] 192),
   .pt b6 (.cells #[.int .i64 0, .int .i64 0, .bool false, .int .i64 0] 57),
   .pt m.b (.cells #[.int .i64 m.c.wk, .int .i64 m.c.sh, .int .i64 m.c.cp, .int .i64 m.c.idle, .int .i64 m.c.sl, m.pv, .slice (some ⟨g, 0, none⟩) m.ts.length sc] 130),
   .own 83 2 m.pv m.pool.length (m.pool.flatMap E8), .own 134 2 (.slice (some ⟨g, 0, none⟩) m.ts.length sc) m.ts.length (m.ts.flatMap H5), E5 (m.ts.map (·.1))])
   (fun x => .pointer (some ⟨x.1, 0, none⟩)) (fun x => x.2) ?_ ?_
  ·rintro ⟨ba, r⟩ ⟨hr1, hr2, hr3⟩
   simp only at hr1 hr2 hr3 ⊢
   have hr4 : r.cells.toList = [r] := by rw [hr1]
   (have zz:=trivial;repeat((first|clear zz|with_reducible first|refine A3 ?_|refine A5 fun _=>?_|refine A4 fun _=>?_);try simp(disch:=first|omega|assumption|((repeat(first|exact A1|exact uH|apply A2|apply uT));first|done|fail)|(simp;first|done|omega|fail))[hlt]))
   refine Q7 (by (repeat constructor)) (by simp [hr1]) (by rw [K3 (k := 2) fun _ => rfl]; omega) (by simp [hr3]) ?_
   rw [hr4, B3F (e' := (E6 tl m.pool key cl now m.c.idle).1) hx]
   (have zz:=trivial;repeat((first|clear zz|with_reducible first|refine A3 ?_|refine A5 fun _=>?_|refine A4 fun _=>?_);try simp(disch:=first|omega|assumption|((repeat(first|exact A1|exact uH|apply A2|apply uT));first|done|fail)|(simp;first|done|omega|fail))[]))
   refine B8W (r := r) (l := (E6 tl m.pool key cl now m.c.idle).1) (i := i) (by (repeat' constructor)) ?_
   refine B1 { m with sv := .slice (some ⟨g, 0, none⟩) m.ts.length sc, ts := m.ts.set i ((r, (E6 tl m.pool key cl now m.c.idle).1), tn) } ⟨by simp [AnsV.val], rfl, by simp [MoH.st, List.map_set]⟩ ?_
   simp only [D4, List.map_set, List.length_set]
   (repeat' constructor)
  ·intro J hJ
   (have zz:=trivial;repeat((first|clear zz|with_reducible first|refine A3 ?_|refine A5 fun _=>?_|refine A4 fun _=>?_);try simp(disch:=first|omega|assumption|((repeat(first|exact A1|exact uH|apply A2|apply uT));first|done|fail)|(simp;first|done|omega|fail))[hlt, h0]))
   have hclo : ∀ w', Fn PR B6 94 #[m0 (C7 o.packet).1 (C7 o.packet).2.1] w' (fun u w'' => u = .bool cl ∧ C6 [] w' w'') := fun w' => by rw [← hcl]; exact B26 w' _ _
   refine ⟨?_, ?_⟩
   ·refine C8 e8 (fun w' _ => hclo w') ?_
    (have zz:=trivial;repeat((first|clear zz|with_reducible first|refine A3 ?_|refine A5 fun _=>?_|refine A4 fun _=>?_);try simp(disch:=first|omega|assumption|((repeat(first|exact A1|exact uH|apply A2|apply uT));first|done|fail)|(simp;first|done|omega|fail))[h0]))
    refine ⟨?_, ?_⟩
    ·refine H9 V1 (fun w' hw' => A1M w' tv m.pv tl m.pool key cl now m.c.idle hk (hm.keys _ hxm) (hm.len _ hxm) hm.pool (p9 (t := (tv, tl)) hw' (ts := m.ts.map (·.1)) (by (repeat constructor)) (List.mem_map.2 ⟨_, hxm, rfl⟩)) (P4.own (e := 83) (k := 2) (by (repeat constructor)) w' hw')) ?_
     rintro r _ rfl
     simp only [hnw, if_true]
     refine q6 (e := 155) (k := 4) (v := r) (q := (E6 tl m.pool key cl now m.c.idle).1.length) (xs := (E6 tl m.pool key cl now m.c.idle).1.flatMap F1) (by (repeat constructor)) fun hr1 hr2 hr3 => ?_
     (have zz:=trivial;repeat((first|clear zz|with_reducible first|refine A3 ?_|refine A5 fun _=>?_|refine A4 fun _=>?_);try simp(disch:=first|omega|assumption|((repeat(first|exact A1|exact uH|apply A2|apply uT));first|done|fail)|(simp;first|done|omega|fail))[AnsV.val]))
     rename_i bx
     exact Sels.tw (by (repeat' constructor)) (hJ (bx, r) ⟨hr1, hr2, hr3⟩)
    ·refine ⟨?_, fun _ _ => trivial⟩
     (have zz:=trivial;repeat((first|clear zz|with_reducible first|refine A3 ?_|refine A5 fun _=>?_|refine A4 fun _=>?_);try simp(disch:=first|omega|assumption|((repeat(first|exact A1|exact uH|apply A2|apply uT));first|done|fail)|(simp;first|done|omega|fail))[h0]))
     rename_i bx
     refine H9 V1 (fun w' hw' => A1M w' tv m.pv tl m.pool key cl now m.c.idle hk (hm.keys _ hxm) (hm.len _ hxm) hm.pool (p9 (t := (tv, tl)) hw' (ts := m.ts.map (·.1)) (by (repeat constructor)) (List.mem_map.2 ⟨_, hxm, rfl⟩)) (P4.own (e := 83) (k := 2) (by (repeat constructor)) w' hw')) ?_
     rintro r _ rfl
     simp only [hnw, if_true]
     refine q6 (e := 155) (k := 4) (v := r) (q := (E6 tl m.pool key cl now m.c.idle).1.length) (xs := (E6 tl m.pool key cl now m.c.idle).1.flatMap F1) (by (repeat constructor)) fun hr1 hr2 hr3 => ?_
     (have zz:=trivial;repeat((first|clear zz|with_reducible first|refine A3 ?_|refine A5 fun _=>?_|refine A4 fun _=>?_);try simp(disch:=first|omega|assumption|((repeat(first|exact A1|exact uH|apply A2|apply uT));first|done|fail)|(simp;first|done|omega|fail))[AnsV.val]))
     exact Sels.tw (by (repeat' constructor)) (hJ (bx, r) ⟨hr1, hr2, hr3⟩)
   ·refine ⟨?_, fun _ _ => trivial⟩
    (have zz:=trivial;repeat((first|clear zz|with_reducible first|refine A3 ?_|refine A5 fun _=>?_|refine A4 fun _=>?_);try simp(disch:=first|omega|assumption|((repeat(first|exact A1|exact uH|apply A2|apply uT));first|done|fail)|(simp;first|done|omega|fail))[h0]))
    rename_i bx
    rw [B2S (by (repeat constructor)) (by rfl)]
    (have zz:=trivial;repeat((first|clear zz|with_reducible first|refine A3 ?_|refine A5 fun _=>?_|refine A4 fun _=>?_);try simp(disch:=first|omega|assumption|((repeat(first|exact A1|exact uH|apply A2|apply uT));first|done|fail)|(simp;first|done|omega|fail))[h0]))
    refine C8 e8 (fun w' _ => hclo w') ?_
    (have zz:=trivial;repeat((first|clear zz|with_reducible first|refine A3 ?_|refine A5 fun _=>?_|refine A4 fun _=>?_);try simp(disch:=first|omega|assumption|((repeat(first|exact A1|exact uH|apply A2|apply uT));first|done|fail)|(simp;first|done|omega|fail))[h0]))
    refine H9 V1 (fun w' hw' => A1M w' tv m.pv tl m.pool key cl now m.c.idle hk (hm.keys _ hxm) (hm.len _ hxm) hm.pool (p9 (t := (tv, tl)) hw' (ts := m.ts.map (·.1)) (by (repeat constructor)) (List.mem_map.2 ⟨_, hxm, rfl⟩)) (P4.own (e := 83) (k := 2) (by (repeat constructor)) w' hw')) ?_
    rintro r _ rfl
    simp only [hnw, if_true]
    refine q6 (e := 155) (k := 4) (v := r) (q := (E6 tl m.pool key cl now m.c.idle).1.length) (xs := (E6 tl m.pool key cl now m.c.idle).1.flatMap F1) (by (repeat constructor)) fun hr1 hr2 hr3 => ?_
    (have zz:=trivial;repeat((first|clear zz|with_reducible first|refine A3 ?_|refine A5 fun _=>?_|refine A4 fun _=>?_);try simp(disch:=first|omega|assumption|((repeat(first|exact A1|exact uH|apply A2|apply uT));first|done|fail)|(simp;first|done|omega|fail))[AnsV.val]))
    exact Sels.tw (by (repeat' constructor)) (hJ (bx, r) ⟨hr1, hr2, hr3⟩)
 | false =>
  refine C1p (ts := m.ts.map (·.1)) (t := (tv, tl)) (by (repeat constructor)) (List.mem_map.2 ⟨_, hxm, rfl⟩) fun hr1 hr2 hr3 => ?_
  simp only at hr1 hr2 hr3
  refine C0x (α := Nat × Value) (fun x => x.2.cells = #[x.2] ∧ x.2.cells.size = 1 ∧ x.2.cells.toList.all plain = true) (fun x => [.pt x.1 (.cells #[.int .i64 (E6 tl m.pool key cl now m.c.idle).2.1.err, .int .i64 (E6 tl m.pool key cl now m.c.idle).2.1.bk, .bool (E6 tl m.pool key cl now m.c.idle).2.1.made, .int .i64 (E6 tl m.pool key cl now m.c.idle).2.1.count] 57), 
   .pt b7 (.cells #[.int .i64 (C7 o.packet).1.v, .string (C7 o.packet).1.src, .string (C7 o.packet).1.dst, .int .i64 (C7 o.packet).1.fr, .int .i64 (C7 o.packet).1.tp, .int .i64 (C7 o.packet).1.proto, .int .i64 (C7 o.packet).2.1] 192),
   .pt b6 (.cells #[.int .i64 0, .int .i64 0, .bool false, .int .i64 0] 57),
   .pt m.b (.cells #[.int .i64 m.c.wk, .int .i64 m.c.sh, .int .i64 m.c.cp, .int .i64 m.c.idle, .int .i64 m.c.sl, m.pv, .slice (some ⟨g, 0, none⟩) m.ts.length sc] 130),
   .own 83 2 m.pv m.pool.length (m.pool.flatMap E8), .own 134 2 (.slice (some ⟨g, 0, none⟩) m.ts.length sc) m.ts.length (m.ts.flatMap H5), E5 (m.ts.map (·.1))])
   (fun x => .pointer (some ⟨x.1, 0, none⟩)) (fun x => tv) ?_ ?_
  ·rintro ⟨ba, r⟩ _
   simp only
   have hr4 : tv.cells.toList = [tv] := by rw [hr1]
   have hsame : m.ts.set i ((tv, tl), tn) = m.ts := by
    obtain ⟨h, e⟩ := List.getElem?_eq_some_iff.1 hx
    rw [← e]; exact List.set_getElem_self h
   have hst : m.st.tabs.set i (tl, tn) = m.st.tabs := by
    have := congrArg (List.map fun t : ShV => (t.1.2, t.2)) hsame
    rw [List.map_set] at this; exact this
   have hd := B77 hnw
   (have zz:=trivial;repeat((first|clear zz|with_reducible first|refine A3 ?_|refine A5 fun _=>?_|refine A4 fun _=>?_);try simp(disch:=first|omega|assumption|((repeat(first|exact A1|exact uH|apply A2|apply uT));first|done|fail)|(simp;first|done|omega|fail))[hlt]))
   refine Q7 (by (repeat constructor)) (by simp [hr1]) (by rw [K3 (k := 2) fun _ => rfl]; omega) (by simp [hr3]) ?_
   rw [hr4, B3F (e' := tl) hx, hsame]
   (have zz:=trivial;repeat((first|clear zz|with_reducible first|refine A3 ?_|refine A5 fun _=>?_|refine A4 fun _=>?_);try simp(disch:=first|omega|assumption|((repeat(first|exact A1|exact uH|apply A2|apply uT));first|done|fail)|(simp;first|done|omega|fail))[]))
   refine B1 m ⟨by simp [AnsV.val], rfl, by rw [hd, hst]⟩ ?_
   simp only [D4, hsv]
   (repeat' constructor)
  ·intro J hJ
   (have zz:=trivial;repeat((first|clear zz|with_reducible first|refine A3 ?_|refine A5 fun _=>?_|refine A4 fun _=>?_);try simp(disch:=first|omega|assumption|((repeat(first|exact A1|exact uH|apply A2|apply uT));first|done|fail)|(simp;first|done|omega|fail))[hlt, h0]))
   have hclo : ∀ w', Fn PR B6 94 #[m0 (C7 o.packet).1 (C7 o.packet).2.1] w' (fun u w'' => u = .bool cl ∧ C6 [] w' w'') := fun w' => by rw [← hcl]; exact B26 w' _ _
   refine ⟨?_, ?_⟩
   ·refine C8 e8 (fun w' _ => hclo w') ?_
    (have zz:=trivial;repeat((first|clear zz|with_reducible first|refine A3 ?_|refine A5 fun _=>?_|refine A4 fun _=>?_);try simp(disch:=first|omega|assumption|((repeat(first|exact A1|exact uH|apply A2|apply uT));first|done|fail)|(simp;first|done|omega|fail))[h0]))
    refine ⟨?_, ?_⟩
    ·refine H9 V1 (fun w' hw' => A1M w' tv m.pv tl m.pool key cl now m.c.idle hk (hm.keys _ hxm) (hm.len _ hxm) hm.pool (p9 (t := (tv, tl)) hw' (ts := m.ts.map (·.1)) (by (repeat constructor)) (List.mem_map.2 ⟨_, hxm, rfl⟩)) (P4.own (e := 83) (k := 2) (by (repeat constructor)) w' hw')) ?_
     rintro r _ rfl
     simp only [hnw, Bool.false_eq_true, if_false]
     (have zz:=trivial;repeat((first|clear zz|with_reducible first|refine A3 ?_|refine A5 fun _=>?_|refine A4 fun _=>?_);try simp(disch:=first|omega|assumption|((repeat(first|exact A1|exact uH|apply A2|apply uT));first|done|fail)|(simp;first|done|omega|fail))[AnsV.val]))
     rename_i bx
     exact Sels.tw (by (repeat' constructor)) (hJ (bx, tv) ⟨hr1, hr2, hr3⟩)
    ·refine ⟨?_, fun _ _ => trivial⟩
     (have zz:=trivial;repeat((first|clear zz|with_reducible first|refine A3 ?_|refine A5 fun _=>?_|refine A4 fun _=>?_);try simp(disch:=first|omega|assumption|((repeat(first|exact A1|exact uH|apply A2|apply uT));first|done|fail)|(simp;first|done|omega|fail))[h0]))
     rename_i bx
     refine H9 V1 (fun w' hw' => A1M w' tv m.pv tl m.pool key cl now m.c.idle hk (hm.keys _ hxm) (hm.len _ hxm) hm.pool (p9 (t := (tv, tl)) hw' (ts := m.ts.map (·.1)) (by (repeat constructor)) (List.mem_map.2 ⟨_, hxm, rfl⟩)) (P4.own (e := 83) (k := 2) (by (repeat constructor)) w' hw')) ?_
     rintro r _ rfl
     simp only [hnw, Bool.false_eq_true, if_false]
     (have zz:=trivial;repeat((first|clear zz|with_reducible first|refine A3 ?_|refine A5 fun _=>?_|refine A4 fun _=>?_);try simp(disch:=first|omega|assumption|((repeat(first|exact A1|exact uH|apply A2|apply uT));first|done|fail)|(simp;first|done|omega|fail))[AnsV.val]))
     exact Sels.tw (by (repeat' constructor)) (hJ (bx, tv) ⟨hr1, hr2, hr3⟩)
   ·refine ⟨?_, fun _ _ => trivial⟩
    (have zz:=trivial;repeat((first|clear zz|with_reducible first|refine A3 ?_|refine A5 fun _=>?_|refine A4 fun _=>?_);try simp(disch:=first|omega|assumption|((repeat(first|exact A1|exact uH|apply A2|apply uT));first|done|fail)|(simp;first|done|omega|fail))[h0]))
    rename_i bx
    rw [B2S (by (repeat constructor)) (by rfl)]
    (have zz:=trivial;repeat((first|clear zz|with_reducible first|refine A3 ?_|refine A5 fun _=>?_|refine A4 fun _=>?_);try simp(disch:=first|omega|assumption|((repeat(first|exact A1|exact uH|apply A2|apply uT));first|done|fail)|(simp;first|done|omega|fail))[h0]))
    refine C8 e8 (fun w' _ => hclo w') ?_
    (have zz:=trivial;repeat((first|clear zz|with_reducible first|refine A3 ?_|refine A5 fun _=>?_|refine A4 fun _=>?_);try simp(disch:=first|omega|assumption|((repeat(first|exact A1|exact uH|apply A2|apply uT));first|done|fail)|(simp;first|done|omega|fail))[h0]))
    refine H9 V1 (fun w' hw' => A1M w' tv m.pv tl m.pool key cl now m.c.idle hk (hm.keys _ hxm) (hm.len _ hxm) hm.pool (p9 (t := (tv, tl)) hw' (ts := m.ts.map (·.1)) (by (repeat constructor)) (List.mem_map.2 ⟨_, hxm, rfl⟩)) (P4.own (e := 83) (k := 2) (by (repeat constructor)) w' hw')) ?_
    rintro r _ rfl
    simp only [hnw, Bool.false_eq_true, if_false]
    (have zz:=trivial;repeat((first|clear zz|with_reducible first|refine A3 ?_|refine A5 fun _=>?_|refine A4 fun _=>?_);try simp(disch:=first|omega|assumption|((repeat(first|exact A1|exact uH|apply A2|apply uT));first|done|fail)|(simp;first|done|omega|fail))[AnsV.val]))
    exact Sels.tw (by (repeat' constructor)) (hJ (bx, tv) ⟨hr1, hr2, hr3⟩)
end Go.Proofs.YtpnidmkaobfhiaaGreat
namespace Go.Proofs.YtpnidmkaobfhiaaGreat
open Go
structure JW where
 text : ByteArray
 key : ByteArray
 shard : Int
 closing : Bool
 who : Int
 st : Int
 ep : Int
 slot : Int
 now : Int
 table : List EnV
 ans : AnsV
def B6Y (x : WS) (i : Int) : List F2 := match N3 x.sl i with | .rdy p => p | _ => []
def D4L (x : WS) (i : Int) : Bool := match N3 x.sl i with | .rdy _ => true | _ => false
def JW.refuse (j : JW) (e : Int) : JW := { j with st := 10, ans := ⟨e, 0, false, 0⟩ }
def JW.rd (j : JW) (sh : Int) : JW := { j with key := s6 (C7 j.text).1, shard := (M9 (s6 (C7 j.text).1) sh : Nat), closing := Z3 (C7 j.text).1 (C7 j.text).2.1 }
abbrev JwR := JW × WS × y6
def noT : y6 := (false, false, false)
def jw0 (j : JW) (x : WS) : JwR :=
 if G7 x.c j.who < 0 then (j.refuse 1, x, true, true, false)
 else if (C7 j.text).2.2 ≠ 0 then (j.refuse 9, x, true, true, false)
 else ({ j.rd x.c.sh with ep := D3 x.cells 0 }, x, noT)
def jw1 (j : JW) (x : WS) : JwR := (j, { x with cells := M5 x.cells (G7 x.c j.who) (IntKind.i64.wrap (j.ep + 1)) }, noT)
def jw2 (j : JW) (x : WS) : JwR := if D3 x.cells 0 = j.ep then (j, x, noT) else ({ j with ep := D3 x.cells 0, st := 1 }, x, noT)
def jw3 (j : JW) (x : WS) : JwR := (j, { x with own := Q4 x.own j.shard j.who }, noT)
def jw4 (j : JW) (x : WS) : JwR := ({ j with slot := IntKind.i64.wrap (D3 x.cells 1 - 1), now := x.now }, x, true, false, false)
def jw5 (j : JW) (x : WS) : JwR := ({ j with table := x.tabs.getD j.shard.toNat [] }, x, noT)
def jw6 (j : JW) (x : WS) : JwR :=
 let r := E6 j.table (B6Y x j.slot) j.key j.closing j.now x.c.idle
 ({ j with table := r.1, ans := r.2.1 }, x, false, false, decide (0 ≤ j.slot) && !D4L x j.slot)
def jw7 (j : JW) (x : WS) : JwR := (j, { x with tabs := x.tabs.set j.shard.toNat j.table }, noT)
def jw8 (j : JW) (x : WS) : JwR := (j, { x with own := H7 x.own j.shard j.who }, noT)
def jw9 (j : JW) (x : WS) : JwR := (j, { x with cells := M5 x.cells (G7 x.c j.who) 0 }, false, true, false)
def D7 : Nat → JW → WS → JwR
 | 0 => jw0
 | 1 => jw1
 | 2 => jw2
 | 3 => jw3
 | 4 => jw4
 | 5 => jw5
 | 6 => jw6
 | 7 => jw7
 | 8 => jw8
 | _ => jw9
def JW.ready (j : JW) (x : WS) : Bool := decide (j.st < 10) && (!decide (j.st = 3) || decide (A0z x.own j.shard < 0))
def JW.step (j : JW) (x : WS) : JwR := if j.ready x then D7 j.st.toNat { j with st := j.st + 1 } x else (j, x, noT)
def A1j (who : Int) (text : ByteArray) : JW := ⟨text, Z1, 0, false, who, 0, 0, 0, 0, [], S7⟩
end Go.Proofs.YtpnidmkaobfhiaaGreat
namespace Go.Proofs.YtpnidmkaobfhiaaGreat
open Go
def upW (j : Nat) (x : EnV) (p : Nat × EnV) : Nat × EnV := if p.1 = j then (j, x) else p
theorem C30 (key : ByteArray) : ∀ L, -1 ≤ M0 key L := by
 intro L
 induction L with
 | nil => simp [M0]
 | cons p L ih => (simp only [M0]; repeat' split) <;> first | omega | exact ih
theorem C4Q (l : List EnV) (key : ByteArray) : -1 ≤ E4 l key := C30 _ _
theorem C0j {key : ByteArray} {j : Nat} {x : EnV} (h1 : x.st = 1) (hk : x.key = key) : ∀ L, M0 key L = j → M0 key (L.map (upW j x)) = j := by
 intro L
 induction L with
 | nil => intro h; simp [M0] at h <;> omega
 | cons p L ih =>
  intro h
  rw [List.map_cons]
  by_cases c : p.1 = j
  ·simp [M0, upW, c, h1, hk]
  ·have hu : upW j x p = p := if_neg c
   simp only [M0] at h ⊢
   rw [hu]
   split at h
   ·omega
   ·split at h
    ·omega
    ·rename_i c0 c1
     rw [if_neg c0, if_neg c1]; exact ih h
theorem C1Q {key : ByteArray} {j : Nat} {x : EnV} (h1 : x.st = 1) (hk : x.key = key) : ∀ L, M0 key L < 0 → S5 L = j → M0 key (L.map (upW j x)) = j := by
 intro L
 induction L with
 | nil => intro _ h; simp [S5] at h <;> omega
 | cons p L ih =>
  intro hf h
  rw [List.map_cons]
  by_cases c : p.1 = j
  ·simp [M0, upW, c, h1, hk]
  ·have hu : upW j x p = p := if_neg c
   simp only [M0, S5] at h hf ⊢
   rw [hu]
   by_cases c1 : p.2.st = 1
   ·rw [if_pos c1] at h
    rw [if_neg (by omega)] at hf ⊢
    by_cases c2 : p.2.st = 1 ∧ p.2.key = key
    ·rw [if_pos c2] at hf; omega
    ·rw [if_neg c2] at hf ⊢; exact ih hf h
   ·rw [if_neg c1] at h; omega
theorem B2Z (l : List EnV) (key : ByteArray) (j : Nat) (x : EnV) (hj : j < l.length) : Y0 (l.set j x) key = (Y0 l key).map (upW j x) := by
 unfold Y0
 rw [List.length_set, List.map_map]
 refine List.map_congr_left fun i hi => ?_
 have hi' : i < l.length := List.mem_range.1 hi
 have hm : (Q1 key l.length + i) % l.length < l.length := Nat.mod_lt _ (by omega)
 simp only [Function.comp_apply, upW]
 generalize (Q1 key l.length + i) % l.length = q at *
 by_cases c : q = j
 ·subst c; simp [List.getD_eq_getElem?_getD, hm]
 ·rw [if_neg c]; simp [List.getD_eq_getElem?_getD, List.getElem?_set_ne (Ne.symm c)]
theorem C2f {key : ByteArray} {j : Nat} : ∀ L, M0 key L = j → ∃ x, (j, x) ∈ L ∧ x.st = 1 ∧ x.key = key := by
 intro L
 induction L with
 | nil => intro h; simp [M0] at h <;> omega
 | cons p L ih =>
  intro h
  simp only [M0] at h
  split at h
  ·omega
  ·split at h
   ·rename_i c
    have : p.1 = j := by omega
    exact ⟨p.2, by rw [← this]; simp, c⟩
   ·obtain ⟨x, h1, h2⟩ := ih h
    exact ⟨x, List.mem_cons_of_mem _ h1, h2⟩
theorem B2E {l : List EnV} {key : ByteArray} {p : Nat × EnV} (h : p ∈ Y0 l key) : l[p.1]? = some p.2 := by
 unfold Y0 at h
 obtain ⟨i, hi, rfl⟩ := List.mem_map.1 h
 have hi' : i < l.length := List.mem_range.1 hi
 exact getD_some noE (Nat.mod_lt _ (by omega))
theorem B7k {l : List EnV} {key : ByteArray} {j : Nat} (h : E4 l key = j) : ∃ x, l[j]? = some x ∧ x.st = 1 ∧ x.key = key := by
 obtain ⟨x, h1, h2⟩ := C2f _ h
 exact ⟨x, B2E h1, h2⟩
theorem A94 {l u : List EnV} {x : EnV} (h : M3 l x = some u) (h1 : x.st = 1) : ∃ j, j < l.length ∧ u = l.set j x ∧ E4 u x.key = (j : Nat) ∧ (E4 l x.key = (j : Nat) ∨ E4 l x.key < 0 ∧ S5 (Y0 l x.key) = (j : Nat)) := by
 unfold M3 at h
 simp only at h
 by_cases c : E4 l x.key < 0
 ·rw [if_pos c] at h
  by_cases c2 : d9 l x.key < 0
  ·rw [if_pos c2] at h; cases h
  ·rw [if_neg c2] at h
   injection h with h
   have hr : d9 l x.key = S5 (Y0 l x.key) := if_neg (by omega)
   have hlt := B2a (l := l) (key := x.key) (by omega)
   refine ⟨_, hlt, h.symm, ?_, Or.inr ⟨c, by omega⟩⟩
   subst h
   unfold E4
   rw [B2Z _ _ _ _ hlt]
   exact C1Q h1 rfl _ c (by omega)
 ·rw [if_neg c, if_neg c] at h
  injection h with h
  have hlt := A2f (l := l) (key := x.key) (by omega)
  refine ⟨_, hlt, h.symm, ?_, Or.inl (by omega)⟩
  subst h
  unfold E4 at *
  rw [B2Z _ _ _ _ hlt]
  exact C0j h1 rfl _ (by omega)
theorem B12 {l u : List EnV} {x : EnV} (h : M3 l x = some u) : ∃ j, j < l.length ∧ u = l.set j x := by
 unfold M3 at h
 simp only at h
 by_cases c : E4 l x.key < 0
 ·rw [if_pos c] at h
  by_cases c2 : d9 l x.key < 0
  ·rw [if_pos c2] at h; cases h
  ·rw [if_neg c2] at h
   injection h with h
   exact ⟨_, B2a (by omega), h.symm⟩
 ·rw [if_neg c, if_neg c] at h
  injection h with h
  exact ⟨_, A2f (by omega), h.symm⟩
theorem C2A {l : List EnV} {i : Nat} {p : Nat × EnV} : p ∈ d5 i l ↔ i ≤ p.1 ∧ l[p.1 - i]? = some p.2 ∧ p.2.st = 1 := by
 induction l generalizing i with
 | nil => simp [d5]
 | cons x l ih =>
  have hs : i + 1 ≤ p.1 → (x :: l)[p.1 - i]? = l[p.1 - (i + 1)]? := fun h => by
   rw [show p.1 - i = (p.1 - (i + 1)) + 1 by omega, List.getElem?_cons_succ]
  have h0 : ∀ h : i ≤ p.1, ¬ i + 1 ≤ p.1 → p.1 = i := fun _ _ => by omega
  unfold d5
  split
  ·rename_i c
   rw [List.mem_cons, ih]
   constructor
   ·rintro (rfl | ⟨a, b, d⟩)
    ·simp [c]
    ·exact ⟨by omega, by rw [hs a]; exact b, d⟩
   ·rintro ⟨a, b, d⟩
    by_cases e : i + 1 ≤ p.1
    ·exact Or.inr ⟨e, by rw [← hs e]; exact b, d⟩
    ·have := h0 a e
     left
     rw [this] at b
     simp at b
     obtain ⟨q, y⟩ := p
     simp_all
  ·rename_i c
   rw [ih]
   constructor
   ·rintro ⟨a, b, d⟩
    exact ⟨by omega, by rw [hs a]; exact b, d⟩
   ·rintro ⟨a, b, d⟩
    by_cases e : i + 1 ≤ p.1
    ·exact ⟨e, by rw [← hs e]; exact b, d⟩
    ·have := h0 a e
     rw [this] at b
     simp at b
     rw [b] at c
     exact absurd d c
theorem A3Q {l : List EnV} {p : Nat × EnV} : p ∈ P9 l ↔ l[p.1]? = some p.2 ∧ p.2.st = 1 := by
 unfold P9; rw [C2A]; simp
theorem A4E {l : List EnV} : U9 l = true ↔ ∀ (i : Nat) (x : EnV), l[i]? = some x → x.st = 1 → E4 l x.key = (i : Nat) := by
 unfold U9
 rw [List.all_eq_true]
 constructor
 ·intro h i x hx h1
  simpa using h (i, x) (A3Q.2 ⟨hx, h1⟩)
 ·intro h p hp
  obtain ⟨h1, h2⟩ := A3Q.1 hp
  simpa using h p.1 p.2 h1 h2
def U7 (l : List EnV) (key : ByteArray) : Prop := ∀ (i : Nat) (x : EnV), l[i]? = some x → x.st = 1 → x.key ≠ key
theorem U7.find {l : List EnV} {key : ByteArray} (h : U7 l key) : E4 l key < 0 := by
 have hg := C4Q l key
 by_cases c : E4 l key < 0
 ·exact c
 ·obtain ⟨x, h1, h2, h3⟩ := B7k (l := l) (key := key) (j := (E4 l key).toNat) (by omega)
  exact absurd h3 (h _ _ h1 h2)
theorem getElem?_set_some {α : Type} {l : List α} {i j : Nat} {x y : α} (h : (l.set j x)[i]? = some y) : (i = j ∧ y = x) ∨ (i ≠ j ∧ l[i]? = some y) := by
 by_cases c : i = j
 ·subst c
  rw [List.getElem?_set_self'] at h
  cases hl : l[i]? with
  | none => rw [hl] at h; cases h
  | some z => rw [hl] at h; left; exact ⟨rfl, by simpa using h.symm⟩
 ·rw [List.getElem?_set_ne (Ne.symm c)] at h
  exact Or.inr ⟨c, h⟩
theorem U7.set {l : List EnV} {key : ByteArray} {j : Nat} {x : EnV} (h : U7 l key) (hx : x.st = 1 → x.key ≠ key) : U7 (l.set j x) key := fun i y hy h1 => by
 rcases getElem?_set_some hy with ⟨_, rfl⟩ | ⟨_, h2⟩
 ·exact hx h1
 ·exact h i y h2 h1
theorem U7.put {l : List EnV} {key : ByteArray} {x : EnV} (h : U7 l key) (hx : x.st = 1 → x.key ≠ key) : U7 (a8 l x) key := by
 unfold a8
 cases hp : M3 l x with
 | none => exact h
 | some u => obtain ⟨j, _, rfl⟩ := B12 hp; exact h.set hx
theorem U7.newE (n : Nat) (key : ByteArray) : U7 (newE n) key := fun i x hx h1 => by
 unfold Go.Proofs.YtpnidmkaobfhiaaGreat.newE at hx
 obtain ⟨_, h2⟩ := List.getElem?_eq_some_iff.1 hx
 rw [List.getElem_replicate] at h2
 rw [← h2] at h1; simp [noE] at h1
theorem U7.tidy {l : List EnV} {key : ByteArray} (h : U7 l key) : U7 (k9 l) key := by
 unfold k9
 have : ∀ (L : List (Nat × EnV)) (a : List EnV), (∀ p ∈ L, p.2.st = 1 → p.2.key ≠ key) → U7 a key → U7 (L.foldl (fun acc p => a8 acc p.2) a) key := by
  intro L
  induction L with
  | nil => intro a _ h; exact h
  | cons p L ih => intro a hL ha; rw [List.foldl_cons]; exact ih _ (fun q hq => hL q (List.mem_cons_of_mem _ hq)) (ha.put (hL p (List.mem_cons_self ..)))
 exact this _ _ (fun p hp h1 => h p.1 p.2 (A3Q.1 hp).1 h1) (.newE _ _)
theorem U7.settle {l : List EnV} {key : ByteArray} (h : U7 l key) : U7 (P0 l) key := by
 unfold P0; split
 ·exact h.tidy
 ·exact h
end Go.Proofs.YtpnidmkaobfhiaaGreat
namespace Go.Proofs.YtpnidmkaobfhiaaGreat
open Go
theorem C0U {key : ByteArray} {i j : Nat} {x : EnV} (h0 : x.st ≠ 0) (h1 : ¬ (x.st = 1 ∧ x.key = key)) (hij : i ≠ j) : ∀ L, M0 key L = i → M0 key (L.map (upW j x)) = i := by
 intro L
 induction L with
 | nil => intro h; simp [M0] at h <;> omega
 | cons p L ih =>
  intro h
  rw [List.map_cons]
  simp only [M0] at h
  split at h
  ·omega
  ·rename_i c0
   split at h
   ·rename_i c1
    have : p.1 ≠ j := by omega
    rw [upW, if_neg this]
    simp only [M0]
    rw [if_neg c0, if_pos c1]; exact h
   ·rename_i c1
    by_cases c : p.1 = j
    ·rw [upW, if_pos c]
     simp only [M0]
     rw [if_neg h0, if_neg h1]; exact ih h
    ·rw [upW, if_neg c]
     simp only [M0]
     rw [if_neg c0, if_neg c1]; exact ih h
theorem B3z {l : List EnV} {key : ByteArray} {i j : Nat} {x : EnV} (hj : j < l.length) (h0 : x.st ≠ 0) (h1 : ¬ (x.st = 1 ∧ x.key = key)) (hij : i ≠ j) (h : E4 l key = i) : E4 (l.set j x) key = i := by
 unfold E4 at *
 rw [B2Z _ _ _ _ hj]
 exact C0U h0 h1 hij _ h
theorem C1A {l : List EnV} {j : Nat} (hj : j < l.length) (h : U9 l = true) : U9 (l.set j W5) = true := by
 rw [A4E] at h ⊢
 intro i y hy h1
 rcases getElem?_set_some hy with ⟨_, rfl⟩ | ⟨h2, h3⟩
 ·simp [W5] at h1
 ·exact B3z hj (by simp [W5]) (by simp [W5]) h2 (h i y h3 h1)
theorem B5k {l u : List EnV} {x : EnV} (h1 : x.st = 1) (hp : M3 l x = some u) (h : U9 l = true) : U9 u = true := by
 rw [A4E] at h ⊢
 obtain ⟨j, hj, rfl, hf, hc⟩ := A94 hp h1
 intro i y hy hy1
 rcases getElem?_set_some hy with ⟨rfl, rfl⟩ | ⟨h2, h3⟩
 ·exact hf
 ·have hi := h i y h3 hy1
  have hk : x.key ≠ y.key := fun e => by rw [← e] at hi; omega
  exact B3z hj (by omega) (fun e => hk e.2) h2 hi
theorem B5m (n : Nat) : U9 (newE n) = true := by
 rw [A4E]
 intro i x hx h1
 unfold newE at hx
 obtain ⟨_, h2⟩ := List.getElem?_eq_some_iff.1 hx
 rw [List.getElem_replicate] at h2
 rw [← h2] at h1; simp [noE] at h1
theorem C03 {a : List EnV} {x : EnV} (h1 : x.st = 1) (h : U9 a = true) : U9 (a8 a x) = true := by
 unfold a8
 cases hp : M3 a x with
 | none => exact h
 | some u => exact B5k h1 hp h
theorem C0y (l : List EnV) : U9 (k9 l) = true := by
 unfold k9
 have : ∀ (L : List (Nat × EnV)) (a : List EnV), (∀ p ∈ L, p.2.st = 1) → U9 a = true → U9 (L.foldl (fun acc p => a8 acc p.2) a) = true := by
  intro L
  induction L with
  | nil => intro a _ h; exact h
  | cons p L ih => intro a hL ha; rw [List.foldl_cons]; exact ih _ (fun q hq => hL q (List.mem_cons_of_mem _ hq)) (C03 (hL p (List.mem_cons_self ..)) ha)
 exact this _ _ (fun p hp => (A3Q.1 hp).2) (B5m _)
theorem B76 {l : List EnV} (h : U9 l = true) : U9 (P0 l) = true := by
 unfold P0; split
 ·exact C0y _
 ·exact h
def A3L (x : EnV) : Bool := decide (x.st = 1)
def D1 (l : List EnV) : List EnV := l.filter A3L
def A8w (x : EnV) : List EnV := if x.st = 1 then [x] else []
theorem A20 {l : List EnV} {j : Nat} {y x : EnV} (hy : l[j]? = some y) : (A8w y ++ D1 (l.set j x)).Perm (A8w x ++ D1 l) := by
 obtain ⟨hj, e⟩ := List.getElem?_eq_some_iff.1 hy
 have h1 : l = l.take j ++ y :: l.drop (j + 1) := by rw [← e]; simp
 have h2 : l.set j x = l.take j ++ x :: l.drop (j + 1) := List.set_eq_take_append_cons_drop .. |>.trans (by rw [if_pos hj])
 have f1 : ∀ z : EnV, D1 (l.take j ++ z :: l.drop (j + 1)) = D1 (l.take j) ++ (A8w z ++ D1 (l.drop (j + 1))) := fun z => by
  unfold D1; rw [List.filter_append, List.filter_cons]
  simp only [A8w, A3L, decide_eq_true_eq]
  split <;> simp
 have h3 : D1 l = D1 (l.take j) ++ (A8w y ++ D1 (l.drop (j + 1))) := by rw [← f1, ← h1]
 rw [h2, f1, h3]
 generalize D1 (l.take j) = A
 generalize D1 (l.drop (j + 1)) = B
 have p1 : ∀ (u v : List EnV), (u ++ (A ++ (v ++ B))).Perm (A ++ (u ++ (v ++ B))) := fun u v => by
  rw [← List.append_assoc, ← List.append_assoc A u]
  exact List.perm_append_comm.append_right _
 refine (p1 _ _).trans (((p1 _ _).trans ?_).symm)
 refine List.Perm.append_left _ ?_
 rw [← List.append_assoc, ← List.append_assoc]
 exact List.perm_append_comm.append_right _
theorem B8T (l : List EnV) (i : Nat) : (d5 i l).map (·.2) = D1 l := by
 induction l generalizing i with
 | nil => rfl
 | cons x l ih =>
  unfold d5 D1
  rw [List.filter_cons]
  simp only [A3L, decide_eq_true_eq]
  split
  ·rw [List.map_cons, ih]; rfl
  ·rw [ih]; rfl
theorem B4f {l : List EnV} (h : U9 l = true) : ((D1 l).map (·.key)).Nodup := by
 rw [A4E] at h
 have h2 : ∀ (i : Nat) (m : List EnV), (∀ (k : Nat) (x : EnV), m[k]? = some x → x.st = 1 → E4 l x.key = (i + k : Nat)) → ((D1 m).map (·.key)).Nodup := by
  intro i m
  induction m generalizing i with
  | nil => intro _; simp [D1]
  | cons x m ih =>
   intro hm
   have ih' := ih (i + 1) fun k y hy h1 => by
    have := hm (k + 1) y (by simpa using hy) h1
    rw [this]; congr 1; omega
   unfold D1 at *
   rw [List.filter_cons]
   simp only [A3L, decide_eq_true_eq] at *
   split
   ·rename_i c
    rw [List.map_cons, List.nodup_cons]
    refine ⟨fun hx => ?_, ih'⟩
    obtain ⟨y, hy, e⟩ := List.mem_map.1 hx
    obtain ⟨hy1, hy2⟩ := List.mem_filter.1 hy
    obtain ⟨k, hk, e2⟩ := List.getElem_of_mem hy1
    have a := hm 0 x (by simp) c
    have b := hm (k + 1) y (by simp [hk, e2]) (by simpa [A3L] using hy2)
    rw [e, a] at b
    omega
   ·exact ih'
 exact h2 0 l fun k x hx h1 => by rw [h k x hx h1]; simp
theorem B5v {l : List EnV} {key : ByteArray} : U7 l key ↔ ∀ x ∈ D1 l, x.key ≠ key := by
 unfold U7 D1 A3L
 constructor
 ·intro h x hx
  obtain ⟨h1, h2⟩ := List.mem_filter.1 hx
  obtain ⟨i, hi, e⟩ := List.getElem_of_mem h1
  exact h i x (by simp [hi, e]) (by simpa using h2)
 ·intro h i x hx h1
  exact h x (List.mem_filter.2 ⟨List.mem_of_getElem? hx, by simpa using h1⟩)
theorem C2n : ∀ L, S5 L < 0 → ∀ p ∈ L, p.2.st = 1 := by
 intro L
 induction L with
 | nil => intro _ p hp; cases hp
 | cons q L ih =>
  intro h p hp
  simp only [S5] at h
  split at h
  ·rename_i c
   rcases List.mem_cons.1 hp with rfl | hp
   ·exact c
   ·exact ih h p hp
  ·omega
theorem C6y {l : List EnV} (key : ByteArray) {q : Nat} {y : EnV} (hy : l[q]? = some y) : (q, y) ∈ Y0 l key := by
 obtain ⟨hq, e⟩ := List.getElem?_eq_some_iff.1 hy
 unfold Y0
 have hl : 0 < l.length := by omega
 have hm : Q1 key l.length < l.length := Nat.mod_lt _ hl
 refine List.mem_map.2 ⟨(q + l.length - Q1 key l.length) % l.length, List.mem_range.2 (Nat.mod_lt _ hl), ?_⟩
 have : (Q1 key l.length + (q + l.length - Q1 key l.length) % l.length) % l.length = q := by
  rw [Nat.add_mod, Nat.mod_mod, ← Nat.add_mod, show Q1 key l.length + (q + l.length - Q1 key l.length) = q + l.length by omega, Nat.add_mod_right, Nat.mod_eq_of_lt hq]
 rw [this]
 simp [List.getD_eq_getElem?_getD, hq, e]
theorem C49 {a : List EnV} {x : EnV} (h1 : x.st = 1) (hn : U7 a x.key) (hl : (D1 a).length < a.length) : ∃ u, M3 a x = some u ∧ (D1 u).Perm (x :: D1 a) := by
 cases hp : M3 a x with
 | none =>
  exfalso
  unfold M3 at hp
  simp only at hp
  rw [if_pos hn.find] at hp
  have hr : d9 a x.key = S5 (Y0 a x.key) := if_neg (by have := hn.find; omega)
  by_cases c : d9 a x.key < 0
  ·have h2 := C2n _ (hr ▸ c)
   have h3 : D1 a = a := List.filter_eq_self.2 fun y hy => by
    obtain ⟨q, hq, e⟩ := List.getElem_of_mem hy
    have := h2 (q, y) (C6y _ (by simp [hq, e]))
    simpa [A3L] using this
   rw [h3] at hl; omega
  ·rw [if_neg c] at hp; cases hp
 | some u =>
  obtain ⟨j, hj, rfl, hf, hc⟩ := A94 hp h1
  refine ⟨_, rfl, ?_⟩
  have hj1 : a[j]? = some a[j] := List.getElem?_eq_getElem hj
  have hs := A20 (x := x) hj1
  have hnl : a[j].st ≠ 1 := fun c => by
   rcases hc with hc | ⟨_, hc⟩
   ·have := hn.find; omega
   ·have hm : ∀ L, S5 L = (j : Nat) → ∃ y, (j, y) ∈ L ∧ y.st ≠ 1 := by
     intro L
     induction L with
     | nil => intro h; simp [S5] at h <;> omega
     | cons p L ih =>
      intro h
      simp only [S5] at h
      split at h
      ·obtain ⟨y, h1, h2⟩ := ih h; exact ⟨y, List.mem_cons_of_mem _ h1, h2⟩
      ·rename_i c2
       have : p.1 = j := by omega
       exact ⟨p.2, by rw [← this]; simp, c2⟩
    obtain ⟨y, h2, h3⟩ := hm _ hc
    have h4 := B2E h2
    rw [hj1] at h4
    injection h4 with h4
    exact h3 (by rw [h4] at c; exact c)
  unfold A8w at hs
  rw [if_neg hnl, if_pos h1] at hs
  simpa using hs
theorem A23 (n : Nat) : D1 (newE n) = [] := by
 unfold D1 newE
 rw [List.filter_eq_nil_iff]
 intro x hx
 rw [(List.mem_replicate.1 hx).2]; simp [A3L, noE]
theorem B8N {l : List EnV} (h : U9 l = true) (hl : l.length ≤ 64) : (D1 (k9 l)).Perm (D1 l) := by
 have hmain : ∀ (L : List (Nat × EnV)) (a : List EnV), (∀ p ∈ L, p.2.st = 1) → ((D1 a ++ L.map (·.2)).map (·.key)).Nodup → (D1 a).length + L.length ≤ a.length →
   (D1 (L.foldl (fun acc p => a8 acc p.2) a)).Perm (D1 a ++ L.map (·.2)) := by
  intro L
  induction L with
  | nil => intro a _ _ _; simp
  | cons p L ih =>
   intro a hL hn hlen
   rw [List.foldl_cons]
   simp only [List.length_cons] at hlen
   have hk : U7 a p.2.key := B5v.2 fun x hx e => by
    rw [List.map_append, List.nodup_append] at hn
    exact hn.2.2 _ (List.mem_map_of_mem hx) p.2.key (by simp) e
   obtain ⟨u, hu, hp⟩ := C49 (hL p (List.mem_cons_self ..)) hk (by omega)
   have e : a8 a p.2 = u := by simp [a8, hu]
   rw [e]
   have hlu := A8Y hu
   have hpl := hp.length_eq
   have hperm : (D1 u ++ L.map (·.2)).Perm (D1 a ++ (p :: L).map (·.2)) := by
    refine (hp.append_right _).trans ?_
    rw [List.map_cons]
    exact (List.perm_middle (a := p.2) (l₁ := D1 a) (l₂ := L.map (·.2))).symm
   refine (ih u (fun q hq => hL q (List.mem_cons_of_mem _ hq)) ?_ ?_).trans hperm
   ·exact ((hperm.map _).nodup_iff).2 hn
   ·rw [hpl, List.length_cons, hlu]; omega
 unfold k9
 have hm : (P9 l).map (·.2) = D1 l := B8T l 0
 have h1 := hmain (P9 l) (newE l.length) (fun p hp => (A3Q.1 hp).2) (by rw [A23, hm]; exact B4f h)
  (by
   rw [A23, A4l]
   have : (P9 l).length = (D1 l).length := by rw [← hm]; simp
   have h2 : (D1 l).length ≤ l.length := List.length_filter_le ..
   simp only [List.length_nil]; omega)
 rw [A23, hm] at h1
 exact h1
theorem B44 {l : List EnV} (h : U9 l = true) (hl : l.length ≤ 64) : (D1 (P0 l)).Perm (D1 l) := by
 unfold P0; split
 ·exact B8N h hl
 ·exact .refl _
theorem C0S {l : List EnV} (hl : l.length ≤ 64) : (P0 l).length = l.length := by
 unfold P0; split
 ·unfold k9; rw [B8M, A4l]; omega
 ·rfl
end Go.Proofs.YtpnidmkaobfhiaaGreat
namespace Go.Proofs.YtpnidmkaobfhiaaGreat
open Go
theorem bdF (a b c d : FuncId) (K : Value → WP) : A0 PR (Instr.build 136 #[(0, .func (.func a) #[] #[]), (1, .func (.func b) #[] #[]), (2, .func (.func c) #[] #[]), (3, .func (.func d) #[] #[])]) K = K (.agg #[.func (.func a) #[] #[], .func (.func b) #[] #[], .func (.func c) #[] #[], .func (.func d) #[] #[]]) :=
 B6n C0H C0n (by rw [show (#[(0, Value.func (.func a) #[] #[]), (1, .func (.func b) #[] #[]), (2, .func (.func c) #[] #[]), (3, .func (.func d) #[] #[])] : Array (Nat × Value)).toList = [(0, .func (.func a) #[] #[]), (1, .func (.func b) #[] #[]), (2, .func (.func c) #[] #[]), (3, .func (.func d) #[] #[])] from rfl, B8 rfl rfl (by simp), B8 rfl rfl (by simp [C0]), B8 rfl rfl (by simp [C0]), B8 rfl rfl (by simp [C0])]; rfl)
def m7 (s : MoS) (o : OpV) (now : Int) : MoS × AnsV :=
 if o.kind = 0 then A5u s o.packet now else if o.kind = 1 then A8k s o.pool else if o.kind = 2 then A4m s o.shard now else if o.kind = 3 then B02 s else (s, ⟨1, 0, false, 0⟩)
theorem D0c (w : World) (m : MoH) (o : OpV) (v : Value) (now : Int) (hv : PoolAt w m v o.pool) (hpk : o.packet.size < 2 ^ 40) (hm : MoOk2 m) (hw : LW false (B2 (D4 m)) w (D4 m) w) :
  Fn PR B6 24 #[.pointer (some ⟨m.b, 0, none⟩), o.val v, .int .i64 now] w (DoR w m (m7 m.st o now)) := by
 refine B1T (TW.goH (κ := false) (S := B2 (D4 m)) ?_ hw)
 unfold A3x
 simp only [OpV.val]
 unfold DoR
 generalize hS : B2 (D4 m) = S at *
 have hc1 : v.cells.size = 1 := by rw [hv.form.1]; rfl
 by_cases c0 : o.kind < 0
 ·have e : m7 m.st o now = (m.st, ⟨1, 0, false, 0⟩) := by unfold m7; rw [if_neg (by omega), if_neg (by omega), if_neg (by omega), if_neg (by omega)]
  rw [e]
  simp only [D4]
  (have zz:=trivial;repeat((first|clear zz|with_reducible first|refine A3 ?_|refine A5 fun _=>?_|refine A4 fun _=>?_);try simp(disch:=first|omega|assumption|((repeat(first|exact A1|exact uH|apply A2|apply uT));first|done|fail)|(simp;first|done|omega|fail))[c0, bdF]))
  refine B1 m ⟨by simp [AnsV.val], rfl, rfl⟩ ?_
  simp only [D4]
  (repeat' constructor)
 by_cases c4 : 4 ≤ o.kind
 ·have e : m7 m.st o now = (m.st, ⟨1, 0, false, 0⟩) := by unfold m7; rw [if_neg (by omega), if_neg (by omega), if_neg (by omega), if_neg (by omega)]
  rw [e]
  simp only [D4]
  (have zz:=trivial;repeat((first|clear zz|with_reducible first|refine A3 ?_|refine A5 fun _=>?_|refine A4 fun _=>?_);try simp(disch:=first|omega|assumption|((repeat(first|exact A1|exact uH|apply A2|apply uT));first|done|fail)|(simp;first|done|omega|fail))[c0, c4, bdF]))
  refine B1 m ⟨by simp [AnsV.val], rfl, rfl⟩ ?_
  simp only [D4]
  (repeat' constructor)
 have hk : o.kind = 0 ∨ o.kind = 1 ∨ o.kind = 2 ∨ o.kind = 3 := by omega
 rcases hk with hk | hk | hk | hk
 ·rw [show m7 m.st o now = A5u m.st o.packet now by simp [m7, hk]]
  simp only [D4]
  (have zz:=trivial;repeat((first|clear zz|with_reducible first|refine A3 ?_|refine A5 fun _=>?_|refine A4 fun _=>?_);try simp(disch:=first|omega|assumption|((repeat(first|exact A1|exact uH|apply A2|apply uT));first|done|fail)|(simp;first|done|omega|fail))[hk, bdF]))
  refine D0 (Hc := D4 m) A4S (fun w' hw' hs => by have := B9C w' m o v now hv.form hpk hm hs; rw [OpV.val, hk] at this; exact this) (by simp only [D4]; (repeat' constructor)) ?_
  rintro m' _ ⟨rfl, hb, hst⟩
  simp only [D4]
  (have zz:=trivial;repeat((first|clear zz|with_reducible first|refine A3 ?_|refine A5 fun _=>?_|refine A4 fun _=>?_);try simp(disch:=first|omega|assumption|((repeat(first|exact A1|exact uH|apply A2|apply uT));first|done|fail)|(simp;first|done|omega|fail))[AnsV.val]))
  refine B1 m' ⟨by simp [AnsV.val], hb, hst⟩ ?_
  simp only [D4]
  (repeat' constructor)
 ·rw [show m7 m.st o now = A8k m.st o.pool by simp [m7, hk]]
  simp only [D4]
  (have zz:=trivial;repeat((first|clear zz|with_reducible first|refine A3 ?_|refine A5 fun _=>?_|refine A4 fun _=>?_);try simp(disch:=first|omega|assumption|((repeat(first|exact A1|exact uH|apply A2|apply uT));first|done|fail)|(simp;first|done|omega|fail))[hk, bdF]))
  refine D0 (Hc := D4 m) A6k (fun w' hw' hs => by have := C3S w' m o v now ⟨hv.at (by rw [hS]; exact hw'.ks), hv.off, hv.len, hv.form⟩ hs; rw [OpV.val, hk] at this; exact this) (by simp only [D4]; (repeat' constructor)) ?_
  rintro m' _ ⟨rfl, hb, hst⟩
  simp only [D4]
  (have zz:=trivial;repeat((first|clear zz|with_reducible first|refine A3 ?_|refine A5 fun _=>?_|refine A4 fun _=>?_);try simp(disch:=first|omega|assumption|((repeat(first|exact A1|exact uH|apply A2|apply uT));first|done|fail)|(simp;first|done|omega|fail))[AnsV.val]))
  refine B1 m' ⟨by simp [AnsV.val], hb, hst⟩ ?_
  simp only [D4]
  (repeat' constructor)
 ·rw [show m7 m.st o now = A4m m.st o.shard now by simp [m7, hk]]
  simp only [D4]
  (have zz:=trivial;repeat((first|clear zz|with_reducible first|refine A3 ?_|refine A5 fun _=>?_|refine A4 fun _=>?_);try simp(disch:=first|omega|assumption|((repeat(first|exact A1|exact uH|apply A2|apply uT));first|done|fail)|(simp;first|done|omega|fail))[hk, bdF]))
  refine D0 (Hc := D4 m) A6F (fun w' hw' hs => by have := C3B w' m o v now hv.form hm.toMoOk hs; rw [OpV.val, hk] at this; exact this) (by simp only [D4]; (repeat' constructor)) ?_
  rintro m' _ ⟨rfl, hb, hst⟩
  simp only [D4]
  (have zz:=trivial;repeat((first|clear zz|with_reducible first|refine A3 ?_|refine A5 fun _=>?_|refine A4 fun _=>?_);try simp(disch:=first|omega|assumption|((repeat(first|exact A1|exact uH|apply A2|apply uT));first|done|fail)|(simp;first|done|omega|fail))[AnsV.val]))
  refine B1 m' ⟨by simp [AnsV.val], hb, hst⟩ ?_
  simp only [D4]
  (repeat' constructor)
 ·rw [show m7 m.st o now = B02 m.st by simp [m7, hk]]
  simp only [D4]
  (have zz:=trivial;repeat((first|clear zz|with_reducible first|refine A3 ?_|refine A5 fun _=>?_|refine A4 fun _=>?_);try simp(disch:=first|omega|assumption|((repeat(first|exact A1|exact uH|apply A2|apply uT));first|done|fail)|(simp;first|done|omega|fail))[hk, bdF]))
  refine D0 (Hc := D4 m) A7P (fun w' hw' hs => by have := C5G w' m o v now hv.form hm.toMoOk hs; rw [OpV.val, hk] at this; exact this) (by simp only [D4]; (repeat' constructor)) ?_
  rintro m' _ ⟨rfl, hb, hst⟩
  simp only [D4]
  (have zz:=trivial;repeat((first|clear zz|with_reducible first|refine A3 ?_|refine A5 fun _=>?_|refine A4 fun _=>?_);try simp(disch:=first|omega|assumption|((repeat(first|exact A1|exact uH|apply A2|apply uT));first|done|fail)|(simp;first|done|omega|fail))[AnsV.val]))
  refine B1 m' ⟨by simp [AnsV.val], hb, hst⟩ ?_
  simp only [D4]
  (repeat' constructor)
end Go.Proofs.YtpnidmkaobfhiaaGreat
