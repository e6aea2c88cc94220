/- The proof of a given statement, a part of it (Ord Sort ShSweep Sweep Model Tab Tab2 Wat Model2 Model3 Model4 Model5 Model6 Model7 Model8 Tab3 Rf12 ShR08 ShR09 ShR10 ShR01 Rf01 Without Rf09 Makes Rf17a ShR07 ShR05 ShR06 ShR03 ShR04 Rf03 Rf04 Rf07 Rf08 ShR13 Rf13 RdN DoT Rf17b Rf17c Rf17d ShWorld ShCells). No condition but what each lemma says. -/
import Derived.Sort.Grow
import Derived.Deep.Draws
import Derived.Test.YtjobgnabneddjaaGreatP14
set_option linter.unusedVariables false
set_option linter.unusedSimpArgs false
namespace Go.Proofs.YtjobgnabneddjaaGreat
open Go
theorem B4W (w : World) (a : Int) : Fn PR B8 252 #[.int .i64 a] w (fun v w' => v = .bool false ∧ w' = w) := by
 refine B1W ?_
 unfold A3N
 simp
theorem B4V (w : World) (a : Int) : Fn PR B8 251 #[.int .u64 a] w (fun v w' => v = .bool false ∧ w' = w) := by
 refine A8B ?_
 unfold A1Z
 simp
def m6 (a b : Int) : Int := if a < b then -1 else if b < a then 1 else 0
theorem C33 (w : World) (a b : Int) : Fn PR B8 218 #[.int .i64 a, .int .i64 b] w (fun v w' => v = .int .i64 (m6 a b) ∧ w' = w) := by
 refine A9Y ?_
 unfold A2b
 refine A4W ((B4W w a).use ?_)
 rintro _ _ ⟨rfl, rfl⟩ _
 refine A4W ((B4W _ b).use ?_)
 rintro _ _ ⟨rfl, rfl⟩ _
 by_cases c1 : a < b
 ·simp [c1, m6]
 by_cases c2 : b < a
 ·simp [c1, c2, m6]
 ·simp [c1, c2, m6]
theorem C2K (w : World) (a b : Int) : Fn PR B8 217 #[.int .u64 a, .int .u64 b] w (fun v w' => v = .int .i64 (m6 a b) ∧ w' = w) := by
 refine A5k ?_
 unfold A0N
 refine A2T ((B4V w a).use ?_)
 rintro _ _ ⟨rfl, rfl⟩ _
 refine A2T ((B4V _ b).use ?_)
 rintro _ _ ⟨rfl, rfl⟩ _
 by_cases c1 : a < b
 ·simp [c1, m6]
 by_cases c2 : b < a
 ·simp [c1, c2, m6]
 ·simp [c1, c2, m6]
def A1g (x y : Nat × Int) : Int := if m6 x.1 y.1 ≠ 0 then m6 x.1 y.1 else m6 x.2 y.2
theorem C1d (K : WP) (w : World) : drw K w = K w.drew := rfl
def Gr (w w' : World) : Prop := ∃ q os, w' = Sort.grow (w.drewN q) os
theorem Gr.refl (w : World) : Gr w w := ⟨0, #[], by simp [Sort.grow]; rfl⟩
theorem Gr.alloc {w w' : World} (h : Gr w w') (o : Obj) : Gr w (w'.alloc o) := by
 obtain ⟨q, os, rfl⟩ := h
 exact ⟨q, os ++ #[o], by rw [Sort.alloc_eq_grow, Sort.grow_grow]⟩
theorem Gr.drew {w w' : World} (h : Gr w w') : Gr w w'.drew := by
 obtain ⟨q, os, rfl⟩ := h
 exact ⟨q + 1, os, rfl⟩
theorem C8C (w : World) (a b : Int) (g : Nat) (h : L9 w g 0 [.int .i64 a, .int .i64 b]) : Fn PR B8 216 #[.slice (some ⟨g, 0, none⟩) 2 2] w (fun v w' => v = .int .i64 (if a ≠ 0 then a else b) ∧ w' = w) := by
 refine B4q ?_
 unfold A7g
 simp
 refine D1f 2 (fun _ i w' => w' = w ∧ (0 < i → a = 0) ∧ (1 < i → b = 0)) ⟨rfl, by omega, by omega⟩ ?_
 rintro x i w1 hi ⟨hw1, h0, h1⟩ L hL
 rw [hw1]
 have ha : w.cell? ⟨g, 0, none⟩ = some (.int .i64 a) := by have := h.get (i := 0) (v := .int .i64 a) rfl; simpa using this
 have hb : w.cell? ⟨g, 1, none⟩ = some (.int .i64 b) := by have := h.get (i := 1) (v := .int .i64 b) rfl; simpa using this
 have hi' : i = 0 ∨ i = 1 ∨ i = 2 := by omega
 rcases hi' with rfl | rfl | rfl
 ·by_cases c : a = 0
  ·simp [ha, c]
   exact hL (by omega) _ _ ⟨rfl, fun _ => c, by omega⟩
  ·simp [ha, c]
 ·have ha0 := h0 (by omega)
  by_cases c : b = 0
  ·simp [hb, c]
   exact hL (by omega) _ _ ⟨rfl, fun _ => ha0, fun _ => c⟩
  ·simp [hb, c, ha0]
 ·simp [h0 (by omega), h1 (by omega)]
theorem C2c (w : World) (x y : Nat × Int) : Fn PR B8 162 #[.agg #[.int .u64 (x.1 : Nat), .int .i64 x.2], .agg #[.int .u64 (y.1 : Nat), .int .i64 y.2]] w (fun v w' => v = .int .i64 (A1g x y) ∧ Gr w w') := by
 refine A6S ?_
 unfold A0Z
 obtain ⟨w2, hw2⟩ : ∃ w2, w2 = ((w.alloc (.cells #[.int .u64 (x.1 : Nat), .int .i64 x.2] 284)).alloc (.cells #[.int .u64 (y.1 : Nat), .int .i64 y.2] 284)).drew := ⟨_, rfl⟩
 have hA : bl w2 (sz w) = some (.cells #[.int .u64 (x.1 : Nat), .int .i64 x.2] 284) := by
  subst hw2; show bl ((w.alloc _).alloc _) (sz w) = _; rw [A3n (by simp), V4]
 have hB : bl w2 (sz w + 1) = some (.cells #[.int .u64 (y.1 : Nat), .int .i64 y.2] 284) := by
  subst hw2; show bl ((w.alloc _).alloc _) (sz w + 1) = _; rw [← B51 w, V4]
 have a0 : w2.cell? ⟨sz w, 0, none⟩ = some (.int .u64 (x.1 : Nat)) := by rw [E1 hA]; rfl
 have a1 : w2.cell? ⟨sz w, 1, none⟩ = some (.int .i64 x.2) := by rw [E1 hA]; rfl
 have b0 : w2.cell? ⟨sz w + 1, 0, none⟩ = some (.int .u64 (y.1 : Nat)) := by rw [E1 hB]; rfl
 have b1 : w2.cell? ⟨sz w + 1, 1, none⟩ = some (.int .i64 y.2) := by rw [E1 hB]; rfl
 have hg : Gr w w2 := by subst hw2; exact (((Gr.refl w).alloc _).alloc _).drew
 rw [B9L, B9L, C1d, B51]
 simp only [Value.cells]
 rw [← hw2]
 clear hw2 hA hB
 have r1 : (Instr.loadAt 3 (.pointer (some ⟨sz w + 1, 0 + 1, none⟩))).run PR w2 = .ok (.int .i64 y.2) w2 := A0a H6 rfl b1
 have r2 : (Instr.loadAt 3 (.pointer (some ⟨sz w, 0 + 1, none⟩))).run PR w2 = .ok (.int .i64 x.2) w2 := A0a H6 rfl a1
 simp [a0, a1, b0, b1]
 refine A69 ((C2K w2 _ _).use ?_)
 rintro _ w3 ⟨rfl, hw3⟩ _
 rw [hw3, B2P, B2P, C0V]
 refine ⟨r1, r2, ?_⟩
 refine B0M ((C33 w2 _ _).use ?_)
 rintro _ w4 ⟨rfl, hw4⟩ _
 rw [hw4, A9F A6x H6 (cs := #[.int .i64 (m6 x.1 y.1), .int .i64 (m6 x.2 y.2)]) (by decide) (by decide) (by kernel_rfl)]
 have hrow : L9 (w2.alloc (.cells #[.int .i64 (m6 x.1 y.1), .int .i64 (m6 x.2 y.2)] 3)) (sz w2) 0 [.int .i64 (m6 x.1 y.1), .int .i64 (m6 x.2 y.2)] := fun i hi => by
  rw [E1 (V4 _ _)]; simp
 refine B6G ((C8C _ _ _ _ hrow).use ?_)
 rintro _ w5 ⟨rfl, hw5⟩ _
 exact ⟨by simp [A1g], by rw [hw5]; exact hg.alloc _⟩
end Go.Proofs.YtjobgnabneddjaaGreat
namespace Go.Proofs.YtjobgnabneddjaaGreat
open Go Go.Sort Go.Lib
theorem C5K (x y : Nat × Int) : A1g x y < 0 ↔ x.1 < y.1 ∨ (x.1 = y.1 ∧ x.2 < y.2) := by
 unfold A1g m6
 by_cases h1 : (x.1 : Int) < y.1
 ·simp [h1]; omega
 by_cases h2 : (y.1 : Int) < x.1
 ·simp [h1, h2]; omega
 ·have : x.1 = y.1 := by omega
  by_cases h3 : x.2 < y.2
  ·simp [h1, h2, h3]; omega
  by_cases h4 : y.2 < x.2
  ·simp [h1, h2, h3, h4]; omega
  ·simp [h1, h2, h3, h4]; omega
theorem B8T (x y : Nat × Int) : ltOf A1g x y = true ↔ x.1 < y.1 ∨ (x.1 = y.1 ∧ x.2 < y.2) := by rw [ltOf, decide_eq_true_eq, C5K]
theorem A95 (x y : Nat × Int) : ltOf A1g x y = false ↔ ¬ (x.1 < y.1 ∨ (x.1 = y.1 ∧ x.2 < y.2)) := by rw [← B8T, Bool.not_eq_true]
theorem D12 : Sort.SWO (ltOf A1g) := by
 refine ⟨fun x => ?_, fun x y z h1 h2 => ?_, fun x y z h1 h2 => ?_⟩
 ·rw [A95]; omega
 ·rw [B8T] at *; omega
 ·rw [A95] at *; omega
theorem D1e (x y : Nat × Int) (h1 : ltOf A1g x y = false) (h2 : ltOf A1g y x = false) : x = y := by
 rw [A95] at *
 have e1 : x.1 = y.1 := by omega
 have e2 : x.2 = y.2 := by omega
 exact Prod.ext e1 e2
theorem C6W : (fun x y => !(ltOf A1g) y x) = leP := by
 funext x y
 rw [Bool.eq_iff_iff, Bool.not_eq_true', A95, leP, decide_eq_true_eq]; omega
theorem B6b (l : List (Nat × Int)) : flatK G3 2 l.toArray = (l.flatMap G3).toArray := by
 apply Array.toList_inj.1
 apply List.ext_getElem
 ·rw [Array.length_toList, size_flatK, List.toList_toArray, N5 U9]; simp
 ·intro i h1 h2
  have hi : i < l.length * 2 := by simpa using h1
  have hf := d5 (f := G3) (k := 2) U9 l (i / 2) (i % 2) (by omega)
  rw [show i / 2 * 2 + i % 2 = i by omega] at hf
  have h2' : i < (l.flatMap G3).length := by simpa using h2
  rw [List.getElem?_eq_getElem h2', List.getElem?_eq_getElem (show i / 2 < l.length by omega)] at hf
  have hg := get_flatK G3 2 l.toArray i (by simpa using hi)
  rw [getElem!_pos _ _ (by simpa using hi)] at hg
  simp only [Array.getElem_toList, List.getElem_toArray]
  rw [hg]
  simp only [Option.bind_some] at hf
  rw [getElem!_pos l.toArray (i / 2) (by simp; omega)]
  simp only [List.getElem_toArray]
  have h3 : i % 2 < (G3 l[i / 2]).length := by rw [U9]; omega
  rw [List.getElem?_eq_getElem h3] at hf
  rw [getElem!_pos (G3 l[i / 2]) (i % 2) h3]
  exact (Option.some.inj hf).symm
theorem C08 {w : World} {g : Nat} {cur : Array Value} {T : TypeId} {F : Array Value} (h : bl w g = some (.cells cur T (0, 0))) : bl (Sort.putRow id w g 0 F) g = some (.cells (Sort.putCells id 0 F cur) T (0, 0)) := by
 have h' : w.heap[g]? = some (.cells cur T (0, 0)) := h
 simp only [bl, Sort.putRow, Sort.mapBlock, Array.getElem?_modify, if_true, h', Option.map_some]; rfl
theorem A3p {w : World} {g r : Nat} {F : Array Value} (h : r ≠ g) : bl (Sort.putRow id w g 0 F) r = bl w r := by
 simp [bl, Sort.putRow, Sort.mapBlock, Array.getElem?_modify, Ne.symm h]
theorem B4m {F cur : Array Value} (h : F.size ≤ cur.size) : (Sort.putCells id 0 F cur).toList.take F.size = F.toList := by
 apply List.ext_getElem (by simp [Sort.putCells]; omega)
 intro i h1 h2
 have hi : i < F.size := by simpa using h2
 simp [Sort.putCells, hi]
theorem B0D {w : World} {os : Array Obj} {r : Nat} {o : Obj} (h : bl w r = some o) : bl (Sort.grow w os) r = some o := by
 have hr : r < w.heap.size := H2 h
 simp only [bl, Sort.grow, Array.getElem?_append_left hr]; exact h
theorem B7l (w : World) (v : Value) (l : List (Nat × Int)) (hn : l.length ≤ 1000000) (hw : LW false (B6 [A7a v l]) w [A7a v l] w) :
  Fn PR B8 213 #[v, .func (.func 162) #[] #[]] w (Rn (B6 [A7a v l]) w (fun (_ : Unit) u => u = .tuple #[]) fun _ => [A7a v (P3 l)]) := by
 have ho : N2 w 284 2 v l.length (l.flatMap G3) := hw.hold _ A1
 rcases ho.2 with ⟨rfl, hl0⟩ | ⟨g, cap, cur, rfl, hb, hc, hcs, htk⟩
 ·have hl : l = [] := List.length_eq_zero_iff.1 hl0
  subst hl
  refine Calls.mono (AnyF.slices_SortFunc_none Tryz.sortPlace none 0 (.func (.func 162) #[] #[]) w) ?_
  rintro e w' ⟨he, rfl⟩
  exact ⟨_, he, ⟨(), rfl, by simpa [P3] using hw⟩, Sk.refl _ _⟩
 ·have hg : g < w.heap.size := H2 hb
  have hH : HoldsK G3 2 w g 0 l.toArray := by
   intro j hj
   rw [B6b] at hj ⊢
   have hj' : j < (l.flatMap G3).length := by simpa using hj
   constructor
   ·rw [E1 hb, Nat.zero_add]
    rw [getElem!_pos _ _ (by simpa using hj')]
    have : cur.toList[j]? = (l.flatMap G3)[j]? := by
     rw [← htk, List.getElem?_take_of_lt (by rw [N5 U9] at hj'; exact hj')]
    rw [Array.getElem?_toList] at this
    rw [this, List.getElem?_eq_getElem hj']; rfl
   ·have hb' : w.heap[g]? = some (.cells cur 284 (0, 0)) := hb
    simp [World.frozen?, hb']
  have hcmp : CmpLays PR 162 #[] G3 2 A1g g 0 l.toArray.size w := by
   intro m os dk _ x y
   refine Calls.mono (C2c (sortWorldK G3 2 w g 0 m dk os) x y) ?_
   rintro e w' ⟨v, he, ⟨hv, hgr⟩, _⟩
   exact ⟨by rw [he, hv], hgr⟩
  have main := AnyQ.slices_SortFunc_total Tryz.sortPlace 2 (fun w => by kernel_rfl) (fun w => A68.run_size) G3 U9
   (by intro x u hu; simp only [G3, List.mem_cons, List.not_mem_nil, or_false] at hu; rcases hu with rfl | rfl <;> rfl) A1g D12 162 #[] g 0 cap l.toArray w
   A49 hcmp hH hg (by simp; omega) D1e
  refine Calls.mono main ?_
  rintro e w' ⟨he, n, os, rfl⟩
  have e1 : sortWorldK G3 2 w g 0 n (l.toArray.toList.mergeSort fun x y => !(ltOf A1g) y x).toArray os = Sort.grow (Sort.putRow id (Sort.ahead w n) g 0 ((P3 l).flatMap G3).toArray) os := by
   unfold sortWorldK putRowK; rw [← B6b, C6W]; rfl
  rw [e1]
  have hsz : ((P3 l).flatMap G3).length = l.length * 2 := by rw [N5 U9, q5]
  have hb2 : bl (Sort.ahead w n) g = some (.cells cur 284 (0, 0)) := hb
  have hbl := B0D (os := os) (C08 (F := ((P3 l).flatMap G3).toArray) hb2)
  have hks : KS false [g] w (Sort.grow (Sort.putRow id (Sort.ahead w n) g 0 ((P3 l).flatMap G3).toArray) os) := by
   refine ⟨by simp [sz, Sort.grow, Sort.size_putRow], fun r o hr _ e => ?_, fun h => by cases h⟩
   exact B0D (by rw [A3p (by simpa using hr)]; exact e)
  refine ⟨_, he, ⟨(), rfl, ⟨hks.mono (by simp [B6, Res.foot, J8]), ?_, ?_, by simp⟩⟩, ?_⟩
  ·simp only [List.mem_singleton, forall_eq, Res.holds]
   refine ⟨by rw [hsz, q5], Or.inr ⟨g, cap, _, by rw [q5], hbl, by rw [q5]; exact hc, by simp [Sort.putCells, hcs], ?_⟩⟩
   rw [q5]
   have := B4m (F := ((P3 l).flatMap G3).toArray) (cur := cur) (by simp only [List.size_toArray, hsz]; rw [← hcs]; omega)
   simpa [hsz] using this
  ·simp only [List.mem_singleton, forall_eq, Res.foot, J8]
   exact ⟨Or.inl (by simp [B6, Res.foot, J8]), H2 hbl⟩
  ·refine ⟨by simp [Sort.grow, Sort.size_putRow], fun r d e => ?_, fun r lo _ e => ?_, rfl, rfl⟩
   ·exact B0D (by rw [A3p (by rintro rfl; have h2 : some (Obj.deferred d) = some (Obj.cells cur 284 (0, 0)) := e.symm.trans hb; cases h2)]; exact e)
   ·exact B0D (by rw [A3p (by rintro rfl; have h2 : some (Obj.loop lo) = some (Obj.cells cur 284 (0, 0)) := e.symm.trans hb; cases h2)]; exact e)
theorem B44 (w : World) (b : Nat) (v : Value) (p : List F7) (hn : p.length ≤ 1000) (hv : G1 w v p.length (p.flatMap H0)) (hS : 0 < p.length → ∀ g ∈ J8 v, g ∉ [b])
  (hw : LW false [b] w [.pt b (.cells #[v] 58)] w) :
  Fn PR B8 160 #[B2d b, .func (.func 162) #[] #[]] w (Rn [b] w (fun r u => u = r) fun r => [A7a r (P3 (G8 p))]) := by
 refine x9 (TW.goH (κ := false) (S := [b]) ?_ hw)
 unfold U6
 have hll := A90 p
 refine C7 (Hc := [.pt b (.cells #[v] 58)]) A0g (fun w' hw' hs => B8n w' b v p hn (hv.ks0 (fun h => by rw [List.length_eq_zero_iff.1 h]; rfl) hw'.ks hS) hS hs) (by (repeat' constructor)) ?_
 rintro _ r rfl
 refine C7 (Hc := [A7a r (G8 p)]) Y9 (fun w' hw' hs => B7l w' r (G8 p) (by omega) hs) (by (repeat' constructor)) ?_
 rintro _ _ rfl
 exact B1 r rfl (by (repeat' constructor))
theorem C8A (w : World) (v : Value) (p : List F7) (hn : p.length ≤ 1000) (hv : G1 w v p.length (p.flatMap H0)) :
  Fn PR B8 112 #[v] w (Rn [] w (fun r u => u = r) fun r => [.own 290 2 r (P3 (G8 p)).length ((P3 (G8 p)).flatMap G3)]) := by
 refine B5c (TW.go (κ := false) (S := []) ?_)
 unfold A8x
 have hll := A90 p
 refine H3 B1r (fun w' _ => C3Z w' v (by obtain ⟨a, c, rfl, _⟩ := hv.form; exact ⟨a, _, c, rfl⟩)) ?_
 rintro b _ rfl
 refine C7 (Hc := [.pt b (.cells #[v] 58)]) v8 (fun w' hw' hs => B44 w' b v p hn (hv.ks hw'.ks (by simp)) (fun h0 g hg hgb => ?_) hs) (by (repeat' constructor)) ?_
 ·obtain ⟨a, c, rfl, hr⟩ := hv.form
  obtain ⟨b', o, rfl, hrow⟩ := hr h0
  have hlen : 0 < (p.flatMap H0).length := by rw [N5 (k := 2) fun _ => rfl]; omega
  have h1 := hrow 0 hlen
  rw [List.getElem?_eq_getElem hlen] at h1
  obtain ⟨c', t', z', h2, h3⟩ := n7 h1
  have hlt : b' < sz w := H2 h2
  simp [J8] at hg hgb
  subst hg
  rcases (hw'.own _ A1 b (by simp [Res.foot])).1 with h | h
  ·simp at h
  ·omega
 rintro _ r rfl
 have hsl : (P3 (G8 p)).length ≤ 128000 := by rw [q5]; omega
 generalize P3 (G8 p) = q at *
 refine P6 (e := 284) (k := 2) (v := r) (q := q.length) (xs := q.flatMap G3) (by (repeat constructor)) ?_
 rintro ra rc rfl
 (have zz:=trivial;repeat((first|clear zz|with_reducible first|refine A3 ?_|refine A5 fun _=>?_|refine A4 fun _=>?_);try simp(disch:=first|omega|assumption|((repeat(first|exact A1|exact uH|apply A2|apply uT));first|done|fail)|(simp;first|done|omega|fail))[]))
 refine n4 290 2 ?_
 refine q9 (α := Option Addr × Nat) q.length (fun i x => .slice x.1 i x.2) (fun i x => [.own 290 2 (.slice x.1 i x.2) i ((q.take i).flatMap G3), A7a (.slice ra q.length rc) q]) (fun i _ => True) (none, 0) trivial ?_
 rintro i ⟨xa, xc⟩ hi _ L hL
 by_cases hlt : i < q.length
 ·obtain ⟨x, hx⟩ : ∃ x, q[i]? = some x := ⟨_, List.getElem?_eq_getElem hlt⟩
  have hrl := C18 (f := G3) (k := 2) U9 hx
  have hst : (q.take (i + 1)).flatMap G3 = (q.take i).flatMap G3 ++ G3 x := by rw [List.take_add_one, hx, List.flatMap_append]; simp
  have hL' := fun a c => hL hlt (a, c) trivial
  simp only [hst, G3] at hL'
  rw [G3] at hrl
  have hl0 : ((q.take i).flatMap G3).length = i * 2 := by rw [N5 U9, List.length_take]; congr 1; omega
  refine y9 (e := 284) (k := 2) (v := .slice ra q.length rc) (q := q.length) (xs := q.flatMap G3) (by (repeat constructor)) (by omega) ?_
  rintro g gc hg
  cases hg
  (have zz:=trivial;repeat((first|clear zz|with_reducible first|refine A3 ?_|refine A5 fun _=>?_|refine A4 fun _=>?_|refine D7 fun _=>?_|refine D5 (hK:=fun _=>?_)|refine D3 (hK:=fun _=>?_)|refine D8 (hK:=fun _=>?_)|refine D4 (hK:=fun _=>?_)|refine D6 (hK:=fun _=>?_));try simp(disch:=first|omega|assumption|((repeat(first|exact A1|exact uH|apply A2|apply uT));first|done|fail)|(simp;first|done|omega|fail))[hlt, hrl]))
  refine y7 (e := 290) (k := 2) (q := i) (r := 1) (xs := (q.take i).flatMap G3) (news := [.int .u64 (x.1 : Nat), .int .i64 x.2]) (by (repeat constructor)) (P7.own (by (repeat constructor))) (by decide) (by simp) (by simp) (by simp only [maxLen]; omega) (by omega) fun a' c' => ?_
  (have zz:=trivial;repeat((first|clear zz|with_reducible first|refine A3 ?_|refine A5 fun _=>?_|refine A4 fun _=>?_);try simp(disch:=first|omega|assumption|((repeat(first|exact A1|exact uH|apply A2|apply uT));first|done|fail)|(simp;first|done|omega|fail))[]))
  exact Sels.tw (by (repeat' constructor)) (hL' a' c')
 ·obtain rfl : i = q.length := by omega
  rw [List.take_length]
  (have zz:=trivial;repeat((first|clear zz|with_reducible first|refine A3 ?_|refine A5 fun _=>?_|refine A4 fun _=>?_);try simp(disch:=first|omega|assumption|((repeat(first|exact A1|exact uH|apply A2|apply uT));first|done|fail)|(simp;first|done|omega|fail))[]))
  exact B1 (.slice xa q.length xc) rfl (by (repeat' constructor))
end Go.Proofs.YtjobgnabneddjaaGreat
namespace Go.Proofs.YtjobgnabneddjaaGreat
open Go
end Go.Proofs.YtjobgnabneddjaaGreat
namespace Go.Proofs.YtjobgnabneddjaaGreat
open Go
def C7L (x : EnV) (now : Int) : Bool := decide (x.st = 1) && decide (x.dl < now)
def C5r (f n m : Nat) : List Nat := (List.range n).map fun i => (f + i) % m
def C8r (now : Int) (s : List EnV × Nat) (j : Nat) : List EnV × Nat := if C7L (s.1.getD j noE) now then (s.1.set j j7, s.2 + 1) else s
def C7P (l : List EnV) (f n : Nat) (now : Int) : List EnV × Nat := (C5r f n l.length).foldl (C8r now) (l, 0)
def B9k (l : List EnV) (f : Int) : Nat := if f < 0 ∨ (l.length : Int) ≤ f then 0 else f.toNat
def C4H (l : List EnV) (n : Int) : Nat := min n.toNat l.length
def C66 (l : List EnV) (f n now : Int) : List EnV × Nat × Nat :=
 let s := C7P l (B9k l f) (C4H l n) now
 (if 0 < s.2 then N7 s.1 else s.1, if 0 < l.length then (B9k l f + C4H l n) % l.length else B9k l f, s.2)
@[simp] theorem D1D {κ : Bool} {S : List Nat} {w0 : World} {H : List Res} {K0 : WP} {t : TypeId} {z : Value} [h : TS t z] {b o : Nat} {c : Array Value} {T : TypeId} {f : Nat × Nat} {v : Value} {l : List Rd} {x y : Bool} (hm : Res.pt b (.cells c T f) ∈ H) (hv : c[o]? = some v) :
  TW κ S w0 H (watch PR ((some (.bool x, y), Instr.loadAt t (.pointer (some ⟨b, o, none⟩)), v) :: l) K0) = TW κ S w0 H (watch PR l K0) := let ⟨_, _, h, hd⟩ := h.ti; B39 fun _ w hw => A0a h hd (by rw [E1 (hw.pt hm)]; exact hv)
@[simp] theorem C8m {κ : Bool} {S : List Nat} {w0 : World} {H : List Res} {K0 : WP} {s : Sem Value} {v : Value} {l : List Rd} : TW κ S w0 H (watch PR ((some (.bool false, true), s, v) :: l) K0) = TW κ S w0 H (watch PR l K0) := B39 fun h => by cases h
end Go.Proofs.YtjobgnabneddjaaGreat
namespace Go.Proofs.YtjobgnabneddjaaGreat
open Go
def Y7 (key : ByteArray) (n : Int) : Nat := if n < 1 then 0 else b8 key / 4294967296 % n.toNat
theorem C32 (w : World) (key : ByteArray) (n : Int) (hk : key.size < 2 ^ 60) (hn : n < 2 ^ 63) : Fn PR B8 167 #[.string key, .int .i64 n] w (fun v w' => v = .int .i64 (Y7 key n : Nat) ∧ C9 [] w w') := by
 refine Fn.pure (B3S (TW.go (κ := false) (S := []) ?_))
 unfold A6C
 by_cases c1 : n < 1
 ·(have zz:=trivial;repeat((first|clear zz|with_reducible first|refine A3 ?_|refine A5 fun _=>?_|refine A4 fun _=>?_);try simp(disch:=first|omega|assumption|((repeat(first|exact A1|exact uH|apply A2|apply uT));first|done|fail)|(simp;first|done|omega|fail))[c1]))
  exact B0 (by simp [Y7, c1])
 (have zz:=trivial;repeat((first|clear zz|with_reducible first|refine A3 ?_|refine A5 fun _=>?_|refine A4 fun _=>?_);try simp(disch:=first|omega|assumption|((repeat(first|exact A1|exact uH|apply A2|apply uT));first|done|fail)|(simp;first|done|omega|fail))[c1]))
 refine C4 A19 (fun w' _ => A4V w' key hk) ?_
 obtain ⟨m, rfl⟩ : ∃ m : Nat, n = m := ⟨n.toNat, by omega⟩
 have hl := B3s key
 have hm : b8 key / 4294967296 % m < m := Nat.mod_lt _ (by omega)
 have e0 : ((b8 key : Nat) : Int).fdiv (2 ^ min 32 IntKind.u64.bits) = (b8 key / 4294967296 : Nat) := by rw [show (2 : Int) ^ min 32 IntKind.u64.bits = 4294967296 from rfl, Int.fdiv_eq_ediv_of_nonneg _ (by omega)]; omega
 have e1 : ((b8 key / 4294967296 : Nat) : Int).tmod m = (b8 key / 4294967296 % m : Nat) := by rw [Int.tmod_eq_emod_of_nonneg (by omega), Int.natCast_emod]
 have e2 : Y7 key m = b8 key / 4294967296 % m := by simp only [Y7, if_neg c1, Int.toNat_natCast]
 have hnz : ¬ (m : Int) = 0 := by omega
 rw [e2]
 (have zz:=trivial;repeat((first|clear zz|with_reducible first|refine A3 ?_|refine A5 fun _=>?_|refine A4 fun _=>?_);try simp(disch:=first|omega|assumption|((repeat(first|exact A1|exact uH|apply A2|apply uT));first|done|fail)|(simp;first|done|omega|fail))[hnz]))
 rw [e0]
 (have zz:=trivial;repeat((first|clear zz|with_reducible first|refine A3 ?_|refine A5 fun _=>?_|refine A4 fun _=>?_);try simp(disch:=first|omega|assumption|((repeat(first|exact A1|exact uH|apply A2|apply uT));first|done|fail)|(simp;first|done|omega|fail))[hnz, B2S]))
 have e3 : (((b8 key : Nat) : Int) / 4294967296).tmod m = (b8 key / 4294967296 % m : Nat) := by rw [← e1]; congr 1
 rw [e3, T8 (n := ((b8 key / 4294967296 % m : Nat) : Int)) (by omega) (by omega)]
 exact B0 (by simp)
theorem C0f {l : List EnV} {key : ByteArray} (h : 0 ≤ E4 l key) : ∃ i : Nat, E4 l key = i ∧ i < l.length := ⟨(E4 l key).toNat, by omega, A1w h⟩
def n5 (l : List EnV) (key : ByteArray) : EnV := l.getD (E4 l key).toNat noE
def P1 (l : List EnV) (p : List F7) (key : ByteArray) (now : Int) : Int × Bool :=
 if E4 l key < 0 ∨ (n5 l key).dl < now ∨ Q2 p (n5 l key).bk < 0 then (0, false) else ((n5 l key).bk, true)
theorem A02 (w : World) (n lo hi e : Int) (b : Nat) (hw : LW false [b] w [.pt b (.cells #[.int .i64 e] 27)] w) :
  Fn PR B8 127 #[.int .i64 n, .int .i64 lo, .int .i64 hi, .pointer (some ⟨b, 0, none⟩)] w (Rn [b] w (fun (_ : Unit) u => u = .tuple #[]) fun _ => [.pt b (.cells #[.int .i64 (if W1 n lo hi then e else 1)] 27)]) := by
 refine B0c (TW.goH (κ := false) (S := [b]) ?_ hw)
 unfold A2v
 by_cases c1 : n < lo
 ·have hf : W1 n lo hi = false := by simp [W1]; omega
  (have zz:=trivial;repeat((first|clear zz|with_reducible first|refine A3 ?_|refine A5 fun _=>?_|refine A4 fun _=>?_);try simp(disch:=first|omega|assumption|((repeat(first|exact A1|exact uH|apply A2|apply uT));first|done|fail)|(simp;first|done|omega|fail))[c1]))
  exact B1 () rfl (by simp only [hf]; (repeat' constructor))
 by_cases c2 : hi < n
 ·have hf : W1 n lo hi = false := by simp [W1]; omega
  (have zz:=trivial;repeat((first|clear zz|with_reducible first|refine A3 ?_|refine A5 fun _=>?_|refine A4 fun _=>?_);try simp(disch:=first|omega|assumption|((repeat(first|exact A1|exact uH|apply A2|apply uT));first|done|fail)|(simp;first|done|omega|fail))[c1, c2]))
  exact B1 () rfl (by simp only [hf]; (repeat' constructor))
 ·have hf : W1 n lo hi = true := by simp [W1]; omega
  (have zz:=trivial;repeat((first|clear zz|with_reducible first|refine A3 ?_|refine A5 fun _=>?_|refine A4 fun _=>?_);try simp(disch:=first|omega|assumption|((repeat(first|exact A1|exact uH|apply A2|apply uT));first|done|fail)|(simp;first|done|omega|fail))[c1, c2]))
  exact B1 () rfl (by simp only [hf]; (repeat' constructor))
theorem C1b (w : World) (c : CfgV) : Fn PR B8 65 #[c.val] w (fun v w' => v = .int .i64 (if M9 c then 0 else 1) ∧ C9 [] w w') := by
 refine Fn.pure (B29 (TW.go (κ := false) (S := []) ?_))
 unfold A5r
 simp only [CfgV.val]
 (have zz:=trivial;repeat((first|clear zz|with_reducible first|refine A3 ?_|refine A5 fun _=>?_|refine A4 fun _=>?_);try simp(disch:=first|omega|assumption|((repeat(first|exact A1|exact uH|apply A2|apply uT));first|done|fail)|(simp;first|done|omega|fail))[]))
 rename_i bc be
 refine C7 (Hc := [.pt be (.cells #[.int .i64 0] 27)]) S6 (fun w' hw hs => A02 w' c.wk 1 64 0 be hs) (by (repeat' constructor)) ?_
 rintro _ _ rfl
 generalize he1 : (if W1 c.wk 1 64 = true then (0 : Int) else 1) = e1
 (have zz:=trivial;repeat((first|clear zz|with_reducible first|refine A3 ?_|refine A5 fun _=>?_|refine A4 fun _=>?_);try simp(disch:=first|omega|assumption|((repeat(first|exact A1|exact uH|apply A2|apply uT));first|done|fail)|(simp;first|done|omega|fail))[]))
 refine C7 (Hc := [.pt be (.cells #[.int .i64 e1] 27)]) S6 (fun w' hw hs => A02 w' c.sh 1 16 e1 be hs) (by (repeat' constructor)) ?_
 rintro _ _ rfl
 generalize he2 : (if W1 c.sh 1 16 = true then e1 else 1) = e2
 (have zz:=trivial;repeat((first|clear zz|with_reducible first|refine A3 ?_|refine A5 fun _=>?_|refine A4 fun _=>?_);try simp(disch:=first|omega|assumption|((repeat(first|exact A1|exact uH|apply A2|apply uT));first|done|fail)|(simp;first|done|omega|fail))[]))
 refine C7 (Hc := [.pt be (.cells #[.int .i64 e2] 27)]) S6 (fun w' hw hs => A02 w' c.cp 1 64 e2 be hs) (by (repeat' constructor)) ?_
 rintro _ _ rfl
 generalize he3 : (if W1 c.cp 1 64 = true then e2 else 1) = e3
 (have zz:=trivial;repeat((first|clear zz|with_reducible first|refine A3 ?_|refine A5 fun _=>?_|refine A4 fun _=>?_);try simp(disch:=first|omega|assumption|((repeat(first|exact A1|exact uH|apply A2|apply uT));first|done|fail)|(simp;first|done|omega|fail))[]))
 refine C7 (Hc := [.pt be (.cells #[.int .i64 e3] 27)]) S6 (fun w' hw hs => A02 w' c.idle 0 1000000 e3 be hs) (by (repeat' constructor)) ?_
 rintro _ _ rfl
 generalize he4 : (if W1 c.idle 0 1000000 = true then e3 else 1) = e4
 (have zz:=trivial;repeat((first|clear zz|with_reducible first|refine A3 ?_|refine A5 fun _=>?_|refine A4 fun _=>?_);try simp(disch:=first|omega|assumption|((repeat(first|exact A1|exact uH|apply A2|apply uT));first|done|fail)|(simp;first|done|omega|fail))[]))
 refine C7 (Hc := [.pt be (.cells #[.int .i64 e4] 27)]) S6 (fun w' hw hs => A02 w' c.sl 2 8 e4 be hs) (by (repeat' constructor)) ?_
 rintro _ _ rfl
 generalize he5 : (if W1 c.sl 2 8 = true then e4 else 1) = e5
 (have zz:=trivial;repeat((first|clear zz|with_reducible first|refine A3 ?_|refine A5 fun _=>?_|refine A4 fun _=>?_);try simp(disch:=first|omega|assumption|((repeat(first|exact A1|exact uH|apply A2|apply uT));first|done|fail)|(simp;first|done|omega|fail))[]))
 refine B0 ?_
 have : e5 = if M9 c then 0 else 1 := by
  rw [← he5, ← he4, ← he3, ← he2, ← he1]
  unfold M9
  cases W1 c.wk 1 64 <;> cases W1 c.sh 1 16 <;> cases W1 c.cp 1 64 <;> cases W1 c.idle 0 1000000 <;> cases W1 c.sl 2 8 <;> rfl
 rw [this]
def A7H (l : List EnV) (p : List F7) (key : ByteArray) (now : Int) : Int := if (P1 l p key now).2 then (P1 l p key now).1 else B2J p (b8 key)
def B61 (l : List EnV) (p : List F7) (key : ByteArray) (now idle : Int) : EnV := ⟨1, key, A7H l p key now, IntKind.i64.wrap (now + idle)⟩
def Y0 (l : List EnV) (p : List F7) (key : ByteArray) (closing : Bool) (now idle : Int) : List EnV × AnsV × Bool :=
 if (P1 l p key now).2 = false ∧ p = [] then (l, ⟨11, 0, false, 0⟩, false)
 else if closing then (V1 l key, ⟨0, A7H l p key now, false, 0⟩, (W3 l key).isSome)
 else match K7 l (B61 l p key now idle) with
  | none => (l, ⟨12, 0, false, 0⟩, false)
  | some u => (u, ⟨0, A7H l p key now, !(P1 l p key now).2, 0⟩, true)
section
variable {κ : Bool} {S : List Nat} {w0 : World} {H Hj : List Res} {K : Value → WP}
end
end Go.Proofs.YtjobgnabneddjaaGreat
namespace Go.Proofs.YtjobgnabneddjaaGreat
open Go
def upW (j : Nat) (x : EnV) (p : Nat × EnV) : Nat × EnV := if p.1 = j then (j, x) else p
theorem C35 (key : ByteArray) : ∀ L, -1 ≤ J0 key L := by
 intro L
 induction L with
 | nil => simp [J0]
 | cons p L ih => (simp only [J0]; repeat' split) <;> first | omega | exact ih
theorem C3C (l : List EnV) (key : ByteArray) : -1 ≤ E4 l key := C35 _ _
theorem B9K {key : ByteArray} {j : Nat} {x : EnV} (h1 : x.st = 1) (hk : x.key = key) : ∀ L, J0 key L = j → J0 key (L.map (upW j x)) = j := by
 intro L
 induction L with
 | nil => intro h; simp [J0] at h <;> omega
 | cons p L ih =>
  intro h
  rw [List.map_cons]
  by_cases c : p.1 = j
  ·simp [J0, upW, c, h1, hk]
  ·have hu : upW j x p = p := if_neg c
   simp only [J0] at h ⊢
   rw [hu]
   split at h
   ·omega
   ·split at h
    ·omega
    ·rename_i c0 c1
     rw [if_neg c0, if_neg c1]; exact ih h
theorem B93 {key : ByteArray} {j : Nat} {x : EnV} (h1 : x.st = 1) (hk : x.key = key) : ∀ L, J0 key L < 0 → N3 L = j → J0 key (L.map (upW j x)) = j := by
 intro L
 induction L with
 | nil => intro _ h; simp [N3] at h <;> omega
 | cons p L ih =>
  intro hf h
  rw [List.map_cons]
  by_cases c : p.1 = j
  ·simp [J0, upW, c, h1, hk]
  ·have hu : upW j x p = p := if_neg c
   simp only [J0, N3] at h hf ⊢
   rw [hu]
   by_cases c1 : p.2.st = 1
   ·rw [if_pos c1] at h
    rw [if_neg (by omega)] at hf ⊢
    by_cases c2 : p.2.st = 1 ∧ p.2.key = key
    ·rw [if_pos c2] at hf; omega
    ·rw [if_neg c2] at hf ⊢; exact ih hf h
   ·rw [if_neg c1] at h; omega
theorem B1A (l : List EnV) (key : ByteArray) (j : Nat) (x : EnV) (hj : j < l.length) : T4 (l.set j x) key = (T4 l key).map (upW j x) := by
 unfold T4
 rw [List.length_set, List.map_map]
 refine List.map_congr_left fun i hi => ?_
 have hi' : i < l.length := List.mem_range.1 hi
 have hm : (M5 key l.length + i) % l.length < l.length := Nat.mod_lt _ (by omega)
 simp only [Function.comp_apply, upW]
 generalize (M5 key l.length + i) % l.length = q at *
 by_cases c : q = j
 ·subst c; simp [List.getD_eq_getElem?_getD, hm]
 ·rw [if_neg c]; simp [List.getD_eq_getElem?_getD, List.getElem?_set_ne (Ne.symm c)]
theorem C04 {key : ByteArray} {j : Nat} : ∀ L, J0 key L = j → ∃ x, (j, x) ∈ L ∧ x.st = 1 ∧ x.key = key := by
 intro L
 induction L with
 | nil => intro h; simp [J0] at h <;> omega
 | cons p L ih =>
  intro h
  simp only [J0] at h
  split at h
  ·omega
  ·split at h
   ·rename_i c
    have : p.1 = j := by omega
    exact ⟨p.2, by rw [← this]; simp, c⟩
   ·obtain ⟨x, h1, h2⟩ := ih h
    exact ⟨x, List.mem_cons_of_mem _ h1, h2⟩
theorem B1Q {l : List EnV} {key : ByteArray} {p : Nat × EnV} (h : p ∈ T4 l key) : l[p.1]? = some p.2 := by
 unfold T4 at h
 obtain ⟨i, hi, rfl⟩ := List.mem_map.1 h
 have hi' : i < l.length := List.mem_range.1 hi
 exact getD_some noE (Nat.mod_lt _ (by omega))
theorem B7A {l : List EnV} {key : ByteArray} {j : Nat} (h : E4 l key = j) : ∃ x, l[j]? = some x ∧ x.st = 1 ∧ x.key = key := by
 obtain ⟨x, h1, h2⟩ := C04 _ h
 exact ⟨x, B1Q h1, h2⟩
theorem A8w {l u : List EnV} {x : EnV} (h : K7 l x = some u) (h1 : x.st = 1) : ∃ j, j < l.length ∧ u = l.set j x ∧ E4 u x.key = (j : Nat) ∧ (E4 l x.key = (j : Nat) ∨ E4 l x.key < 0 ∧ N3 (T4 l x.key) = (j : Nat)) := by
 unfold K7 at h
 simp only at h
 by_cases c : E4 l x.key < 0
 ·rw [if_pos c] at h
  by_cases c2 : a6 l x.key < 0
  ·rw [if_pos c2] at h; cases h
  ·rw [if_neg c2] at h
   injection h with h
   have hr : a6 l x.key = N3 (T4 l x.key) := if_neg (by omega)
   have hlt := B1F (l := l) (key := x.key) (by omega)
   refine ⟨_, hlt, h.symm, ?_, Or.inr ⟨c, by omega⟩⟩
   subst h
   unfold E4
   rw [B1A _ _ _ _ hlt]
   exact B93 h1 rfl _ c (by omega)
 ·rw [if_neg c, if_neg c] at h
  injection h with h
  have hlt := A1w (l := l) (key := x.key) (by omega)
  refine ⟨_, hlt, h.symm, ?_, Or.inl (by omega)⟩
  subst h
  unfold E4 at *
  rw [B1A _ _ _ _ hlt]
  exact B9K h1 rfl _ (by omega)
theorem B06 {l u : List EnV} {x : EnV} (h : K7 l x = some u) : ∃ j, j < l.length ∧ u = l.set j x := by
 unfold K7 at h
 simp only at h
 by_cases c : E4 l x.key < 0
 ·rw [if_pos c] at h
  by_cases c2 : a6 l x.key < 0
  ·rw [if_pos c2] at h; cases h
  ·rw [if_neg c2] at h
   injection h with h
   exact ⟨_, B1F (by omega), h.symm⟩
 ·rw [if_neg c, if_neg c] at h
  injection h with h
  exact ⟨_, A1w (by omega), h.symm⟩
theorem C0Q {l : List EnV} {i : Nat} {p : Nat × EnV} : p ∈ Z7 i l ↔ i ≤ p.1 ∧ l[p.1 - i]? = some p.2 ∧ p.2.st = 1 := by
 induction l generalizing i with
 | nil => simp [Z7]
 | cons x l ih =>
  have hs : i + 1 ≤ p.1 → (x :: l)[p.1 - i]? = l[p.1 - (i + 1)]? := fun h => by
   rw [show p.1 - i = (p.1 - (i + 1)) + 1 by omega, List.getElem?_cons_succ]
  have h0 : ∀ h : i ≤ p.1, ¬ i + 1 ≤ p.1 → p.1 = i := fun _ _ => by omega
  unfold Z7
  split
  ·rename_i c
   rw [List.mem_cons, ih]
   constructor
   ·rintro (rfl | ⟨a, b, d⟩)
    ·simp [c]
    ·exact ⟨by omega, by rw [hs a]; exact b, d⟩
   ·rintro ⟨a, b, d⟩
    by_cases e : i + 1 ≤ p.1
    ·exact Or.inr ⟨e, by rw [← hs e]; exact b, d⟩
    ·have := h0 a e
     left
     rw [this] at b
     simp at b
     obtain ⟨q, y⟩ := p
     simp_all
  ·rename_i c
   rw [ih]
   constructor
   ·rintro ⟨a, b, d⟩
    exact ⟨by omega, by rw [hs a]; exact b, d⟩
   ·rintro ⟨a, b, d⟩
    by_cases e : i + 1 ≤ p.1
    ·exact ⟨e, by rw [← hs e]; exact b, d⟩
    ·have := h0 a e
     rw [this] at b
     simp at b
     rw [b] at c
     exact absurd d c
theorem A2V {l : List EnV} {p : Nat × EnV} : p ∈ M4 l ↔ l[p.1]? = some p.2 ∧ p.2.st = 1 := by
 unfold M4; rw [C0Q]; simp
theorem A26 {l : List EnV} : S2 l = true ↔ ∀ (i : Nat) (x : EnV), l[i]? = some x → x.st = 1 → E4 l x.key = (i : Nat) := by
 unfold S2
 rw [List.all_eq_true]
 constructor
 ·intro h i x hx h1
  simpa using h (i, x) (A2V.2 ⟨hx, h1⟩)
 ·intro h p hp
  obtain ⟨h1, h2⟩ := A2V.1 hp
  simpa using h p.1 p.2 h1 h2
def S0 (l : List EnV) (key : ByteArray) : Prop := ∀ (i : Nat) (x : EnV), l[i]? = some x → x.st = 1 → x.key ≠ key
theorem S0.find {l : List EnV} {key : ByteArray} (h : S0 l key) : E4 l key < 0 := by
 have hg := C3C l key
 by_cases c : E4 l key < 0
 ·exact c
 ·obtain ⟨x, h1, h2, h3⟩ := B7A (l := l) (key := key) (j := (E4 l key).toNat) (by omega)
  exact absurd h3 (h _ _ h1 h2)
theorem getElem?_set_some {α : Type} {l : List α} {i j : Nat} {x y : α} (h : (l.set j x)[i]? = some y) : (i = j ∧ y = x) ∨ (i ≠ j ∧ l[i]? = some y) := by
 by_cases c : i = j
 ·subst c
  rw [List.getElem?_set_self'] at h
  cases hl : l[i]? with
  | none => rw [hl] at h; cases h
  | some z => rw [hl] at h; left; exact ⟨rfl, by simpa using h.symm⟩
 ·rw [List.getElem?_set_ne (Ne.symm c)] at h
  exact Or.inr ⟨c, h⟩
theorem S0.set {l : List EnV} {key : ByteArray} {j : Nat} {x : EnV} (h : S0 l key) (hx : x.st = 1 → x.key ≠ key) : S0 (l.set j x) key := fun i y hy h1 => by
 rcases getElem?_set_some hy with ⟨_, rfl⟩ | ⟨_, h2⟩
 ·exact hx h1
 ·exact h i y h2 h1
theorem S0.put {l : List EnV} {key : ByteArray} {x : EnV} (h : S0 l key) (hx : x.st = 1 → x.key ≠ key) : S0 (W5 l x) key := by
 unfold W5
 cases hp : K7 l x with
 | none => exact h
 | some u => obtain ⟨j, _, rfl⟩ := B06 hp; exact h.set hx
theorem S0.newE (n : Nat) (key : ByteArray) : S0 (newE n) key := fun i x hx h1 => by
 unfold Go.Proofs.YtjobgnabneddjaaGreat.newE at hx
 obtain ⟨_, h2⟩ := List.getElem?_eq_some_iff.1 hx
 rw [List.getElem_replicate] at h2
 rw [← h2] at h1; simp [noE] at h1
theorem S0.tidy {l : List EnV} {key : ByteArray} (h : S0 l key) : S0 (s6 l) key := by
 unfold s6
 have : ∀ (L : List (Nat × EnV)) (a : List EnV), (∀ p ∈ L, p.2.st = 1 → p.2.key ≠ key) → S0 a key → S0 (L.foldl (fun acc p => W5 acc p.2) a) key := by
  intro L
  induction L with
  | nil => intro a _ h; exact h
  | cons p L ih => intro a hL ha; rw [List.foldl_cons]; exact ih _ (fun q hq => hL q (List.mem_cons_of_mem _ hq)) (ha.put (hL p (List.mem_cons_self ..)))
 exact this _ _ (fun p hp h1 => h p.1 p.2 (A2V.1 hp).1 h1) (.newE _ _)
theorem S0.settle {l : List EnV} {key : ByteArray} (h : S0 l key) : S0 (N7 l) key := by
 unfold N7; split
 ·exact h.tidy
 ·exact h
end Go.Proofs.YtjobgnabneddjaaGreat
namespace Go.Proofs.YtjobgnabneddjaaGreat
open Go
theorem B8e {key : ByteArray} {i j : Nat} {x : EnV} (h0 : x.st ≠ 0) (h1 : ¬ (x.st = 1 ∧ x.key = key)) (hij : i ≠ j) : ∀ L, J0 key L = i → J0 key (L.map (upW j x)) = i := by
 intro L
 induction L with
 | nil => intro h; simp [J0] at h <;> omega
 | cons p L ih =>
  intro h
  rw [List.map_cons]
  simp only [J0] at h
  split at h
  ·omega
  ·rename_i c0
   split at h
   ·rename_i c1
    have : p.1 ≠ j := by omega
    rw [upW, if_neg this]
    simp only [J0]
    rw [if_neg c0, if_pos c1]; exact h
   ·rename_i c1
    by_cases c : p.1 = j
    ·rw [upW, if_pos c]
     simp only [J0]
     rw [if_neg h0, if_neg h1]; exact ih h
    ·rw [upW, if_neg c]
     simp only [J0]
     rw [if_neg c0, if_neg c1]; exact ih h
theorem B2s {l : List EnV} {key : ByteArray} {i j : Nat} {x : EnV} (hj : j < l.length) (h0 : x.st ≠ 0) (h1 : ¬ (x.st = 1 ∧ x.key = key)) (hij : i ≠ j) (h : E4 l key = i) : E4 (l.set j x) key = i := by
 unfold E4 at *
 rw [B1A _ _ _ _ hj]
 exact B8e h0 h1 hij _ h
theorem B9j {l : List EnV} {j : Nat} (hj : j < l.length) (h : S2 l = true) : S2 (l.set j j7) = true := by
 rw [A26] at h ⊢
 intro i y hy h1
 rcases getElem?_set_some hy with ⟨_, rfl⟩ | ⟨h2, h3⟩
 ·simp [j7] at h1
 ·exact B2s hj (by simp [j7]) (by simp [j7]) h2 (h i y h3 h1)
theorem B4M {l u : List EnV} {x : EnV} (h1 : x.st = 1) (hp : K7 l x = some u) (h : S2 l = true) : S2 u = true := by
 rw [A26] at h ⊢
 obtain ⟨j, hj, rfl, hf, hc⟩ := A8w hp h1
 intro i y hy hy1
 rcases getElem?_set_some hy with ⟨rfl, rfl⟩ | ⟨h2, h3⟩
 ·exact hf
 ·have hi := h i y h3 hy1
  have hk : x.key ≠ y.key := fun e => by rw [← e] at hi; omega
  exact B2s hj (by omega) (fun e => hk e.2) h2 hi
theorem B37 (n : Nat) : S2 (newE n) = true := by
 rw [A26]
 intro i x hx h1
 unfold newE at hx
 obtain ⟨_, h2⟩ := List.getElem?_eq_some_iff.1 hx
 rw [List.getElem_replicate] at h2
 rw [← h2] at h1; simp [noE] at h1
theorem B8d {a : List EnV} {x : EnV} (h1 : x.st = 1) (h : S2 a = true) : S2 (W5 a x) = true := by
 unfold W5
 cases hp : K7 a x with
 | none => exact h
 | some u => exact B4M h1 hp h
theorem B9w (l : List EnV) : S2 (s6 l) = true := by
 unfold s6
 have : ∀ (L : List (Nat × EnV)) (a : List EnV), (∀ p ∈ L, p.2.st = 1) → S2 a = true → S2 (L.foldl (fun acc p => W5 acc p.2) a) = true := by
  intro L
  induction L with
  | nil => intro a _ h; exact h
  | cons p L ih => intro a hL ha; rw [List.foldl_cons]; exact ih _ (fun q hq => hL q (List.mem_cons_of_mem _ hq)) (B8d (hL p (List.mem_cons_self ..)) ha)
 exact this _ _ (fun p hp => (A2V.1 hp).2) (B37 _)
theorem B6Q {l : List EnV} (h : S2 l = true) : S2 (N7 l) = true := by
 unfold N7; split
 ·exact B9w _
 ·exact h
def A2N (x : EnV) : Bool := decide (x.st = 1)
def D2 (l : List EnV) : List EnV := l.filter A2N
def A80 (x : EnV) : List EnV := if x.st = 1 then [x] else []
theorem A5P {l : List EnV} {j : Nat} {y x : EnV} (hy : l[j]? = some y) : (A80 y ++ D2 (l.set j x)).Perm (A80 x ++ D2 l) := by
 obtain ⟨hj, e⟩ := List.getElem?_eq_some_iff.1 hy
 have h1 : l = l.take j ++ y :: l.drop (j + 1) := by rw [← e]; simp
 have h2 : l.set j x = l.take j ++ x :: l.drop (j + 1) := List.set_eq_take_append_cons_drop .. |>.trans (by rw [if_pos hj])
 have f1 : ∀ z : EnV, D2 (l.take j ++ z :: l.drop (j + 1)) = D2 (l.take j) ++ (A80 z ++ D2 (l.drop (j + 1))) := fun z => by
  unfold D2; rw [List.filter_append, List.filter_cons]
  simp only [A80, A2N, decide_eq_true_eq]
  split <;> simp
 have h3 : D2 l = D2 (l.take j) ++ (A80 y ++ D2 (l.drop (j + 1))) := by rw [← f1, ← h1]
 rw [h2, f1, h3]
 generalize D2 (l.take j) = A
 generalize D2 (l.drop (j + 1)) = B
 have p1 : ∀ (u v : List EnV), (u ++ (A ++ (v ++ B))).Perm (A ++ (u ++ (v ++ B))) := fun u v => by
  rw [← List.append_assoc, ← List.append_assoc A u]
  exact List.perm_append_comm.append_right _
 refine (p1 _ _).trans (((p1 _ _).trans ?_).symm)
 refine List.Perm.append_left _ ?_
 rw [← List.append_assoc, ← List.append_assoc]
 exact List.perm_append_comm.append_right _
theorem B6H (l : List EnV) (i : Nat) : (Z7 i l).map (·.2) = D2 l := by
 induction l generalizing i with
 | nil => rfl
 | cons x l ih =>
  unfold Z7 D2
  rw [List.filter_cons]
  simp only [A2N, decide_eq_true_eq]
  split
  ·rw [List.map_cons, ih]; rfl
  ·rw [ih]; rfl
theorem B3K {l : List EnV} (h : S2 l = true) : ((D2 l).map (·.key)).Nodup := by
 rw [A26] at h
 have h2 : ∀ (i : Nat) (m : List EnV), (∀ (k : Nat) (x : EnV), m[k]? = some x → x.st = 1 → E4 l x.key = (i + k : Nat)) → ((D2 m).map (·.key)).Nodup := by
  intro i m
  induction m generalizing i with
  | nil => intro _; simp [D2]
  | cons x m ih =>
   intro hm
   have ih' := ih (i + 1) fun k y hy h1 => by
    have := hm (k + 1) y (by simpa using hy) h1
    rw [this]; congr 1; omega
   unfold D2 at *
   rw [List.filter_cons]
   simp only [A2N, decide_eq_true_eq] at *
   split
   ·rename_i c
    rw [List.map_cons, List.nodup_cons]
    refine ⟨fun hx => ?_, ih'⟩
    obtain ⟨y, hy, e⟩ := List.mem_map.1 hx
    obtain ⟨hy1, hy2⟩ := List.mem_filter.1 hy
    obtain ⟨k, hk, e2⟩ := List.getElem_of_mem hy1
    have a := hm 0 x (by simp) c
    have b := hm (k + 1) y (by simp [hk, e2]) (by simpa [A2N] using hy2)
    rw [e, a] at b
    omega
   ·exact ih'
 exact h2 0 l fun k x hx h1 => by rw [h k x hx h1]; simp
theorem B4l {l : List EnV} {key : ByteArray} : S0 l key ↔ ∀ x ∈ D2 l, x.key ≠ key := by
 unfold S0 D2 A2N
 constructor
 ·intro h x hx
  obtain ⟨h1, h2⟩ := List.mem_filter.1 hx
  obtain ⟨i, hi, e⟩ := List.getElem_of_mem h1
  exact h i x (by simp [hi, e]) (by simpa using h2)
 ·intro h i x hx h1
  exact h x (List.mem_filter.2 ⟨List.mem_of_getElem? hx, by simpa using h1⟩)
theorem C1D : ∀ L, N3 L < 0 → ∀ p ∈ L, p.2.st = 1 := by
 intro L
 induction L with
 | nil => intro _ p hp; cases hp
 | cons q L ih =>
  intro h p hp
  simp only [N3] at h
  split at h
  ·rename_i c
   rcases List.mem_cons.1 hp with rfl | hp
   ·exact c
   ·exact ih h p hp
  ·omega
theorem C5j {l : List EnV} (key : ByteArray) {q : Nat} {y : EnV} (hy : l[q]? = some y) : (q, y) ∈ T4 l key := by
 obtain ⟨hq, e⟩ := List.getElem?_eq_some_iff.1 hy
 unfold T4
 have hl : 0 < l.length := by omega
 have hm : M5 key l.length < l.length := Nat.mod_lt _ hl
 refine List.mem_map.2 ⟨(q + l.length - M5 key l.length) % l.length, List.mem_range.2 (Nat.mod_lt _ hl), ?_⟩
 have : (M5 key l.length + (q + l.length - M5 key l.length) % l.length) % l.length = q := by
  rw [Nat.add_mod, Nat.mod_mod, ← Nat.add_mod, show M5 key l.length + (q + l.length - M5 key l.length) = q + l.length by omega, Nat.add_mod_right, Nat.mod_eq_of_lt hq]
 rw [this]
 simp [List.getD_eq_getElem?_getD, hq, e]
theorem C3r {a : List EnV} {x : EnV} (h1 : x.st = 1) (hn : S0 a x.key) (hl : (D2 a).length < a.length) : ∃ u, K7 a x = some u ∧ (D2 u).Perm (x :: D2 a) := by
 cases hp : K7 a x with
 | none =>
  exfalso
  unfold K7 at hp
  simp only at hp
  rw [if_pos hn.find] at hp
  have hr : a6 a x.key = N3 (T4 a x.key) := if_neg (by have := hn.find; omega)
  by_cases c : a6 a x.key < 0
  ·have h2 := C1D _ (hr ▸ c)
   have h3 : D2 a = a := List.filter_eq_self.2 fun y hy => by
    obtain ⟨q, hq, e⟩ := List.getElem_of_mem hy
    have := h2 (q, y) (C5j _ (by simp [hq, e]))
    simpa [A2N] using this
   rw [h3] at hl; omega
  ·rw [if_neg c] at hp; cases hp
 | some u =>
  obtain ⟨j, hj, rfl, hf, hc⟩ := A8w hp h1
  refine ⟨_, rfl, ?_⟩
  have hj1 : a[j]? = some a[j] := List.getElem?_eq_getElem hj
  have hs := A5P (x := x) hj1
  have hnl : a[j].st ≠ 1 := fun c => by
   rcases hc with hc | ⟨_, hc⟩
   ·have := hn.find; omega
   ·have hm : ∀ L, N3 L = (j : Nat) → ∃ y, (j, y) ∈ L ∧ y.st ≠ 1 := by
     intro L
     induction L with
     | nil => intro h; simp [N3] at h <;> omega
     | cons p L ih =>
      intro h
      simp only [N3] at h
      split at h
      ·obtain ⟨y, h1, h2⟩ := ih h; exact ⟨y, List.mem_cons_of_mem _ h1, h2⟩
      ·rename_i c2
       have : p.1 = j := by omega
       exact ⟨p.2, by rw [← this]; simp, c2⟩
    obtain ⟨y, h2, h3⟩ := hm _ hc
    have h4 := B1Q h2
    rw [hj1] at h4
    injection h4 with h4
    exact h3 (by rw [h4] at c; exact c)
  unfold A80 at hs
  rw [if_neg hnl, if_pos h1] at hs
  simpa using hs
theorem A15 (n : Nat) : D2 (newE n) = [] := by
 unfold D2 newE
 rw [List.filter_eq_nil_iff]
 intro x hx
 rw [(List.mem_replicate.1 hx).2]; simp [A2N, noE]
theorem B6y {l : List EnV} (h : S2 l = true) (hl : l.length ≤ 64) : (D2 (s6 l)).Perm (D2 l) := by
 have hmain : ∀ (L : List (Nat × EnV)) (a : List EnV), (∀ p ∈ L, p.2.st = 1) → ((D2 a ++ L.map (·.2)).map (·.key)).Nodup → (D2 a).length + L.length ≤ a.length →
   (D2 (L.foldl (fun acc p => W5 acc p.2) a)).Perm (D2 a ++ L.map (·.2)) := by
  intro L
  induction L with
  | nil => intro a _ _ _; simp
  | cons p L ih =>
   intro a hL hn hlen
   rw [List.foldl_cons]
   simp only [List.length_cons] at hlen
   have hk : S0 a p.2.key := B4l.2 fun x hx e => by
    rw [List.map_append, List.nodup_append] at hn
    exact hn.2.2 _ (List.mem_map_of_mem hx) p.2.key (by simp) e
   obtain ⟨u, hu, hp⟩ := C3r (hL p (List.mem_cons_self ..)) hk (by omega)
   have e : W5 a p.2 = u := by simp [W5, hu]
   rw [e]
   have hlu := A60 hu
   have hpl := hp.length_eq
   have hperm : (D2 u ++ L.map (·.2)).Perm (D2 a ++ (p :: L).map (·.2)) := by
    refine (hp.append_right _).trans ?_
    rw [List.map_cons]
    exact (List.perm_middle (a := p.2) (l₁ := D2 a) (l₂ := L.map (·.2))).symm
   refine (ih u (fun q hq => hL q (List.mem_cons_of_mem _ hq)) ?_ ?_).trans hperm
   ·exact ((hperm.map _).nodup_iff).2 hn
   ·rw [hpl, List.length_cons, hlu]; omega
 unfold s6
 have hm : (M4 l).map (·.2) = D2 l := B6H l 0
 have h1 := hmain (M4 l) (newE l.length) (fun p hp => (A2V.1 hp).2) (by rw [A15, hm]; exact B3K h)
  (by
   rw [A15, A7K]
   have : (M4 l).length = (D2 l).length := by rw [← hm]; simp
   have h2 : (D2 l).length ≤ l.length := List.length_filter_le ..
   simp only [List.length_nil]; omega)
 rw [A15, hm] at h1
 exact h1
theorem B3w {l : List EnV} (h : S2 l = true) (hl : l.length ≤ 64) : (D2 (N7 l)).Perm (D2 l) := by
 unfold N7; split
 ·exact B6y h hl
 ·exact .refl _
theorem B9m {l : List EnV} (hl : l.length ≤ 64) : (N7 l).length = l.length := by
 unfold N7; split
 ·unfold s6; rw [B5n, A7K]; omega
 ·rfl
end Go.Proofs.YtjobgnabneddjaaGreat
namespace Go.Proofs.YtjobgnabneddjaaGreat
open Go
theorem A3W {κ : Bool} {S : List Nat} {w0 : World} {H : List Res} {K0 : WP} {t : TypeId} {n : Nat} {z : Value} [h : TG t n z] {b o : Nat} {c : Array Value} {T : TypeId} {f : Nat × Nat} {xs : Array Value} {l : List Rd} (hm : Res.pt b (.cells c T f) ∈ H) (hl : V7 c.toList o n = some xs.toList) :
  TW κ S w0 H (watch PR ((none, Instr.loadAt t (.pointer (some ⟨b, o, none⟩)), .agg xs) :: l) K0) = TW κ S w0 H (watch PR l K0) := by
 obtain ⟨_, _, h, hd⟩ := h.ti
 refine B3D fun w hw => ?_
 have hr := A1d hl (L9.bl (hw.pt hm))
 have h2 := A1u hr
 have := A41 h hd h2.1 h2.2
 simpa using this
theorem L9.sub {w : World} {b o : Nat} {l : List Value} (h : L9 w b o l) (j n : Nat) (hn : j + n ≤ l.length) : g4 w b (o + j) n = some ((l.drop j).take n) := by
 have hl : ((l.drop j).take n).length = n := by simp; omega
 have h1 : L9 w b (o + j) ((l.drop j).take n) := fun q hq => by
  rw [hl] at hq
  rw [Nat.add_assoc, h (j + q) (by omega), List.getElem?_take_of_lt hq, List.getElem?_drop]
 have := A3J h1
 rwa [hl] at this
end Go.Proofs.YtjobgnabneddjaaGreat
namespace Go.Proofs.YtjobgnabneddjaaGreat
open Go
def B1B (ts : List (Value × List EnV)) : List Nat := ts.flatMap fun t => J8 t.1
def B3Z (ts : List (Value × List EnV)) (w : World) : Prop := ∀ t ∈ ts, N2 w 218 4 t.1 t.2.length (t.2.flatMap H5)
def d6 (ts : List (Value × List EnV)) : Res := .ab (B1B ts) (B3Z ts) fun w w' hk h t ht =>
 Res.stable (r := H4 t.1 t.2) (fun b hb => hk b (by rw [B1B, List.mem_flatMap]; exact ⟨t, ht, hb⟩)) (h t ht)
section
variable {κ : Bool} {S : List Nat} {w0 w : World} {H Hk Hc : List Res} {K0 : WP} {ts : List (Value × List EnV)}
theorem A8v (hw : LW κ S w0 H w) (hm : d6 ts ∈ H) {t : Value × List EnV} (ht : t ∈ ts) : G1 w t.1 t.2.length (t.2.flatMap H5) := N2.rd ((hw.hold _ hm : B3Z ts w) t ht)
theorem A34 {r : Res} (hp : Part Hc H Hk) (hh : ∀ w, (∀ s ∈ Hc, s.holds w) → r.holds w) (hf : ∀ b ∈ r.foot, b ∈ B6 Hc) (h : TW κ S w0 (r :: Hk) K0) : TW κ S w0 H K0 := fun w hw => by
 have hw2 := hw.perm hp.perm
 refine h w ⟨hw2.ks, ?_, ?_, ?_⟩
 ·intro s hs
  rcases List.mem_cons.1 hs with rfl | hs
  ·exact hh w fun s hs => hw2.hold s (List.mem_append_left _ hs)
  ·exact hw2.hold s (List.mem_append_right _ hs)
 ·intro s hs b hb
  rcases List.mem_cons.1 hs with rfl | hs
  ·obtain ⟨q, hq, hbq⟩ := N0.1 (hf b hb)
   exact hw2.own q (List.mem_append_left _ hq) b hbq
  ·exact hw2.own s (List.mem_append_right _ hs) b hb
 ·have hd := List.pairwise_append.1 hw2.dis
  refine List.pairwise_cons.2 ⟨fun s hs b hb => ?_, hd.2.1⟩
  obtain ⟨q, hq, hbq⟩ := N0.1 (hf b hb)
  exact hd.2.2 q hq s hs b hbq
theorem B6E (h : TW κ S w0 (d6 [] :: H) K0) : TW κ S w0 H K0 :=
 A34 (r := d6 []) (Hc := []) Part.nil (fun w _ => (fun t ht => (by cases ht) : B3Z [] w)) (fun b hb => (by cases (hb : b ∈ B1B []))) h
theorem Z8 {r : Value} {l : List EnV} (hp : Part [H4 r l, d6 ts] H Hk) (h : TW κ S w0 (d6 (ts ++ [(r, l)]) :: Hk) K0) : TW κ S w0 H K0 := by
 refine A34 (r := d6 (ts ++ [(r, l)])) hp (fun w hh => (fun t ht => ?_ : B3Z (ts ++ [(r, l)]) w)) (fun b hb => ?_) h
 ·rcases List.mem_append.1 ht with ht | ht
  ·exact (hh _ (List.mem_cons_of_mem _ (List.mem_cons_self ..)) : B3Z ts w) t ht
  ·obtain rfl : t = (r, l) := by simpa using ht
   exact hh (H4 r l) (List.mem_cons_self ..)
 ·have hb' : b ∈ B1B (ts ++ [(r, l)]) := hb
  rw [B1B, List.mem_flatMap] at hb'
  obtain ⟨t, ht, hbt⟩ := hb'
  rcases List.mem_append.1 ht with ht | ht
  ·exact N0.2 ⟨d6 ts, by simp, by show b ∈ B1B ts; rw [B1B, List.mem_flatMap]; exact ⟨t, ht, hbt⟩⟩
  ·obtain rfl : t = (r, l) := by simpa using ht
   exact N0.2 ⟨H4 r l, by simp, hbt⟩
end
abbrev ShV := (Value × List EnV) × Nat
def C8c (t : ShV) : List Value := [t.1.1, .int .i64 (t.2 : Nat)]
structure MoH where
 b : Nat
 pv : Value
 sv : Value
 c : CfgV
 pool : List F7
 ts : List ShV
def C6F (m : MoH) : List Res := [.pt m.b (.cells #[.int .i64 m.c.wk, .int .i64 m.c.sh, .int .i64 m.c.cp, .int .i64 m.c.idle, .int .i64 m.c.sl, m.pv, m.sv] 210),
 .own 155 2 m.pv m.pool.length (m.pool.flatMap H0), .own 214 2 m.sv m.ts.length (m.ts.flatMap C8c), d6 (m.ts.map (·.1))]
theorem B8x (l : List F7) : (l.flatMap H0).all plain = true := by
 rw [List.all_eq_true]; intro v hv; rw [List.mem_flatMap] at hv
 obtain ⟨x, _, hx⟩ := hv
 simp only [H0, List.mem_cons, List.not_mem_nil, or_false] at hx
 rcases hx with rfl | rfl <;> rfl
end Go.Proofs.YtjobgnabneddjaaGreat
namespace Go.Proofs.YtjobgnabneddjaaGreat
open Go
def B5H (c : CfgV) : List (List EnV × Nat) := List.replicate c.sh.toNat (newE c.cp.toNat, 0)
end Go.Proofs.YtjobgnabneddjaaGreat
namespace Go.Proofs.YtjobgnabneddjaaGreat
open Go
structure MoS where
 c : CfgV
 pool : List F7
 tabs : List (List EnV × Nat)
def MoH.st (m : MoH) : MoS := ⟨m.c, m.pool, m.ts.map fun t => (t.1.2, t.2)⟩
structure PoolAt (w : World) (m : MoH) (v : Value) (p : List F7) : Prop where
 rd : G1 w v p.length (p.flatMap H0)
 off : 0 < p.length → ∀ g ∈ J8 v, g ∉ B6 (C6F m)
 len : p.length ≤ 1000
 form : v.cells = #[v] ∧ plain v = true
theorem PoolAt.at {w w' : World} {m : MoH} {v : Value} {p : List F7} {κ : Bool} (h : PoolAt w m v p) (hk : KS κ (B6 (C6F m)) w w') : G1 w' v p.length (p.flatMap H0) :=
 h.rd.ks0 (fun e => by rw [List.length_eq_zero_iff.1 e]; rfl) hk h.off
end Go.Proofs.YtjobgnabneddjaaGreat
namespace Go.Proofs.YtjobgnabneddjaaGreat
open Go
end Go.Proofs.YtjobgnabneddjaaGreat
namespace Go.Proofs.YtjobgnabneddjaaGreat
open Go
end Go.Proofs.YtjobgnabneddjaaGreat
namespace Go.Proofs.YtjobgnabneddjaaGreat
open Go
def A42 (k : KeyV) : ByteArray := if W8 k then A3L k else K6
theorem B3d (s t : ByteArray) (o : Nat) : (a8 s o t).size ≤ o + t.size + s.size := by
 simp only [a8, ByteArray.size_append, ByteArray.size_extract]; omega
theorem B02 (x : Int) : (E9 x 2).size ≤ 2 := by simp
theorem A8n (k : KeyV) : (A42 k).size < 2 ^ 60 := by
 unfold A42
 split
 ·rename_i h
  simp only [W8, decide_eq_true_eq] at h
  have hl : Y3 k.v ≤ 16 := by unfold Y3; split <;> (try split) <;> omega
  have h1 := B3d (a8 (a8 z38 0 (E9 (k.v * 256 + k.proto) 2 ++ E9 k.fr 2 ++ E9 k.tp 2)) 6 k.src) k.dst 22
  have h2 := B3d (a8 z38 0 (E9 (k.v * 256 + k.proto) 2 ++ E9 k.fr 2 ++ E9 k.tp 2)) k.src 6
  have h3 := B3d z38 (E9 (k.v * 256 + k.proto) 2 ++ E9 k.fr 2 ++ E9 k.tp 2) 0
  have h4 := B02 (k.v * 256 + k.proto)
  have h5 := B02 k.fr
  have h6 := B02 k.tp
  have h7 := A7T
  simp only [ByteArray.size_append] at h3
  unfold A3L
  omega
 ·simp
end Go.Proofs.YtjobgnabneddjaaGreat
namespace Go.Proofs.YtjobgnabneddjaaGreat
open Go
end Go.Proofs.YtjobgnabneddjaaGreat
namespace Go.Proofs.YtjobgnabneddjaaGreat
open Go
theorem B1N {l : List EnV} {j : Nat} {x : EnV} (h : P5 l) (hx : x.key.size < 2 ^ 60) : P5 (l.set j x) := fun y hy => by
 rcases List.mem_or_eq_of_mem_set hy with h1 | rfl
 ·exact h y h1
 ·exact hx
theorem B5p (n : Nat) : P5 (newE n) := fun x hx => by
 unfold newE at hx
 rw [(List.mem_replicate.1 hx).2]; simp [noE]
theorem C0m {a : List EnV} {x : EnV} (h : P5 a) (hx : x.key.size < 2 ^ 60) : P5 (W5 a x) := by
 unfold W5
 cases hp : K7 a x with
 | none => exact h
 | some u => obtain ⟨j, _, rfl⟩ := B06 hp; exact B1N h hx
theorem C0S {l : List EnV} (h : P5 l) : P5 (s6 l) := by
 unfold s6
 have : ∀ (L : List (Nat × EnV)) (a : List EnV), (∀ p ∈ L, p.2.key.size < 2 ^ 60) → P5 a → P5 (L.foldl (fun acc p => W5 acc p.2) a) := by
  intro L
  induction L with
  | nil => intro a _ h; exact h
  | cons p L ih => intro a hL ha; rw [List.foldl_cons]; exact ih _ (fun q hq => hL q (List.mem_cons_of_mem _ hq)) (C0m ha (hL p (List.mem_cons_self ..)))
 exact this _ _ (fun p hp => h _ (B4E p hp).1) (B5p _)
theorem B7r {l : List EnV} (h : P5 l) : P5 (N7 l) := by
 unfold N7; split
 ·exact C0S h
 ·exact h
theorem C3l : j7.key.size < 2 ^ 60 := by simp [j7]
structure TabOk (n : Nat) (l : List EnV) : Prop where
 len : l.length = n
 few : n ≤ 64
 keys : P5 l
 right : S2 l = true
theorem TabOk.new {n : Nat} (h : n ≤ 64) : TabOk n (newE n) := ⟨by rw [A7K]; omega, h, B5p _, B37 _⟩
theorem TabOk.settle {n : Nat} {l : List EnV} (h : TabOk n l) : TabOk n (N7 l) := ⟨by rw [B9m (by rw [h.len]; exact h.few), h.len], h.few, B7r h.keys, B6Q h.right⟩
theorem TabOk.tomb {n : Nat} {l : List EnV} {j : Nat} (h : TabOk n l) (hj : j < l.length) : TabOk n (l.set j j7) := ⟨by rw [List.length_set, h.len], h.few, B1N h.keys C3l, B9j hj h.right⟩
theorem TabOk.put {n : Nat} {l u : List EnV} {x : EnV} (h : TabOk n l) (hx : x.key.size < 2 ^ 60) (h1 : x.st = 1) (hp : K7 l x = some u) : TabOk n u :=
 ⟨by rw [A60 hp, h.len], h.few, by obtain ⟨j, _, rfl⟩ := B06 hp; exact B1N h.keys hx, B4M h1 hp h.right⟩
theorem TabOk.perm {n : Nat} {l : List EnV} (h : TabOk n l) : (D2 (N7 l)).Perm (D2 l) := B3w h.right (by rw [h.len]; exact h.few)
theorem B0l {l : List EnV} {key : ByteArray} (h : 0 ≤ E4 l key) : l[(E4 l key).toNat]? = some (n5 l key) ∧ (n5 l key).st = 1 ∧ (n5 l key).key = key := by
 obtain ⟨x, h1, h2, h3⟩ := B7A (l := l) (key := key) (j := (E4 l key).toNat) (by omega)
 have e : n5 l key = x := by unfold n5; rw [List.getD_eq_getElem?_getD, h1]; rfl
 rw [e]; exact ⟨h1, h2, h3⟩
theorem C1Y {l u : List EnV} {key : ByteArray} (h : W3 l key = some u) : 0 ≤ E4 l key ∧ (E4 l key).toNat < l.length ∧ u = l.set (E4 l key).toNat j7 ∧ (n5 l key :: D2 u).Perm (D2 l) := by
 unfold W3 at h
 split at h
 ·cases h
 ·rename_i c
  injection h with h
  subst h
  have h0 : 0 ≤ E4 l key := by omega
  obtain ⟨h1, h2, h3⟩ := B0l h0
  have hs := A5P (x := j7) h1
  unfold A80 at hs
  rw [if_pos h2, if_neg (by simp [j7])] at hs
  exact ⟨h0, A1w h0, rfl, by simpa using hs⟩
theorem B94 {l u : List EnV} {x : EnV} (h1 : x.st = 1) (hp : K7 l x = some u) : (0 ≤ E4 l x.key ∧ (n5 l x.key :: D2 u).Perm (x :: D2 l)) ∨ (E4 l x.key < 0 ∧ (D2 u).Perm (x :: D2 l)) := by
 obtain ⟨j, hj, rfl, hf, hc⟩ := A8w hp h1
 have hj1 : l[j]? = some l[j] := List.getElem?_eq_getElem hj
 have hs := A5P (x := x) hj1
 unfold A80 at hs
 rw [if_pos h1] at hs
 rcases hc with hc | ⟨hc, hr⟩
 ·left
  have h0 : 0 ≤ E4 l x.key := by omega
  obtain ⟨e1, e2, e3⟩ := B0l h0
  have : (E4 l x.key).toNat = j := by omega
  rw [this, hj1] at e1
  injection e1 with e1
  rw [e1, if_pos e2] at hs
  exact ⟨h0, by simpa using hs⟩
 ·right
  refine ⟨hc, ?_⟩
  have hm : ∀ L, N3 L = (j : Nat) → ∃ y, (j, y) ∈ L ∧ y.st ≠ 1 := by
   intro L
   induction L with
   | nil => intro h; simp [N3] at h <;> omega
   | cons p L ih =>
    intro h
    simp only [N3] at h
    split at h
    ·obtain ⟨y, h1, h2⟩ := ih h; exact ⟨y, List.mem_cons_of_mem _ h1, h2⟩
    ·rename_i c2
     have : p.1 = j := by omega
     exact ⟨p.2, by rw [← this]; simp, c2⟩
  obtain ⟨y, h2, h3⟩ := hm _ hr
  have h4 := B1Q h2
  rw [hj1] at h4
  injection h4 with h4
  rw [if_neg (by rw [h4]; exact h3)] at hs
  simpa using hs
structure Decided (l u : List EnV) (key : ByteArray) (made : Bool) : Prop where
 up : (D2 u).length ≤ (D2 l).length + 1
 down : (D2 l).length ≤ (D2 u).length + 1
 new : (D2 l).length < (D2 u).length → made = true
 from' : ∀ x ∈ D2 u, x ∈ D2 l ∨ x.key = key
theorem Decided.refl (l : List EnV) (key : ByteArray) (made : Bool) : Decided l l key made := ⟨by omega, by omega, by omega, fun x hx => Or.inl hx⟩
theorem B8q {l : List EnV} {p : List F7} {key : ByteArray} {now : Int} (h : E4 l key < 0) : (P1 l p key now).2 = false := by
 unfold P1; rw [if_pos (Or.inl h)]
theorem A7F {n : Nat} {l : List EnV} {p : List F7} {key : ByteArray} {closing : Bool} {now idle : Int} (h : TabOk n l) (hk : key.size < 2 ^ 60) :
  TabOk n (Y0 l p key closing now idle).1 ∧ Decided l (Y0 l p key closing now idle).1 key (Y0 l p key closing now idle).2.1.made := by
 unfold Y0
 split
 ·exact ⟨h, .refl _ _ _⟩
 ·split
  ·unfold V1
   cases hd : W3 l key with
   | none => exact ⟨h, .refl _ _ _⟩
   | some u =>
    obtain ⟨h0, hlt, rfl, hp⟩ := C1Y hd
    have ht := h.tomb hlt
    have hp2 := (ht.perm.cons (n5 l key)).trans hp
    have hl := hp2.length_eq
    simp only [List.length_cons] at hl
    exact ⟨ht.settle, by simp only; omega, by simp only; omega, fun h => by simp only at h; omega, fun x hx => Or.inl (hp2.subset (List.mem_cons_of_mem _ hx))⟩
  ·cases hp : K7 l (B61 l p key now idle) with
   | none => exact ⟨h, .refl _ _ _⟩
   | some u =>
    refine ⟨h.put hk rfl hp, ?_⟩
    rcases B94 (x := B61 l p key now idle) rfl hp with ⟨h0, h1⟩ | ⟨h0, h1⟩
    ·have hl := h1.length_eq
     simp only [List.length_cons] at hl
     exact ⟨by simp only; omega, by simp only; omega, fun h => by simp only at h; omega, fun x hx => by
      rcases List.mem_cons.1 (h1.subset (List.mem_cons_of_mem _ hx)) with rfl | h2
      ·exact Or.inr rfl
      ·exact Or.inl h2⟩
    ·have hl := h1.length_eq
     simp only [List.length_cons] at hl
     exact ⟨by simp only; omega, by simp only; omega, fun h => by simp [B8q (p := p) (now := now) (show E4 l key < 0 from h0)], fun x hx => by
      rcases List.mem_cons.1 (h1.subset hx) with rfl | h2
      ·exact Or.inr rfl
      ·exact Or.inl h2⟩
def A93 (now : Int) (l u : List EnV) (k : Nat) : Prop := ∃ r, (r ++ D2 u).Perm (D2 l) ∧ (∀ x ∈ r, C7L x now = true) ∧ r.length = k
theorem A93.trans {now : Int} {a b c : List EnV} {i j : Nat} (h : A93 now a b i) (h' : A93 now b c j) : A93 now a c (i + j) := by
 obtain ⟨r, h1, h2, h3⟩ := h
 obtain ⟨s, h4, h5, h6⟩ := h'
 refine ⟨r ++ s, ?_, ?_, by rw [List.length_append, h3, h6]⟩
 ·rw [List.append_assoc]; exact (h4.append_left r).trans h1
 ·intro x hx
  rcases List.mem_append.1 hx with hx | hx
  ·exact h2 x hx
  ·exact h5 x hx
theorem A93.zero {now : Int} {l u : List EnV} (h : (D2 u).Perm (D2 l)) : A93 now l u 0 := ⟨[], h, by simp, rfl⟩
structure Inv (c : CfgV) (s : MoS) : Prop where
 cfg : s.c = c
 ok : M9 c = true
 pool : M3 s.pool = 0
 sh : (s.tabs.length : Int) = c.sh
 tab : ∀ t ∈ s.tabs, TabOk c.cp.toNat t.1
 own : ∀ (i : Nat) t, s.tabs[i]? = some t → ∀ x ∈ D2 t.1, Y7 x.key c.sh = i
theorem B8u {c : CfgV} (h : M9 c = true) : 1 ≤ c.wk ∧ c.wk ≤ 64 ∧ 1 ≤ c.sh ∧ c.sh ≤ 16 ∧ 1 ≤ c.cp ∧ c.cp ≤ 64 ∧ 0 ≤ c.idle ∧ c.idle ≤ 1000000 := by
 simp [M9, W1] at h; omega
theorem Inv.new {c : CfgV} (h : M9 c = true) : Inv c ⟨c, [], B5H c⟩ := by
 have hb := B8u h
 refine ⟨rfl, h, rfl, by simp [B5H]; omega, fun t ht => ?_, fun i t ht x hx => ?_⟩
 ·rw [B5H] at ht
  rw [(List.mem_replicate.1 ht).2]
  exact TabOk.new (by omega)
 ·have ht := List.mem_of_getElem? ht
  rw [B5H] at ht
  rw [(List.mem_replicate.1 ht).2, A15] at hx
  cases hx
theorem Inv.set {c : CfgV} {s : MoS} (h : Inv c s) {i : Nat} {t u : List EnV × Nat} (ht : s.tabs[i]? = some t) (hu : TabOk c.cp.toNat u.1) (hf : ∀ x ∈ D2 u.1, x ∈ D2 t.1 ∨ Y7 x.key c.sh = i) : Inv c { s with tabs := s.tabs.set i u } := by
 refine ⟨h.cfg, h.ok, h.pool, by rw [List.length_set]; exact h.sh, fun v hv => ?_, fun j v hv x hx => ?_⟩
 ·rcases List.mem_or_eq_of_mem_set hv with h1 | rfl
  ·exact h.tab v h1
  ·exact hu
 ·rcases getElem?_set_some hv with ⟨rfl, rfl⟩ | ⟨_, h2⟩
  ·rcases hf x hx with h1 | h1
   ·exact h.own j t ht x h1
   ·exact h1
  ·exact h.own j v h2 x hx
theorem Inv.at {c : CfgV} {s : MoS} (h : Inv c s) {i : Nat} (hi : i < c.sh.toNat) : s.tabs[i]? = some (s.tabs.getD i ([], 0)) := getD_some _ (by have := h.sh; omega)
end Go.Proofs.YtjobgnabneddjaaGreat
namespace Go.Proofs.YtjobgnabneddjaaGreat
open Go
theorem C25 (w : World) (n : Nat) (hn : n ≤ 1000000) : Fn PR B8 90 #[.int .i64 (n : Int)] w (Rn [] w (fun r u => u = r) fun r => [H4 r (newE n)]) := by
 refine A6M (TW.go (κ := false) (S := []) ?_)
 unfold A0P
 have e : max 0 (min (n : Int) 64) = ((min n 64 : Nat) : Int) := by omega
 (have zz:=trivial;repeat((first|clear zz|with_reducible first|refine A3 ?_|refine A5 fun _=>?_|refine A4 fun _=>?_);try simp(disch:=first|omega|assumption|((repeat(first|exact A1|exact uH|apply A2|apply uT));first|done|fail)|(simp;first|done|omega|fail))[]))
 rw [e]
 refine v7 (by omega) (by omega) (by omega) (by omega) fun b => ?_
 rw [Int.toNat_natCast, C38]
 refine B1 _ rfl ?_
 simp only [H4, newE, List.length_replicate]
 (repeat' constructor)
end Go.Proofs.YtjobgnabneddjaaGreat
namespace Go.Proofs.YtjobgnabneddjaaGreat
open Go
def s9 (X : Nat → Prop) (t0 : Value) (R : Value → WP) : WP :=
 jn (n := 1) (fun t2 =>
 jn (n := 2) (fun t2_1 t3 =>
 R (.int .i64 0)) fun J1 =>
 lp (n := 2) (fun L2 t2_2 t3_1 =>
 jn (n := 0) (
 jn (n := 1) (fun t2_3 =>
 A0 PR (binOp .add 3 t3_1 (.int .i64 1)) fun t13 =>
 L2 t2_3 t13) fun J3 =>
 A0 PR (Instr.indexAt 58 t0 t3_1) fun t16 =>
 A6 PR (Instr.loadAt 155 t16) fun t17 =>
 B2 PR X (Instr.alloc 155 true (.tuple #[])) fun t4 =>
 C1 PR X (Instr.storeAt 155 t4 t17) <|
 A0 PR (Instr.fieldAt 155 t4 0) fun t18 =>
 A6 PR (Instr.loadAt 3 t18) fun t19 =>
 A0 PR (binOp .lss 3 t19 (.int .i64 1)) fun t20 =>
 gj t20 false (fun J => A0 PR (Instr.fieldAt 155 t4 0) J) fun t22 =>
 gj t20 false (fun J => A6 PR (Instr.loadAt 3 t22) J) fun t23 =>
 gj t20 false (fun J => A0 PR (binOp .gtr 3 t23 (.int .i64 65535)) J) fun t24 =>
 A0 PR (do pure (if ← asBool t20 then (.bool true) else t24)) fun t25 =>
 gj t25 false (fun J => A0 PR (Instr.fieldAt 155 t4 1) J) fun t27 =>
 gj t25 false (fun J => A6 PR (Instr.loadAt 3 t27) J) fun t28 =>
 gj t25 false (fun J => A0 PR (binOp .lss 3 t28 (.int .i64 1)) J) fun t29 =>
 A0 PR (do pure (if ← asBool t25 then (.bool true) else t29)) fun t30 =>
 gj t30 false (fun J => A0 PR (Instr.fieldAt 155 t4 1) J) fun t32 =>
 gj t30 false (fun J => A6 PR (Instr.loadAt 3 t32) J) fun t33 =>
 gj t30 false (fun J => A0 PR (binOp .gtr 3 t33 (.int .i64 16)) J) fun t34 =>
 A0 PR (do pure (if ← asBool t30 then (.bool true) else t34)) fun t35 =>
 gj t35 false (fun J => J t0) fun t37 =>
 gj t35 false (fun J => A0 PR (Instr.fieldAt 155 t4 0) J) fun t38 =>
 gj t35 false (fun J => A6 PR (Instr.loadAt 3 t38) J) fun t39 =>
 gj t35 false (fun J => B4 PR X 202 [t37, t39] J) fun t40 =>
 gj t35 false (fun J => J t3_1) fun t41 =>
 gj t35 false (fun J => A0 PR (binOp .neq 3 t40 t41) J) fun t42 =>
 A0 PR (do pure (if ← asBool t35 then (.bool true) else t42)) fun t43 =>
 C3 t43 (
 R (.int .i64 10)) (
 J3 t2_2)) fun J4 =>
 A0 PR (A8 .len #[58] 0 [t0]) fun t10 =>
 A0 PR (binOp .lss 3 t3_1 t10) fun t11 =>
 C3 t11 (
 J4) (
 J1 t2_2 t3_1)) t2 (.int .i64 0)) fun J5 =>
 A0 PR (A8 .len #[58] 0 [t0]) fun t6 =>
 A0 PR (binOp .gtr 3 t6 (.int .i64 32)) fun t7 =>
 C3 t7 (
 R (.int .i64 10)) (
 J5 (.int .i64 0))
theorem A3u : A9 PR 153 := A7 Tryz.func153 (by kernel_rfl) rfl
theorem A4C {X : Nat → Prop} {t0 : Value} {R : Value → WP} {w : World} (h : s9 X t0 R w) : Fn PR X 153 #[t0] w R := C6 (args := [t0]) mixed Tryz.func153 (by kernel_rfl) h
def y3 (X : Nat → Prop) (t0 t1 : Value) (R : Value → WP) : WP :=
 jn (n := 2) (fun t4 t5 =>
 R (.int .i64 (-1))) fun J1 =>
 lp (n := 2) (fun L2 t4_1 t5_1 =>
 jn (n := 0) (
 jn (n := 1) (fun t4_2 =>
 A0 PR (binOp .add 3 t5_1 (.int .i64 1)) fun t11 =>
 L2 t4_2 t11) fun J3 =>
 A0 PR (Instr.indexAt 58 t0 t5_1) fun t14 =>
 A0 PR (Instr.fieldAt 155 t14 0) fun t15 =>
 A6 PR (Instr.loadAt 3 t15) fun t16 =>
 A0 PR (binOp .eql 3 t16 t1) fun t18 =>
 C3 t18 (
 R t5_1) (
 J3 t4_1)) fun J4 =>
 A0 PR (A8 .len #[58] 0 [t0]) fun t8 =>
 A0 PR (binOp .lss 3 t5_1 t8) fun t9 =>
 C3 t9 (
 J4) (
 J1 t4_1 t5_1)) (.int .i64 0) (.int .i64 0)
theorem A4F : A9 PR 202 := A7 Tryz.func202 (by kernel_rfl) rfl
theorem A5Q {X : Nat → Prop} {t0 t1 : Value} {R : Value → WP} {w : World} (h : y3 X t0 t1 R w) : Fn PR X 202 #[t0, t1] w R := C6 (args := [t0, t1]) mixed Tryz.func202 (by kernel_rfl) h
end Go.Proofs.YtjobgnabneddjaaGreat
namespace Go.Proofs.YtjobgnabneddjaaGreat
open Go
end Go.Proofs.YtjobgnabneddjaaGreat
namespace Go.Proofs.YtjobgnabneddjaaGreat
open Go
end Go.Proofs.YtjobgnabneddjaaGreat
namespace Go.Proofs.YtjobgnabneddjaaGreat
open Go
end Go.Proofs.YtjobgnabneddjaaGreat
namespace Go.Proofs.YtjobgnabneddjaaGreat
open Go
end Go.Proofs.YtjobgnabneddjaaGreat
namespace Go.Proofs.YtjobgnabneddjaaGreat
open Go
section
variable {κ : Bool} {X : Nat → Prop} {S : List Nat} {w0 : World} {H H' Hk : List Res} {K : Value → WP} {K0 : WP}
end
end Go.Proofs.YtjobgnabneddjaaGreat
namespace Go.Proofs.YtjobgnabneddjaaGreat
open Go
theorem P7.mono {κ : Bool} {S : List Nat} {w0 : World} {H H' : List Res} {v : Value} {n : Nat} {xs : List Value} (h : P7 κ S w0 H v n xs) (hs : H.Sublist H') : P7 κ S w0 H' v n xs := fun w hw => h w (hw.sub hs)
def RdC (w : World) (v : Value) (l : List (Nat × Int)) : Prop := G1 w v l.length (l.flatMap G3) ∧ ∃ a c, v = .slice a l.length c ∧ l.length ≤ c
theorem RdC.ks {w w' : World} {v : Value} {l : List (Nat × Int)} (h : RdC w v l) (hk : KS false [] w w') : RdC w' v l := ⟨h.1.ks hk (by simp), h.2⟩
end Go.Proofs.YtjobgnabneddjaaGreat
namespace Go.Proofs.YtjobgnabneddjaaGreat
open Go
end Go.Proofs.YtjobgnabneddjaaGreat
namespace Go.Proofs.YtjobgnabneddjaaGreat
open Go
theorem C0E (w : World) (v : Value) (l : List F7) (id : Int) (hn : l.length ≤ 1000000) (hv : G1 w v l.length (l.flatMap H0)) :
  Fn PR B8 202 #[v, .int .i64 id] w (fun r w' => r = .int .i64 (Q2 l id) ∧ C9 [] w w') := by
 refine Fn.pure (A5Q (TW.go (κ := false) (S := []) ?_))
 unfold y3
 obtain ⟨a, c, rfl, hr⟩ := hv.form
 (have zz:=trivial;repeat((first|clear zz|with_reducible first|refine A3 ?_|refine A5 fun _=>?_|refine A4 fun _=>?_);try simp(disch:=first|omega|assumption|((repeat(first|exact A1|exact uH|apply A2|apply uT));first|done|fail)|(simp;first|done|omega|fail))[]))
 refine q9 (α := Unit) l.length (fun _ _ => .int .i64 0) (fun _ _ => []) (fun i _ => ∀ j y, j < i → l[j]? = some y → decide (y.1 = id) = false) () (by intro j _ hj; omega) ?_
 rintro i _ hi hpre L hL
 by_cases hlt : i < l.length
 ·obtain ⟨b, o, rfl, hrow⟩ := hr (by omega)
  have hx : l[i]? = some l[i] := List.getElem?_eq_getElem hlt
  have h1 := hrow.cellAt (f := H0) (k := 2) (j := 0) (fun _ => rfl) hx rfl
  by_cases c1 : l[i].1 = id
  ·(have zz:=trivial;repeat((first|clear zz|with_reducible first|refine A3 ?_|refine A5 fun _=>?_|refine A4 fun _=>?_);try simp(disch:=first|omega|assumption|((repeat(first|exact A1|exact uH|apply A2|apply uT));first|done|fail)|(simp;first|done|omega|fail))[hlt, h1, c1]))
   exact B0 (by rw [Q2, A4f hx (by simpa using c1) hpre])
  ·(have zz:=trivial;repeat((first|clear zz|with_reducible first|refine A3 ?_|refine A5 fun _=>?_|refine A4 fun _=>?_);try simp(disch:=first|omega|assumption|((repeat(first|exact A1|exact uH|apply A2|apply uT));first|done|fail)|(simp;first|done|omega|fail))[hlt, h1, c1]))
   refine hL hlt () fun j y hj hy => ?_
   by_cases hji : j = i
   ·subst hji; rw [hx] at hy; cases hy; simpa using c1
   ·exact hpre j y (by omega) hy
 ·obtain rfl : i = l.length := by omega
  (have zz:=trivial;repeat((first|clear zz|with_reducible first|refine A3 ?_|refine A5 fun _=>?_|refine A4 fun _=>?_);try simp(disch:=first|omega|assumption|((repeat(first|exact A1|exact uH|apply A2|apply uT));first|done|fail)|(simp;first|done|omega|fail))[]))
  exact B0 (by rw [Q2, A9B fun j y hy => hpre j y (List.getElem?_eq_some_iff.1 hy).1 hy])
end Go.Proofs.YtjobgnabneddjaaGreat
namespace Go.Proofs.YtjobgnabneddjaaGreat
open Go
end Go.Proofs.YtjobgnabneddjaaGreat
namespace Go.Proofs.YtjobgnabneddjaaGreat
open Go
end Go.Proofs.YtjobgnabneddjaaGreat
namespace Go.Proofs.YtjobgnabneddjaaGreat
open Go
end Go.Proofs.YtjobgnabneddjaaGreat
namespace Go.Proofs.YtjobgnabneddjaaGreat
open Go
end Go.Proofs.YtjobgnabneddjaaGreat
namespace Go.Proofs.YtjobgnabneddjaaGreat
open Go
end Go.Proofs.YtjobgnabneddjaaGreat
namespace Go.Proofs.YtjobgnabneddjaaGreat
open Go
end Go.Proofs.YtjobgnabneddjaaGreat
namespace Go.Proofs.YtjobgnabneddjaaGreat
open Go
end Go.Proofs.YtjobgnabneddjaaGreat
namespace Go.Proofs.YtjobgnabneddjaaGreat
open Go
end Go.Proofs.YtjobgnabneddjaaGreat
namespace Go.Proofs.YtjobgnabneddjaaGreat
open Go
theorem B7V {l : List F7} {i : Nat} {x : F7} (hx : l[i]? = some x) (h : ∀ j y, j < i → l[j]? = some y → y.1 ≠ x.1) : Q2 l x.1 = (i : Nat) := by
 rw [Q2, A4f hx (by simp) fun j y hj hy => by simpa using h j y hj hy]
theorem B4J (l : List F7) : g5 l = true ↔ ∀ i x, l[i]? = some x → A07 x = true ∧ Q2 l x.1 = (i : Nat) := by
 rw [A28]
 constructor
 ·rintro ⟨h1, h2⟩ i x hx
  exact ⟨h1 x (List.mem_of_getElem? hx), B7V hx fun j y hj hy => C4A h2 hj hy hx⟩
 ·intro h
  refine ⟨fun b hb => ?_, List.pairwise_iff_getElem.2 fun i j hi hj hij e => ?_⟩
  ·obtain ⟨i, hi⟩ := List.getElem?_of_mem hb
   exact (h i b hi).1
  ·have h1 := (h i _ (List.getElem?_eq_getElem hi)).2
   have h2 := (h j _ (List.getElem?_eq_getElem hj)).2
   rw [e, h2] at h1
   omega
theorem C0F (w : World) (v : Value) (l : List F7) (hn : l.length ≤ 1000000) (hv : G1 w v l.length (l.flatMap H0)) :
  Fn PR B8 153 #[v] w (fun r w' => r = .int .i64 (M3 l) ∧ C9 [] w w') := by
 refine Fn.pure (A4C (TW.go (κ := false) (S := []) ?_))
 unfold s9
 obtain ⟨a, c, rfl, hr⟩ := hv.form
 by_cases c0 : 32 < l.length
 ·have c0' : (32 : Int) < l.length := by omega
  (have zz:=trivial;repeat((first|clear zz|with_reducible first|refine A3 ?_|refine A5 fun _=>?_|refine A4 fun _=>?_);try simp(disch:=first|omega|assumption|((repeat(first|exact A1|exact uH|apply A2|apply uT));first|done|fail)|(simp;first|done|omega|fail))[c0, c0']))
  exact B0 (by simp [M3]; omega)
 have c0' : ¬ (32 : Int) < l.length := by omega
 (have zz:=trivial;repeat((first|clear zz|with_reducible first|refine A3 ?_|refine A5 fun _=>?_|refine A4 fun _=>?_);try simp(disch:=first|omega|assumption|((repeat(first|exact A1|exact uH|apply A2|apply uT));first|done|fail)|(simp;first|done|omega|fail))[c0, c0']))
 refine q9 (α := Unit) l.length (fun _ _ => .int .i64 0) (fun _ _ => []) (fun i _ => ∀ j x, j < i → l[j]? = some x → A07 x = true ∧ Q2 l x.1 = (j : Nat)) () (by intro j x hj; omega) ?_
 rintro i _ hi hpre L hL
 by_cases hlt : i < l.length
 ·obtain ⟨b, o, rfl, hrow⟩ := hr (by omega)
  have hx : l[i]? = some l[i] := List.getElem?_eq_getElem hlt
  generalize l[i] = x at hx
  have h1 := hrow.at (f := H0) (k := 2) (fun _ => rfl) hx
  rw [H0] at h1
  have bad : ¬ (A07 x = true ∧ Q2 l x.1 = (i : Nat)) → M3 l = 10 := fun h => by
   have : g5 l = false := by
    rw [← Bool.not_eq_true, B4J]
    exact fun hh => h (hh i x hx)
   simp [M3, this]
  by_cases c1 : x.1 < 1
  ·rw [bad fun h => by have := h.1; simp [A07] at this; omega]
   (have zz:=trivial;repeat((first|clear zz|with_reducible first|refine A3 ?_|refine A5 fun _=>?_|refine A4 fun _=>?_);try simp(disch:=first|omega|assumption|((repeat(first|exact A1|exact uH|apply A2|apply uT));first|done|fail)|(simp;first|done|omega|fail))[hlt, h1, c1]))
   exact B0 rfl
  by_cases c2 : 65535 < x.1
  ·rw [bad fun h => by have := h.1; simp [A07] at this; omega]
   (have zz:=trivial;repeat((first|clear zz|with_reducible first|refine A3 ?_|refine A5 fun _=>?_|refine A4 fun _=>?_);try simp(disch:=first|omega|assumption|((repeat(first|exact A1|exact uH|apply A2|apply uT));first|done|fail)|(simp;first|done|omega|fail))[hlt, h1, c1, c2]))
   exact B0 rfl
  by_cases c3 : x.2 < 1
  ·rw [bad fun h => by have := h.1; simp [A07] at this; omega]
   (have zz:=trivial;repeat((first|clear zz|with_reducible first|refine A3 ?_|refine A5 fun _=>?_|refine A4 fun _=>?_);try simp(disch:=first|omega|assumption|((repeat(first|exact A1|exact uH|apply A2|apply uT));first|done|fail)|(simp;first|done|omega|fail))[hlt, h1, c1, c2, c3]))
   exact B0 rfl
  by_cases c4 : 16 < x.2
  ·rw [bad fun h => by have := h.1; simp [A07] at this; omega]
   (have zz:=trivial;repeat((first|clear zz|with_reducible first|refine A3 ?_|refine A5 fun _=>?_|refine A4 fun _=>?_);try simp(disch:=first|omega|assumption|((repeat(first|exact A1|exact uH|apply A2|apply uT));first|done|fail)|(simp;first|done|omega|fail))[hlt, h1, c1, c2, c3, c4]))
   exact B0 rfl
  (have zz:=trivial;repeat((first|clear zz|with_reducible first|refine A3 ?_|refine A5 fun _=>?_|refine A4 fun _=>?_);try simp(disch:=first|omega|assumption|((repeat(first|exact A1|exact uH|apply A2|apply uT));first|done|fail)|(simp;first|done|omega|fail))[hlt, h1, c1, c2, c3, c4]))
  refine C4 A4F (fun w' hw' => C0E w' _ l _ hn (hv.ks hw'.ks (by simp))) ?_
  by_cases c5 : Q2 l x.1 = (i : Nat)
  case neg =>
   rw [bad fun h => c5 h.2]
   (have zz:=trivial;repeat((first|clear zz|with_reducible first|refine A3 ?_|refine A5 fun _=>?_|refine A4 fun _=>?_);try simp(disch:=first|omega|assumption|((repeat(first|exact A1|exact uH|apply A2|apply uT));first|done|fail)|(simp;first|done|omega|fail))[c5]))
   exact B0 rfl
  ·(have zz:=trivial;repeat((first|clear zz|with_reducible first|refine A3 ?_|refine A5 fun _=>?_|refine A4 fun _=>?_);try simp(disch:=first|omega|assumption|((repeat(first|exact A1|exact uH|apply A2|apply uT));first|done|fail)|(simp;first|done|omega|fail))[c5]))
   refine Sels.tw .nil (hL hlt () ?_)
   intro j y hj hy
   by_cases hji : j = i
   ·subst hji
    rw [hx] at hy
    cases hy
    exact ⟨by simp [A07]; omega, c5⟩
   ·exact hpre j y (by omega) hy
 ·obtain rfl : i = l.length := by omega
  have hok : g5 l = true := (B4J l).2 fun j x hx => hpre j x (List.getElem?_eq_some_iff.1 hx).1 hx
  have hv : M3 l = 0 := by simp [M3, hok]; omega
  rw [hv]
  (have zz:=trivial;repeat((first|clear zz|with_reducible first|refine A3 ?_|refine A5 fun _=>?_|refine A4 fun _=>?_);try simp(disch:=first|omega|assumption|((repeat(first|exact A1|exact uH|apply A2|apply uT));first|done|fail)|(simp;first|done|omega|fail))[]))
  exact B0 rfl
end Go.Proofs.YtjobgnabneddjaaGreat
namespace Go.Proofs.YtjobgnabneddjaaGreat
open Go
end Go.Proofs.YtjobgnabneddjaaGreat
namespace Go.Proofs.YtjobgnabneddjaaGreat
open Go
theorem P7.slice {κ : Bool} {S : List Nat} {w0 : World} {H : List Res} {v : Value} {n : Nat} {xs : List Value} {K0 : WP} (h : P7 κ S w0 H v n xs) (hK : ∀ a c, v = .slice a n c → TW κ S w0 H K0) : TW κ S w0 H K0 := fun w hw => by
 obtain ⟨a, c, e, _⟩ := (h w hw).form
 exact hK a c e w hw
end Go.Proofs.YtjobgnabneddjaaGreat
namespace Go.Proofs.YtjobgnabneddjaaGreat
open Go
structure RdN (bad : List Nat) (w : World) (v : Value) (n : Nat) (xs : List Value) : Prop where
 rd : G1 w v n xs
 off : 0 < n → ∀ g ∈ J8 v, g ∉ bad
 nil : n = 0 → xs = []
theorem RdN.ks {κ : Bool} {S bad : List Nat} {w w' : World} {v : Value} {n : Nat} {xs : List Value} (h : RdN bad w v n xs) (hk : KS κ S w w') (hs : ∀ s ∈ S, s ∈ bad) : RdN bad w' v n xs :=
 ⟨h.rd.ks0 h.nil hk fun h0 g hg hgS => h.off h0 g hg (hs g hgS), h.off, h.nil⟩
theorem RdN.sub {bad bad' : List Nat} {w : World} {v : Value} {n : Nat} {xs : List Value} (h : RdN bad w v n xs) (hs : ∀ s ∈ bad', s ∈ bad) : RdN bad' w v n xs := ⟨h.rd, fun h0 g hg hb => h.off h0 g hg (hs g hb), h.nil⟩
theorem RdN.open {bad : List Nat} {w : World} {v : Value} {n : Nat} {xs : List Value} (h : RdN bad w v n xs) : ∃ a c, v = .slice a n c ∧ (0 < n → ∃ b o, a = some ⟨b, o, none⟩ ∧ L9 w b o xs ∧ b ∉ bad) := by
 obtain ⟨a, c, e, hr⟩ := h.rd.form
 refine ⟨a, c, e, fun h0 => ?_⟩
 obtain ⟨b, o, ea, hrow⟩ := hr h0
 refine ⟨b, o, ea, hrow, h.off h0 b ?_⟩
 rw [e, ea]; simp [J8]
end Go.Proofs.YtjobgnabneddjaaGreat
namespace Go.Proofs.YtjobgnabneddjaaGreat
open Go
section
variable {κ : Bool} {S : List Nat} {w0 w : World} {H Hk : List Res} {K : Value → WP}
theorem Part.skip {x : Res} {Hc : List Res} (h : Part Hc H Hk) : Part Hc (x :: H) (x :: Hk) := by
 induction h with
 | nil => exact Part.nil
 | cons h1 _ ih => exact Part.cons (Sel.there h1) ih
theorem Inv.tabs {c : CfgV} {m : MoH} (hi : Inv c m.st) : ∀ t ∈ m.ts, TabOk c.cp.toNat t.1.2 := fun t ht => hi.tab (t.1.2, t.2) (List.mem_map.2 ⟨t, ht, rfl⟩)
end
end Go.Proofs.YtjobgnabneddjaaGreat
namespace Go.Proofs.YtjobgnabneddjaaGreat
open Go
structure RmH where
 pv : Value
 tv : Value
 lv : Value
 c : CfgV
 pool : List F7
 ts : List (Value × List EnV)
 pl : List Nat
def RmH.cs (r : RmH) : Array Value := #[.int .i64 r.c.wk, .int .i64 r.c.sh, .int .i64 r.c.cp, .int .i64 r.c.idle, .int .i64 r.c.sl, r.pv, r.tv, r.lv]
def B8c (l : List Nat) : List Value := l.map fun n : Nat => .int .i64 (n : Int)
end Go.Proofs.YtjobgnabneddjaaGreat
namespace Go.Proofs.YtjobgnabneddjaaGreat
open Go
def RmH.val (r : RmH) : Value := .agg r.cs
def RmH.st (r : RmH) : MoS := ⟨r.c, r.pool, (r.ts.map (·.2)).zip r.pl⟩
section
variable (w : World) (r : RmH) (o : OpV) (v : Value) (now : Int)
end
end Go.Proofs.YtjobgnabneddjaaGreat
namespace Go.Proofs.YtjobgnabneddjaaGreat
open Go
theorem B8A (n : Nat) : (Builtin.zeroCells (Value.int .i64 0).cells n).toList = B8c (List.replicate n 0) := by
 have hz : (Builtin.zeroCells (Value.int .i64 0).cells n).toList.length = n := by simp [size_zeroCells]
 apply List.ext_getElem (by rw [hz]; simp [B8c])
 intro i h1 h2
 simp [Builtin.zeroCells, B8c, Nat.mod_one]
end Go.Proofs.YtjobgnabneddjaaGreat
namespace Go.Proofs.YtjobgnabneddjaaGreat
open Go
def A9c (X : Nat → Prop) (t0 : Value) (R : Value → WP) : WP :=
 B2 PR X (Instr.box 23 t0) fun t1 =>
 jn (n := 2) (fun t2 t3 =>
 A6 PR (Instr.loadAt 23 t1) fun t10 =>
 A0 PR (Instr.makeFunc (.func 67) #[] #[t1]) fun t11 =>
 A0 PR (Instr.makeFunc (.func 69) #[] #[t1]) fun t12 =>
 A0 PR (Instr.makeFunc (.func 72) #[] #[t1]) fun t13 =>
 B2 PR X (Instr.buildSlice 228 3 #[(0, t11), (1, t12), (2, t13)]) fun t14 =>
 B4 PR X 66 [t10, t14] fun t15 =>
 R (.tuple #[t15, (.int .i64 0)])) fun J1 =>
 A6 PR (Instr.loadAt 23 t1) fun t5 =>
 B4 PR X 65 [t5] fun t6 =>
 A0 PR (binOp .neq 27 t6 (.int .i64 0)) fun t8 =>
 C3 t8 (
 R (.tuple #[(.pointer none), t6])) (
 J1 (.pointer none) (.int .i64 0))
theorem A7j : A9 PR 16 := A7 Tryz.func16 (by kernel_rfl) rfl
theorem B6F {X : Nat → Prop} {t0 : Value} {R : Value → WP} {w : World} (h : A9c X t0 R w) : Fn PR X 16 #[t0] w R := C6 (args := [t0]) mixed Tryz.func16 (by kernel_rfl) h
def A0H (X : Nat → Prop) (t0 : Value) (R : Value → WP) : WP :=
 jn (n := 2) (fun t3 t10 =>
 R t3) fun J1 =>
 A0 PR (B5 t0) fun t6 =>
 A0 PR (Instr.fieldAt 39 t6 4) fun t7 =>
 A6 PR (Instr.loadAt 36 t7) fun t8 =>
 A0 PR (A8 .len #[36] 0 [t8]) fun t9 =>
 lp (n := 2) (fun L2 t3_1 t10_1 =>
 A0 PR (binOp .lss 3 t10_1 t9) fun t11 =>
 jn (n := 0) (
 jn (n := 1) (fun t3_2 =>
 A0 PR (binOp .add 3 t10_1 (.int .i64 1)) fun t22 =>
 L2 t3_2 t22) fun J3 =>
 A0 PR (B5 t0) fun t15 =>
 A0 PR (Instr.fieldAt 39 t15 1) fun t16 =>
 A6 PR (Instr.loadAt 33 t16) fun t17 =>
 B4 PR X 37 [t17, t10_1] fun t19 =>
 B2 PR X (Instr.buildSlice 37 1 #[(0, t19)]) fun t20 =>
 B2 PR X (A8 .append #[37, 37] 37 [t3_1, t20]) fun t21 =>
 J3 t21) fun J4 =>
 C3 t11 (
 J4) (
 J1 t3_1 t10_1)) (.slice none 0 0) (.int .i64 0)
theorem c7 : A9 PR 56 := A7 Tryz.func56 (by kernel_rfl) rfl
theorem A5p {X : Nat → Prop} {t0 : Value} {R : Value → WP} {w : World} (h : A0H X t0 R w) : Fn PR X 56 #[t0] w R := C6 (args := [t0]) mixed Tryz.func56 (by kernel_rfl) h
def A2B (X : Nat → Prop) (t0 t1 : Value) (R : Value → WP) : WP :=
 jn (n := 1) (fun t4 =>
 A0 PR (binOp .add 3 (.int .i64 2) t1) fun t17 =>
 A0 PR (binOp .sub 3 t17 (.int .i64 1)) fun t18 =>
 R t18) fun J1 =>
 A0 PR (binOp .lss 3 t1 (.int .i64 1)) fun t6 =>
 gj t6 false (fun J => J t1) fun t8 =>
 gj t6 false (fun J => J t0) fun t9 =>
 gj t6 false (fun J => A0 PR (B5 t9) J) fun t10 =>
 gj t6 false (fun J => A0 PR (Instr.fieldAt 39 t10 0) J) fun t11 =>
 gj t6 false (fun J => A0 PR (Instr.fieldAt 23 t11 0) J) fun t12 =>
 gj t6 false (fun J => A6 PR (Instr.loadAt 3 t12) J) fun t13 =>
 gj t6 false (fun J => A0 PR (binOp .gtr 3 t8 t13) J) fun t14 =>
 A0 PR (do pure (if ← asBool t6 then (.bool true) else t14)) fun t15 =>
 C3 t15 (
 R (.int .i64 (-1))) (
 J1 (.int .i64 0))
theorem G0 : A9 PR 57 := A7 Tryz.func57 (by kernel_rfl) rfl
theorem A9T {X : Nat → Prop} {t0 t1 : Value} {R : Value → WP} {w : World} (h : A2B X t0 t1 R w) : Fn PR X 57 #[t0, t1] w R := C6 (args := [t0, t1]) mixed Tryz.func57 (by kernel_rfl) h
def A7x (X : Nat → Prop) (t0 t1 : Value) (R : Value → WP) : WP :=
 B2 PR X (Instr.box 23 t0) fun t2 =>
 A6 PR (Instr.loadAt 23 t2) fun t8 =>
 A0 PR (Instr.build 39 #[(0, t8)]) fun t9 =>
 B2 PR X (Instr.box 39 t9) fun t10 =>
 jn (n := 1) (fun t13 =>
 R t10) fun J1 =>
 A0 PR (A8 .len #[228] 0 [t1]) fun t12 =>
 lp (n := 1) (fun L2 t13_1 =>
 A0 PR (binOp .lss 3 t13_1 t12) fun t14 =>
 jn (n := 0) (
 jn (n := 0) (
 A0 PR (binOp .add 3 t13_1 (.int .i64 1)) fun t20 =>
 L2 t20) fun J3 =>
 A0 PR (Instr.indexAt 228 t1 t13_1) fun t15 =>
 A6 PR (Instr.loadAt 124 t15) fun t16 =>
 K4 PR X t16 [t10] fun t19 =>
 J3) fun J4 =>
 C3 t14 (
 J4) (
 J1 t13_1)) (.int .i64 0)
theorem B3F : A9 PR 66 := A7 Tryz.func66 (by kernel_rfl) rfl
theorem B4u {X : Nat → Prop} {t0 t1 : Value} {R : Value → WP} {w : World} (h : A7x X t0 t1 R w) : Fn PR X 66 #[t0, t1] w R := C6 (args := [t0, t1]) mixed Tryz.func66 (by kernel_rfl) h
def A4q (X : Nat → Prop) (t0 t1 : Value) (R : Value → WP) : WP :=
 A0 PR (Instr.fieldAt 23 t1 0) fun t4 =>
 A6 PR (Instr.loadAt 3 t4) fun t5 =>
 A0 PR (binOp .add 3 (.int .i64 2) t5) fun t6 =>
 A0 PR (Instr.fieldAt 23 t1 1) fun t7 =>
 A6 PR (Instr.loadAt 3 t7) fun t8 =>
 B4 PR X 68 [t6, t8] fun t9 =>
 A0 PR (B5 t0) fun t10 =>
 A0 PR (Instr.fieldAt 39 t10 1) fun t11 =>
 C1 PR X (Instr.storeAt 33 t11 t9) <|
 R (.tuple #[])
theorem B1H : A9 PR 67 := A7 Tryz.func67 (by kernel_rfl) rfl
theorem B2T {X : Nat → Prop} {t0 t1 : Value} {R : Value → WP} {w : World} (h : A4q X t0 t1 R w) : Fn PR X 67 #[t0, t1] w R := C6 (args := [t0, t1]) mixed Tryz.func67 (by kernel_rfl) h
def A4m (X : Nat → Prop) (t0 t1 : Value) (R : Value → WP) : WP :=
 drw <|
 A0 PR (Instr.fieldAt 23 t1 4) fun t5 =>
 A6 PR (Instr.loadAt 3 t5) fun t6 =>
 A0 PR (Instr.fieldAt 23 t1 4) fun t8 =>
 A6 PR (Instr.loadAt 3 t8) fun t9 =>
 B4 PR X 70 [t6] fun t7 =>
 watch PR [(none, (Instr.loadAt 3 t8), t9)] <|
 B4 PR X 71 [t9] fun t10 =>
 A0 PR (B5 t0) fun t11 =>
 A0 PR (Instr.fieldAt 39 t11 2) fun t12 =>
 C1 PR X (Instr.storeAt 34 t12 t7) <|
 A0 PR (B5 t0) fun t13 =>
 A0 PR (Instr.fieldAt 39 t13 3) fun t14 =>
 C1 PR X (Instr.storeAt 35 t14 t10) <|
 R (.tuple #[])
theorem B1C : A9 PR 69 := A7 Tryz.func69 (by kernel_rfl) rfl
theorem B2Z {X : Nat → Prop} {t0 t1 : Value} {R : Value → WP} {w : World} (h : A4m X t0 t1 R w) : Fn PR X 69 #[t0, t1] w R := C6 (args := [t0, t1]) mixed Tryz.func69 (by kernel_rfl) h
def A4n (X : Nat → Prop) (t0 t1 : Value) (R : Value → WP) : WP :=
 A0 PR (Instr.fieldAt 23 t1 1) fun t3 =>
 A6 PR (Instr.loadAt 3 t3) fun t4 =>
 lp (n := 1) (fun L1 t5 =>
 A0 PR (binOp .lss 3 t5 t4) fun t6 =>
 jn (n := 0) (
 jn (n := 0) (
 A0 PR (binOp .add 3 t5 (.int .i64 1)) fun t28 =>
 L1 t28) fun J2 =>
 drw <|
 A0 PR (B5 t0) fun t9 =>
 A0 PR (Instr.fieldAt 39 t9 4) fun t10 =>
 A6 PR (Instr.loadAt 36 t10) fun t11 =>
 A0 PR (Instr.fieldAt 23 t1 2) fun t12 =>
 A6 PR (Instr.loadAt 3 t12) fun t13 =>
 B4 PR X 73 [t13] fun t14 =>
 watch PR [(none, (Instr.loadAt 36 t10), t11)] <|
 B2 PR X (Instr.buildSlice 36 1 #[(0, t14)]) fun t15 =>
 watch PR [(none, (Instr.loadAt 36 t10), t11)] <|
 B2 PR X (A8 .append #[36, 36] 36 [t11, t15]) fun t16 =>
 A0 PR (B5 t0) fun t17 =>
 A0 PR (Instr.fieldAt 39 t17 4) fun t18 =>
 C1 PR X (Instr.storeAt 36 t18 t16) <|
 A0 PR (B5 t0) fun t21 =>
 A0 PR (Instr.fieldAt 39 t21 5) fun t22 =>
 A6 PR (Instr.loadAt 37 t22) fun t23 =>
 B2 PR X (Instr.buildSlice 37 1 #[(0, (.int .i64 0))]) fun t24 =>
 B2 PR X (A8 .append #[37, 37] 37 [t23, t24]) fun t25 =>
 A0 PR (B5 t0) fun t26 =>
 A0 PR (Instr.fieldAt 39 t26 5) fun t27 =>
 C1 PR X (Instr.storeAt 37 t27 t25) <|
 J2) fun J3 =>
 C3 t6 (
 J3) (
 R (.tuple #[]))) (.int .i64 0)
theorem B01 : A9 PR 72 := A7 Tryz.func72 (by kernel_rfl) rfl
theorem B1v {X : Nat → Prop} {t0 t1 : Value} {R : Value → WP} {w : World} (h : A4n X t0 t1 R w) : Fn PR X 72 #[t0, t1] w R := C6 (args := [t0, t1]) mixed Tryz.func72 (by kernel_rfl) h
def A1K (X : Nat → Prop) (t0 t1 : Value) (R : Value → WP) : WP :=
 A0 PR (binOp .geq 3 t1 (.int .i64 0)) fun t5 =>
 gj t5 true (fun J => J t1) fun t7 =>
 gj t5 true (fun J => A0 PR (binOp .leq 3 t7 (.int .i64 1000000)) J) fun t8 =>
 A0 PR (do pure (if ← asBool t5 then t8 else (.bool false))) fun t9 =>
 gj t9 true (fun J => J t0) fun t11 =>
 gj t9 true (fun J => A0 PR (B5 t11) J) fun t12 =>
 gj t9 true (fun J => A0 PR (Instr.fieldAt 39 t12 6) J) fun t13 =>
 gj t9 true (fun J => A6 PR (Instr.loadAt 3 t13) J) fun t14 =>
 gj t9 true (fun J => J t1) fun t15 =>
 gj t9 true (fun J => A0 PR (binOp .sub 3 (.int .i64 1000000000) t15) J) fun t16 =>
 gj t9 true (fun J => A0 PR (binOp .leq 3 t14 t16) J) fun t17 =>
 A0 PR (do pure (if ← asBool t9 then t17 else (.bool false))) fun t18 =>
 C3 t18 (
 A0 PR (B5 t0) fun t20 =>
 A0 PR (Instr.fieldAt 39 t20 6) fun t21 =>
 A6 PR (Instr.loadAt 3 t21) fun t22 =>
 A0 PR (binOp .add 3 t22 t1) fun t24 =>
 A0 PR (B5 t0) fun t25 =>
 A0 PR (Instr.fieldAt 39 t25 6) fun t26 =>
 C1 PR X (Instr.storeAt 3 t26 t24) <|
 R (.tuple #[])) (
 R (.tuple #[]))
theorem A6f : A9 PR 100 := A7 Tryz.func100 (by kernel_rfl) rfl
theorem A76 {X : Nat → Prop} {t0 t1 : Value} {R : Value → WP} {w : World} (h : A1K X t0 t1 R w) : Fn PR X 100 #[t0, t1] w R := C6 (args := [t0, t1]) mixed Tryz.func100 (by kernel_rfl) h
end Go.Proofs.YtjobgnabneddjaaGreat
namespace Go.Proofs.YtjobgnabneddjaaGreat
open Go
def A1H (X : Nat → Prop) (t0 t1 t2 : Value) (R : Value → WP) : WP :=
 A0 PR (B5 t0) fun t10 =>
 A0 PR (Instr.fieldAt 141 t10 2) fun t11 =>
 A6 PR (Instr.loadAt 37 t11) fun t12 =>
 B4 PR X 74 [t0, t12, t1] fun t14 =>
 A0 PR (binOp .geq 3 t2 (.int .i64 0)) fun t16 =>
 gj t16 true (fun J => J t14) fun t18 =>
 gj t16 true (fun J => J t2) fun t19 =>
 gj t16 true (fun J => B4 PR X 75 [t18, (.int .i64 (-1)), t19] J) fun t20 =>
 A0 PR (do pure (if ← asBool t16 then t20 else (.bool false))) fun t21 =>
 R t21
theorem A0v : A9 PR 19 := A7 Tryz.func19 (by kernel_rfl) rfl
theorem A8Z {X : Nat → Prop} {t0 t1 t2 : Value} {R : Value → WP} {w : World} (h : A1H X t0 t1 t2 R w) : Fn PR X 19 #[t0, t1, t2] w R := C6 (args := [t0, t1, t2]) mixed Tryz.func19 (by kernel_rfl) h
def A0d (X : Nat → Prop) (t0 t1 t2 : Value) (R : Value → WP) : WP :=
 A0 PR (B5 t0) fun t10 =>
 A0 PR (Instr.fieldAt 141 t10 2) fun t11 =>
 A6 PR (Instr.loadAt 37 t11) fun t12 =>
 B4 PR X 74 [t0, t12, t1] fun t14 =>
 A0 PR (binOp .geq 3 t2 (.int .i64 0)) fun t16 =>
 gj t16 true (fun J => J t14) fun t18 =>
 gj t16 true (fun J => J t2) fun t19 =>
 gj t16 true (fun J => B4 PR X 75 [t18, t19, (.int .i64 (-1))] J) fun t20 =>
 A0 PR (do pure (if ← asBool t16 then t20 else (.bool false))) fun t21 =>
 R t21
theorem x7 : A9 PR 25 := A7 Tryz.func25 (by kernel_rfl) rfl
theorem A5q {X : Nat → Prop} {t0 t1 t2 : Value} {R : Value → WP} {w : World} (h : A0d X t0 t1 t2 R w) : Fn PR X 25 #[t0, t1, t2] w R := C6 (args := [t0, t1, t2]) mixed Tryz.func25 (by kernel_rfl) h
def A00 (X : Nat → Prop) (t0 t1 t2 : Value) (R : Value → WP) : WP :=
 A0 PR (B5 t0) fun t9 =>
 A0 PR (Instr.fieldAt 141 t9 1) fun t10 =>
 A6 PR (Instr.loadAt 37 t10) fun t11 =>
 B4 PR X 74 [t0, t11, t1] fun t13 =>
 A6 PR (G9 .neq 131 (.tmp 14) (.const (.pointer none)) t13 (.pointer none)) fun t15 =>
 C3 t15 (
 A0 PR (B5 t13) fun t18 =>
 C1 PR X (Instr.storeAt 3 t18 t2) <|
 R (.tuple #[])) (
 R (.tuple #[]))
theorem j0 : A9 PR 31 := A7 Tryz.func31 (by kernel_rfl) rfl
theorem A7C {X : Nat → Prop} {t0 t1 t2 : Value} {R : Value → WP} {w : World} (h : A00 X t0 t1 t2 R w) : Fn PR X 31 #[t0, t1, t2] w R := C6 (args := [t0, t1, t2]) mixed Tryz.func31 (by kernel_rfl) h
def A1Y (X : Nat → Prop) (t0 t1 : Value) (R : Value → WP) : WP :=
 jn (n := 1) (fun t4 =>
 R (.int .i64 0)) fun J1 =>
 A0 PR (B5 t0) fun t8 =>
 A0 PR (Instr.fieldAt 141 t8 1) fun t9 =>
 A6 PR (Instr.loadAt 37 t9) fun t10 =>
 B4 PR X 74 [t0, t10, t1] fun t12 =>
 A6 PR (G9 .neq 131 (.tmp 13) (.const (.pointer none)) t12 (.pointer none)) fun t14 =>
 C3 t14 (
 A0 PR (B5 t12) fun t16 =>
 A6 PR (Instr.loadAt 3 t16) fun t17 =>
 R t17) (
 J1 (.int .i64 0))
theorem P8 : A9 PR 35 := A7 Tryz.func35 (by kernel_rfl) rfl
theorem A8H {X : Nat → Prop} {t0 t1 : Value} {R : Value → WP} {w : World} (h : A1Y X t0 t1 R w) : Fn PR X 35 #[t0, t1] w R := C6 (args := [t0, t1]) mixed Tryz.func35 (by kernel_rfl) h
def A0k (X : Nat → Prop) (t0 t1 : Value) (R : Value → WP) : WP :=
 jn (n := 1) (fun t4 =>
 A0 PR (B5 t0) fun t17 =>
 A0 PR (Instr.fieldAt 141 t17 2) fun t18 =>
 A6 PR (Instr.loadAt 37 t18) fun t19 =>
 A0 PR (Instr.indexAt 37 t19 t1) fun t21 =>
 A6 PR (Instr.loadAt 3 t21) fun t22 =>
 R t22) fun J1 =>
 A0 PR (binOp .lss 3 t1 (.int .i64 0)) fun t6 =>
 gj t6 false (fun J => J t1) fun t8 =>
 gj t6 false (fun J => J t0) fun t9 =>
 gj t6 false (fun J => A0 PR (B5 t9) J) fun t10 =>
 gj t6 false (fun J => A0 PR (Instr.fieldAt 141 t10 2) J) fun t11 =>
 gj t6 false (fun J => A6 PR (Instr.loadAt 37 t11) J) fun t12 =>
 gj t6 false (fun J => A0 PR (A8 .len #[37] 0 [t12]) J) fun t13 =>
 gj t6 false (fun J => A0 PR (binOp .geq 3 t8 t13) J) fun t14 =>
 A0 PR (do pure (if ← asBool t6 then (.bool true) else t14)) fun t15 =>
 C3 t15 (
 R (.int .i64 (-1))) (
 J1 (.int .i64 0))
theorem g6 : A9 PR 37 := A7 Tryz.func37 (by kernel_rfl) rfl
theorem A6p {X : Nat → Prop} {t0 t1 : Value} {R : Value → WP} {w : World} (h : A0k X t0 t1 R w) : Fn PR X 37 #[t0, t1] w R := C6 (args := [t0, t1]) mixed Tryz.func37 (by kernel_rfl) h
def A9p (X : Nat → Prop) (t0 t1 : Value) (R : Value → WP) : WP :=
 drw <|
 kt (n := 1) (fun t5 =>
 jn (n := 1) (fun t20 =>
 R t5) fun J1 =>
 A0 PR (B5 t5) fun t16 =>
 A0 PR (Instr.fieldAt 141 t16 2) fun t17 =>
 A6 PR (Instr.loadAt 37 t17) fun t18 =>
 A0 PR (A8 .len #[37] 0 [t18]) fun t19 =>
 lp (n := 1) (fun L2 t20_1 =>
 A0 PR (binOp .lss 3 t20_1 t19) fun t21 =>
 jn (n := 0) (
 jn (n := 0) (
 A0 PR (binOp .add 3 t20_1 (.int .i64 1)) fun t29 =>
 L2 t29) fun J3 =>
 A0 PR (B5 t5) fun t24 =>
 A0 PR (Instr.fieldAt 141 t24 2) fun t25 =>
 A6 PR (Instr.loadAt 37 t25) fun t26 =>
 A0 PR (Instr.indexAt 37 t26 t20_1) fun t28 =>
 C1 PR X (Instr.storeAt 3 t28 (.int .i64 (-1))) <|
 J3) fun J4 =>
 C3 t21 (
 J4) (
 J1 t20_1)) (.int .i64 0)) fun C5 =>
 B4 PR X 128 [t0] fun t8_1 =>
 both (B2 PR X (Instr.makeSlice 37 t8_1 t8_1) fun t9_3 =>
 B4 PR X 128 [t1] fun t11_2 =>
 B2 PR X (Instr.makeSlice 37 t11_2 t11_2) fun t12_3 =>
 A0 PR (Instr.build 141 #[(1, t9_3), (2, t12_3)]) fun t13_3 =>
 B2 PR X (Instr.box 141 t13_3) fun t14_3 =>
 C5 t14_3) (both (B4 PR X 128 [t1] fun t11_1 =>
 both (B2 PR X (Instr.makeSlice 37 t8_1 t8_1) fun t9_2 =>
 B2 PR X (Instr.makeSlice 37 t11_1 t11_1) fun t12_2 =>
 A0 PR (Instr.build 141 #[(1, t9_2), (2, t12_2)]) fun t13_2 =>
 B2 PR X (Instr.box 141 t13_2) fun t14_2 =>
 C5 t14_2) (both (B2 PR X (Instr.makeSlice 37 t11_1 t11_1) fun t12_1 =>
 B2 PR X (Instr.makeSlice 37 t8_1 t8_1) fun t9_1 =>
 A0 PR (Instr.build 141 #[(1, t9_1), (2, t12_1)]) fun t13_1 =>
 B2 PR X (Instr.box 141 t13_1) fun t14_1 =>
 C5 t14_1) ((fun _ => True)))) ((fun _ => True)))
theorem B4s : A9 PR 68 := A7 Tryz.func68 (by kernel_rfl) rfl
theorem B6j {X : Nat → Prop} {t0 t1 : Value} {R : Value → WP} {w : World} (h : A9p X t0 t1 R w) : Fn PR X 68 #[t0, t1] w R := C6 (args := [t0, t1]) mixed Tryz.func68 (by kernel_rfl) h
def A1P (X : Nat → Prop) (t0 t1 t2 : Value) (R : Value → WP) : WP :=
 jn (n := 1) (fun t6 =>
 A0 PR (B5 t0) fun t16 =>
 A0 PR (Instr.fieldAt 141 t16 0) fun t17 =>
 B4 PR X 129 [t17] fun t18 =>
 A0 PR (Instr.indexAt 37 t1 t2) fun t21 =>
 R t21) fun J1 =>
 A0 PR (binOp .lss 3 t2 (.int .i64 0)) fun t8 =>
 gj t8 false (fun J => J t2) fun t10 =>
 gj t8 false (fun J => J t1) fun t11 =>
 gj t8 false (fun J => A0 PR (A8 .len #[37] 0 [t11]) J) fun t12 =>
 gj t8 false (fun J => A0 PR (binOp .geq 3 t10 t12) J) fun t13 =>
 A0 PR (do pure (if ← asBool t8 then (.bool true) else t13)) fun t14 =>
 C3 t14 (
 R (.pointer none)) (
 J1 (.pointer none))
theorem P9 : A9 PR 74 := A7 Tryz.func74 (by kernel_rfl) rfl
theorem A8E {X : Nat → Prop} {t0 t1 t2 : Value} {R : Value → WP} {w : World} (h : A1P X t0 t1 t2 R w) : Fn PR X 74 #[t0, t1, t2] w R := C6 (args := [t0, t1, t2]) mixed Tryz.func74 (by kernel_rfl) h
def A7s (X : Nat → Prop) (t0 t1 t2 : Value) (R : Value → WP) : WP :=
 jn (n := 1) (fun t6 =>
 A0 PR (B5 t0) fun t18 =>
 C1 PR X (Instr.storeAt 3 t18 t2) <|
 R (.bool true)) fun J1 =>
 A6 PR (G9 .eql 131 (.tmp 7) (.const (.pointer none)) t0 (.pointer none)) fun t8 =>
 gj t8 false (fun J => J t0) fun t10 =>
 gj t8 false (fun J => A0 PR (B5 t10) J) fun t11 =>
 gj t8 false (fun J => A6 PR (Instr.loadAt 3 t11) J) fun t12 =>
 gj t8 false (fun J => J t1) fun t13 =>
 gj t8 false (fun J => A0 PR (binOp .neq 3 t12 t13) J) fun t14 =>
 A0 PR (do pure (if ← asBool t8 then (.bool true) else t14)) fun t15 =>
 C3 t15 (
 R (.bool false)) (
 J1 (.bool false))
theorem A6U : A9 PR 75 := A7 Tryz.func75 (by kernel_rfl) rfl
theorem B46 {X : Nat → Prop} {t0 t1 t2 : Value} {R : Value → WP} {w : World} (h : A7s X t0 t1 t2 R w) : Fn PR X 75 #[t0, t1, t2] w R := C6 (args := [t0, t1, t2]) mixed Tryz.func75 (by kernel_rfl) h
def A2S (X : Nat → Prop) (t0 t1 t2 : Value) (R : Value → WP) : WP :=
 A0 PR (B5 t0) fun t10 =>
 A0 PR (Instr.fieldAt 141 t10 1) fun t11 =>
 A6 PR (Instr.loadAt 37 t11) fun t12 =>
 B4 PR X 74 [t0, t12, t1] fun t14 =>
 jn (n := 1) (fun t6 =>
 A0 PR (B5 t14) fun t18 =>
 A6 PR (Instr.loadAt 3 t18) fun t19 =>
 A0 PR (binOp .add 3 t19 t2) fun t21 =>
 A0 PR (B5 t14) fun t22 =>
 C1 PR X (Instr.storeAt 3 t22 t21) <|
 A0 PR (B5 t14) fun t24 =>
 A6 PR (Instr.loadAt 3 t24) fun t25 =>
 R t25) fun J1 =>
 A6 PR (G9 .eql 131 (.tmp 15) (.const (.pointer none)) t14 (.pointer none)) fun t16 =>
 C3 t16 (
 R (.int .i64 0)) (
 J1 (.int .i64 0))
theorem A79 : A9 PR 93 := A7 Tryz.func93 (by kernel_rfl) rfl
theorem A9g {X : Nat → Prop} {t0 t1 t2 : Value} {R : Value → WP} {w : World} (h : A2S X t0 t1 t2 R w) : Fn PR X 93 #[t0, t1, t2] w R := C6 (args := [t0, t1, t2]) mixed Tryz.func93 (by kernel_rfl) h
def A4g (X : Nat → Prop) (t0 : Value) (R : Value → WP) : WP :=
 A0 PR (A8 .max #[3, 3] 0 [t0, (.int .i64 0)]) fun t4 =>
 A0 PR (A8 .min #[3, 3] 0 [t4, (.int .i64 1024)]) fun t5 =>
 R t5
theorem A0E : A9 PR 128 := A7 Tryz.func128 (by kernel_rfl) rfl
theorem B20 {X : Nat → Prop} {t0 : Value} {R : Value → WP} {w : World} (h : A4g X t0 R w) : Fn PR X 128 #[t0] w R := C6 (args := [t0]) mixed Tryz.func128 (by kernel_rfl) h
def w8 (X : Nat → Prop) (t0 : Value) (R : Value → WP) : WP :=
 A0 PR (B5 t0) fun t3 =>
 A0 PR (Instr.fieldAt 139 t3 0) fun t4 =>
 B4 PR X 178 [t4, (.int .i64 1)] fun t5 =>
 R (.tuple #[])
theorem A4M : A9 PR 129 := A7 Tryz.func129 (by kernel_rfl) rfl
theorem A5G {X : Nat → Prop} {t0 : Value} {R : Value → WP} {w : World} (h : w8 X t0 R w) : Fn PR X 129 #[t0] w R := C6 (args := [t0]) mixed Tryz.func129 (by kernel_rfl) h
end Go.Proofs.YtjobgnabneddjaaGreat
