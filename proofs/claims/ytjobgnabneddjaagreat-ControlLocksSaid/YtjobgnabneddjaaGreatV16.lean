/- The proof of a given statement, a part of it (Ord Sort ShModel Model Model2 Slo Slo2 Wor Wor2 Wor3 Con Con2 Con3 Con4 Con5 Upd Upd2 RunG LockL LockM Con6 Con7 Job LockK ShL20ControlBusy UpdR RunU BusL Works20 BusyW LocksW LocksO). No condition but what each lemma says. -/
import Derived.Sort.Grow
import Derived.Deep.Draws
import Derived.Test.YtjobgnabneddjaaGreatV15
set_option linter.unusedVariables false
set_option linter.unusedSimpArgs false
namespace Go.Proofs.YtjobgnabneddjaaGreat
open Go
theorem A8W (w : World) (a : Int) : Fn PR B8 252 #[.int .i64 a] w (fun v w' => v = .bool false ∧ w' = w) := by
 refine A6C ?_
 unfold A1Z
 simp
theorem A8V (w : World) (a : Int) : Fn PR B8 251 #[.int .u64 a] w (fun v w' => v = .bool false ∧ w' = w) := by
 refine A4S ?_
 unfold y7
 simp
def Y1 (a b : Int) : Int := if a < b then -1 else if b < a then 1 else 0
theorem B45 (w : World) (a b : Int) : Fn PR B8 218 #[.int .i64 a, .int .i64 b] w (fun v w' => v = .int .i64 (Y1 a b) ∧ w' = w) := by
 refine A4k ?_
 unfold A0d
 refine A1s ((A8W w a).use ?_)
 rintro _ _ ⟨rfl, rfl⟩ _
 refine A1s ((A8W _ b).use ?_)
 rintro _ _ ⟨rfl, rfl⟩ _
 by_cases c1 : a < b
 ·simp [c1, Y1]
 by_cases c2 : b < a
 ·simp [c1, c2, Y1]
 ·simp [c1, c2, Y1]
theorem B4q (w : World) (a b : Int) : Fn PR B8 217 #[.int .u64 a, .int .u64 b] w (fun v w' => v = .int .i64 (Y1 a b) ∧ w' = w) := by
 refine A3G ?_
 unfold q5
 refine A0c ((A8V w a).use ?_)
 rintro _ _ ⟨rfl, rfl⟩ _
 refine A0c ((A8V _ b).use ?_)
 rintro _ _ ⟨rfl, rfl⟩ _
 by_cases c1 : a < b
 ·simp [c1, Y1]
 by_cases c2 : b < a
 ·simp [c1, c2, Y1]
 ·simp [c1, c2, Y1]
def z7 (x y : Nat × Int) : Int := if Y1 x.1 y.1 ≠ 0 then Y1 x.1 y.1 else Y1 x.2 y.2
theorem B28 (K : WP) (w : World) : drw K w = K w.drew := rfl
def Gr (w w' : World) : Prop := ∃ q os, w' = Sort.grow (w.drewN q) os
theorem Gr.refl (w : World) : Gr w w := ⟨0, #[], by simp [Sort.grow]; rfl⟩
theorem Gr.alloc {w w' : World} (h : Gr w w') (o : Obj) : Gr w (w'.alloc o) := by
 obtain ⟨q, os, rfl⟩ := h
 exact ⟨q, os ++ #[o], by rw [Sort.alloc_eq_grow, Sort.grow_grow]⟩
theorem Gr.drew {w w' : World} (h : Gr w w') : Gr w w'.drew := by
 obtain ⟨q, os, rfl⟩ := h
 exact ⟨q + 1, os, rfl⟩
theorem B8P (w : World) (a b : Int) (g : Nat) (h : M5 w g 0 [.int .i64 a, .int .i64 b]) : Fn PR B8 216 #[.slice (some ⟨g, 0, none⟩) 2 2] w (fun v w' => v = .int .i64 (if a ≠ 0 then a else b) ∧ w' = w) := by
 refine A8u ?_
 unfold A4C
 simp
 refine C1F 2 (fun _ i w' => w' = w ∧ (0 < i → a = 0) ∧ (1 < i → b = 0)) ⟨rfl, by omega, by omega⟩ ?_
 rintro x i w1 hi ⟨hw1, h0, h1⟩ L hL
 rw [hw1]
 have ha : w.cell? ⟨g, 0, none⟩ = some (.int .i64 a) := by have := h.get (i := 0) (v := .int .i64 a) rfl; simpa using this
 have hb : w.cell? ⟨g, 1, none⟩ = some (.int .i64 b) := by have := h.get (i := 1) (v := .int .i64 b) rfl; simpa using this
 have hi' : i = 0 ∨ i = 1 ∨ i = 2 := by omega
 rcases hi' with rfl | rfl | rfl
 ·by_cases c : a = 0
  ·simp [ha, c]
   exact hL (by omega) _ _ ⟨rfl, fun _ => c, by omega⟩
  ·simp [ha, c]
 ·have ha0 := h0 (by omega)
  by_cases c : b = 0
  ·simp [hb, c]
   exact hL (by omega) _ _ ⟨rfl, fun _ => ha0, fun _ => c⟩
  ·simp [hb, c, ha0]
 ·simp [h0 (by omega), h1 (by omega)]
theorem B3c (w : World) (x y : Nat × Int) : Fn PR B8 162 #[.agg #[.int .u64 (x.1 : Nat), .int .i64 x.2], .agg #[.int .u64 (y.1 : Nat), .int .i64 y.2]] w (fun v w' => v = .int .i64 (z7 x y) ∧ Gr w w') := by
 refine A2m ?_
 unfold n9
 obtain ⟨w2, hw2⟩ : ∃ w2, w2 = ((w.alloc (.cells #[.int .u64 (x.1 : Nat), .int .i64 x.2] 284)).alloc (.cells #[.int .u64 (y.1 : Nat), .int .i64 y.2] 284)).drew := ⟨_, rfl⟩
 have hA : bl w2 (sz w) = some (.cells #[.int .u64 (x.1 : Nat), .int .i64 x.2] 284) := by
  subst hw2; show bl ((w.alloc _).alloc _) (sz w) = _; rw [A1N (by simp), V5]
 have hB : bl w2 (sz w + 1) = some (.cells #[.int .u64 (y.1 : Nat), .int .i64 y.2] 284) := by
  subst hw2; show bl ((w.alloc _).alloc _) (sz w + 1) = _; rw [← A9Y w, V5]
 have a0 : w2.cell? ⟨sz w, 0, none⟩ = some (.int .u64 (x.1 : Nat)) := by rw [C8 hA]; rfl
 have a1 : w2.cell? ⟨sz w, 1, none⟩ = some (.int .i64 x.2) := by rw [C8 hA]; rfl
 have b0 : w2.cell? ⟨sz w + 1, 0, none⟩ = some (.int .u64 (y.1 : Nat)) := by rw [C8 hB]; rfl
 have b1 : w2.cell? ⟨sz w + 1, 1, none⟩ = some (.int .i64 y.2) := by rw [C8 hB]; rfl
 have hg : Gr w w2 := by subst hw2; exact (((Gr.refl w).alloc _).alloc _).drew
 rw [B1c, B1c, B28, A9Y]
 simp only [Value.cells]
 rw [← hw2]
 clear hw2 hA hB
 have r1 : (Instr.loadAt 3 (.pointer (some ⟨sz w + 1, 0 + 1, none⟩))).run PR w2 = .ok (.int .i64 y.2) w2 := n4 H0 rfl b1
 have r2 : (Instr.loadAt 3 (.pointer (some ⟨sz w, 0 + 1, none⟩))).run PR w2 = .ok (.int .i64 x.2) w2 := n4 H0 rfl a1
 simp [a0, a1, b0, b1]
 refine A3d ((B4q w2 _ _).use ?_)
 rintro _ w3 ⟨rfl, hw3⟩ _
 rw [hw3, A6w, A6w, B2U]
 refine ⟨r1, r2, ?_⟩
 refine A5s ((B45 w2 _ _).use ?_)
 rintro _ w4 ⟨rfl, hw4⟩ _
 rw [hw4, A4j A3M H0 (cs := #[.int .i64 (Y1 x.1 y.1), .int .i64 (Y1 x.2 y.2)]) (by decide) (by decide) (by kernel_rfl)]
 have hrow : M5 (w2.alloc (.cells #[.int .i64 (Y1 x.1 y.1), .int .i64 (Y1 x.2 y.2)] 3)) (sz w2) 0 [.int .i64 (Y1 x.1 y.1), .int .i64 (Y1 x.2 y.2)] := fun i hi => by
  rw [C8 (V5 _ _)]; simp
 refine A9T ((B8P _ _ _ _ hrow).use ?_)
 rintro _ w5 ⟨rfl, hw5⟩ _
 exact ⟨by simp [z7], by rw [hw5]; exact hg.alloc _⟩
end Go.Proofs.YtjobgnabneddjaaGreat
namespace Go.Proofs.YtjobgnabneddjaaGreat
open Go Go.Sort Go.Lib
theorem B5c (x y : Nat × Int) : z7 x y < 0 ↔ x.1 < y.1 ∨ (x.1 = y.1 ∧ x.2 < y.2) := by
 unfold z7 Y1
 by_cases h1 : (x.1 : Int) < y.1
 ·simp [h1]; omega
 by_cases h2 : (y.1 : Int) < x.1
 ·simp [h1, h2]; omega
 ·have : x.1 = y.1 := by omega
  by_cases h3 : x.2 < y.2
  ·simp [h1, h2, h3]; omega
  by_cases h4 : y.2 < x.2
  ·simp [h1, h2, h3, h4]; omega
  ·simp [h1, h2, h3, h4]; omega
theorem B06 (x y : Nat × Int) : ltOf z7 x y = true ↔ x.1 < y.1 ∨ (x.1 = y.1 ∧ x.2 < y.2) := by rw [ltOf, decide_eq_true_eq, B5c]
theorem A5e (x y : Nat × Int) : ltOf z7 x y = false ↔ ¬ (x.1 < y.1 ∨ (x.1 = y.1 ∧ x.2 < y.2)) := by rw [← B06, Bool.not_eq_true]
theorem C1e : Sort.SWO (ltOf z7) := by
 refine ⟨fun x => ?_, fun x y z h1 h2 => ?_, fun x y z h1 h2 => ?_⟩
 ·rw [A5e]; omega
 ·rw [B06] at *; omega
 ·rw [A5e] at *; omega
theorem C1c (x y : Nat × Int) (h1 : ltOf z7 x y = false) (h2 : ltOf z7 y x = false) : x = y := by
 rw [A5e] at *
 have e1 : x.1 = y.1 := by omega
 have e2 : x.2 = y.2 := by omega
 exact Prod.ext e1 e2
theorem B7Q : (fun x y => !(ltOf z7) y x) = leP := by
 funext x y
 rw [Bool.eq_iff_iff, Bool.not_eq_true', A5e, leP, decide_eq_true_eq]; omega
theorem A9j (l : List (Nat × Int)) : flatK E7 2 l.toArray = (l.flatMap E7).toArray := by
 apply Array.toList_inj.1
 apply List.ext_getElem
 ·rw [Array.length_toList, size_flatK, List.toList_toArray, K7 V7]; simp
 ·intro i h1 h2
  have hi : i < l.length * 2 := by simpa using h1
  have hf := y8 (f := E7) (k := 2) V7 l (i / 2) (i % 2) (by omega)
  rw [show i / 2 * 2 + i % 2 = i by omega] at hf
  have h2' : i < (l.flatMap E7).length := by simpa using h2
  rw [List.getElem?_eq_getElem h2', List.getElem?_eq_getElem (show i / 2 < l.length by omega)] at hf
  have hg := get_flatK E7 2 l.toArray i (by simpa using hi)
  rw [getElem!_pos _ _ (by simpa using hi)] at hg
  simp only [Array.getElem_toList, List.getElem_toArray]
  rw [hg]
  simp only [Option.bind_some] at hf
  rw [getElem!_pos l.toArray (i / 2) (by simp; omega)]
  simp only [List.getElem_toArray]
  have h3 : i % 2 < (E7 l[i / 2]).length := by rw [V7]; omega
  rw [List.getElem?_eq_getElem h3] at hf
  rw [getElem!_pos (E7 l[i / 2]) (i % 2) h3]
  exact (Option.some.inj hf).symm
theorem B2E {w : World} {g : Nat} {cur : Array Value} {T : TypeId} {F : Array Value} (h : bl w g = some (.cells cur T (0, 0))) : bl (Sort.putRow id w g 0 F) g = some (.cells (Sort.putCells id 0 F cur) T (0, 0)) := by
 have h' : w.heap[g]? = some (.cells cur T (0, 0)) := h
 simp only [bl, Sort.putRow, Sort.mapBlock, Array.getElem?_modify, if_true, h', Option.map_some]; rfl
theorem A1Y {w : World} {g r : Nat} {F : Array Value} (h : r ≠ g) : bl (Sort.putRow id w g 0 F) r = bl w r := by
 simp [bl, Sort.putRow, Sort.mapBlock, Array.getElem?_modify, Ne.symm h]
theorem A83 {F cur : Array Value} (h : F.size ≤ cur.size) : (Sort.putCells id 0 F cur).toList.take F.size = F.toList := by
 apply List.ext_getElem (by simp [Sort.putCells]; omega)
 intro i h1 h2
 have hi : i < F.size := by simpa using h2
 simp [Sort.putCells, hi]
theorem A5f {w : World} {os : Array Obj} {r : Nat} {o : Obj} (h : bl w r = some o) : bl (Sort.grow w os) r = some o := by
 have hr : r < w.heap.size := G7 h
 simp only [bl, Sort.grow, Array.getElem?_append_left hr]; exact h
theorem B0g (w : World) (v : Value) (l : List (Nat × Int)) (hn : l.length ≤ 1000000) (hw : LW false (B2 [A3z v l]) w [A3z v l] w) :
  Fn PR B8 213 #[v, .func (.func 162) #[] #[]] w (Rn (B2 [A3z v l]) w (fun (_ : Unit) u => u = .tuple #[]) fun _ => [A3z v (N6 l)]) := by
 have ho : K9 w 284 2 v l.length (l.flatMap E7) := hw.hold _ A1
 rcases ho.2 with ⟨rfl, hl0⟩ | ⟨g, cap, cur, rfl, hb, hc, hcs, htk⟩
 ·have hl : l = [] := List.length_eq_zero_iff.1 hl0
  subst hl
  refine Calls.mono (AnyF.slices_SortFunc_none Tryz.sortPlace none 0 (.func (.func 162) #[] #[]) w) ?_
  rintro e w' ⟨he, rfl⟩
  exact ⟨_, he, ⟨(), rfl, by simpa [N6] using hw⟩, Sk.refl _ _⟩
 ·have hg : g < w.heap.size := G7 hb
  have hH : HoldsK E7 2 w g 0 l.toArray := by
   intro j hj
   rw [A9j] at hj ⊢
   have hj' : j < (l.flatMap E7).length := by simpa using hj
   constructor
   ·rw [C8 hb, Nat.zero_add]
    rw [getElem!_pos _ _ (by simpa using hj')]
    have : cur.toList[j]? = (l.flatMap E7)[j]? := by
     rw [← htk, List.getElem?_take_of_lt (by rw [K7 V7] at hj'; exact hj')]
    rw [Array.getElem?_toList] at this
    rw [this, List.getElem?_eq_getElem hj']; rfl
   ·have hb' : w.heap[g]? = some (.cells cur 284 (0, 0)) := hb
    simp [World.frozen?, hb']
  have hcmp : CmpLays PR 162 #[] E7 2 z7 g 0 l.toArray.size w := by
   intro m os dk _ x y
   refine Calls.mono (B3c (sortWorldK E7 2 w g 0 m dk os) x y) ?_
   rintro e w' ⟨v, he, ⟨hv, hgr⟩, _⟩
   exact ⟨by rw [he, hv], hgr⟩
  have main := AnyQ.slices_SortFunc_total Tryz.sortPlace 2 (fun w => by kernel_rfl) (fun w => A33.run_size) E7 V7
   (by intro x u hu; simp only [E7, List.mem_cons, List.not_mem_nil, or_false] at hu; rcases hu with rfl | rfl <;> rfl) z7 C1e 162 #[] g 0 cap l.toArray w
   A2M hcmp hH hg (by simp; omega) C1c
  refine Calls.mono main ?_
  rintro e w' ⟨he, n, os, rfl⟩
  have e1 : sortWorldK E7 2 w g 0 n (l.toArray.toList.mergeSort fun x y => !(ltOf z7) y x).toArray os = Sort.grow (Sort.putRow id (Sort.ahead w n) g 0 ((N6 l).flatMap E7).toArray) os := by
   unfold sortWorldK putRowK; rw [← A9j, B7Q]; rfl
  rw [e1]
  have hsz : ((N6 l).flatMap E7).length = l.length * 2 := by rw [K7 V7, p6]
  have hb2 : bl (Sort.ahead w n) g = some (.cells cur 284 (0, 0)) := hb
  have hbl := A5f (os := os) (B2E (F := ((N6 l).flatMap E7).toArray) hb2)
  have hks : KS false [g] w (Sort.grow (Sort.putRow id (Sort.ahead w n) g 0 ((N6 l).flatMap E7).toArray) os) := by
   refine ⟨by simp [sz, Sort.grow, Sort.size_putRow], fun r o hr _ e => ?_, fun h => by cases h⟩
   exact A5f (by rw [A1Y (by simpa using hr)]; exact e)
  refine ⟨_, he, ⟨(), rfl, ⟨hks.mono (by simp [B2, Res.foot, J0]), ?_, ?_, by simp⟩⟩, ?_⟩
  ·simp only [List.mem_singleton, forall_eq, Res.holds]
   refine ⟨by rw [hsz, p6], Or.inr ⟨g, cap, _, by rw [p6], hbl, by rw [p6]; exact hc, by simp [Sort.putCells, hcs], ?_⟩⟩
   rw [p6]
   have := A83 (F := ((N6 l).flatMap E7).toArray) (cur := cur) (by simp only [List.size_toArray, hsz]; rw [← hcs]; omega)
   simpa [hsz] using this
  ·simp only [List.mem_singleton, forall_eq, Res.foot, J0]
   exact ⟨Or.inl (by simp [B2, Res.foot, J0]), G7 hbl⟩
  ·refine ⟨by simp [Sort.grow, Sort.size_putRow], fun r d e => ?_, fun r lo _ e => ?_, rfl, rfl⟩
   ·exact A5f (by rw [A1Y (by rintro rfl; have h2 : some (Obj.deferred d) = some (Obj.cells cur 284 (0, 0)) := e.symm.trans hb; cases h2)]; exact e)
   ·exact A5f (by rw [A1Y (by rintro rfl; have h2 : some (Obj.loop lo) = some (Obj.cells cur 284 (0, 0)) := e.symm.trans hb; cases h2)]; exact e)
theorem A8r (w : World) (b : Nat) (v : Value) (p : List H8) (hn : p.length ≤ 1000) (hv : G3 w v p.length (p.flatMap G8)) (hS : 0 < p.length → ∀ g ∈ J0 v, g ∉ [b])
  (hw : LW false [b] w [.pt b (.cells #[v] 58)] w) :
  Fn PR B8 160 #[A7K b, .func (.func 162) #[] #[]] w (Rn [b] w (fun r u => u = r) fun r => [A3z r (N6 (E9 p))]) := by
 refine f9 (TW.goH (κ := false) (S := [b]) ?_ hw)
 unfold Q2
 have hll := A7a p
 refine B4 (Hc := [.pt b (.cells #[v] 58)]) r5 (fun w' hw' hs => B1a w' b v p hn (hv.ks0 (fun h => by rw [List.length_eq_zero_iff.1 h]; rfl) hw'.ks hS) hS hs) (by (repeat' constructor)) ?_
 rintro _ r rfl
 refine B4 (Hc := [A3z r (E9 p)]) T3 (fun w' hw' hs => B0g w' r (E9 p) (by omega) hs) (by (repeat' constructor)) ?_
 rintro _ _ rfl
 exact B0 r rfl (by (repeat' constructor))
theorem B8F (w : World) (v : Value) (p : List H8) (hn : p.length ≤ 1000) (hv : G3 w v p.length (p.flatMap G8)) :
  Fn PR B8 112 #[v] w (Rn [] w (fun r u => u = r) fun r => [.own 290 2 r (N6 (E9 p)).length ((N6 (E9 p)).flatMap E7)]) := by
 refine A9g (TW.go (κ := false) (S := []) ?_)
 unfold A4z
 have hll := A7a p
 refine N4 A7B (fun w' _ => B4B w' v (by obtain ⟨a, c, rfl, _⟩ := hv.form; exact ⟨a, _, c, rfl⟩)) ?_
 rintro b _ rfl
 refine B4 (Hc := [.pt b (.cells #[v] 58)]) e6 (fun w' hw' hs => A8r w' b v p hn (hv.ks hw'.ks (by simp)) (fun h0 g hg hgb => ?_) hs) (by (repeat' constructor)) ?_
 ·obtain ⟨a, c, rfl, hr⟩ := hv.form
  obtain ⟨b', o, rfl, hrow⟩ := hr h0
  have hlen : 0 < (p.flatMap G8).length := by rw [K7 (k := 2) fun _ => rfl]; omega
  have h1 := hrow 0 hlen
  rw [List.getElem?_eq_getElem hlen] at h1
  obtain ⟨c', t', z', h2, h3⟩ := Y7 h1
  have hlt : b' < sz w := G7 h2
  simp [J0] at hg hgb
  subst hg
  rcases (hw'.own _ A1 b (by simp [Res.foot])).1 with h | h
  ·simp at h
  ·omega
 rintro _ r rfl
 have hsl : (N6 (E9 p)).length ≤ 128000 := by rw [p6]; omega
 generalize N6 (E9 p) = q at *
 refine Q8 (e := 284) (k := 2) (v := r) (q := q.length) (xs := q.flatMap E7) (by (repeat constructor)) ?_
 rintro ra rc rfl
 (have zz:=trivial;repeat((first|clear zz|with_reducible first|refine A3 ?_|refine A5 fun _=>?_|refine A4 fun _=>?_);try simp(disch:=first|omega|assumption|((repeat(first|exact A1|exact uH|apply A2|apply uT));first|done|fail)|(simp;first|done|omega|fail))[]))
 refine A0L 290 2 ?_
 refine Z6 (α := Option Addr × Nat) q.length (fun i x => .slice x.1 i x.2) (fun i x => [.own 290 2 (.slice x.1 i x.2) i ((q.take i).flatMap E7), A3z (.slice ra q.length rc) q]) (fun i _ => True) (none, 0) trivial ?_
 rintro i ⟨xa, xc⟩ hi _ L hL
 by_cases hlt : i < q.length
 ·obtain ⟨x, hx⟩ : ∃ x, q[i]? = some x := ⟨_, List.getElem?_eq_getElem hlt⟩
  have hrl := A8H (f := E7) (k := 2) V7 hx
  have hst : (q.take (i + 1)).flatMap E7 = (q.take i).flatMap E7 ++ E7 x := by rw [List.take_add_one, hx, List.flatMap_append]; simp
  have hL' := fun a c => hL hlt (a, c) trivial
  simp only [hst, E7] at hL'
  rw [E7] at hrl
  have hl0 : ((q.take i).flatMap E7).length = i * 2 := by rw [K7 V7, List.length_take]; congr 1; omega
  refine A0G (e := 284) (k := 2) (v := .slice ra q.length rc) (q := q.length) (xs := q.flatMap E7) (by (repeat constructor)) (by omega) ?_
  rintro g gc hg
  cases hg
  (have zz:=trivial;repeat((first|clear zz|with_reducible first|refine A3 ?_|refine A5 fun _=>?_|refine A4 fun _=>?_|refine r6 fun _=>?_|refine u9 (hK:=fun _=>?_)|refine s0 (hK:=fun _=>?_)|refine x6 (hK:=fun _=>?_)|refine v6 (hK:=fun _=>?_)|refine s7 (hK:=fun _=>?_));try simp(disch:=first|omega|assumption|((repeat(first|exact A1|exact uH|apply A2|apply uT));first|done|fail)|(simp;first|done|omega|fail))[hlt, hrl]))
  refine A12 (e := 290) (k := 2) (q := i) (r := 1) (xs := (q.take i).flatMap E7) (news := [.int .u64 (x.1 : Nat), .int .i64 x.2]) (by (repeat constructor)) (P4.own (by (repeat constructor))) (by decide) (by simp) (by simp) (by simp only [maxLen]; omega) (by omega) fun a' c' => ?_
  (have zz:=trivial;repeat((first|clear zz|with_reducible first|refine A3 ?_|refine A5 fun _=>?_|refine A4 fun _=>?_);try simp(disch:=first|omega|assumption|((repeat(first|exact A1|exact uH|apply A2|apply uT));first|done|fail)|(simp;first|done|omega|fail))[]))
  exact Sels.tw (by (repeat' constructor)) (hL' a' c')
 ·obtain rfl : i = q.length := by omega
  rw [List.take_length]
  (have zz:=trivial;repeat((first|clear zz|with_reducible first|refine A3 ?_|refine A5 fun _=>?_|refine A4 fun _=>?_);try simp(disch:=first|omega|assumption|((repeat(first|exact A1|exact uH|apply A2|apply uT));first|done|fail)|(simp;first|done|omega|fail))[]))
  exact B0 (.slice xa q.length xc) rfl (by (repeat' constructor))
end Go.Proofs.YtjobgnabneddjaaGreat
namespace Go.Proofs.YtjobgnabneddjaaGreat
open Go
def A3A (X : Nat → Prop) (t0 : Value) (R : Value → WP) : WP :=
 B7 PR X (Instr.box 23 t0) fun t1 =>
 B7 PR X (Instr.alloc 27 true (.tuple #[])) fun t3 =>
 C6 PR X (Instr.storeAt 27 t3 (.int .i64 0)) <|
 A0 PR (Instr.makeFunc (.func 127) #[] #[t3]) fun t5 =>
 A0 PR (Instr.fieldAt 23 t1 0) fun t7 =>
 A6 PR (Instr.loadAt 3 t7) fun t8 =>
 W9 PR X t5 [t8, (.int .i64 1), (.int .i64 64)] fun t9 =>
 A0 PR (Instr.fieldAt 23 t1 1) fun t11 =>
 A6 PR (Instr.loadAt 3 t11) fun t12 =>
 W9 PR X t5 [t12, (.int .i64 1), (.int .i64 16)] fun t13 =>
 A0 PR (Instr.fieldAt 23 t1 2) fun t15 =>
 A6 PR (Instr.loadAt 3 t15) fun t16 =>
 W9 PR X t5 [t16, (.int .i64 1), (.int .i64 64)] fun t17 =>
 A0 PR (Instr.fieldAt 23 t1 3) fun t19 =>
 A6 PR (Instr.loadAt 3 t19) fun t20 =>
 W9 PR X t5 [t20, (.int .i64 0), (.int .i64 1000000)] fun t21 =>
 A0 PR (Instr.fieldAt 23 t1 4) fun t23 =>
 A6 PR (Instr.loadAt 3 t23) fun t24 =>
 W9 PR X t5 [t24, (.int .i64 2), (.int .i64 8)] fun t25 =>
 A6 PR (Instr.loadAt 27 t3) fun t26 =>
 R t26
theorem A63 : A9 PR 65 := A7 Tryz.func65 (by kernel_rfl) rfl
theorem A7Z {X : Nat → Prop} {t0 : Value} {R : Value → WP} {w : World} (h : A3A X t0 R w) : Fn PR X 65 #[t0] w R := C9 (args := [t0]) mixed Tryz.func65 (by kernel_rfl) h
def A0r (X : Nat → Prop) (t0 t1 t2 t3 : Value) (R : Value → WP) : WP :=
 A0 PR (binOp .lss 3 t0 t1) fun t9 =>
 gj t9 false (fun J => J t0) fun t11 =>
 gj t9 false (fun J => J t2) fun t12 =>
 gj t9 false (fun J => A0 PR (binOp .gtr 3 t11 t12) J) fun t13 =>
 A0 PR (do pure (if ← asBool t9 then (.bool true) else t13)) fun t14 =>
 C2 t14 (
 C6 PR X (Instr.storeAt 27 t3 (.int .i64 1)) <|
 R (.tuple #[])) (
 R (.tuple #[]))
theorem N5 : A9 PR 127 := A7 Tryz.func127 (by kernel_rfl) rfl
theorem A5q {X : Nat → Prop} {t0 t1 t2 t3 : Value} {R : Value → WP} {w : World} (h : A0r X t0 t1 t2 t3 R w) : Fn PR X 127 #[t0, t1, t2, t3] w R := C9 (args := [t0, t1, t2, t3]) mixed Tryz.func127 (by kernel_rfl) h
end Go.Proofs.YtjobgnabneddjaaGreat
namespace Go.Proofs.YtjobgnabneddjaaGreat
open Go
theorem u4 (w : World) (n lo hi e : Int) (b : Nat) (hw : LW false [b] w [.pt b (.cells #[.int .i64 e] 27)] w) :
  Fn PR B8 127 #[.int .i64 n, .int .i64 lo, .int .i64 hi, .pointer (some ⟨b, 0, none⟩)] w (Rn [b] w (fun (_ : Unit) u => u = .tuple #[]) fun _ => [.pt b (.cells #[.int .i64 (if V3 n lo hi then e else 1)] 27)]) := by
 refine A5q (TW.goH (κ := false) (S := [b]) ?_ hw)
 unfold A0r
 by_cases c1 : n < lo
 ·have hf : V3 n lo hi = false := by simp [V3]; omega
  (have zz:=trivial;repeat((first|clear zz|with_reducible first|refine A3 ?_|refine A5 fun _=>?_|refine A4 fun _=>?_);try simp(disch:=first|omega|assumption|((repeat(first|exact A1|exact uH|apply A2|apply uT));first|done|fail)|(simp;first|done|omega|fail))[c1]))
  exact B0 () rfl (by simp only [hf]; (repeat' constructor))
 by_cases c2 : hi < n
 ·have hf : V3 n lo hi = false := by simp [V3]; omega
  (have zz:=trivial;repeat((first|clear zz|with_reducible first|refine A3 ?_|refine A5 fun _=>?_|refine A4 fun _=>?_);try simp(disch:=first|omega|assumption|((repeat(first|exact A1|exact uH|apply A2|apply uT));first|done|fail)|(simp;first|done|omega|fail))[c1, c2]))
  exact B0 () rfl (by simp only [hf]; (repeat' constructor))
 ·have hf : V3 n lo hi = true := by simp [V3]; omega
  (have zz:=trivial;repeat((first|clear zz|with_reducible first|refine A3 ?_|refine A5 fun _=>?_|refine A4 fun _=>?_);try simp(disch:=first|omega|assumption|((repeat(first|exact A1|exact uH|apply A2|apply uT));first|done|fail)|(simp;first|done|omega|fail))[c1, c2]))
  exact B0 () rfl (by simp only [hf]; (repeat' constructor))
theorem B18 (w : World) (c : CfgV) : Fn PR B8 65 #[c.val] w (fun v w' => v = .int .i64 (if Q9 c then 0 else 1) ∧ D0 [] w w') := by
 refine Fn.pure (A7Z (TW.go (κ := false) (S := []) ?_))
 unfold A3A
 simp only [CfgV.val]
 (have zz:=trivial;repeat((first|clear zz|with_reducible first|refine A3 ?_|refine A5 fun _=>?_|refine A4 fun _=>?_);try simp(disch:=first|omega|assumption|((repeat(first|exact A1|exact uH|apply A2|apply uT));first|done|fail)|(simp;first|done|omega|fail))[]))
 rename_i bc be
 refine B4 (Hc := [.pt be (.cells #[.int .i64 0] 27)]) N5 (fun w' hw hs => u4 w' c.wk 1 64 0 be hs) (by (repeat' constructor)) ?_
 rintro _ _ rfl
 generalize he1 : (if V3 c.wk 1 64 = true then (0 : Int) else 1) = e1
 (have zz:=trivial;repeat((first|clear zz|with_reducible first|refine A3 ?_|refine A5 fun _=>?_|refine A4 fun _=>?_);try simp(disch:=first|omega|assumption|((repeat(first|exact A1|exact uH|apply A2|apply uT));first|done|fail)|(simp;first|done|omega|fail))[]))
 refine B4 (Hc := [.pt be (.cells #[.int .i64 e1] 27)]) N5 (fun w' hw hs => u4 w' c.sh 1 16 e1 be hs) (by (repeat' constructor)) ?_
 rintro _ _ rfl
 generalize he2 : (if V3 c.sh 1 16 = true then e1 else 1) = e2
 (have zz:=trivial;repeat((first|clear zz|with_reducible first|refine A3 ?_|refine A5 fun _=>?_|refine A4 fun _=>?_);try simp(disch:=first|omega|assumption|((repeat(first|exact A1|exact uH|apply A2|apply uT));first|done|fail)|(simp;first|done|omega|fail))[]))
 refine B4 (Hc := [.pt be (.cells #[.int .i64 e2] 27)]) N5 (fun w' hw hs => u4 w' c.cp 1 64 e2 be hs) (by (repeat' constructor)) ?_
 rintro _ _ rfl
 generalize he3 : (if V3 c.cp 1 64 = true then e2 else 1) = e3
 (have zz:=trivial;repeat((first|clear zz|with_reducible first|refine A3 ?_|refine A5 fun _=>?_|refine A4 fun _=>?_);try simp(disch:=first|omega|assumption|((repeat(first|exact A1|exact uH|apply A2|apply uT));first|done|fail)|(simp;first|done|omega|fail))[]))
 refine B4 (Hc := [.pt be (.cells #[.int .i64 e3] 27)]) N5 (fun w' hw hs => u4 w' c.idle 0 1000000 e3 be hs) (by (repeat' constructor)) ?_
 rintro _ _ rfl
 generalize he4 : (if V3 c.idle 0 1000000 = true then e3 else 1) = e4
 (have zz:=trivial;repeat((first|clear zz|with_reducible first|refine A3 ?_|refine A5 fun _=>?_|refine A4 fun _=>?_);try simp(disch:=first|omega|assumption|((repeat(first|exact A1|exact uH|apply A2|apply uT));first|done|fail)|(simp;first|done|omega|fail))[]))
 refine B4 (Hc := [.pt be (.cells #[.int .i64 e4] 27)]) N5 (fun w' hw hs => u4 w' c.sl 2 8 e4 be hs) (by (repeat' constructor)) ?_
 rintro _ _ rfl
 generalize he5 : (if V3 c.sl 2 8 = true then e4 else 1) = e5
 (have zz:=trivial;repeat((first|clear zz|with_reducible first|refine A3 ?_|refine A5 fun _=>?_|refine A4 fun _=>?_);try simp(disch:=first|omega|assumption|((repeat(first|exact A1|exact uH|apply A2|apply uT));first|done|fail)|(simp;first|done|omega|fail))[]))
 refine B9 ?_
 have : e5 = if Q9 c then 0 else 1 := by
  rw [← he5, ← he4, ← he3, ← he2, ← he1]
  unfold Q9
  cases V3 c.wk 1 64 <;> cases V3 c.sh 1 16 <;> cases V3 c.cp 1 64 <;> cases V3 c.idle 0 1000000 <;> cases V3 c.sl 2 8 <;> rfl
 rw [this]
section
variable {κ : Bool} {S : List Nat} {w0 : World} {H Hj : List Res} {K : Value → WP}
end
end Go.Proofs.YtjobgnabneddjaaGreat
namespace Go.Proofs.YtjobgnabneddjaaGreat
open Go
def A6E (ts : List (Value × List EnV)) : List Nat := ts.flatMap fun t => J0 t.1
def A74 (ts : List (Value × List EnV)) (w : World) : Prop := ∀ t ∈ ts, K9 w 218 4 t.1 t.2.length (t.2.flatMap G1)
def K8 (ts : List (Value × List EnV)) : Res := .ab (A6E ts) (A74 ts) fun w w' hk h t ht =>
 Res.stable (r := P1 t.1 t.2) (fun b hb => hk b (by rw [A6E, List.mem_flatMap]; exact ⟨t, ht, hb⟩)) (h t ht)
section
variable {κ : Bool} {S : List Nat} {w0 w : World} {H Hk Hc : List Res} {K0 : WP} {ts : List (Value × List EnV)}
theorem B2V (hw : LW κ S w0 H w) (hm : K8 ts ∈ H) {t : Value × List EnV} (ht : t ∈ ts) : G3 w t.1 t.2.length (t.2.flatMap G1) := K9.rd ((hw.hold _ hm : A74 ts w) t ht)
theorem A1U {r : Res} (hp : Part Hc H Hk) (hh : ∀ w, (∀ s ∈ Hc, s.holds w) → r.holds w) (hf : ∀ b ∈ r.foot, b ∈ B2 Hc) (h : TW κ S w0 (r :: Hk) K0) : TW κ S w0 H K0 := fun w hw => by
 have hw2 := hw.perm hp.perm
 refine h w ⟨hw2.ks, ?_, ?_, ?_⟩
 ·intro s hs
  rcases List.mem_cons.1 hs with rfl | hs
  ·exact hh w fun s hs => hw2.hold s (List.mem_append_left _ hs)
  ·exact hw2.hold s (List.mem_append_right _ hs)
 ·intro s hs b hb
  rcases List.mem_cons.1 hs with rfl | hs
  ·obtain ⟨q, hq, hbq⟩ := G5.1 (hf b hb)
   exact hw2.own q (List.mem_append_left _ hq) b hbq
  ·exact hw2.own s (List.mem_append_right _ hs) b hb
 ·have hd := List.pairwise_append.1 hw2.dis
  refine List.pairwise_cons.2 ⟨fun s hs b hb => ?_, hd.2.1⟩
  obtain ⟨q, hq, hbq⟩ := G5.1 (hf b hb)
  exact hd.2.2 q hq s hs b hbq
theorem B30 (h : TW κ S w0 (K8 [] :: H) K0) : TW κ S w0 H K0 :=
 A1U (r := K8 []) (Hc := []) Part.nil (fun w _ => (fun t ht => (by cases ht) : A74 [] w)) (fun b hb => (by cases (hb : b ∈ A6E []))) h
theorem A13 {r : Value} {l : List EnV} (hp : Part [P1 r l, K8 ts] H Hk) (h : TW κ S w0 (K8 (ts ++ [(r, l)]) :: Hk) K0) : TW κ S w0 H K0 := by
 refine A1U (r := K8 (ts ++ [(r, l)])) hp (fun w hh => (fun t ht => ?_ : A74 (ts ++ [(r, l)]) w)) (fun b hb => ?_) h
 ·rcases List.mem_append.1 ht with ht | ht
  ·exact (hh _ (List.mem_cons_of_mem _ (List.mem_cons_self ..)) : A74 ts w) t ht
  ·obtain rfl : t = (r, l) := by simpa using ht
   exact hh (P1 r l) (List.mem_cons_self ..)
 ·have hb' : b ∈ A6E (ts ++ [(r, l)]) := hb
  rw [A6E, List.mem_flatMap] at hb'
  obtain ⟨t, ht, hbt⟩ := hb'
  rcases List.mem_append.1 ht with ht | ht
  ·exact G5.2 ⟨K8 ts, by simp, by show b ∈ A6E ts; rw [A6E, List.mem_flatMap]; exact ⟨t, ht, hbt⟩⟩
  ·obtain rfl : t = (r, l) := by simpa using ht
   exact G5.2 ⟨P1 r l, by simp, hbt⟩
end
theorem B1W (l : List H8) : (l.flatMap G8).all plain = true := by
 rw [List.all_eq_true]; intro v hv; rw [List.mem_flatMap] at hv
 obtain ⟨x, _, hx⟩ := hv
 simp only [G8, List.mem_cons, List.not_mem_nil, or_false] at hx
 rcases hx with rfl | rfl <;> rfl
end Go.Proofs.YtjobgnabneddjaaGreat
namespace Go.Proofs.YtjobgnabneddjaaGreat
open Go
section
variable {P : Program} {t x : TypeId} {d : TypeDesc} {n m : Nat} {z : Value} {K : Value → WP}
theorem B4v (h : TI P t d n m z) (hd : ∀ ms, d ≠ .interface ms) : A0 P (Instr.typeAssert .nilIface x t true) K = K (.tuple #[z, .bool false]) :=
 D5 (fun w => by
  simp only [Instr.typeAssert, Sem.run_bind, h.run_und, Result.andThen_ok]
  cases d <;> first | (simp [h.run_zero]; done) | exact absurd rfl (hd _)) K
theorem B43 (h : TI P t d n m z) (hd : ∀ ms, d ≠ .interface ms) (v : Value) : A0 P (Instr.typeAssert (.iface t v) x t true) K = K (.tuple #[v, .bool true]) :=
 D5 (fun w => by
  simp only [Instr.typeAssert, Sem.run_bind, h.run_und, Result.andThen_ok]
  cases d <;> first | (simp; done) | exact absurd rfl (hd _)) K
theorem B5p (h : TI P t d n m z) (hd : ∀ ms, d ≠ .interface ms) {u : TypeId} (hu : u ≠ t) (v : Value) : A0 P (Instr.typeAssert (.iface u v) x t true) K = K (.tuple #[z, .bool false]) :=
 D5 (fun w => by
  simp only [Instr.typeAssert, Sem.run_bind, h.run_und, Result.andThen_ok]
  cases d <;> first | (simp [hu, h.run_zero]; done) | exact absurd rfl (hd _)) K
end
@[simp] theorem B80 (x : TypeId) (K : Value → WP) : A0 PR (Instr.typeAssert .nilIface x 263 true) K = K (.tuple #[.agg #[], .bool false]) := B4v A5a (by intro ms h; cases h)
@[simp] theorem B8A (x : TypeId) (v : Value) (K : Value → WP) : A0 PR (Instr.typeAssert (.iface 263 v) x 263 true) K = K (.tuple #[v, .bool true]) := B43 A5a (by intro ms h; cases h) v
@[simp] theorem B8a (x : TypeId) (v : Value) (K : Value → WP) : A0 PR (Instr.typeAssert (.iface 195 v) x 263 true) K = K (.tuple #[.agg #[], .bool false]) := B5p A5a (by intro ms h; cases h) (by decide) v
inductive SlH where
 | no
 | bld
 | rdy (p : List H8) (pv rv : Value)
def SlH.val : SlH → Value
 | .no => .nilIface
 | .bld => .iface 263 (.agg #[])
 | .rdy _ pv rv => .iface 195 (.agg #[pv, rv])
def SlH.sp : SlH → SlV
 | .no => .no
 | .bld => .bld
 | .rdy p _ _ => .rdy p
def SlH.fo : SlH → List Nat
 | .rdy _ pv rv => J0 pv ++ J0 rv
 | _ => []
def A62 (pv : Value) (p : List H8) : Res := .own 155 2 pv p.length (p.flatMap G8)
def A6k (rv : Value) (p : List H8) : Res := .own 290 2 rv (N6 (E9 p)).length ((N6 (E9 p)).flatMap E7)
def SlH.ok (w : World) : SlH → Prop
 | .rdy p pv rv => (A62 pv p).holds w ∧ (A6k rv p).holds w ∧ p.length ≤ 32
 | _ => True
theorem SlH.keep {w w' : World} {s : SlH} (hk : ∀ b ∈ s.fo, ∀ o, A7y o = true → bl w b = some o → bl w' b = some o) (h : s.ok w) : s.ok w' := by
 cases s with
 | no => trivial
 | bld => trivial
 | rdy p pv rv =>
  refine ⟨Res.stable (fun b hb => hk b ?_) h.1, Res.stable (fun b hb => hk b ?_) h.2.1, h.2.2⟩
  ·exact List.mem_append_left _ hb
  ·exact List.mem_append_right _ hb
def l3 (ls : List SlH) : List Nat := ls.flatMap SlH.fo
def A3r (ls : List SlH) (w : World) : Prop := ∀ s ∈ ls, s.ok w
def a8 (ls : List SlH) : Res := .ab (l3 ls) (A3r ls) fun w w' hk h s hs => SlH.keep (fun b hb => hk b (by rw [l3, List.mem_flatMap]; exact ⟨s, hs, hb⟩)) (h s hs)
def P2 (ls : List SlH) (i : Int) (x : SlH) : List SlH := if 0 ≤ i ∧ i < ls.length then ls.set i.toNat x else ls
theorem B0G (ls : List SlH) (i : Int) (x : SlH) : (P2 ls i x).length = ls.length := by unfold P2; split <;> simp
theorem A7w (ls : List SlH) (i : Int) (x : SlH) : (P2 ls i x).map SlH.sp = A0f (ls.map SlH.sp) i x.sp := by
 unfold P2 A0f
 rw [List.length_map]
 split
 ·rw [List.map_set]
 ·rfl
theorem A3W {ls : List SlH} {i : Int} {x s : SlH} (h : s ∈ P2 ls i x) : s ∈ ls ∨ s = x := by
 unfold P2 at h
 split at h
 ·exact List.mem_or_eq_of_mem_set h
 ·exact Or.inl h
def D6 (b : Nat) (sv : Value) (ls : List SlH) : List Res := [.pt b (.cells #[sv] 231), .own 266 1 sv ls.length (ls.map SlH.val), a8 ls]
section
variable {κ : Bool} {S : List Nat} {w0 w : World} {H Hk Hc : List Res} {K0 : WP} {ls : List SlH}
theorem B1H {i : Int} {x : SlH} (hx : x.fo = [] ∧ ∀ w, x.ok w) (hp : Part [a8 ls] H Hk) (h : TW κ S w0 (a8 (P2 ls i x) :: Hk) K0) : TW κ S w0 H K0 := by
 refine A1U (r := a8 (P2 ls i x)) hp (fun w hh => (fun s hs => ?_ : A3r (P2 ls i x) w)) (fun b hb => ?_) h
 ·rcases A3W hs with hs | rfl
  ·exact (hh _ (List.mem_cons_self ..) : A3r ls w) s hs
  ·exact hx.2 w
 ·have hb' : b ∈ l3 (P2 ls i x) := hb
  rw [l3, List.mem_flatMap] at hb'
  obtain ⟨s, hs, hbs⟩ := hb'
  rcases A3W hs with hs | rfl
  ·exact G5.2 ⟨a8 ls, by simp, by show b ∈ l3 ls; rw [l3, List.mem_flatMap]; exact ⟨s, hs, hbs⟩⟩
  ·rw [hx.1] at hbs; cases hbs
theorem B6G {i : Int} {p : List H8} {pv rv : Value} (hl : p.length ≤ 32) (hp : Part [A62 pv p, A6k rv p, a8 ls] H Hk) (h : TW κ S w0 (a8 (P2 ls i (.rdy p pv rv)) :: Hk) K0) : TW κ S w0 H K0 := by
 refine A1U (r := a8 (P2 ls i (.rdy p pv rv))) hp (fun w hh => (fun s hs => ?_ : A3r (P2 ls i (.rdy p pv rv)) w)) (fun b hb => ?_) h
 ·rcases A3W hs with hs | rfl
  ·exact (hh (a8 ls) (by simp) : A3r ls w) s hs
  ·exact ⟨hh (A62 pv p) (by simp), hh (A6k rv p) (by simp), hl⟩
 ·have hb' : b ∈ l3 (P2 ls i (.rdy p pv rv)) := hb
  rw [l3, List.mem_flatMap] at hb'
  obtain ⟨s, hs, hbs⟩ := hb'
  rcases A3W hs with hs | rfl
  ·exact G5.2 ⟨a8 ls, by simp, by show b ∈ l3 ls; rw [l3, List.mem_flatMap]; exact ⟨s, hs, hbs⟩⟩
  ·rcases List.mem_append.1 hbs with hbs | hbs
   ·exact G5.2 ⟨A62 pv p, by simp, hbs⟩
   ·exact G5.2 ⟨A6k rv p, by simp, hbs⟩
end
theorem B6K (w : World) (b : Nat) (sv : Value) (xs : List Value) (i : Int) (x : Value) (hx : plain x = true) (hn : xs.length ≤ 1000) (hw : LW false (B2 [.pt b (.cells #[sv] 231), .own 266 1 sv xs.length xs]) w [.pt b (.cells #[sv] 231), .own 266 1 sv xs.length xs] w) :
  Fn PR B8 150 #[.pointer (some ⟨b, 0, none⟩), .int .i64 i, x] w (Rn (B2 [.pt b (.cells #[sv] 231), .own 266 1 sv xs.length xs]) w (fun (_ : Unit) u => z6 u) fun _ => [.pt b (.cells #[sv] 231), .own 266 1 sv xs.length (if 0 ≤ i ∧ i < xs.length then xs.set i.toNat x else xs)]) := by
 refine A5G (TW.goH (κ := false) ?_ hw)
 unfold A0W
 refine Q8 (e := 266) (k := 1) (v := sv) (q := xs.length) (xs := xs) (by (repeat constructor)) fun a c e => ?_
 subst e
 by_cases c1 : i < 0
 ·(have zz:=trivial;repeat((first|clear zz|with_reducible first|refine A3 ?_|refine A5 fun _=>?_|refine A4 fun _=>?_);try simp(disch:=first|omega|assumption|((repeat(first|exact A1|exact uH|apply A2|apply uT));first|done|fail)|(simp;first|done|omega|fail))[c1]))
  rw [if_neg (by omega)]
  exact B0 () (N7 _) (by (repeat' constructor))
 by_cases c2 : (xs.length : Int) ≤ i
 ·(have zz:=trivial;repeat((first|clear zz|with_reducible first|refine A3 ?_|refine A5 fun _=>?_|refine A4 fun _=>?_);try simp(disch:=first|omega|assumption|((repeat(first|exact A1|exact uH|apply A2|apply uT));first|done|fail)|(simp;first|done|omega|fail))[c1, c2]))
  rw [if_neg (by omega)]
  exact B0 () (N7 _) (by (repeat' constructor))
 obtain ⟨j, rfl⟩ : ∃ j : Nat, i = j := ⟨i.toNat, by omega⟩
 have hj : j < xs.length := by omega
 have hj2 : ¬ xs.length ≤ j := by omega
 rw [if_pos (by omega)]
 refine A0G (e := 266) (k := 1) (v := .slice a xs.length c) (q := xs.length) (xs := xs) (by (repeat constructor)) (by omega) fun g gc hg => ?_
 cases hg
 (have zz:=trivial;repeat((first|clear zz|with_reducible first|refine A3 ?_|refine A5 fun _=>?_|refine A4 fun _=>?_);try simp(disch:=first|omega|assumption|((repeat(first|exact A1|exact uH|apply A2|apply uT));first|done|fail)|(simp;first|done|omega|fail))[c1, c2, hj, hj2]))
 have hxc : x.cells = #[x] := by cases x <;> first | rfl | cases hx
 refine U1 (by (repeat constructor)) (by rw [hxc]; rfl) (by omega) (by rw [hxc]; simpa using hx) ?_
 have e : U0 xs j x.cells.toList = xs.set j x := by
  rw [hxc, List.set_eq_take_append_cons_drop, if_pos hj]; simp [U0]
 refine B0 () (N7 _) ?_
 rw [Int.toNat_natCast, ← e]
 (repeat' constructor)
theorem B56 (ls : List SlH) (i : Int) (x : SlH) : (if 0 ≤ i ∧ i < (ls.map SlH.val).length then (ls.map SlH.val).set i.toNat x.val else ls.map SlH.val) = (P2 ls i x).map SlH.val := by
 unfold P2
 rw [List.length_map]
 split
 ·rw [List.map_set]
 ·rfl
theorem SlH.plain (x : SlH) : Go.Proofs.YtjobgnabneddjaaGreat.plain x.val = true := by cases x <;> rfl
theorem A4r {κ : Bool} {X : Nat → Prop} {S : List Nat} {w0 : World} {H Hk : List Res} {K : Value → WP} {b : Nat} {sv : Value} {ls : List SlH} {i : Int} {x : SlH} (hl : ls.length ≤ 1000) (hp : Part [.pt b (.cells #[sv] 231), .own 266 1 sv ls.length (ls.map SlH.val)] H Hk)
  (hK : ∀ u, z6 u → TW κ S w0 (.pt b (.cells #[sv] 231) :: .own 266 1 sv (P2 ls i x).length ((P2 ls i x).map SlH.val) :: Hk) (K u)) :
  TW κ S w0 H (B6 PR X 150 [.pointer (some ⟨b, 0, none⟩), .int .i64 i, x.val] K) := by
 have hlm : (ls.map SlH.val).length = ls.length := List.length_map ..
 refine B4 (Hc := [.pt b (.cells #[sv] 231), .own 266 1 sv ls.length (ls.map SlH.val)]) A4T (fun w' _ hs => ?_) hp (fun _ u hu => ?_) (α := Unit) (φ := fun _ u => z6 u) (Hn := fun _ => [.pt b (.cells #[sv] 231), .own 266 1 sv (P2 ls i x).length ((P2 ls i x).map SlH.val)])
 ·have := B6K w' b sv (ls.map SlH.val) i x.val x.plain (by rw [hlm]; exact hl) (by rw [hlm]; exact hs)
  rw [B56, hlm] at this
  rw [B0G]
  exact this
 ·exact hK u hu
theorem B2S (w : World) (b : Nat) (sv : Value) (ls : List SlH) (i : Int) (hl : ls.length ≤ 8) (hw : LW false (B2 (D6 b sv ls)) w (D6 b sv ls) w) :
  Fn PR B8 94 #[.pointer (some ⟨b, 0, none⟩), .int .i64 i] w (Rn (B2 (D6 b sv ls)) w (fun (_ : Unit) u => z6 u) fun _ => D6 b sv (P2 ls i .bld)) := by
 refine A34 (TW.goH (κ := false) ?_ hw)
 unfold v7
 simp only [D6]
 (have zz:=trivial;repeat((first|clear zz|with_reducible first|refine A3 ?_|refine A5 fun _=>?_|refine A4 fun _=>?_);try simp(disch:=first|omega|assumption|((repeat(first|exact A1|exact uH|apply A2|apply uT));first|done|fail)|(simp;first|done|omega|fail))[]))
 refine A4r (x := .bld) (ls := ls) (sv := sv) (by omega) (by (repeat' constructor)) fun u hu => ?_
 refine B1H (ls := ls) (i := i) (x := .bld) ⟨rfl, fun _ => trivial⟩ (by (repeat' constructor)) ?_
 exact B0 () hu (by (repeat' constructor))
theorem B3E (w : World) (b : Nat) (sv : Value) (ls : List SlH) (i : Int) (hl : ls.length ≤ 8) (hw : LW false (B2 (D6 b sv ls)) w (D6 b sv ls) w) :
  Fn PR B8 98 #[.pointer (some ⟨b, 0, none⟩), .int .i64 i] w (Rn (B2 (D6 b sv ls)) w (fun (_ : Unit) u => z6 u) fun _ => D6 b sv (P2 ls i .no)) := by
 refine A36 (TW.goH (κ := false) ?_ hw)
 unfold r7
 simp only [D6]
 (have zz:=trivial;repeat((first|clear zz|with_reducible first|refine A3 ?_|refine A5 fun _=>?_|refine A4 fun _=>?_);try simp(disch:=first|omega|assumption|((repeat(first|exact A1|exact uH|apply A2|apply uT));first|done|fail)|(simp;first|done|omega|fail))[]))
 refine A4r (x := .no) (ls := ls) (sv := sv) (by omega) (by (repeat' constructor)) fun u hu => ?_
 refine B1H (ls := ls) (i := i) (x := .no) ⟨rfl, fun _ => trivial⟩ (by (repeat' constructor)) ?_
 exact B0 () hu (by (repeat' constructor))
end Go.Proofs.YtjobgnabneddjaaGreat
namespace Go.Proofs.YtjobgnabneddjaaGreat
open Go
theorem B5j {κ : Bool} {H : List Res} {r : Res} (h : r ∈ H) : Up r r H H := by
 induction H with
 | nil => cases h
 | cons a H ih =>
  rcases List.mem_cons.1 h with rfl | h
  ·exact .here
  ·exact .there (ih h)
theorem B1l {κ : Bool} {X : Nat → Prop} {S : List Nat} {w0 : World} {H : List Res} {K0 : WP} {b : Nat} (hm : Res.pt b (.cells #[] 263) ∈ H) (hK : TW κ S w0 H K0) :
  TW κ S w0 H (C6 PR X (Instr.storeAt 263 (.pointer (some ⟨b, 0, none⟩)) (.agg #[])) K0) := by
 have h := C1k (κ := κ) (X := X) (S := S) (w0 := w0) (K0 := K0) (t := 263) (v := .agg #[]) (b := b) (o := 0) (c := #[]) (T := 263) rfl (B5j (κ := κ) hm) (by simp) rfl
 exact h ▸ hK
def B5B (ls : List SlH) (i : Int) : SlH := if 0 ≤ i ∧ i < ls.length then ls.getD i.toNat .no else .no
theorem B5l (ls : List SlH) (i : Int) : A30 (ls.map SlH.sp) i = (B5B ls i).sp := by
 unfold A30 B5B
 rw [List.length_map]
 split
 ·rename_i h
  rw [List.getD_eq_getElem?_getD, List.getD_eq_getElem?_getD, List.getElem?_map, List.getElem?_eq_getElem (by omega)]; rfl
 ·rfl
theorem B5k {ls : List SlH} {i : Nat} (h : i < ls.length) : (ls.map SlH.val)[i]? = some (ls.getD i .no).val := by
 rw [List.getElem?_map, List.getD_eq_getElem?_getD, List.getElem?_eq_getElem h]; rfl
theorem B4M {l : List SlV} {i : Int} {p : List H8} (h : A30 l i ≠ .bld ∨ T6 p ≠ 0) : A0v l i p = l := by
 unfold A0v
 cases hg : A30 l i with
 | no => rfl
 | rdy q => rfl
 | bld =>
  rcases h with h | h
  ·exact absurd hg h
  ·simp [h]
set_option maxHeartbeats 400000 in
theorem B4n (w : World) (b : Nat) (sv : Value) (ls : List SlH) (i : Int) (pv : Value) (p : List H8) (hl : ls.length ≤ 8) (hp : p.length ≤ 1000) (hv : ∀ w', KS false (B2 (D6 b sv ls)) w w' → G3 w' pv p.length (p.flatMap G8)) (hw : LW false (B2 (D6 b sv ls)) w (D6 b sv ls) w) :
  Fn PR B8 95 #[.pointer (some ⟨b, 0, none⟩), .int .i64 i, pv] w (Rn (B2 (D6 b sv ls)) w (fun (ls' : List SlH) u => z6 u ∧ ls'.length = ls.length ∧ ls'.map SlH.sp = A0v (ls.map SlH.sp) i p) fun ls' => D6 b sv ls') := by
 refine A4V (TW.goH (κ := false) ?_ hw)
 unfold x9
 refine Q8 (e := 266) (k := 1) (v := sv) (q := ls.length) (xs := ls.map SlH.val) (by simp only [D6]; (repeat constructor)) fun a c e => ?_
 subst e
 have no : A30 (ls.map SlH.sp) i ≠ .bld ∨ T6 p ≠ 0 → ∀ u, z6 u → z6 u ∧ ls.length = ls.length ∧ ls.map SlH.sp = A0v (ls.map SlH.sp) i p := fun h u hu => ⟨hu, rfl, (B4M h).symm⟩
 simp only [D6] at hv ⊢
 by_cases c1 : i < 0
 ·(have zz:=trivial;repeat((first|clear zz|with_reducible first|refine A3 ?_|refine A5 fun _=>?_|refine A4 fun _=>?_);try simp(disch:=first|omega|assumption|((repeat(first|exact A1|exact uH|apply A2|apply uT));first|done|fail)|(simp;first|done|omega|fail))[c1]))
  exact B0 ls (no (Or.inl (by unfold A30; rw [if_neg (by omega)]; simp)) _ (N7 _)) (by (repeat' constructor))
 by_cases c2 : (ls.length : Int) ≤ i
 ·(have zz:=trivial;repeat((first|clear zz|with_reducible first|refine A3 ?_|refine A5 fun _=>?_|refine A4 fun _=>?_);try simp(disch:=first|omega|assumption|((repeat(first|exact A1|exact uH|apply A2|apply uT));first|done|fail)|(simp;first|done|omega|fail))[c1, c2]))
  exact B0 ls (no (Or.inl (by unfold A30; rw [if_neg (by simp; omega)]; simp)) _ (N7 _)) (by (repeat' constructor))
 obtain ⟨j, rfl⟩ : ∃ j : Nat, i = j := ⟨i.toNat, by omega⟩
 have hj : j < ls.length := by omega
 have hj2 : ¬ ls.length ≤ j := by omega
 refine A0G (e := 266) (k := 1) (v := .slice a ls.length c) (q := ls.length) (xs := ls.map SlH.val) (by (repeat constructor)) (by omega) fun g gc hg => ?_
 cases hg
 (have zz:=trivial;repeat((first|clear zz|with_reducible first|refine A3 ?_|refine A5 fun _=>?_|refine A4 fun _=>?_);try simp(disch:=first|omega|assumption|((repeat(first|exact A1|exact uH|apply A2|apply uT));first|done|fail)|(simp;first|done|omega|fail))[c1, c2, hj, hj2]))
 refine D1 A3D (fun w' hw' => A45 w' pv p (by omega) (hv w' hw'.ks)) ?_
 by_cases c3 : T6 p = 0
 case neg =>
  (have zz:=trivial;repeat((first|clear zz|with_reducible first|refine A3 ?_|refine A5 fun _=>?_|refine A4 fun _=>?_);try simp(disch:=first|omega|assumption|((repeat(first|exact A1|exact uH|apply A2|apply uT));first|done|fail)|(simp;first|done|omega|fail))[c3]))
  exact B0 ls (no (Or.inr c3) _ (N7 _)) (by (repeat' constructor))
 have hat := B5k hj
 have hget : A30 (ls.map SlH.sp) j = (ls.getD j .no).sp := by rw [B5l]; unfold B5B; rw [if_pos (by omega), Int.toNat_natCast]
 obtain ⟨x, hx⟩ : ∃ x, x = ls.getD j .no := ⟨_, rfl⟩
 rw [← hx] at hat hget
 have hatt := (List.getElem?_eq_some_iff.1 hat).2
 cases x with
 | no =>
  simp only [SlH.val] at hat hatt
  (have zz:=trivial;repeat((first|clear zz|with_reducible first|refine A3 ?_|refine A5 fun _=>?_|refine A4 fun _=>?_);try simp(disch:=first|omega|assumption|((repeat(first|exact A1|exact uH|apply A2|apply uT));first|done|fail)|(simp;first|done|omega|fail))[c3, hat, hatt, hj, hj2]))
  refine B1l (by (repeat constructor)) ?_
  (have zz:=trivial;repeat((first|clear zz|with_reducible first|refine A3 ?_|refine A5 fun _=>?_|refine A4 fun _=>?_);try simp(disch:=first|omega|assumption|((repeat(first|exact A1|exact uH|apply A2|apply uT));first|done|fail)|(simp;first|done|omega|fail))[]))
  exact B0 ls (no (Or.inl (by rw [hget]; simp [SlH.sp])) _ (N7 _)) (by (repeat' constructor))
 | rdy q qv rv =>
  simp only [SlH.val] at hat hatt
  (have zz:=trivial;repeat((first|clear zz|with_reducible first|refine A3 ?_|refine A5 fun _=>?_|refine A4 fun _=>?_);try simp(disch:=first|omega|assumption|((repeat(first|exact A1|exact uH|apply A2|apply uT));first|done|fail)|(simp;first|done|omega|fail))[c3, hat, hatt, hj, hj2]))
  refine B1l (by (repeat constructor)) ?_
  (have zz:=trivial;repeat((first|clear zz|with_reducible first|refine A3 ?_|refine A5 fun _=>?_|refine A4 fun _=>?_);try simp(disch:=first|omega|assumption|((repeat(first|exact A1|exact uH|apply A2|apply uT));first|done|fail)|(simp;first|done|omega|fail))[]))
  exact B0 ls (no (Or.inl (by rw [hget]; simp [SlH.sp])) _ (N7 _)) (by (repeat' constructor))
 | bld =>
  simp only [SlH.val] at hat hatt
  have hp32 : p.length ≤ 32 := by
   unfold T6 at c3
   by_cases h : j3 p && decide (p.length ≤ 32)
   ·simp at h; exact h.2
   ·rw [if_neg h] at c3; omega
  (have zz:=trivial;repeat((first|clear zz|with_reducible first|refine A3 ?_|refine A5 fun _=>?_|refine A4 fun _=>?_);try simp(disch:=first|omega|assumption|((repeat(first|exact A1|exact uH|apply A2|apply uT));first|done|fail)|(simp;first|done|omega|fail))[c3, hat, hatt, hj, hj2]))
  refine B1l (by (repeat constructor)) ?_
  (have zz:=trivial;repeat((first|clear zz|with_reducible first|refine A3 ?_|refine A5 fun _=>?_|refine A4 fun _=>?_);try simp(disch:=first|omega|assumption|((repeat(first|exact A1|exact uH|apply A2|apply uT));first|done|fail)|(simp;first|done|omega|fail))[]))
  refine N4 W4 (fun w' hw' => B16 w' pv p.length (p.flatMap G8) (by omega) (K7 (k := 2) (fun _ => rfl) p) (B1W p) (hv w' hw'.ks)) ?_
  rintro _ qv rfl
  refine N4 A8k (fun w' hw' => B8F w' pv p (by omega) (hv w' hw'.ks)) ?_
  rintro _ rv rfl
  refine A2l (e := 155) (k := 2) (v := qv) (q := p.length) (xs := p.flatMap G8) (by (repeat constructor)) fun hq1 hq2 hq3 => ?_
  refine A2l (e := 290) (k := 2) (v := rv) (q := (N6 (E9 p)).length) (xs := (N6 (E9 p)).flatMap E7) (by (repeat constructor)) fun hr1 hr2 hr3 => ?_
  (have zz:=trivial;repeat((first|clear zz|with_reducible first|refine A3 ?_|refine A5 fun _=>?_|refine A4 fun _=>?_);try simp(disch:=first|omega|assumption|((repeat(first|exact A1|exact uH|apply A2|apply uT));first|done|fail)|(simp;first|done|omega|fail))[hq1, hq2, hr1, hr2]))
  refine A4r (x := .rdy p qv rv) (ls := ls) (by omega) (by (repeat' constructor)) fun u hu => ?_
  refine B6G (ls := ls) (i := (j : Nat)) (p := p) (pv := qv) (rv := rv) hp32 (by unfold A62 A6k; (repeat' constructor)) ?_
  refine B0 (P2 ls (j : Nat) (.rdy p qv rv)) ⟨hu, B0G _ _ _, ?_⟩ (by (repeat' constructor))
  rw [A7w]
  unfold A0v
  rw [hget]
  show A0f _ _ (.rdy p) = (if T6 p = 0 then A0f _ _ (.rdy p) else _)
  rw [if_pos c3]
def SlH.rd (w : World) : SlH → Prop
 | .rdy p pv rv => G3 w pv p.length (p.flatMap G8) ∧ G3 w rv (N6 (E9 p)).length ((N6 (E9 p)).flatMap E7) ∧ p.length ≤ 32
 | _ => True
structure SlAt (w : World) (b : Nat) (sv : Value) (ls : List SlH) : Prop where
 blk : bl w b = some (.cells #[sv] 231 (0, 0))
 rd : G3 w sv ls.length (ls.map SlH.val)
 all : ∀ s ∈ ls, s.rd w
theorem SlAt.own {κ : Bool} {S : List Nat} {w0 w : World} {H : List Res} {b : Nat} {sv : Value} {ls : List SlH} (hw : LW κ S w0 H w) (h1 : Res.pt b (.cells #[sv] 231) ∈ H) (h2 : Res.own 266 1 sv ls.length (ls.map SlH.val) ∈ H) (h3 : a8 ls ∈ H) : SlAt w b sv ls := by
 refine ⟨hw.pt h1, P4.own (e := 266) (k := 1) h2 w hw, fun s hs => ?_⟩
 have := (hw.hold _ h3 : A3r ls w) s hs
 cases s with
 | no => trivial
 | bld => trivial
 | rdy p pv rv => exact ⟨K9.rd this.1, K9.rd this.2.1, this.2.2⟩
theorem SlAt.at {w : World} {b : Nat} {sv : Value} {ls : List SlH} (h : SlAt w b sv ls) {i : Nat} (hi : i < ls.length) : (ls.getD i .no).rd w := by
 apply h.all
 rw [List.getD_eq_getElem?_getD, List.getElem?_eq_getElem hi]
 exact List.getElem_mem hi
theorem SlH.rdks {κ : Bool} {w w' : World} {s : SlH} (hk : KS κ [] w w') (h : s.rd w) : s.rd w' := by
 cases s with
 | no => trivial
 | bld => trivial
 | rdy p pv rv => exact ⟨h.1.ks hk (by simp), h.2.1.ks hk (by simp), h.2.2⟩
theorem SlAt.ks {κ : Bool} {w w' : World} {b : Nat} {sv : Value} {ls : List SlH} (h : SlAt w b sv ls) (hk : KS κ [] w w') : SlAt w' b sv ls :=
 ⟨hk.2.1 _ _ (by simp) rfl h.blk, h.rd.ks hk (by simp), fun s hs => SlH.rdks hk (h.all s hs)⟩
theorem B7U (n : Nat) : (Builtin.zeroCells Value.nilIface.cells n).toList = (List.replicate n SlH.no).map SlH.val := by
 have hz : (Builtin.zeroCells Value.nilIface.cells n).toList.length = n := by simp [size_zeroCells, Value.cells]
 apply List.ext_getElem (by rw [hz]; simp)
 intro i h1 h2
 simp [Builtin.zeroCells, Value.cells, SlH.val, Nat.mod_one]
theorem B6V (w : World) (n : Nat) (hn : n ≤ 8) : Fn PR B8 70 #[.int .i64 (n : Nat)] w (Rn [] w (fun (x : Nat × Value) u => u = .pointer (some ⟨x.1, 0, none⟩)) fun x => D6 x.1 x.2 (List.replicate n SlH.no)) := by
 refine A9P (TW.go (κ := false) (S := []) ?_)
 unfold A5U
 have h1 : min ((n : Nat) : Int) 8 = n := by omega
 have h2 : max 0 ((n : Nat) : Int) = n := by omega
 (have zz:=trivial;repeat((first|clear zz|with_reducible first|refine A3 ?_|refine A5 fun _=>?_|refine A4 fun _=>?_);try simp(disch:=first|omega|assumption|((repeat(first|exact A1|exact uH|apply A2|apply uT));first|done|fail)|(simp;first|done|omega|fail))[h1, h2]))
 refine A3N (by omega) (by omega) (by omega) (by omega) fun bs => ?_
 rw [Int.toNat_natCast, B7U]
 (have zz:=trivial;repeat((first|clear zz|with_reducible first|refine A3 ?_|refine A5 fun _=>?_|refine A4 fun _=>?_);try simp(disch:=first|omega|assumption|((repeat(first|exact A1|exact uH|apply A2|apply uT));first|done|fail)|(simp;first|done|omega|fail))[]))
 rename_i b
 refine A1U (r := a8 (List.replicate n SlH.no)) (Hc := []) Part.nil (fun w _ => (fun s hs => by rw [List.eq_of_mem_replicate hs]; trivial : A3r _ w)) (fun b hb => ?_) ?_
 ·have hb' : b ∈ l3 (List.replicate n SlH.no) := hb
  rw [l3, List.mem_flatMap] at hb'
  obtain ⟨s, hs, hbs⟩ := hb'
  rw [List.eq_of_mem_replicate hs] at hbs; cases hbs
 ·refine B0 (b, .slice (some ⟨bs, 0, none⟩) n n) rfl ?_
  simp only [D6, List.length_replicate, List.map_replicate]
  (repeat' constructor)
end Go.Proofs.YtjobgnabneddjaaGreat
namespace Go.Proofs.YtjobgnabneddjaaGreat
open Go
def E8 (c : CfgV) : Array Value := #[.int .i64 c.wk, .int .i64 c.sh, .int .i64 c.cp, .int .i64 c.idle, .int .i64 c.sl]
def D7 (c : CfgV) (pc ps pk tv pv now : Value) : Array Value := #[.int .i64 c.wk, .int .i64 c.sh, .int .i64 c.cp, .int .i64 c.idle, .int .i64 c.sl, pc, ps, pk, tv, pv, now]
def D3 (b : Nat) (c : CfgV) (pc ps pk tv pv now : Value) : Res := .pt b (.cells (D7 c pc ps pk tv pv now) 39)
theorem B4z (w : World) (b b1 : Nat) (c : CfgV) (pc ps pk tv pv now : Value) (hw1 : 0 ≤ c.wk ∧ c.wk ≤ 64) (hs1 : 0 ≤ c.sh ∧ c.sh ≤ 16) (hb1 : bl w b1 = some (.cells (E8 c) 23 (0, 0))) (hne : b1 ≠ b) (hw : LW false [b] w [D3 b c pc ps pk tv pv now] w) :
  Fn PR B8 67 #[.pointer (some ⟨b, 0, none⟩), .pointer (some ⟨b1, 0, none⟩)] w (Rn [b] w (fun (x : Nat × Value × Value) u => u = .tuple #[]) fun x => D3 b c (.pointer (some ⟨x.1, 0, none⟩)) ps pk tv pv now :: B3 x.1 0 x.2.1 x.2.2 (List.replicate (2 + c.wk.toNat) 0) (List.replicate c.sh.toNat (-1))) := by
 refine A6x (TW.goH (κ := false) (S := [b]) ?_ hw)
 unfold A1p
 have h0 : w.cell? ⟨b1, 0, none⟩ = some (.int .i64 c.wk) := by rw [C8 hb1]; rfl
 have h1 : w.cell? ⟨b1, 1, none⟩ = some (.int .i64 c.sh) := by rw [C8 hb1]; rfl
 obtain ⟨n, hn⟩ : ∃ n : Nat, c.wk = n := ⟨c.wk.toNat, by omega⟩
 obtain ⟨k, hk⟩ : ∃ k : Nat, c.sh = k := ⟨c.sh.toNat, by omega⟩
 rw [hn] at h0
 rw [hk] at h1
 simp only [D3, D7, hn, hk, Int.toNat_natCast]
 (have zz:=trivial;repeat((first|clear zz|with_reducible first|refine A3 ?_|refine A5 fun _=>?_|refine A4 fun _=>?_);try simp(disch:=first|omega|assumption|((repeat(first|exact A1|exact uH|apply A2|apply uT));first|done|fail)|(simp;first|done|omega|fail))[h0, h1, hne]))
 rw [show (2 + (n : Int)) = ((2 + n : Nat) : Int) by omega]
 refine N4 A8n (fun w' _ => B0k w' (2 + n) k (by omega) (by omega)) ?_
 rintro x v rfl
 simp only [B3]
 (have zz:=trivial;repeat((first|clear zz|with_reducible first|refine A3 ?_|refine A5 fun _=>?_|refine A4 fun _=>?_);try simp(disch:=first|omega|assumption|((repeat(first|exact A1|exact uH|apply A2|apply uT));first|done|fail)|(simp;first|done|omega|fail))[]))
 exact B0 x rfl (by (repeat' constructor))
theorem B3f (w : World) (b b1 : Nat) (c : CfgV) (pc ps pk tv pv now : Value) (hsl : 0 ≤ c.sl ∧ c.sl ≤ 8) (hb1 : bl w b1 = some (.cells (E8 c) 23 (0, 0))) (hne : b1 ≠ b) (hw : LW false [b] w [D3 b c pc ps pk tv pv now] w) :
  Fn PR B8 69 #[.pointer (some ⟨b, 0, none⟩), .pointer (some ⟨b1, 0, none⟩)] w (Rn [b] w (fun (x : Nat × Value × Nat) u => u = .tuple #[]) fun x => D3 b c pc (.pointer (some ⟨x.1, 0, none⟩)) (.pointer (some ⟨x.2.2, 0, none⟩)) tv pv now :: L6 x.2.2 (List.replicate c.sl.toNat (0, 0)) :: D6 x.1 x.2.1 (List.replicate c.sl.toNat SlH.no)) := by
 refine A6f (TW.goH (κ := false) (S := [b]) ?_ hw)
 unfold A1v
 have h0 : w.cell? ⟨b1, 4, none⟩ = some (.int .i64 c.sl) := by rw [C8 hb1]; rfl
 obtain ⟨n, hn⟩ : ∃ n : Nat, c.sl = n := ⟨c.sl.toNat, by omega⟩
 rw [hn] at h0
 simp only [D3, D7, hn, Int.toNat_natCast]
 (have zz:=trivial;repeat((first|clear zz|with_reducible first|refine A3 ?_|refine A5 fun _=>?_|refine A4 fun _=>?_);try simp(disch:=first|omega|assumption|((repeat(first|exact A1|exact uH|apply A2|apply uT));first|done|fail)|(simp;first|done|omega|fail))[h0, hne]))
 refine N4 A8l (fun w' _ => B6V w' n (by omega)) ?_
 rintro x v rfl
 simp only [D6]
 (have zz:=trivial;repeat((first|clear zz|with_reducible first|refine A3 ?_|refine A5 fun _=>?_|refine A4 fun _=>?_);try simp(disch:=first|omega|assumption|((repeat(first|exact A1|exact uH|apply A2|apply uT));first|done|fail)|(simp;first|done|omega|fail))[h0, hne]))
 refine N4 A8m (fun w' _ => B5m w' n (by omega)) ?_
 rintro bk v rfl
 (have zz:=trivial;repeat((first|clear zz|with_reducible first|refine A3 ?_|refine A5 fun _=>?_|refine A4 fun _=>?_);try simp(disch:=first|omega|assumption|((repeat(first|exact A1|exact uH|apply A2|apply uT));first|done|fail)|(simp;first|done|omega|fail))[]))
 refine B0 (x.1, x.2, bk) rfl ?_
 simp only [List.length_replicate, List.map_replicate]
 (repeat' constructor)
def e7 (l : List Nat) : List Value := l.map fun n : Nat => .int .i64 (n : Int)
@[simp] theorem C1a (l : List Nat) : (e7 l).length = l.length := by unfold e7; rw [List.length_map]
theorem B4j (w : World) (b b1 : Nat) (c : CfgV) (pc ps pk now : Value) (hs1 : 1 ≤ c.sh ∧ c.sh ≤ 16) (hc1 : 1 ≤ c.cp ∧ c.cp ≤ 64) (hb1 : bl w b1 = some (.cells (E8 c) 23 (0, 0))) (hne : b1 ≠ b) (hw : LW false [b] w [D3 b c pc ps pk (.slice none 0 0) (.slice none 0 0) now] w) :
  Fn PR B8 72 #[.pointer (some ⟨b, 0, none⟩), .pointer (some ⟨b1, 0, none⟩)] w (Rn [b] w (fun (x : Value × Value × List (Value × List EnV)) u => u = .tuple #[] ∧ x.2.2.map (·.2) = List.replicate c.sh.toNat (P3 c.cp.toNat)) fun x => [D3 b c pc ps pk x.1 x.2.1 now, .own 84 1 x.1 x.2.2.length (x.2.2.map (·.1)), .own 3 1 x.2.1 x.2.2.length (e7 (List.replicate c.sh.toNat 0)), K8 x.2.2]) := by
 refine A66 (TW.goH (κ := false) (S := [b]) ?_ hw)
 unfold A14
 have h0 : w.cell? ⟨b1, 1, none⟩ = some (.int .i64 c.sh) := by rw [C8 hb1]; rfl
 have h1 : w.cell? ⟨b1, 2, none⟩ = some (.int .i64 c.cp) := by rw [C8 hb1]; rfl
 obtain ⟨n, hn⟩ : ∃ n : Nat, c.sh = n := ⟨c.sh.toNat, by omega⟩
 obtain ⟨k, hk⟩ : ∃ k : Nat, c.cp = k := ⟨c.cp.toNat, by omega⟩
 rw [hn] at h0
 rw [hk] at h1
 simp only [D3, D7, hn, hk, Int.toNat_natCast]
 (have zz:=trivial;repeat((first|clear zz|with_reducible first|refine A3 ?_|refine A5 fun _=>?_|refine A4 fun _=>?_);try simp(disch:=first|omega|assumption|((repeat(first|exact A1|exact uH|apply A2|apply uT));first|done|fail)|(simp;first|done|omega|fail))[h0, h1, hne]))
 refine A0L 84 1 ?_
 refine A0L 3 1 ?_
 refine B30 ?_
 refine Sels.tw (rs := [.pt b (.cells #[.int .i64 c.wk, .int .i64 (n : Nat), .int .i64 (k : Nat), .int .i64 c.idle, .int .i64 c.sl, pc, ps, pk, .slice none 0 0, .slice none 0 0, now] 39), .own 84 1 (.slice none 0 0) 0 [], .own 3 1 (.slice none 0 0) 0 [], K8 []]) (by (repeat' constructor)) ?_
 refine A25 (α := Option Addr × Nat × Option Addr × Nat × List (Value × List EnV)) n (fun i x => [.pt b (.cells #[.int .i64 c.wk, .int .i64 (n : Nat), .int .i64 (k : Nat), .int .i64 c.idle, .int .i64 c.sl, pc, ps, pk, .slice x.1 i x.2.1, .slice x.2.2.1 i x.2.2.2.1, now] 39), .own 84 1 (.slice x.1 i x.2.1) i (x.2.2.2.2.map (·.1)), .own 3 1 (.slice x.2.2.1 i x.2.2.2.1) i (e7 (List.replicate i 0)), K8 x.2.2.2.2]) (fun i x => x.2.2.2.2.length = i ∧ x.2.2.2.2.map (·.2) = List.replicate i (P3 k)) (none, 0, none, 0, []) ⟨rfl, rfl⟩ ?_
 ·rintro i ⟨ta, tc, pa, qc, ts⟩ hi ⟨hlen, hmap⟩ L hL
  simp only at hlen hmap ⊢
  by_cases hlt : i < n
  ·(have zz:=trivial;repeat((first|clear zz|with_reducible first|refine A3 ?_|refine A5 fun _=>?_|refine A4 fun _=>?_);try simp(disch:=first|omega|assumption|((repeat(first|exact A1|exact uH|apply A2|apply uT));first|done|fail)|(simp;first|done|omega|fail))[h1, hne, hlt]))
   refine N4 A4M (fun w' _ => A50 w' k (by omega)) ?_
   intro y u hu
   subst hu
   refine Q8 (e := 218) (k := 4) (v := u) (q := (P3 k).length) (xs := (P3 k).flatMap G1) (by (repeat constructor)) fun ua uc hu => ?_
   subst hu
   (have zz:=trivial;repeat((first|clear zz|with_reducible first|refine A3 ?_|refine A5 fun _=>?_|refine A4 fun _=>?_|refine r6 fun _=>?_|refine u9 (hK:=fun _=>?_)|refine s0 (hK:=fun _=>?_)|refine x6 (hK:=fun _=>?_)|refine v6 (hK:=fun _=>?_)|refine s7 (hK:=fun _=>?_));try simp(disch:=first|omega|assumption|((repeat(first|exact A1|exact uH|apply A2|apply uT));first|done|fail)|(simp;first|done|omega|fail))[h1, hne, hlt]))
   refine A12 (e := 84) (k := 1) (q := i) (r := 1) (xs := ts.map (·.1)) (news := [.slice ua (P3 k).length uc]) (by (repeat constructor)) (P4.own (by (repeat constructor))) (by decide) (by simp [hlen]) (by simp) (by simp only [maxLen]; omega) (by omega) fun a' c' => ?_
   (have zz:=trivial;repeat((first|clear zz|with_reducible first|refine A3 ?_|refine A5 fun _=>?_|refine A4 fun _=>?_|refine r6 fun _=>?_|refine u9 (hK:=fun _=>?_)|refine s0 (hK:=fun _=>?_)|refine x6 (hK:=fun _=>?_)|refine v6 (hK:=fun _=>?_)|refine s7 (hK:=fun _=>?_));try simp(disch:=first|omega|assumption|((repeat(first|exact A1|exact uH|apply A2|apply uT));first|done|fail)|(simp;first|done|omega|fail))[h1, hne, hlt]))
   refine A12 (e := 3) (k := 1) (q := i) (r := 1) (xs := e7 (List.replicate i 0)) (news := [.int .i64 0]) (by (repeat constructor)) (P4.own (by (repeat constructor))) (by decide) (by simp) (by simp) (by simp only [maxLen]; omega) (by omega) fun a'' c'' => ?_
   (have zz:=trivial;repeat((first|clear zz|with_reducible first|refine A3 ?_|refine A5 fun _=>?_|refine A4 fun _=>?_);try simp(disch:=first|omega|assumption|((repeat(first|exact A1|exact uH|apply A2|apply uT));first|done|fail)|(simp;first|done|omega|fail))[]))
   refine A13 (r := .slice ua (P3 k).length uc) (l := P3 k) (ts := ts) (by (repeat' constructor)) ?_
   have h := hL hlt (a', c', a'', c'', ts ++ [(.slice ua (P3 k).length uc, P3 k)]) ⟨by simp [hlen], by rw [List.map_append, hmap, List.replicate_succ']; rfl⟩
   have e : e7 (List.replicate (i + 1) 0) = e7 (List.replicate i 0) ++ [.int .i64 0] := by rw [List.replicate_succ', e7, List.map_append]; rfl
   simp only [List.map_append, List.map_cons, List.map_nil, e] at h
   exact Sels.tw (by (repeat' constructor)) h
  ·obtain rfl : i = n := by omega
   (have zz:=trivial;repeat((first|clear zz|with_reducible first|refine A3 ?_|refine A5 fun _=>?_|refine A4 fun _=>?_);try simp(disch:=first|omega|assumption|((repeat(first|exact A1|exact uH|apply A2|apply uT));first|done|fail)|(simp;first|done|omega|fail))[]))
   refine B0 (.slice ta i tc, .slice pa i qc, ts) ⟨rfl, hmap⟩ ?_
   simp only [hlen]
   (repeat' constructor)
end Go.Proofs.YtjobgnabneddjaaGreat
namespace Go.Proofs.YtjobgnabneddjaaGreat
open Go
structure WoH where
 b : Nat
 bc : Nat
 bs : Nat
 bk : Nat
 cn : Int
 cv : Value
 ov : Value
 sv : Value
 tv : Value
 pv : Value
 c : CfgV
 cells : List Int
 own : List Int
 ls : List SlH
 keep : List (Int × Int)
 ts : List (Value × List EnV)
 pl : List Nat
 now : Int
def C3 (m : WoH) : List Res := [D3 m.b m.c (.pointer (some ⟨m.bc, 0, none⟩)) (.pointer (some ⟨m.bs, 0, none⟩)) (.pointer (some ⟨m.bk, 0, none⟩)) m.tv m.pv (.int .i64 m.now),
 .pt m.bc (.cells #[.int .i64 m.cn, m.cv, m.ov] 141), .own 3 1 m.cv m.cells.length (D4 m.cells), .own 3 1 m.ov m.own.length (D4 m.own),
 .pt m.bs (.cells #[m.sv] 231), .own 266 1 m.sv m.ls.length (m.ls.map SlH.val), a8 m.ls, L6 m.bk m.keep,
 .own 84 1 m.tv m.ts.length (m.ts.map (·.1)), .own 3 1 m.pv m.pl.length (e7 m.pl)]
def WoH.ws (m : WoH) : WS := ⟨m.c, m.cells, m.own, m.ls.map SlH.sp, m.keep, m.ts.map (·.2), m.pl, m.now⟩
def T5 (c : CfgV) : WS := ⟨c, List.replicate (2 + c.wk.toNat) 0, List.replicate c.sh.toNat (-1), List.replicate c.sl.toNat .no, List.replicate c.sl.toNat (0, 0), List.replicate c.sh.toNat (P3 c.cp.toNat), List.replicate c.sh.toNat 0, 0⟩
abbrev B5N := (Nat × Value × Value) × (Nat × Value × Nat) × (Value × Value × List (Value × List EnV))
def N3 : Value := .pointer none
def G2 : Value := .slice none 0 0
def A5g (b : Nat) (c : CfgV) : Nat → B5N → List Res
 | 0, x => [D3 b c N3 N3 N3 G2 G2 (.int .i64 0)]
 | 1, x => D3 b c (.pointer (some ⟨x.1.1, 0, none⟩)) N3 N3 G2 G2 (.int .i64 0) :: B3 x.1.1 0 x.1.2.1 x.1.2.2 (List.replicate (2 + c.wk.toNat) 0) (List.replicate c.sh.toNat (-1))
 | 2, x => D3 b c (.pointer (some ⟨x.1.1, 0, none⟩)) (.pointer (some ⟨x.2.1.1, 0, none⟩)) (.pointer (some ⟨x.2.1.2.2, 0, none⟩)) G2 G2 (.int .i64 0) :: (B3 x.1.1 0 x.1.2.1 x.1.2.2 (List.replicate (2 + c.wk.toNat) 0) (List.replicate c.sh.toNat (-1)) ++ L6 x.2.1.2.2 (List.replicate c.sl.toNat (0, 0)) :: D6 x.2.1.1 x.2.1.2.1 (List.replicate c.sl.toNat SlH.no))
 | _, x => D3 b c (.pointer (some ⟨x.1.1, 0, none⟩)) (.pointer (some ⟨x.2.1.1, 0, none⟩)) (.pointer (some ⟨x.2.1.2.2, 0, none⟩)) x.2.2.1 x.2.2.2.1 (.int .i64 0) :: (B3 x.1.1 0 x.1.2.1 x.1.2.2 (List.replicate (2 + c.wk.toNat) 0) (List.replicate c.sh.toNat (-1)) ++ L6 x.2.1.2.2 (List.replicate c.sl.toNat (0, 0)) :: (D6 x.2.1.1 x.2.1.2.1 (List.replicate c.sl.toNat SlH.no) ++ [.own 84 1 x.2.2.1 x.2.2.2.2.length (x.2.2.2.2.map (·.1)), .own 3 1 x.2.2.2.1 x.2.2.2.2.length (e7 (List.replicate c.sh.toNat 0)), K8 x.2.2.2.2]))
theorem B4D (w : World) (b1 : Nat) (c : CfgV) (pv : Value) (hok : Q9 c = true) (hb1 : bl w b1 = some (.cells (E8 c) 23 (0, 0)))
  (hv : G3 w pv 3 [.func (.func 67) #[] #[.pointer (some ⟨b1, 0, none⟩)], .func (.func 69) #[] #[.pointer (some ⟨b1, 0, none⟩)], .func (.func 72) #[] #[.pointer (some ⟨b1, 0, none⟩)]]) :
  Fn PR B8 66 #[c.val, pv] w (Rn [] w (fun (y : WoH) u => u = .pointer (some ⟨y.b, 0, none⟩) ∧ y.c = c ∧ y.ws = T5 c) fun y => C3 y ++ [K8 y.ts]) := by
 refine A8q (TW.go (κ := false) (S := []) ?_)
 unfold A4F
 have hb : (1 ≤ c.wk ∧ c.wk ≤ 64) ∧ (1 ≤ c.sh ∧ c.sh ≤ 16) ∧ (1 ≤ c.cp ∧ c.cp ≤ 64) ∧ (2 ≤ c.sl ∧ c.sl ≤ 8) := by
  simp [Q9, V3] at hok; omega
 obtain ⟨a, cap, rfl, hr⟩ := hv.form
 obtain ⟨g, o, rfl, hrow⟩ := hr (by omega)
 simp only [CfgV.val]
 (have zz:=trivial;repeat((first|clear zz|with_reducible first|refine A3 ?_|refine A5 fun _=>?_|refine A4 fun _=>?_);try simp(disch:=first|omega|assumption|((repeat(first|exact A1|exact uH|apply A2|apply uT));first|done|fail)|(simp;first|done|omega|fail))[]))
 rename_i b2 b
 refine A25 (α := B5N) 3 (fun i x => A5g b c i x ++ [.pt b2 (.cells (E8 c) 23)]) (fun i x => i = 3 → x.2.2.2.2.map (·.2) = List.replicate c.sh.toNat (P3 c.cp.toNat)) ((0, N3, N3), (0, N3, 0), (N3, N3, [])) (by omega) ?_ (by simp [A5g, D3, D7, E8, N3, G2])
 have r0 : w.cell? ⟨g, o, none⟩ = some (.func (.func 67) #[] #[.pointer (some ⟨b1, 0, none⟩)]) := hrow 0 (by simp)
 have r1 : w.cell? ⟨g, o + 1, none⟩ = some (.func (.func 69) #[] #[.pointer (some ⟨b1, 0, none⟩)]) := hrow 1 (by simp)
 have r2 : w.cell? ⟨g, o + 2, none⟩ = some (.func (.func 72) #[] #[.pointer (some ⟨b1, 0, none⟩)]) := hrow 2 (by simp)
 have hne : ∀ {w' : World} {A : List Res}, LW false [] w A w' → ∀ pc ps pk tv pv now, D3 b c pc ps pk tv pv now ∈ A → b1 ≠ b := fun {w' A} hw' pc ps pk tv pv now hm e => by
  have := (hw'.own _ hm b (by simp [D3, Res.foot])).1
  have h1 := G7 hb1
  rcases this with h | h
  ·cases h
  ·omega
 have hbb : ∀ w', KS false [] w w' → bl w' b1 = some (.cells (E8 c) 23 (0, 0)) := fun w' hk => hk.2.1 _ _ (by simp) rfl hb1
 rintro i ⟨⟨bc, cv, ov⟩, ⟨bs, sv, bk⟩, ⟨tv, pv', ts⟩⟩ hi hφ L hL
 have hi4 : i = 0 ∨ i = 1 ∨ i = 2 ∨ i = 3 := by omega
 rcases hi4 with rfl | rfl | rfl | rfl
 ·simp only [A5g, List.cons_append, List.nil_append, B3] at hL ⊢
  (have zz:=trivial;repeat((first|clear zz|with_reducible first|refine A3 ?_|refine A5 fun _=>?_|refine A4 fun _=>?_);try simp(disch:=first|omega|assumption|((repeat(first|exact A1|exact uH|apply A2|apply uT));first|done|fail)|(simp;first|done|omega|fail))[r0]))
  refine B4 (Hc := [D3 b c N3 N3 N3 G2 G2 (.int .i64 0)]) A6B (fun w' hw' hs => B4z w' b b1 c _ _ _ _ _ _ (by omega) (by omega) (hbb w' hw'.ks) (hne hw' _ _ _ _ _ _ (List.mem_cons_self ..)) hs) (by (repeat' constructor)) ?_
  rintro x v rfl
  simp only [B3, List.cons_append, List.nil_append]
  (have zz:=trivial;repeat((first|clear zz|with_reducible first|refine A3 ?_|refine A5 fun _=>?_|refine A4 fun _=>?_);try simp(disch:=first|omega|assumption|((repeat(first|exact A1|exact uH|apply A2|apply uT));first|done|fail)|(simp;first|done|omega|fail))[]))
  have h := hL (by omega) (x, (0, N3, 0), (N3, N3, [])) (by omega)
  simp only [List.length_replicate, List.map_replicate] at h ⊢
  exact Sels.tw (by (repeat' constructor)) h
 ·simp only [A5g, List.cons_append, List.nil_append, B3, D6] at hL ⊢
  (have zz:=trivial;repeat((first|clear zz|with_reducible first|refine A3 ?_|refine A5 fun _=>?_|refine A4 fun _=>?_);try simp(disch:=first|omega|assumption|((repeat(first|exact A1|exact uH|apply A2|apply uT));first|done|fail)|(simp;first|done|omega|fail))[r1]))
  refine B4 (Hc := [D3 b c (.pointer (some ⟨bc, 0, none⟩)) N3 N3 G2 G2 (.int .i64 0)]) A6b (fun w' hw' hs => B3f w' b b1 c _ _ _ _ _ _ (by omega) (hbb w' hw'.ks) (hne hw' _ _ _ _ _ _ (List.mem_cons_self ..)) hs) (by (repeat' constructor)) ?_
  rintro x v rfl
  simp only [D6, List.cons_append, List.nil_append]
  (have zz:=trivial;repeat((first|clear zz|with_reducible first|refine A3 ?_|refine A5 fun _=>?_|refine A4 fun _=>?_);try simp(disch:=first|omega|assumption|((repeat(first|exact A1|exact uH|apply A2|apply uT));first|done|fail)|(simp;first|done|omega|fail))[]))
  have h := hL (by omega) ((bc, cv, ov), x, (N3, N3, [])) (by omega)
  simp only [List.length_replicate, List.map_replicate] at h ⊢
  exact Sels.tw (by (repeat' constructor)) h
 ·simp only [A5g, List.cons_append, List.nil_append, B3, D6] at hL ⊢
  (have zz:=trivial;repeat((first|clear zz|with_reducible first|refine A3 ?_|refine A5 fun _=>?_|refine A4 fun _=>?_);try simp(disch:=first|omega|assumption|((repeat(first|exact A1|exact uH|apply A2|apply uT));first|done|fail)|(simp;first|done|omega|fail))[r2]))
  refine B4 (Hc := [D3 b c (.pointer (some ⟨bc, 0, none⟩)) (.pointer (some ⟨bs, 0, none⟩)) (.pointer (some ⟨bk, 0, none⟩)) G2 G2 (.int .i64 0)]) A6L (fun w' hw' hs => B4j w' b b1 c _ _ _ _ (by omega) (by omega) (hbb w' hw'.ks) (hne hw' _ _ _ _ _ _ (List.mem_cons_self ..)) hs) (by (repeat' constructor)) ?_
  rintro x v ⟨rfl, hx⟩
  simp only [List.cons_append, List.nil_append]
  (have zz:=trivial;repeat((first|clear zz|with_reducible first|refine A3 ?_|refine A5 fun _=>?_|refine A4 fun _=>?_);try simp(disch:=first|omega|assumption|((repeat(first|exact A1|exact uH|apply A2|apply uT));first|done|fail)|(simp;first|done|omega|fail))[]))
  have h := hL (by omega) ((bc, cv, ov), (bs, sv, bk), x) (fun _ => hx)
  simp only [List.length_replicate, List.map_replicate] at h ⊢
  exact Sels.tw (by (repeat' constructor)) h
 ·have ht := hφ rfl
  simp only [A5g, List.cons_append, List.nil_append, B3, D6] at ht ⊢
  have hlen : ts.length = c.sh.toNat := by
   have := congrArg List.length ht
   simpa using this
  (have zz:=trivial;repeat((first|clear zz|with_reducible first|refine A3 ?_|refine A5 fun _=>?_|refine A4 fun _=>?_);try simp(disch:=first|omega|assumption|((repeat(first|exact A1|exact uH|apply A2|apply uT));first|done|fail)|(simp;first|done|omega|fail))[]))
  refine B0 ⟨b, bc, bs, bk, 0, cv, ov, sv, tv, pv', c, List.replicate (2 + c.wk.toNat) 0, List.replicate c.sh.toNat (-1), List.replicate c.sl.toNat SlH.no, List.replicate c.sl.toNat (0, 0), ts, List.replicate c.sh.toNat 0, 0⟩ ⟨rfl, rfl, by simp [WoH.ws, T5, ht, SlH.sp]⟩ ?_
  simp only [C3, List.cons_append, List.nil_append, List.length_replicate, List.map_replicate, hlen]
  (repeat' constructor)
end Go.Proofs.YtjobgnabneddjaaGreat
namespace Go.Proofs.YtjobgnabneddjaaGreat
open Go
theorem A71 (w : World) (c : CfgV) : Fn PR B8 16 #[c.val] w (Rn [] w (fun (y : WoH) u => if Q9 c then u = .tuple #[.pointer (some ⟨y.b, 0, none⟩), .int .i64 0] ∧ y.c = c ∧ y.ws = T5 c else u = .tuple #[.pointer none, .int .i64 1]) fun y => if Q9 c then C3 y ++ [K8 y.ts] else []) := by
 refine A9f (TW.go (κ := false) (S := []) ?_)
 unfold A4w
 simp only [CfgV.val]
 (have zz:=trivial;repeat((first|clear zz|with_reducible first|refine A3 ?_|refine A5 fun _=>?_|refine A4 fun _=>?_);try simp(disch:=first|omega|assumption|((repeat(first|exact A1|exact uH|apply A2|apply uT));first|done|fail)|(simp;first|done|omega|fail))[]))
 rename_i b1
 refine D1 A63 (fun w' _ => B18 w' c) ?_
 cases hok : Q9 c with
 | false =>
  (have zz:=trivial;repeat((first|clear zz|with_reducible first|refine A3 ?_|refine A5 fun _=>?_|refine A4 fun _=>?_);try simp(disch:=first|omega|assumption|((repeat(first|exact A1|exact uH|apply A2|apply uT));first|done|fail)|(simp;first|done|omega|fail))[]))
  exact B0 ⟨0, 0, 0, 0, 0, N3, N3, N3, N3, N3, c, [], [], [], [], [], [], 0⟩ (by simp) Sels.nil
 | true =>
  (have zz:=trivial;repeat((first|clear zz|with_reducible first|refine A3 ?_|refine A5 fun _=>?_|refine A4 fun _=>?_|refine r6 fun _=>?_|refine u9 (hK:=fun _=>?_)|refine s0 (hK:=fun _=>?_)|refine x6 (hK:=fun _=>?_)|refine v6 (hK:=fun _=>?_)|refine s7 (hK:=fun _=>?_));try simp(disch:=first|omega|assumption|((repeat(first|exact A1|exact uH|apply A2|apply uT));first|done|fail)|(simp;first|done|omega|fail))[]))
  rename_i g
  refine N4 A7e (fun w' hw' => B4D w' b1 c _ hok (hw'.pt (by (repeat constructor))) (P4.own (e := 124) (k := 1) (by (repeat constructor)) w' hw')) ?_
  rintro y v ⟨rfl, hy⟩
  (have zz:=trivial;repeat((first|clear zz|with_reducible first|refine A3 ?_|refine A5 fun _=>?_|refine A4 fun _=>?_);try simp(disch:=first|omega|assumption|((repeat(first|exact A1|exact uH|apply A2|apply uT));first|done|fail)|(simp;first|done|omega|fail))[]))
  refine B0 y ⟨rfl, hy⟩ ?_
  simp only [C3, List.cons_append, List.nil_append]
  (repeat' constructor)
theorem B0x (w : World) (b : Nat) (c : CfgV) (pc ps pk tv pv now : Value) (who : Int) (hwk : c.wk ≤ 64) (hb : bl w b = some (.cells (D7 c pc ps pk tv pv now) 39 (0, 0))) :
  Fn PR B8 57 #[.pointer (some ⟨b, 0, none⟩), .int .i64 who] w (fun u w' => u = .int .i64 (A38 c who) ∧ D0 [] w w') := by
 refine Fn.pure (A44 (TW.go (κ := false) (S := []) ?_))
 unfold A0T
 have h0 : w.cell? ⟨b, 0, none⟩ = some (.int .i64 c.wk) := by rw [C8 hb]; rfl
 unfold A38
 by_cases c1 : who < 1
 ·rw [if_pos (Or.inl c1)]
  (have zz:=trivial;repeat((first|clear zz|with_reducible first|refine A3 ?_|refine A5 fun _=>?_|refine A4 fun _=>?_);try simp(disch:=first|omega|assumption|((repeat(first|exact A1|exact uH|apply A2|apply uT));first|done|fail)|(simp;first|done|omega|fail))[c1]))
  exact B9 rfl
 by_cases c2 : c.wk < who
 ·rw [if_pos (Or.inr c2)]
  (have zz:=trivial;repeat((first|clear zz|with_reducible first|refine A3 ?_|refine A5 fun _=>?_|refine A4 fun _=>?_);try simp(disch:=first|omega|assumption|((repeat(first|exact A1|exact uH|apply A2|apply uT));first|done|fail)|(simp;first|done|omega|fail))[c1, c2, h0]))
  exact B9 rfl
 rw [if_neg (by omega)]
 (have zz:=trivial;repeat((first|clear zz|with_reducible first|refine A3 ?_|refine A5 fun _=>?_|refine A4 fun _=>?_);try simp(disch:=first|omega|assumption|((repeat(first|exact A1|exact uH|apply A2|apply uT));first|done|fail)|(simp;first|done|omega|fail))[c1, c2, h0]))
 exact B9 (by congr 1; omega)
end Go.Proofs.YtjobgnabneddjaaGreat
namespace Go.Proofs.YtjobgnabneddjaaGreat
open Go
def C0 (b : JB) (rest : List Value) : Array Value := (.int .i64 b.who :: .int .i64 b.st :: .int .i64 b.ans.err :: .int .i64 b.ans.bk :: .bool b.ans.made :: .int .i64 b.ans.count :: rest).toArray
def H3 (t : k4) : Value := .agg #[.bool t.1, .bool t.2.1, .bool t.2.2]
theorem A0w (w : World) (b : Nat) (T : TypeId) (j : JB) (rest : List Value) (e : Int) (hw : LW false [b] w [.pt b (.cells (C0 j rest) T)] w) :
  Fn PR B8 320 #[.pointer (some ⟨b, 0, none⟩), .int .i64 e] w (Rn [b] w (fun (_ : Unit) u => u = H3 (true, true, false)) fun _ => [.pt b (.cells (C0 (j.refuse e) rest) T)]) := by
 refine A2e (TW.goH (κ := false) (S := [b]) ?_ hw)
 unfold j8
 simp only [C0, JB.refuse]
 (have zz:=trivial;repeat((first|clear zz|with_reducible first|refine A3 ?_|refine A5 fun _=>?_|refine A4 fun _=>?_);try simp(disch:=first|omega|assumption|((repeat(first|exact A1|exact uH|apply A2|apply uT));first|done|fail)|(simp;first|done|omega|fail))[]))
 exact B0 () rfl (by (repeat' constructor))
theorem A01 (w : World) (b : Nat) (T : TypeId) (j : JB) (rest : List Value) (hw : LW false [b] w [.pt b (.cells (C0 j rest) T)] w) :
  Fn PR B8 323 #[.pointer (some ⟨b, 0, none⟩)] w (Rn [b] w (fun (_ : Unit) u => u = H3 (false, true, false)) fun _ => [.pt b (.cells (C0 { j with st := -1 } rest) T)]) := by
 refine A2S (TW.goH (κ := false) (S := [b]) ?_ hw)
 unfold j0
 simp only [C0]
 (have zz:=trivial;repeat((first|clear zz|with_reducible first|refine A3 ?_|refine A5 fun _=>?_|refine A4 fun _=>?_);try simp(disch:=first|omega|assumption|((repeat(first|exact A1|exact uH|apply A2|apply uT));first|done|fail)|(simp;first|done|omega|fail))[]))
 exact B0 () rfl (by (repeat' constructor))
end Go.Proofs.YtjobgnabneddjaaGreat
namespace Go.Proofs.YtjobgnabneddjaaGreat
open Go
def F9 (b : Nat) (j : JU) (pv qv : Value) : Res := .pt b (.cells (C0 j.b [pv, qv, .int .i64 j.slot, .int .i64 j.old]) 163)
def G9 (j : JU) (qv : Value) : Res := .own 3 1 qv j.pins.length (D4 j.pins)
structure WsOk (x : WS) : Prop where
 wk : 1 ≤ x.c.wk ∧ x.c.wk ≤ 64
 cells : x.cells.length = 2 + x.c.wk.toNat
 own : x.own.length ≤ 16
 sl : x.sl.length ≤ 8
 keep : x.keep.length ≤ 8
def WoH.sk (m : WoH) (ls : List SlH) (keep : List (Int × Int)) : WoH := { m with ls := ls, keep := keep }
theorem B39 (w : World) (b : Nat) (j : JU) (pv qv : Value) (m : WoH) (hx : WsOk m.ws) (hp : j.pins.length ≤ 1000) (hst : -1 ≤ j.b.st ∧ j.b.st ≤ 1000) (hw : LW false (B2 (F9 b j pv qv :: G9 j qv :: C3 m)) w (F9 b j pv qv :: G9 j qv :: C3 m) w) :
  Fn PR B8 321 #[.pointer (some ⟨b, 0, none⟩), .pointer (some ⟨m.b, 0, none⟩)] w (Rn (B2 (F9 b j pv qv :: G9 j qv :: C3 m)) w (fun (y : List SlH × List (Int × Int)) u => u = H3 (M7 j m.ws).2.2 ∧ (m.sk y.1 y.2).ws = (M7 j m.ws).2.1) fun y => F9 b (M7 j m.ws).1 pv qv :: G9 j qv :: C3 (m.sk y.1 y.2)) := by
 refine A2c (TW.goH (κ := false) ?_ hw)
 unfold j4
 obtain ⟨h1, h2, h3, h4, h5⟩ := hx
 simp only [WoH.ws, List.length_map] at h1 h2 h3 h4 h5
 have hkp : m.ws.keep = m.keep := rfl
 have hRipe := fun (w' : World) => B3a w' m.bk m.keep qv j.pins h5
 by_cases c1 : 0 ≤ N0 m.keep j.pins
 ·have e : M7 j m.ws = (j, { m.ws with sl := A0f m.ws.sl (N0 m.keep j.pins) .no, keep := A7E m.keep (N0 m.keep j.pins) }, false, false, false) := if_pos c1
  rw [e]
  generalize N0 m.keep j.pins = r at *
  simp only [C3, F9, C0, D3, D7, WoH.sk]
  (have zz:=trivial;repeat((first|clear zz|with_reducible first|refine A3 ?_|refine A5 fun _=>?_|refine A4 fun _=>?_);try simp(disch:=first|omega|assumption|((repeat(first|exact A1|exact uH|apply A2|apply uT));first|done|fail)|(simp;first|done|omega|fail))[]))
  refine D1 V6 (fun w' hw' => hRipe w' (d8.own hw' (by (repeat constructor))) (P4.own (e := 3) (k := 1) (by unfold G9; (repeat constructor)) w' hw') (by omega)) ?_
  (have zz:=trivial;repeat((first|clear zz|with_reducible first|refine A3 ?_|refine A5 fun _=>?_|refine A4 fun _=>?_);try simp(disch:=first|omega|assumption|((repeat(first|exact A1|exact uH|apply A2|apply uT));first|done|fail)|(simp;first|done|omega|fail))[c1]))
  refine B4 (Hc := D6 m.bs m.sv m.ls) A2k (fun w' _ hs => B3E w' m.bs m.sv m.ls r h4 hs) (by unfold D6; (repeat' constructor)) ?_
  intro _ v hv
  simp only [D6, List.cons_append, List.nil_append]
  (have zz:=trivial;repeat((first|clear zz|with_reducible first|refine A3 ?_|refine A5 fun _=>?_|refine A4 fun _=>?_);try simp(disch:=first|omega|assumption|((repeat(first|exact A1|exact uH|apply A2|apply uT));first|done|fail)|(simp;first|done|omega|fail))[]))
  refine B4 (Hc := [L6 m.bk m.keep]) A3F (fun w' _ hs => B5C w' m.bk m.keep r h5 hs) (by (repeat' constructor)) ?_
  intro _ v2 hv2
  simp only [List.cons_append, List.nil_append]
  (have zz:=trivial;repeat((first|clear zz|with_reducible first|refine A3 ?_|refine A5 fun _=>?_|refine A4 fun _=>?_);try simp(disch:=first|omega|assumption|((repeat(first|exact A1|exact uH|apply A2|apply uT));first|done|fail)|(simp;first|done|omega|fail))[]))
  exact B0 (P2 m.ls r .no, A7E m.keep r) ⟨rfl, by simp only [WoH.ws, A7w]; rfl⟩ (by (repeat' constructor))
 have hrneg : N0 m.keep j.pins < 0 := by omega
 by_cases c2 : H5 m.keep < 0
 ·have e : M7 j m.ws = ({ j with b := j.b.refuse 13, slot := H5 m.keep }, m.ws, true, true, false) := by unfold M7; rw [if_neg (by rw [hkp]; exact c1), if_pos (by rw [hkp]; exact c2)]; rfl
  rw [e]
  have e2 : S7 m.keep = m.keep := by unfold S7; rw [if_pos c2]
  generalize N0 m.keep j.pins = r at *
  obtain ⟨t, ht⟩ : ∃ t, t = H5 m.keep := ⟨_, rfl⟩
  rw [← ht] at c2
  simp only [C3, F9, C0, D3, D7, WoH.sk, ← ht]
  (have zz:=trivial;repeat((first|clear zz|with_reducible first|refine A3 ?_|refine A5 fun _=>?_|refine A4 fun _=>?_);try simp(disch:=first|omega|assumption|((repeat(first|exact A1|exact uH|apply A2|apply uT));first|done|fail)|(simp;first|done|omega|fail))[]))
  refine D1 V6 (fun w' hw' => hRipe w' (d8.own hw' (by (repeat constructor))) (P4.own (e := 3) (k := 1) (by unfold G9; (repeat constructor)) w' hw') (by omega)) ?_
  (have zz:=trivial;repeat((first|clear zz|with_reducible first|refine A3 ?_|refine A5 fun _=>?_|refine A4 fun _=>?_);try simp(disch:=first|omega|assumption|((repeat(first|exact A1|exact uH|apply A2|apply uT));first|done|fail)|(simp;first|done|omega|fail))[c1]))
  refine B4 (Hc := [L6 m.bk m.keep]) p8 (fun w' _ hs => A9c w' m.bk m.keep h5 hs) (by (repeat' constructor)) ?_
  rintro _ v rfl
  rw [e2, ← ht]
  simp only [List.cons_append, List.nil_append]
  (have zz:=trivial;repeat((first|clear zz|with_reducible first|refine A3 ?_|refine A5 fun _=>?_|refine A4 fun _=>?_);try simp(disch:=first|omega|assumption|((repeat(first|exact A1|exact uH|apply A2|apply uT));first|done|fail)|(simp;first|done|omega|fail))[c2]))
  refine B4 (Hc := [.pt b (.cells (C0 j.b [pv, qv, .int .i64 t, .int .i64 j.old]) 163)]) M3 (fun w' _ hs => A0w w' b _ j.b _ 13 hs) (by unfold C0; (repeat' constructor)) ?_
  rintro _ v rfl
  simp only [List.cons_append, List.nil_append, H3, C0]
  (have zz:=trivial;repeat((first|clear zz|with_reducible first|refine A3 ?_|refine A5 fun _=>?_|refine A4 fun _=>?_);try simp(disch:=first|omega|assumption|((repeat(first|exact A1|exact uH|apply A2|apply uT));first|done|fail)|(simp;first|done|omega|fail))[]))
  exact B0 (m.ls, m.keep) ⟨rfl, rfl⟩ (by (repeat' constructor))
 ·have e : M7 j m.ws = ({ j with slot := H5 m.keep, b := { j.b with st := j.b.st + 1 } }, { m.ws with sl := A0f m.ws.sl (H5 m.keep) .bld, keep := S7 m.keep }, false, false, false) := by unfold M7; rw [if_neg (by rw [hkp]; exact c1), if_neg (by rw [hkp]; exact c2)]; rfl
  rw [e]
  generalize N0 m.keep j.pins = r at *
  obtain ⟨t, ht⟩ : ∃ t, t = H5 m.keep := ⟨_, rfl⟩
  rw [← ht] at c2
  simp only [C3, F9, C0, D3, D7, WoH.sk, ← ht]
  (have zz:=trivial;repeat((first|clear zz|with_reducible first|refine A3 ?_|refine A5 fun _=>?_|refine A4 fun _=>?_);try simp(disch:=first|omega|assumption|((repeat(first|exact A1|exact uH|apply A2|apply uT));first|done|fail)|(simp;first|done|omega|fail))[]))
  refine D1 V6 (fun w' hw' => hRipe w' (d8.own hw' (by (repeat constructor))) (P4.own (e := 3) (k := 1) (by unfold G9; (repeat constructor)) w' hw') (by omega)) ?_
  (have zz:=trivial;repeat((first|clear zz|with_reducible first|refine A3 ?_|refine A5 fun _=>?_|refine A4 fun _=>?_);try simp(disch:=first|omega|assumption|((repeat(first|exact A1|exact uH|apply A2|apply uT));first|done|fail)|(simp;first|done|omega|fail))[c1]))
  refine B4 (Hc := [L6 m.bk m.keep]) p8 (fun w' _ hs => A9c w' m.bk m.keep h5 hs) (by (repeat' constructor)) ?_
  rintro _ v rfl
  rw [← ht]
  simp only [List.cons_append, List.nil_append]
  (have zz:=trivial;repeat((first|clear zz|with_reducible first|refine A3 ?_|refine A5 fun _=>?_|refine A4 fun _=>?_);try simp(disch:=first|omega|assumption|((repeat(first|exact A1|exact uH|apply A2|apply uT));first|done|fail)|(simp;first|done|omega|fail))[c2]))
  refine B4 (Hc := D6 m.bs m.sv m.ls) A3J (fun w' _ hs => B2S w' m.bs m.sv m.ls t h4 hs) (by unfold D6; (repeat' constructor)) ?_
  intro _ v hv
  simp only [D6, List.cons_append, List.nil_append]
  (have zz:=trivial;repeat((first|clear zz|with_reducible first|refine A3 ?_|refine A5 fun _=>?_|refine A4 fun _=>?_);try simp(disch:=first|omega|assumption|((repeat(first|exact A1|exact uH|apply A2|apply uT));first|done|fail)|(simp;first|done|omega|fail))[]))
  exact B0 (P2 m.ls t .bld, S7 m.keep) ⟨rfl, by simp only [WoH.ws, A7w]; rfl⟩ (by (repeat' constructor))
end Go.Proofs.YtjobgnabneddjaaGreat
namespace Go.Proofs.YtjobgnabneddjaaGreat
open Go
structure WoD where
 cn : Int
 cells : List Int
 ls : List SlH
 keep : List (Int × Int)
def WoH.up (m : WoH) (d : WoD) : WoH := { m with cn := d.cn, cells := d.cells, ls := d.ls, keep := d.keep }
def WoH.dd (m : WoH) : WoD := ⟨m.cn, m.cells, m.ls, m.keep⟩
theorem A8b (w : World) (b : Nat) (j : JU) (pv qv : Value) (hp : j.pool.length ≤ 1000) (hv : G3 w pv j.pool.length (j.pool.flatMap G8)) (hb : bl w b = some (.cells (C0 j.b [pv, qv, .int .i64 j.slot, .int .i64 j.old]) 163 (0, 0))) :
  Fn PR B8 316 #[.pointer (some ⟨b, 0, none⟩)] w (fun u w' => u = .int .i64 (U6 j) ∧ D0 [] w w') := by
 refine Fn.pure (A1f (TW.go (κ := false) (S := []) ?_))
 unfold c8
 have h0 : w.cell? ⟨b, 0, none⟩ = some (.int .i64 j.b.who) := by rw [C8 hb]; rfl
 have h6 : w.cell? ⟨b, 6, none⟩ = some pv := by rw [C8 hb]; rfl
 unfold U6
 obtain ⟨a, c, rfl, _⟩ := hv.form
 by_cases c1 : j.b.who = 0
 ·rw [if_pos c1]
  (have zz:=trivial;repeat((first|clear zz|with_reducible first|refine A3 ?_|refine A5 fun _=>?_|refine A4 fun _=>?_);try simp(disch:=first|omega|assumption|((repeat(first|exact A1|exact uH|apply A2|apply uT));first|done|fail)|(simp;first|done|omega|fail))[h0, h6, c1]))
  refine D1 A3D (fun w' hw' => A45 w' _ j.pool (by omega) (hv.ks hw'.ks (by simp))) ?_
  exact B9 rfl
 ·rw [if_neg c1]
  (have zz:=trivial;repeat((first|clear zz|with_reducible first|refine A3 ?_|refine A5 fun _=>?_|refine A4 fun _=>?_);try simp(disch:=first|omega|assumption|((repeat(first|exact A1|exact uH|apply A2|apply uT));first|done|fail)|(simp;first|done|omega|fail))[h0, h6, c1]))
  exact B9 rfl
theorem A9d (l : List Int) (x : Int) : D4 (l ++ [x]) = D4 l ++ [.int .i64 x] := by unfold D4; rw [List.map_append]; rfl
theorem A9l (j : JU) (x : WS) : (M7 j x).1.pins = j.pins := by unfold M7; split; rfl; split <;> rfl
set_option maxHeartbeats 4000000 in
theorem B40 (w : World) (b : Nat) (j : JU) (pv qv : Value) (m : WoH) (hx : WsOk m.ws) (hp : j.pins.length ≤ 500) (hpl : j.pool.length ≤ 1000) (hst : 0 ≤ j.b.st ∧ j.b.st ≤ 500) (hsl : -1 ≤ j.slot ∧ j.slot ≤ 100) (hold : 0 ≤ j.old ∧ j.old ≤ 1000)
  (hv : ∀ w', KS false (B2 (F9 b j pv qv :: G9 j qv :: C3 m)) w w' → G3 w' pv j.pool.length (j.pool.flatMap G8))
  (hw : LW false (B2 (F9 b j pv qv :: G9 j qv :: C3 m)) w (F9 b j pv qv :: G9 j qv :: C3 m) w) :
  Fn PR B8 318 #[.pointer (some ⟨b, 0, none⟩), .pointer (some ⟨m.b, 0, none⟩)] w (Rn (B2 (F9 b j pv qv :: G9 j qv :: C3 m)) w (fun (y : Value × WoD) u => u = H3 (G0 j m.ws).2.2 ∧ (m.up y.2).ws = (G0 j m.ws).2.1) fun y => F9 b (G0 j m.ws).1 pv y.1 :: G9 (G0 j m.ws).1 y.1 :: C3 (m.up y.2)) := by
 refine A2G (TW.goH (κ := false) ?_ hw)
 unfold j1
 have hxx := hx
 obtain ⟨h1, h2, h3, h4, h5⟩ := hx
 simp only [WoH.ws, List.length_map] at h1 h2 h3 h4 h5
 have hc : m.ws.c = m.c := rfl
 by_cases c1 : j.b.st = 0 ∧ U6 j ≠ 0
 ·have e : G0 j m.ws = ({ j with b := j.b.refuse (U6 j) }, m.ws, true, true, false) := if_pos c1
  rw [e]
  obtain ⟨c0, c1⟩ := c1
  generalize hbe : U6 j = be at *
  simp only [C3, F9, C0, D3, D7, WoH.up] at hv ⊢
  (have zz:=trivial;repeat((first|clear zz|with_reducible first|refine A3 ?_|refine A5 fun _=>?_|refine A4 fun _=>?_);try simp(disch:=first|omega|assumption|((repeat(first|exact A1|exact uH|apply A2|apply uT));first|done|fail)|(simp;first|done|omega|fail))[c0]))
  refine D1 Z0 (fun w' hw' => by have := A8b w' b j pv qv hpl (hv w' hw'.ks) (by rw [hw'.pt (b := b) (by (repeat constructor))]; simp only [C0, c0]); rw [hbe] at this; exact this) ?_
  (have zz:=trivial;repeat((first|clear zz|with_reducible first|refine A3 ?_|refine A5 fun _=>?_|refine A4 fun _=>?_);try simp(disch:=first|omega|assumption|((repeat(first|exact A1|exact uH|apply A2|apply uT));first|done|fail)|(simp;first|done|omega|fail))[c1]))
  refine B4 (Hc := [.pt b (.cells (C0 j.b [pv, qv, .int .i64 j.slot, .int .i64 j.old]) 163)]) M3 (fun w' _ hs => A0w w' b _ j.b _ be hs) (by unfold C0; rw [c0]; (repeat' constructor)) ?_
  rintro _ v rfl
  simp only [List.cons_append, List.nil_append, H3, C0]
  (have zz:=trivial;repeat((first|clear zz|with_reducible first|refine A3 ?_|refine A5 fun _=>?_|refine A4 fun _=>?_);try simp(disch:=first|omega|assumption|((repeat(first|exact A1|exact uH|apply A2|apply uT));first|done|fail)|(simp;first|done|omega|fail))[]))
  exact B0 (qv, m.dd) ⟨rfl, rfl⟩ (by unfold WoH.dd; (repeat' constructor))
 by_cases c2 : j.b.st = 0 ∨ j.b.st - m.c.wk < 0
 ·have e : G0 j m.ws = ({ E0 j with pins := j.pins ++ [M1 m.cells (A38 m.c (j.b.st + 1))] }, m.ws, false, false, false) := by unfold G0; rw [if_neg c1, if_pos (show j.b.st = 0 ∨ j.b.st - m.ws.c.wk < 0 from c2)]; rfl
  rw [e]
  have hld : ∀ i, M1 m.ws.cells i = M1 m.cells i := fun _ => rfl
  simp only [C3, F9, C0, D3, D7, WoH.up, E0] at hv ⊢
  by_cases c0 : j.b.st = 0
  ·have hbe : U6 j = 0 := Decidable.byContradiction fun h => c1 ⟨c0, h⟩
   (have zz:=trivial;repeat((first|clear zz|with_reducible first|refine A3 ?_|refine A5 fun _=>?_|refine A4 fun _=>?_);try simp(disch:=first|omega|assumption|((repeat(first|exact A1|exact uH|apply A2|apply uT));first|done|fail)|(simp;first|done|omega|fail))[c0]))
   refine D1 Z0 (fun w' hw' => by have := A8b w' b j pv qv hpl (hv w' hw'.ks) (by rw [hw'.pt (b := b) (by (repeat constructor))]; simp only [C0, c0]); rw [hbe] at this; exact this) ?_
   have c01 : j.b.st + 1 = 1 := by omega
   (have zz:=trivial;repeat((first|clear zz|with_reducible first|refine A3 ?_|refine A5 fun _=>?_|refine A4 fun _=>?_);try simp(disch:=first|omega|assumption|((repeat(first|exact A1|exact uH|apply A2|apply uT));first|done|fail)|(simp;first|done|omega|fail))[c0]))
   refine D1 y3 (fun w' hw' => B0x w' m.b m.c _ _ _ _ _ _ 1 (by omega) (hw'.pt (b := m.b) (by (repeat constructor)))) ?_
   (have zz:=trivial;repeat((first|clear zz|with_reducible first|refine A3 ?_|refine A5 fun _=>?_|refine A4 fun _=>?_);try simp(disch:=first|omega|assumption|((repeat(first|exact A1|exact uH|apply A2|apply uT));first|done|fail)|(simp;first|done|omega|fail))[]))
   refine B4 (Hc := B3 m.bc m.cn m.cv m.ov m.cells m.own) V8 (fun w' _ hs => A6W w' m.bc m.cn m.cv m.ov m.cells m.own (A38 m.c 1) (by omega) hs) (by unfold B3; (repeat' constructor)) ?_
   rintro n' v rfl
   simp only [B3, List.cons_append, List.nil_append]
   refine Q8 (e := 3) (k := 1) (v := qv) (q := j.pins.length) (xs := D4 j.pins) (by unfold G9; (repeat constructor)) fun qa qc hq => ?_
   subst hq
   simp only [G9]
   (have zz:=trivial;repeat((first|clear zz|with_reducible first|refine A3 ?_|refine A5 fun _=>?_|refine A4 fun _=>?_|refine r6 fun _=>?_|refine u9 (hK:=fun _=>?_)|refine s0 (hK:=fun _=>?_)|refine x6 (hK:=fun _=>?_)|refine v6 (hK:=fun _=>?_)|refine s7 (hK:=fun _=>?_));try simp(disch:=first|omega|assumption|((repeat(first|exact A1|exact uH|apply A2|apply uT));first|done|fail)|(simp;first|done|omega|fail))[]))
   refine A12 (e := 3) (k := 1) (q := j.pins.length) (r := 1) (xs := D4 j.pins) (news := [.int .i64 (M1 m.cells (A38 m.c 1))]) (by (repeat constructor)) (P4.own (by (repeat constructor))) (by decide) (by simp) (by simp) (by simp only [maxLen]; omega) (by omega) fun a' c' => ?_
   (have zz:=trivial;repeat((first|clear zz|with_reducible first|refine A3 ?_|refine A5 fun _=>?_|refine A4 fun _=>?_);try simp(disch:=first|omega|assumption|((repeat(first|exact A1|exact uH|apply A2|apply uT));first|done|fail)|(simp;first|done|omega|fail))[]))
   refine B0 (.slice a' (j.pins.length + 1) c', { m.dd with cn := n' }) ⟨rfl, rfl⟩ ?_
   simp only [WoH.dd, A9d, List.length_append, List.length_singleton, c0, Int.zero_add]
   (repeat' constructor)
  ·have c3 : j.b.st - m.c.wk < 0 := by omega
   have c4 : j.b.st < m.c.wk := by omega
   (have zz:=trivial;repeat((first|clear zz|with_reducible first|refine A3 ?_|refine A5 fun _=>?_|refine A4 fun _=>?_);try simp(disch:=first|omega|assumption|((repeat(first|exact A1|exact uH|apply A2|apply uT));first|done|fail)|(simp;first|done|omega|fail))[c0, c3, c4]))
   refine D1 y3 (fun w' hw' => B0x w' m.b m.c _ _ _ _ _ _ (j.b.st + 1) (by omega) (hw'.pt (b := m.b) (by (repeat constructor)))) ?_
   (have zz:=trivial;repeat((first|clear zz|with_reducible first|refine A3 ?_|refine A5 fun _=>?_|refine A4 fun _=>?_);try simp(disch:=first|omega|assumption|((repeat(first|exact A1|exact uH|apply A2|apply uT));first|done|fail)|(simp;first|done|omega|fail))[]))
   refine B4 (Hc := B3 m.bc m.cn m.cv m.ov m.cells m.own) V8 (fun w' _ hs => A6W w' m.bc m.cn m.cv m.ov m.cells m.own (A38 m.c (j.b.st + 1)) (by omega) hs) (by unfold B3; (repeat' constructor)) ?_
   rintro n' v rfl
   simp only [B3, List.cons_append, List.nil_append]
   refine Q8 (e := 3) (k := 1) (v := qv) (q := j.pins.length) (xs := D4 j.pins) (by unfold G9; (repeat constructor)) fun qa qc hq => ?_
   subst hq
   simp only [G9]
   (have zz:=trivial;repeat((first|clear zz|with_reducible first|refine A3 ?_|refine A5 fun _=>?_|refine A4 fun _=>?_|refine r6 fun _=>?_|refine u9 (hK:=fun _=>?_)|refine s0 (hK:=fun _=>?_)|refine x6 (hK:=fun _=>?_)|refine v6 (hK:=fun _=>?_)|refine s7 (hK:=fun _=>?_));try simp(disch:=first|omega|assumption|((repeat(first|exact A1|exact uH|apply A2|apply uT));first|done|fail)|(simp;first|done|omega|fail))[]))
   refine A12 (e := 3) (k := 1) (q := j.pins.length) (r := 1) (xs := D4 j.pins) (news := [.int .i64 (M1 m.cells (A38 m.c (j.b.st + 1)))]) (by (repeat constructor)) (P4.own (by (repeat constructor))) (by decide) (by simp) (by simp) (by simp only [maxLen]; omega) (by omega) fun a' c' => ?_
   (have zz:=trivial;repeat((first|clear zz|with_reducible first|refine A3 ?_|refine A5 fun _=>?_|refine A4 fun _=>?_);try simp(disch:=first|omega|assumption|((repeat(first|exact A1|exact uH|apply A2|apply uT));first|done|fail)|(simp;first|done|omega|fail))[]))
   refine B0 (.slice a' (j.pins.length + 1) c', { m.dd with cn := n' }) ⟨rfl, rfl⟩ ?_
   simp only [WoH.dd, A9d, List.length_append, List.length_singleton]
   (repeat' constructor)
 have c0 : ¬ j.b.st = 0 := fun h => c2 (Or.inl h)
 have c3 : ¬ j.b.st - m.c.wk < 0 := fun h => c2 (Or.inr h)
 have c3' : ¬ j.b.st < m.c.wk := by omega
 have hu : G0 j m.ws = if j.b.st - m.c.wk = 0 then M7 j m.ws
  else if j.b.st - m.c.wk = 1 then (E0 j, { m.ws with sl := A0v m.ws.sl j.slot j.pool }, false, false, false)
  else if j.b.st - m.c.wk = 2 then ({ E0 j with old := M1 m.cells 1 }, m.ws, false, false, false)
  else if j.b.st - m.c.wk = 3 then (E0 j, { m.ws with cells := S1 m.cells 1 (j.slot + 1) }, true, false, false)
  else A5F (E0 j) m.ws := by
  unfold G0
  rw [if_neg c1, if_neg (show ¬ (j.b.st = 0 ∨ j.b.st - m.ws.c.wk < 0) from c2)]
  rfl
 by_cases d0 : j.b.st - m.c.wk = 0
 ·rw [if_pos d0] at hu
  rw [hu]
  simp only [C3, F9, C0, D3, D7, WoH.up] at hv ⊢
  have d0' : j.b.st = m.c.wk := by omega
  have z0 : ¬ m.c.wk = 0 := by omega
  (have zz:=trivial;repeat((first|clear zz|with_reducible first|refine A3 ?_|refine A5 fun _=>?_|refine A4 fun _=>?_);try simp(disch:=first|omega|assumption|((repeat(first|exact A1|exact uH|apply A2|apply uT));first|done|fail)|(simp;first|done|omega|fail))[c0, c3, c3', d0]))
  refine B4 (Hc := F9 b j pv qv :: G9 j qv :: C3 m) A1e (fun w' _ hs => B39 w' b j pv qv m hxx (by omega) (by omega) hs) (by simp only [C3, F9, C0, D3, D7]; (repeat' constructor)) ?_
  rintro ⟨ls', k'⟩ v ⟨rfl, hv2⟩
  have hpn := A9l j m.ws
  generalize M7 j m.ws = ut at *
  simp only [C3, F9, C0, D3, D7, WoH.sk, List.cons_append, List.nil_append, H3]
  (have zz:=trivial;repeat((first|clear zz|with_reducible first|refine A3 ?_|refine A5 fun _=>?_|refine A4 fun _=>?_);try simp(disch:=first|omega|assumption|((repeat(first|exact A1|exact uH|apply A2|apply uT));first|done|fail)|(simp;first|done|omega|fail))[]))
  refine B0 (qv, { m.dd with ls := ls', keep := k' }) ⟨rfl, hv2⟩ ?_
  simp only [G9, hpn, WoH.dd]
  (repeat' constructor)
 have f0 : ¬ j.b.st = m.c.wk := by omega
 rw [if_neg d0] at hu
 by_cases d1 : j.b.st - m.c.wk = 1
 ·rw [if_pos d1] at hu
  rw [hu]
  simp only [C3, F9, C0, D3, D7, WoH.up, E0] at hv ⊢
  (have zz:=trivial;repeat((first|clear zz|with_reducible first|refine A3 ?_|refine A5 fun _=>?_|refine A4 fun _=>?_);try simp(disch:=first|omega|assumption|((repeat(first|exact A1|exact uH|apply A2|apply uT));first|done|fail)|(simp;first|done|omega|fail))[c0, c3, c3', d0, d1]))
  refine B4 (Hc := D6 m.bs m.sv m.ls) A3f (fun w' hw' hs => B4n w' m.bs m.sv m.ls j.slot pv j.pool h4 hpl (fun w'' hk => hv w'' ?_) hs) (by unfold D6; (repeat' constructor)) ?_
  ·refine hw'.ks.then hk fun x hx => ?_
   obtain ⟨r, hr, hxr⟩ := G5.1 hx
   exact (hw'.own r (List.mem_append_left _ hr) x hxr).1
  rintro ls' v ⟨hv1, hv2, hv3⟩
  simp only [D6, List.cons_append, List.nil_append]
  (have zz:=trivial;repeat((first|clear zz|with_reducible first|refine A3 ?_|refine A5 fun _=>?_|refine A4 fun _=>?_);try simp(disch:=first|omega|assumption|((repeat(first|exact A1|exact uH|apply A2|apply uT));first|done|fail)|(simp;first|done|omega|fail))[]))
  refine B0 (qv, { m.dd with ls := ls' }) ⟨rfl, by simp only [WoH.ws, WoH.dd, hv3]⟩ ?_
  simp only [G9, WoH.dd]
  (repeat' constructor)
 rw [if_neg d1] at hu
 by_cases d2 : j.b.st - m.c.wk = 2
 ·rw [if_pos d2] at hu
  rw [hu]
  simp only [C3, F9, C0, D3, D7, WoH.up, E0] at hv ⊢
  (have zz:=trivial;repeat((first|clear zz|with_reducible first|refine A3 ?_|refine A5 fun _=>?_|refine A4 fun _=>?_);try simp(disch:=first|omega|assumption|((repeat(first|exact A1|exact uH|apply A2|apply uT));first|done|fail)|(simp;first|done|omega|fail))[c0, c3, c3', d0, d1, d2]))
  refine B4 (Hc := B3 m.bc m.cn m.cv m.ov m.cells m.own) V8 (fun w' _ hs => A6W w' m.bc m.cn m.cv m.ov m.cells m.own 1 (by omega) hs) (by unfold B3; (repeat' constructor)) ?_
  rintro n' v rfl
  simp only [B3, List.cons_append, List.nil_append]
  (have zz:=trivial;repeat((first|clear zz|with_reducible first|refine A3 ?_|refine A5 fun _=>?_|refine A4 fun _=>?_);try simp(disch:=first|omega|assumption|((repeat(first|exact A1|exact uH|apply A2|apply uT));first|done|fail)|(simp;first|done|omega|fail))[]))
  refine B0 (qv, { m.dd with cn := n' }) ⟨rfl, rfl⟩ ?_
  simp only [G9, WoH.dd]
  (repeat' constructor)
 rw [if_neg d2] at hu
 by_cases d3 : j.b.st - m.c.wk = 3
 ·rw [if_pos d3] at hu
  rw [hu]
  simp only [C3, F9, C0, D3, D7, WoH.up, E0] at hv ⊢
  (have zz:=trivial;repeat((first|clear zz|with_reducible first|refine A3 ?_|refine A5 fun _=>?_|refine A4 fun _=>?_);try simp(disch:=first|omega|assumption|((repeat(first|exact A1|exact uH|apply A2|apply uT));first|done|fail)|(simp;first|done|omega|fail))[c0, c3, c3', d0, d1, d2, d3]))
  refine B4 (Hc := B3 m.bc m.cn m.cv m.ov m.cells m.own) A2x (fun w' _ hs => B2M w' m.bc m.cn m.cv m.ov m.cells m.own 1 (j.slot + 1) (by omega) hs) (by unfold B3; (repeat' constructor)) ?_
  rintro n' v rfl
  simp only [B3, List.cons_append, List.nil_append]
  (have zz:=trivial;repeat((first|clear zz|with_reducible first|refine A3 ?_|refine A5 fun _=>?_|refine A4 fun _=>?_);try simp(disch:=first|omega|assumption|((repeat(first|exact A1|exact uH|apply A2|apply uT));first|done|fail)|(simp;first|done|omega|fail))[]))
  refine B0 (qv, { m.dd with cn := n', cells := S1 m.cells 1 (j.slot + 1) }) ⟨rfl, rfl⟩ ?_
  simp only [G9, WoH.dd]
  (repeat' constructor)
 rw [if_neg d3] at hu
 rw [hu]
 have hcl : ∀ v, (S1 m.cells 0 v).length = m.cells.length := fun v => by unfold S1; split <;> simp
 unfold A5F
 by_cases o1 : 0 < j.old
 ·have hup : (E0 j).old = j.old := rfl
  simp only [hup]
  rw [if_pos o1]
  simp only [C3, F9, C0, D3, D7, WoH.up, E0] at hv ⊢
  (have zz:=trivial;repeat((first|clear zz|with_reducible first|refine A3 ?_|refine A5 fun _=>?_|refine A4 fun _=>?_);try simp(disch:=first|omega|assumption|((repeat(first|exact A1|exact uH|apply A2|apply uT));first|done|fail)|(simp;first|done|omega|fail))[c0, c3, c3', d0, d1, d2, d3, o1]))
  refine B4 (Hc := B3 m.bc m.cn m.cv m.ov m.cells m.own) y4 (fun w' _ hs => B1A w' m.bc m.cn m.cv m.ov m.cells m.own 0 1 (by omega) (by omega) hs) (by unfold B3; (repeat' constructor)) ?_
  rintro n' v rfl
  simp only [B3, List.cons_append, List.nil_append]
  (have zz:=trivial;repeat((first|clear zz|with_reducible first|refine A3 ?_|refine A5 fun _=>?_|refine A4 fun _=>?_);try simp(disch:=first|omega|assumption|((repeat(first|exact A1|exact uH|apply A2|apply uT));first|done|fail)|(simp;first|done|omega|fail))[o1]))
  refine B4 (Hc := [L6 m.bk m.keep]) A1n (fun w' _ hs => B1g w' m.bk m.keep (j.old - 1) (IntKind.i64.wrap (M1 m.cells 0 + 1)) h5 hs) (by (repeat' constructor)) ?_
  rintro _ v hv2
  simp only [List.cons_append, List.nil_append]
  (have zz:=trivial;repeat((first|clear zz|with_reducible first|refine A3 ?_|refine A5 fun _=>?_|refine A4 fun _=>?_);try simp(disch:=first|omega|assumption|((repeat(first|exact A1|exact uH|apply A2|apply uT));first|done|fail)|(simp;first|done|omega|fail))[]))
  refine B4 (Hc := [.pt b (.cells (C0 { j.b with st := j.b.st + 1 } [pv, qv, .int .i64 j.slot, .int .i64 j.old]) 163)]) M4 (fun w' _ hs => A01 w' b _ { j.b with st := j.b.st + 1 } _ hs) (by unfold C0; (repeat' constructor)) ?_
  rintro _ v rfl
  simp only [List.cons_append, List.nil_append, H3, C0]
  (have zz:=trivial;repeat((first|clear zz|with_reducible first|refine A3 ?_|refine A5 fun _=>?_|refine A4 fun _=>?_);try simp(disch:=first|omega|assumption|((repeat(first|exact A1|exact uH|apply A2|apply uT));first|done|fail)|(simp;first|done|omega|fail))[]))
  refine B0 (qv, { m.dd with cn := n', cells := S1 m.cells 0 (IntKind.i64.wrap (M1 m.cells 0 + 1)), keep := A9e m.keep (j.old - 1) (IntKind.i64.wrap (M1 m.cells 0 + 1)) }) ⟨rfl, rfl⟩ ?_
  simp only [G9, WoH.dd]
  (repeat' constructor)
 ·have hup : (E0 j).old = j.old := rfl
  simp only [hup]
  rw [if_neg o1]
  simp only [C3, F9, C0, D3, D7, WoH.up, E0] at hv ⊢
  (have zz:=trivial;repeat((first|clear zz|with_reducible first|refine A3 ?_|refine A5 fun _=>?_|refine A4 fun _=>?_);try simp(disch:=first|omega|assumption|((repeat(first|exact A1|exact uH|apply A2|apply uT));first|done|fail)|(simp;first|done|omega|fail))[c0, c3, c3', d0, d1, d2, d3, o1]))
  refine B4 (Hc := B3 m.bc m.cn m.cv m.ov m.cells m.own) y4 (fun w' _ hs => B1A w' m.bc m.cn m.cv m.ov m.cells m.own 0 1 (by omega) (by omega) hs) (by unfold B3; (repeat' constructor)) ?_
  rintro n' v rfl
  simp only [B3, List.cons_append, List.nil_append]
  (have zz:=trivial;repeat((first|clear zz|with_reducible first|refine A3 ?_|refine A5 fun _=>?_|refine A4 fun _=>?_);try simp(disch:=first|omega|assumption|((repeat(first|exact A1|exact uH|apply A2|apply uT));first|done|fail)|(simp;first|done|omega|fail))[o1]))
  refine B4 (Hc := [.pt b (.cells (C0 { j.b with st := j.b.st + 1 } [pv, qv, .int .i64 j.slot, .int .i64 j.old]) 163)]) M4 (fun w' _ hs => A01 w' b _ { j.b with st := j.b.st + 1 } _ hs) (by unfold C0; (repeat' constructor)) ?_
  rintro _ v rfl
  simp only [List.cons_append, List.nil_append, H3, C0]
  (have zz:=trivial;repeat((first|clear zz|with_reducible first|refine A3 ?_|refine A5 fun _=>?_|refine A4 fun _=>?_);try simp(disch:=first|omega|assumption|((repeat(first|exact A1|exact uH|apply A2|apply uT));first|done|fail)|(simp;first|done|omega|fail))[]))
  refine B0 (qv, { m.dd with cn := n', cells := S1 m.cells 0 (IntKind.i64.wrap (M1 m.cells 0 + 1)) }) ⟨rfl, rfl⟩ ?_
  simp only [G9, WoH.dd]
  (repeat' constructor)
end Go.Proofs.YtjobgnabneddjaaGreat
namespace Go.Proofs.YtjobgnabneddjaaGreat
open Go
theorem B26 {κ : Bool} {X : Nat → Prop} {S : List Nat} {w0 : World} {H Hk Hc : List Res} {K : Value → WP} {g : Value} {name : String} {args : List Value} {f : FuncId} {args' : Array Value} {α : Type} {φ : α → Value → Prop} {Hn : α → List Res} (hr : ∀ w, (callMethod g name args.toArray).run PR w = .ok (.enter f args') w)
  (hf : ∀ w, LW κ S w0 (Hc ++ Hk) w → LW false (B2 Hc) w Hc w → Fn PR B8 f args' w (Rn (B2 Hc) w φ Hn)) (hp : Part Hc H Hk) (hK : ∀ a v, φ a v → TW κ S w0 (Hn a ++ Hk) (K v)) : TW κ S w0 H (inv PR X g name args K) := fun w hw =>
 let h := hw.perm hp.perm
 ⟨f, args', hr w, (hf w h (h.sub (List.sublist_append_left _ _)).self).use fun v w' ⟨a, h1, h2⟩ hsk => hK a v h1 w' (h.part (h2.high fun _ => hsk))⟩
abbrev K5 (b : Nat) : Value := .iface 161 (.pointer (some ⟨b, 0, none⟩))
abbrev l7 (b : Nat) : Value := .iface 168 (.pointer (some ⟨b, 0, none⟩))
abbrev m7 (b : Nat) : Value := .iface 171 (.pointer (some ⟨b, 0, none⟩))
abbrev A7P (b : Nat) : Value := .iface 174 (.pointer (some ⟨b, 0, none⟩))
theorem A7n (w : World) (b : Nat) (v : Value) : (callMethod (K5 b) "gangplank/control.step" [v].toArray).run PR w = .ok (.enter 318 #[.pointer (some ⟨b, 0, none⟩), v]) w := by kernel_rfl
theorem A7T (w : World) (b : Nat) (v : Value) : (callMethod (l7 b) "gangplank/control.step" [v].toArray).run PR w = .ok (.enter 329 #[.pointer (some ⟨b, 0, none⟩), v]) w := by kernel_rfl
theorem A7M (w : World) (b : Nat) (v : Value) : (callMethod (m7 b) "gangplank/control.step" [v].toArray).run PR w = .ok (.enter 332 #[.pointer (some ⟨b, 0, none⟩), v]) w := by kernel_rfl
theorem r9 (w : World) (b : Nat) (v : Value) : (callMethod (K5 b) "gangplank/control.waits" [v].toArray).run PR w = .ok (.enter 319 #[.pointer (some ⟨b, 0, none⟩), v]) w := by kernel_rfl
theorem A2C (w : World) (b : Nat) (v : Value) : (callMethod (l7 b) "gangplank/control.waits" [v].toArray).run PR w = .ok (.enter 330 #[.pointer (some ⟨b, 0, none⟩), v]) w := by kernel_rfl
theorem A1w (w : World) (b : Nat) (v : Value) : (callMethod (m7 b) "gangplank/control.waits" [v].toArray).run PR w = .ok (.enter 333 #[.pointer (some ⟨b, 0, none⟩), v]) w := by kernel_rfl
theorem A6a (w : World) (b : Nat) : (callMethod (K5 b) "gangplank/control.common" ([] : List Value).toArray).run PR w = .ok (.enter 317 #[.pointer (some ⟨b, 0, none⟩)]) w := by kernel_rfl
theorem A6c (w : World) (b : Nat) : (callMethod (l7 b) "gangplank/control.common" ([] : List Value).toArray).run PR w = .ok (.enter 317 #[.pointer (some ⟨b, 0, none⟩)]) w := by kernel_rfl
theorem A6d (w : World) (b : Nat) : (callMethod (m7 b) "gangplank/control.common" ([] : List Value).toArray).run PR w = .ok (.enter 317 #[.pointer (some ⟨b, 0, none⟩)]) w := by kernel_rfl
theorem A6G (w : World) (b : Nat) : (callMethod (A7P b) "gangplank/control.common" ([] : List Value).toArray).run PR w = .ok (.enter 317 #[.pointer (some ⟨b, 0, none⟩)]) w := by kernel_rfl
theorem A8P (w : World) (v : Value) : Fn PR B8 317 #[v] w (fun u w' => u = v ∧ D0 [] w w') := by
 refine Fn.pure (A2T (TW.go (κ := false) (S := []) ?_))
 unfold g7
 exact B9 rfl
theorem A52 {I : Value} {b : Nat} (hI : I = K5 b ∨ I = l7 b ∨ I = m7 b ∨ I = A7P b) (w : World) : (callMethod I "gangplank/control.common" ([] : List Value).toArray).run PR w = .ok (.enter 317 #[.pointer (some ⟨b, 0, none⟩)]) w := by
 rcases hI with rfl | rfl | rfl | rfl
 ·exact A6a w b
 ·exact A6c w b
 ·exact A6d w b
 ·exact A6G w b
theorem A10 (w : World) (jb b : Nat) (I : Value) (j : JB) (rest : List Value) (T : TypeId) (hI : I = K5 b ∨ I = l7 b ∨ I = m7 b ∨ I = A7P b) (h1 : bl w jb = some (.cells #[I] 167 (0, 0))) (h2 : bl w b = some (.cells (C0 j rest) T (0, 0))) :
  Fn PR B8 38 #[.pointer (some ⟨jb, 0, none⟩)] w (fun u w' => u = .int .i64 j.st ∧ D0 [] w w') := by
 refine Fn.pure (A3Y (TW.go (κ := false) (S := []) ?_))
 unfold r8
 have e1 : w.cell? ⟨jb, 0, none⟩ = some I := by rw [C8 h1]; rfl
 have e2 : w.cell? ⟨b, 1, none⟩ = some (.int .i64 j.st) := by rw [C8 h2]; rfl
 (have zz:=trivial;repeat((first|clear zz|with_reducible first|refine A3 ?_|refine A5 fun _=>?_|refine A4 fun _=>?_);try simp(disch:=first|omega|assumption|((repeat(first|exact A1|exact uH|apply A2|apply uT));first|done|fail)|(simp;first|done|omega|fail))[e1]))
 refine B1T (A52 hI) (fun w' _ => A8P w' _) ?_
 (have zz:=trivial;repeat((first|clear zz|with_reducible first|refine A3 ?_|refine A5 fun _=>?_|refine A4 fun _=>?_);try simp(disch:=first|omega|assumption|((repeat(first|exact A1|exact uH|apply A2|apply uT));first|done|fail)|(simp;first|done|omega|fail))[e2]))
 exact B9 rfl
theorem A7G (w : World) (jb b : Nat) (I : Value) (j : JB) (rest : List Value) (T : TypeId) (hI : I = K5 b ∨ I = l7 b ∨ I = m7 b ∨ I = A7P b) (h1 : bl w jb = some (.cells #[I] 167 (0, 0))) (h2 : bl w b = some (.cells (C0 j rest) T (0, 0))) :
  Fn PR B8 34 #[.pointer (some ⟨jb, 0, none⟩)] w (fun u w' => u = j.ans.val ∧ D0 [] w w') := by
 refine Fn.pure (A3C (TW.go (κ := false) (S := []) ?_))
 unfold q6
 have e1 : w.cell? ⟨jb, 0, none⟩ = some I := by rw [C8 h1]; rfl
 have e2 : e9 w b 2 4 = some [.int .i64 j.ans.err, .int .i64 j.ans.bk, .bool j.ans.made, .int .i64 j.ans.count] := A5m (by rfl) (M5.bl h2)
 (have zz:=trivial;repeat((first|clear zz|with_reducible first|refine A3 ?_|refine A5 fun _=>?_|refine A4 fun _=>?_);try simp(disch:=first|omega|assumption|((repeat(first|exact A1|exact uH|apply A2|apply uT));first|done|fail)|(simp;first|done|omega|fail))[e1]))
 refine B1T (A52 hI) (fun w' _ => A8P w' _) ?_
 (have zz:=trivial;repeat((first|clear zz|with_reducible first|refine A3 ?_|refine A5 fun _=>?_|refine A4 fun _=>?_);try simp(disch:=first|omega|assumption|((repeat(first|exact A1|exact uH|apply A2|apply uT));first|done|fail)|(simp;first|done|omega|fail))[e2]))
 exact B9 rfl
theorem n8 (w : World) (jb b : Nat) (I : Value) (j : JB) (rest : List Value) (T : TypeId) (wv : Value) (x : Bool) (f : FuncId) (args' : Array Value) (hI : I = K5 b ∨ I = l7 b ∨ I = m7 b ∨ I = A7P b) (h1 : bl w jb = some (.cells #[I] 167 (0, 0))) (h2 : bl w b = some (.cells (C0 j rest) T (0, 0)))
  (hr : ∀ w, (callMethod I "gangplank/control.waits" [wv].toArray).run PR w = .ok (.enter f args') w) (hf : ∀ w', KS false [] w w' → Fn PR B8 f args' w' (fun v w'' => v = .bool x ∧ D0 [] w' w'')) :
  Fn PR B8 39 #[.pointer (some ⟨jb, 0, none⟩), wv] w (fun u w' => u = .bool (!decide (j.st = -1) && !x) ∧ D0 [] w w') := by
 refine Fn.pure (A35 (TW.go (κ := false) (S := []) ?_))
 unfold x7
 have k1 : ∀ w', KS false [] w w' → bl w' jb = some (.cells #[I] 167 (0, 0)) := fun w' hk => hk.2.1 _ _ (by simp) rfl h1
 have k2 : ∀ w', KS false [] w w' → bl w' b = some (.cells (C0 j rest) T (0, 0)) := fun w' hk => hk.2.1 _ _ (by simp) rfl h2
 refine D1 E3 (fun w' hw' => A10 w' jb b I j rest T hI (k1 w' hw'.ks) (k2 w' hw'.ks)) ?_
 have e1 : w.cell? ⟨jb, 0, none⟩ = some I := by rw [C8 h1]; rfl
 by_cases c1 : j.st = -1
 ·(have zz:=trivial;repeat((first|clear zz|with_reducible first|refine A3 ?_|refine A5 fun _=>?_|refine A4 fun _=>?_);try simp(disch:=first|omega|assumption|((repeat(first|exact A1|exact uH|apply A2|apply uT));first|done|fail)|(simp;first|done|omega|fail))[c1]))
  exact B9 (by simp [c1])
 ·(have zz:=trivial;repeat((first|clear zz|with_reducible first|refine A3 ?_|refine A5 fun _=>?_|refine A4 fun _=>?_);try simp(disch:=first|omega|assumption|((repeat(first|exact A1|exact uH|apply A2|apply uT));first|done|fail)|(simp;first|done|omega|fail))[c1, e1]))
  refine B1T hr (fun w' hw' => hf w' hw'.ks) ?_
  cases x
  ·(have zz:=trivial;repeat((first|clear zz|with_reducible first|refine A3 ?_|refine A5 fun _=>?_|refine A4 fun _=>?_);try simp(disch:=first|omega|assumption|((repeat(first|exact A1|exact uH|apply A2|apply uT));first|done|fail)|(simp;first|done|omega|fail))[c1]))
   exact B9 (by first | rfl | simp [c1])
  ·(have zz:=trivial;repeat((first|clear zz|with_reducible first|refine A3 ?_|refine A5 fun _=>?_|refine A4 fun _=>?_);try simp(disch:=first|omega|assumption|((repeat(first|exact A1|exact uH|apply A2|apply uT));first|done|fail)|(simp;first|done|omega|fail))[c1]))
   exact B9 (by first | rfl | simp [c1])
theorem A46 (w : World) (a b : Value) : Fn PR B8 319 #[a, b] w (fun u w' => u = .bool false ∧ D0 [] w w') := by
 refine Fn.pure (A1d (TW.go (κ := false) (S := []) ?_))
 unfold d6
 exact B9 rfl
end Go.Proofs.YtjobgnabneddjaaGreat
namespace Go.Proofs.YtjobgnabneddjaaGreat
open Go
def G4 (jb : Nat) (I : Value) : Res := .pt jb (.cells #[I] 167)
def A7W (j : JU) (x : WS) : JU × WS × k4 := if j.b.st = -1 then (j, x, false, false, false) else G0 j x
set_option maxHeartbeats 1000000 in
theorem B3D (w : World) (jb b : Nat) (j : JU) (pv qv : Value) (m : WoH) (hx : WsOk m.ws) (hp : j.pins.length ≤ 500) (hpl : j.pool.length ≤ 1000) (hst : -1 ≤ j.b.st ∧ j.b.st ≤ 500) (hsl : -1 ≤ j.slot ∧ j.slot ≤ 100) (hold : 0 ≤ j.old ∧ j.old ≤ 1000)
  (hv : ∀ w', KS false (B2 (G4 jb (K5 b) :: F9 b j pv qv :: G9 j qv :: C3 m)) w w' → G3 w' pv j.pool.length (j.pool.flatMap G8))
  (hw : LW false (B2 (G4 jb (K5 b) :: F9 b j pv qv :: G9 j qv :: C3 m)) w (G4 jb (K5 b) :: F9 b j pv qv :: G9 j qv :: C3 m) w) :
  Fn PR B8 36 #[.pointer (some ⟨jb, 0, none⟩), .pointer (some ⟨m.b, 0, none⟩)] w (Rn (B2 (G4 jb (K5 b) :: F9 b j pv qv :: G9 j qv :: C3 m)) w (fun (y : Value × WoD) u => u = H3 (A7W j m.ws).2.2 ∧ (m.up y.2).ws = (A7W j m.ws).2.1) fun y => G4 jb (K5 b) :: F9 b (A7W j m.ws).1 pv y.1 :: G9 (A7W j m.ws).1 y.1 :: C3 (m.up y.2)) := by
 refine y5 (TW.goH (κ := false) ?_ hw)
 unfold Y2
 generalize hS : B2 (G4 jb (K5 b) :: F9 b j pv qv :: G9 j qv :: C3 m) = S at *
 have hR := fun (w' : World) (h1 : bl w' jb = some (.cells #[K5 b] 167 (0, 0))) (h2 : bl w' b = some (.cells (C0 j.b [pv, qv, .int .i64 j.slot, .int .i64 j.old]) 163 (0, 0))) =>
  n8 w' jb b (K5 b) j.b _ _ (.pointer (some ⟨m.b, 0, none⟩)) false _ _ (Or.inl rfl) h1 h2 (fun w => r9 w b _) (fun w'' _ => A46 w'' _ _)
 (have zz:=trivial;repeat((first|clear zz|with_reducible first|refine A3 ?_|refine A5 fun _=>?_|refine A4 fun _=>?_);try simp(disch:=first|omega|assumption|((repeat(first|exact A1|exact uH|apply A2|apply uT));first|done|fail)|(simp;first|done|omega|fail))[]))
 refine D1 E5 (fun w' hw' => hR w' (hw'.pt (b := jb) (by unfold G4; (repeat constructor))) (hw'.pt (b := b) (by unfold F9; (repeat constructor)))) ?_
 unfold A7W
 by_cases c1 : j.b.st = -1
 ·simp only [if_pos c1]
  (have zz:=trivial;repeat((first|clear zz|with_reducible first|refine A3 ?_|refine A5 fun _=>?_|refine A4 fun _=>?_);try simp(disch:=first|omega|assumption|((repeat(first|exact A1|exact uH|apply A2|apply uT));first|done|fail)|(simp;first|done|omega|fail))[c1]))
  exact B0 (qv, m.dd) ⟨rfl, rfl⟩ (by simp only [WoH.dd, WoH.up]; (repeat' constructor))
 ·simp only [if_neg c1]
  simp only [G4]
  (have zz:=trivial;repeat((first|clear zz|with_reducible first|refine A3 ?_|refine A5 fun _=>?_|refine A4 fun _=>?_);try simp(disch:=first|omega|assumption|((repeat(first|exact A1|exact uH|apply A2|apply uT));first|done|fail)|(simp;first|done|omega|fail))[c1]))
  refine B26 (Hc := F9 b j pv qv :: G9 j qv :: C3 m) (fun w => A7n w b _) (fun w' hw' hs => B40 w' b j pv qv m hx hp hpl (by omega) hsl hold (fun w'' hk => hv w'' ?_) hs) (by simp only [C3]; (repeat' constructor)) ?_
  ·refine hw'.ks.then hk fun x hx => ?_
   obtain ⟨r, hr, hxr⟩ := G5.1 hx
   exact (hw'.own r (List.mem_append_left _ hr) x hxr).1
  rintro ⟨qv', d⟩ v ⟨rfl, hv2⟩
  generalize G0 j m.ws = us at *
  simp only [H3, C3, List.cons_append, List.nil_append]
  (have zz:=trivial;repeat((first|clear zz|with_reducible first|refine A3 ?_|refine A5 fun _=>?_|refine A4 fun _=>?_);try simp(disch:=first|omega|assumption|((repeat(first|exact A1|exact uH|apply A2|apply uT));first|done|fail)|(simp;first|done|omega|fail))[]))
  exact B0 (qv', d) ⟨rfl, hv2⟩ (by (repeat' constructor))
theorem B1E (w : World) (who : Int) (pa : Option Addr) (pn pc : Nat) (pk : ByteArray) (shard : Int) :
  Fn PR B8 32 #[.int .i64 who, .agg #[.int .i64 1, .string pk, .slice pa pn pc, .int .i64 shard]] w (Rn [] w (fun (x : Nat × Nat) u => u = .pointer (some ⟨x.1, 0, none⟩)) fun x => G4 x.1 (K5 x.2) :: [.pt x.2 (.cells (C0 ⟨who, 0, p7⟩ [.slice pa pn pc, .slice none 0 0, .int .i64 0, .int .i64 0]) 163)]) := by
 refine A0E (TW.go (κ := false) (S := []) ?_)
 unfold b9
 (have zz:=trivial;repeat((first|clear zz|with_reducible first|refine A3 ?_|refine A5 fun _=>?_|refine A4 fun _=>?_);try simp(disch:=first|omega|assumption|((repeat(first|exact A1|exact uH|apply A2|apply uT));first|done|fail)|(simp;first|done|omega|fail))[]))
 rename_i a1 a2 a3 a4
 refine B0 (a4, a3) rfl ?_
 simp only [G4, C0, p7]
 (repeat' constructor)
end Go.Proofs.YtjobgnabneddjaaGreat
namespace Go.Proofs.YtjobgnabneddjaaGreat
open Go
def A0B : Nat → RunV → RunV → Prop
 | 0, r, r' => r = r'
 | k + 1, r, r' => r.j.ready r.x = true ∧ A0B k r.next r'
theorem A0B.trans {r r' r'' : RunV} : ∀ {k m : Nat}, A0B k r r' → A0B m r' r'' → A0B (k + m) r r''
 | 0, m, h, h' => by cases h; simpa using h'
 | k + 1, m, h, h' => by
  rw [show k + 1 + m = k + m + 1 by omega]
  exact ⟨h.1, A0B.trans h.2 h'⟩
theorem A0B.run {r r' : RunV} : ∀ {k : Nat} (f : Nat), A0B k r r' → Q1 (k + f) r = Q1 f r'
 | 0, f, h => by cases h; simp
 | k + 1, f, h => by
  rw [show k + 1 + f = k + f + 1 by omega, Q1, if_pos h.1]
  exact A0B.run f h.2
theorem B5u {r : RunV} (h : r.j.b.st = -1) : ∀ f, Q1 f r = r
 | 0 => rfl
 | f + 1 => by rw [Q1, if_neg (by simp [JV.ready, h])]
theorem A0B.ends {r r' : RunV} {k : Nat} (h : A0B k r r') (hk : k ≤ 200) (he : r'.j.b.st = -1) : Q1 200 r = r' := by
 have := h.run (200 - k)
 rw [show k + (200 - k) = 200 by omega] at this
 rw [this, B5u he]
theorem A0B.one {r : RunV} (h : r.j.ready r.x = true) : A0B 1 r r.next := ⟨h, rfl⟩
def B84 (x : WS) (k : Nat) : List Int := (List.range k).map fun i : Nat => M1 x.cells (A38 x.c (((i : Nat) : Int) + 1))
def B7a (P : List Int) (l : List (Int × Int)) : List (Int × Int) := l.map fun s => if S9 P s then (0, 0) else s
def B6y (P : List Int) (l : List (Int × Int)) (s : List SlV) : List SlV := List.zipWith (fun k s => if S9 P k then .no else s) l s
end Go.Proofs.YtjobgnabneddjaaGreat
namespace Go.Proofs.YtjobgnabneddjaaGreat
open Go
structure UInv (n : Nat) (j : JU) (x : WS) : Prop where
 ok : WsOk x
 st : -1 ≤ j.b.st ∧ j.b.st ≤ n
 pins : j.pins.length ≤ n
 slot : -1 ≤ j.slot ∧ j.slot ≤ 8
 old : 0 ≤ j.old ∧ j.old ≤ 1000
 cur : 0 ≤ M1 x.cells 1 ∧ M1 x.cells 1 ≤ 1000
theorem A6T (l : List SlV) (i : Int) (x : SlV) : (A0f l i x).length = l.length := by unfold A0f; split <;> simp
theorem B2r (l : List SlV) (i : Int) (p : List H8) : (A0v l i p).length = l.length := by
 unfold A0v; split
 ·split
  ·exact A6T _ _ _
  ·rfl
 ·rfl
theorem A8c (l : List (Int × Int)) (i a : Int) (s : Int × Int) : (A5j l i a s).length = l.length := by unfold A5j; split <;> simp
theorem B12 (l : List (Int × Int)) : (S7 l).length = l.length := by unfold S7; split <;> simp
theorem B03 (l : List Int) (i v : Int) : (S1 l i v).length = l.length := by unfold S1; split <;> simp
theorem B5e (l : List Int) (i v : Int) : M1 (S1 l i v) i = if 0 ≤ i ∧ i < l.length then v else 0 := by
 unfold M1 S1
 by_cases h : 0 ≤ i ∧ i < l.length
 ·rw [if_pos h, if_pos h, if_pos (by rw [List.length_set]; exact h), List.getD_eq_getElem?_getD, List.getElem?_set_self (by omega)]; rfl
 ·rw [if_neg h, if_neg h, if_neg h]
theorem A9q {i k : Int} (l : List Int) (v : Int) (h : i ≠ k) : M1 (S1 l i v) k = M1 l k := by
 unfold M1 S1
 by_cases h1 : 0 ≤ i ∧ i < l.length
 ·rw [if_pos h1, List.length_set]
  by_cases h2 : 0 ≤ k ∧ k < l.length
  ·rw [if_pos h2, if_pos h2, List.getD_eq_getElem?_getD, List.getD_eq_getElem?_getD, List.getElem?_set_ne (by omega)]
  ·rw [if_neg h2, if_neg h2]
 ·rw [if_neg h1]
theorem B4F (l : List (Int × Int)) : -1 ≤ H5 l ∧ H5 l < max 1 l.length := by
 unfold H5; split <;> omega
theorem A9z (j : JU) (x : WS) : (G0 j x).1.pool = j.pool := by
 unfold G0 M7 E0 A5F
 repeat' split
 all_goals rfl
theorem B24 {n : Nat} {j : JU} {x : WS} (h : UInv n j x) (hst : j.b.st ≠ -1) : UInv (n + 1) (G0 j x).1 (G0 j x).2.1 := by
 obtain ⟨⟨w1, w2, w3, w4, w5⟩, s1, s2, s3, s4, s5⟩ := h
 have ht := B4F x.keep
 unfold G0
 by_cases c1 : j.b.st = 0 ∧ U6 j ≠ 0
 ·rw [if_pos c1]
  exact ⟨⟨w1, w2, w3, w4, w5⟩, by simp only [JB.refuse]; omega, by simp only; omega, s3, s4, s5⟩
 rw [if_neg c1]
 by_cases c2 : j.b.st = 0 ∨ j.b.st - x.c.wk < 0
 ·rw [if_pos c2]
  exact ⟨⟨w1, w2, w3, w4, w5⟩, by simp only [E0]; omega, by simp only [List.length_append, List.length_singleton]; omega, s3, s4, s5⟩
 rw [if_neg c2]
 by_cases d0 : j.b.st - x.c.wk = 0
 ·rw [if_pos d0]
  unfold M7
  by_cases e1 : 0 ≤ N0 x.keep j.pins
  ·rw [if_pos e1]
   exact ⟨⟨w1, w2, w3, by simp only [A6T]; omega, by simp only [A7E, A8c]; omega⟩, by simp only; omega, by simp only; omega, s3, s4, s5⟩
  rw [if_neg e1]
  by_cases e2 : H5 x.keep < 0
  ·rw [if_pos e2]
   exact ⟨⟨w1, w2, w3, w4, w5⟩, by simp only [JB.refuse]; omega, by simp only; omega, by simp only; omega, s4, s5⟩
  rw [if_neg e2]
  exact ⟨⟨w1, w2, w3, by simp only [A6T]; omega, by simp only [B12]; omega⟩, by simp only; omega, by simp only; omega, by simp only; omega, s4, s5⟩
 rw [if_neg d0]
 by_cases d1 : j.b.st - x.c.wk = 1
 ·rw [if_pos d1]
  exact ⟨⟨w1, w2, w3, by simp only [B2r]; omega, w5⟩, by simp only [E0]; omega, by simp only [E0]; omega, s3, s4, s5⟩
 rw [if_neg d1]
 by_cases d2 : j.b.st - x.c.wk = 2
 ·rw [if_pos d2]
  exact ⟨⟨w1, w2, w3, w4, w5⟩, by simp only [E0]; omega, by simp only [E0]; omega, s3, s5, s5⟩
 rw [if_neg d2]
 by_cases d3 : j.b.st - x.c.wk = 3
 ·rw [if_pos d3]
  refine ⟨⟨w1, by simp only [B03]; omega, w3, w4, w5⟩, by simp only [E0]; omega, by simp only [E0]; omega, s3, s4, ?_⟩
  simp only [B5e]
  split <;> omega
 rw [if_neg d3]
 unfold A5F
 refine ⟨⟨w1, by simp only [B03]; omega, w3, w4, ?_⟩, by simp only; omega, by simp only [E0]; omega, s3, s4, ?_⟩
 ·simp only
  split
  ·simp only [A9e, A8c]; omega
  ·omega
 ·simp only
  rw [A9q _ _ (by omega)]
  exact s5
end Go.Proofs.YtjobgnabneddjaaGreat
namespace Go.Proofs.YtjobgnabneddjaaGreat
open Go
theorem n5 : ∀ A : List Res, Sels A A
 | [] => Sels.nil
 | r :: A => Sels.cons Sel.here (n5 A)
theorem A8N : ∀ A : List Res, Part A A []
 | [] => Part.nil
 | r :: A => Part.cons Sel.here (A8N A)
theorem B0B (B : List Res) : ∀ A : List Res, Part A (A ++ B) B
 | [] => Part.nil
 | r :: A => Part.cons Sel.here (B0B B A)
def H4 (x : JV × WS) : JV × WS := ((x.1.step0 x.2).1, (x.1.step0 x.2).2.1)
def S4 (x : JV × WS) (n tk bad : Nat) : RunV := ⟨x.1, x.2, n, tk, bad⟩
theorem A6S {x : JV × WS} {n tk bad : Nat} (h : x.1.ready x.2 = false) : ∀ f, Q1 f (S4 x n tk bad) = S4 x n tk bad
 | 0 => rfl
 | f + 1 => by rw [Q1, if_neg (by rw [show (S4 x n tk bad).j.ready (S4 x n tk bad).x = false from h]; decide)]
theorem A4n {x : JV × WS} {n tk bad : Nat} (h : x.1.ready x.2 = true) (f : Nat) : Q1 (f + 1) (S4 x n tk bad) = Q1 f (S4 (H4 x) (n + 1) (tk + (x.1.step0 x.2).2.2.1.toNat) (bad + (x.1.step0 x.2).2.2.2.2.toNat)) := by
 rw [Q1, if_pos (show (S4 x n tk bad).j.ready (S4 x n tk bad).x = true from h)]; rfl
abbrev B48 (α : Type) := α × Nat × Nat × Nat
def B8E (α : Type) (φ : Nat → α → Prop) (V : α → JV × WS) (R : RunV) (y : B48 α) : Prop := φ y.2.1 y.1 ∧ Q1 (200 - y.2.1) (S4 (V y.1) y.2.1 y.2.2.1 y.2.2.2) = R
set_option maxHeartbeats 1000000 in
theorem B4A {α : Type} (w : World) (jp wp : Value) (Hh : α → List Res) (φ : Nat → α → Prop) (V : α → JV × WS) (a0 : α) (h0 : φ 0 a0)
  (hR : ∀ n a w', φ n a → LW false (B2 (Hh a0)) w (Hh a) w' → Fn PR B8 39 #[jp, wp] w' (fun u w'' => u = .bool ((V a).1.ready (V a).2) ∧ D0 [] w' w''))
  (hS : ∀ n a w', n < 200 → φ n a → (V a).1.ready (V a).2 = true → LW false (B2 (Hh a0)) w (Hh a) w' → LW false (B2 (Hh a)) w' (Hh a) w' → Fn PR B8 36 #[jp, wp] w' (Rn (B2 (Hh a)) w' (fun (a' : α) u => u = H3 ((V a).1.step0 (V a).2).2.2 ∧ V a' = H4 (V a) ∧ φ (n + 1) a') Hh))
  (hw : LW false (B2 (Hh a0)) w (Hh a0) w) :
  Fn PR B8 33 #[jp, wp] w (Rn (B2 (Hh a0)) w (fun (y : B48 α) u => u = .tuple #[.int .i64 (y.2.1 : Nat), .int .i64 (y.2.2.1 : Nat), .int .i64 (y.2.2.2 : Nat)] ∧ φ y.2.1 y.1 ∧ S4 (V y.1) y.2.1 y.2.2.1 y.2.2.2 = Q1 200 (S4 (V a0) 0 0 0)) fun y => Hh y.1) := by
 refine A22 (TW.goH (κ := false) ?_ hw)
 unfold m9
 generalize hR0 : Q1 200 (S4 (V a0) 0 0 0) = R0
 generalize hS0 : B2 (Hh a0) = S at *
 (have zz:=trivial;repeat((first|clear zz|with_reducible first|refine A3 ?_|refine A5 fun _=>?_|refine A4 fun _=>?_);try simp(disch:=first|omega|assumption|((repeat(first|exact A1|exact uH|apply A2|apply uT));first|done|fail)|(simp;first|done|omega|fail))[]))
 refine B70 (fun y : B48 α => Hh y.1) (fun y => (y.2.1 ≤ 200 ∧ y.2.2.1 ≤ y.2.1 ∧ y.2.2.2 ≤ y.2.1) ∧ B8E α φ V R0 y) (fun y => 200 - y.2.1) (a0, 0, 0, 0) (fun y => .int .i64 (y.2.1 : Nat)) (fun y => .int .i64 (y.2.2.1 : Nat)) (fun y => .int .i64 (y.2.2.2 : Nat)) ⟨⟨Nat.zero_le _, Nat.le_refl _, Nat.le_refl _⟩, h0, hR0⟩ ?_
 rintro ⟨a, n, tk, bad⟩ ⟨⟨h1, h2, h3⟩, h6, h7⟩ L hL
 simp only at h1 h2 h3 h6 h7 ⊢
 have hR' := fun w' hw' => hR n a w' h6 hw'
 have hfin : (V a).1.ready (V a).2 = false ∨ n = 200 → S4 (V a) n tk bad = R0 := fun h => by
  rcases h with h | h
  ·rw [← h7, A6S h]
  ·rw [← h7, show 200 - n = 0 by omega]; rfl
 by_cases c1 : n < 200
 case neg =>
  have c1' : ¬ ((n : Nat) : Int) < 200 := by omega
  have c2 := hfin (Or.inr (by omega))
  clear hfin h7 hR hS hL hR0
  (have zz:=trivial;repeat((first|clear zz|with_reducible first|refine A3 ?_|refine A5 fun _=>?_|refine A4 fun _=>?_);try simp(disch:=first|omega|assumption|((repeat(first|exact A1|exact uH|apply A2|apply uT));first|done|fail)|(simp;first|done|omega|fail))[c1, c1']))
  exact B0 (a, n, tk, bad) ⟨rfl, h6, c2⟩ (n5 _)
 have hS' := fun w' hr hw' hs => hS n a w' c1 h6 hr hw' hs
 have hnx : (V a).1.ready (V a).2 = true → Q1 (200 - (n + 1)) (S4 (H4 (V a)) (n + 1) (tk + ((V a).1.step0 (V a).2).2.2.1.toNat) (bad + ((V a).1.step0 (V a).2).2.2.2.2.toNat)) = R0 := fun h => by
  rw [← h7, ← A4n h, show 200 - (n + 1) + 1 = 200 - n by omega]
 obtain ⟨told, ht⟩ : ∃ t, t = ((V a).1.step0 (V a).2).2.2 := ⟨_, rfl⟩
 rw [← ht] at hnx hS'
 obtain ⟨rd, hrd⟩ : ∃ r, r = (V a).1.ready (V a).2 := ⟨_, rfl⟩
 rw [← hrd] at hnx hR' hS' hfin
 obtain ⟨x', hx'⟩ : ∃ x, x = H4 (V a) := ⟨_, rfl⟩
 rw [← hx'] at hnx hS'
 clear hR hS hR0 h7 hrd ht hx'
 have c1' : ((n : Nat) : Int) < 200 := by omega
 (have zz:=trivial;repeat((first|clear zz|with_reducible first|refine A3 ?_|refine A5 fun _=>?_|refine A4 fun _=>?_);try simp(disch:=first|omega|assumption|((repeat(first|exact A1|exact uH|apply A2|apply uT));first|done|fail)|(simp;first|done|omega|fail))[c1, c1']))
 refine D1 E5 (fun w' hw' => hR' w' hw') ?_
 cases rd with
 | false =>
  (have zz:=trivial;repeat((first|clear zz|with_reducible first|refine A3 ?_|refine A5 fun _=>?_|refine A4 fun _=>?_);try simp(disch:=first|omega|assumption|((repeat(first|exact A1|exact uH|apply A2|apply uT));first|done|fail)|(simp;first|done|omega|fail))[c1, c1']))
  exact B0 (a, n, tk, bad) ⟨rfl, h6, hfin (Or.inl rfl)⟩ (n5 _)
 | true =>
  (have zz:=trivial;repeat((first|clear zz|with_reducible first|refine A3 ?_|refine A5 fun _=>?_|refine A4 fun _=>?_);try simp(disch:=first|omega|assumption|((repeat(first|exact A1|exact uH|apply A2|apply uT));first|done|fail)|(simp;first|done|omega|fail))[c1, c1']))
  refine B4 (Hc := Hh a) (Hk := []) L0 (fun w' hw' hs => hS' w' rfl (by simpa using hw') hs) (A8N _) ?_
  rintro a' v ⟨rfl, hv2, hv3⟩
  obtain ⟨t1, t2, t3⟩ := told
  have h := hnx rfl
  simp only at h
  rw [← hv2] at h
  simp only [H3, List.append_nil]
  cases t1 <;> cases t3
  all_goals
   (have zz:=trivial;repeat((first|clear zz|with_reducible first|refine A3 ?_|refine A5 fun _=>?_|refine A4 fun _=>?_);try simp(disch:=first|omega|assumption|((repeat(first|exact A1|exact uH|apply A2|apply uT));first|done|fail)|(simp;first|done|omega|fail))[]))
   refine TW.sub (hL (a', n + 1, _, _) ⟨⟨by simp only; omega, by simp only; omega, by simp only; omega⟩, hv3, h⟩ (by simp only; omega)) (by ((try simp only [List.cons_append, List.nil_append, List.append_assoc]); (repeat (first | exact List.Sublist.refl _ | exact List.nil_sublist _ | with_reducible apply List.Sublist.cons_cons | apply List.Sublist.cons)); first | done | fail))
end Go.Proofs.YtjobgnabneddjaaGreat
namespace Go.Proofs.YtjobgnabneddjaaGreat
open Go
def A0C (t : List EnV) : Prop := (∀ x ∈ t, x = noE) ∧ t.length ≤ 64
theorem B6q {t : List EnV} (h : A0C t) (j : Nat) : t.getD j noE = noE := by
 rw [List.getD_eq_getElem?_getD]
 cases hx : t[j]? with
 | none => rfl
 | some x => exact h.1 x (List.mem_of_getElem? hx)
theorem B3U {t : List EnV} (h : A0C t) (f n now : Int) : (W8 t f n now).1 = t := by
 have e : ∀ L : List Nat, L.foldl (V0 now) (t, 0) = (t, 0) := fun L => by
  induction L with
  | nil => rfl
  | cons j L ih =>
   have : V0 now (t, 0) j = (t, 0) := by unfold V0; simp only; rw [B6q h, if_neg (by simp [A7V, noE])]
   rw [List.foldl_cons, this, ih]
 unfold W8 A9v
 simp only [e]
 rw [if_neg (by omega)]
theorem B5y (n : Nat) : A0C (P3 n) := ⟨fun x hx => by unfold P3 at hx; exact (List.mem_replicate.1 hx).2, by unfold P3; simp; omega⟩
theorem B33 {t : List EnV} (h : A0C t) : A1K t := fun x hx => by rw [h.1 x hx]; decide
def A11 (y : JV × WS) : JV × WS := if y.1.ready y.2 then H4 y else y
def stO (N : Nat) (who : Int) (B : List Int) (k : Nat) : List Int := (List.range N).map fun j => if j < k ∧ k ≤ 2 * N + j then who else B.getD j 0
theorem F5 (N : Nat) (who : Int) (B : List Int) (k : Nat) : (stO N who B k).length = N := by simp [stO]
theorem N2 {N : Nat} {who : Int} {B : List Int} {k j : Nat} (h : j < N) : (stO N who B k).getD j 0 = if j < k ∧ k ≤ 2 * N + j then who else B.getD j 0 := by
 rw [List.getD_eq_getElem?_getD, List.getElem?_eq_getElem (by rw [F5]; exact h)]; simp [stO]
theorem W2 {a b : List Int} (hl : a.length = b.length) (h : ∀ j, j < a.length → a.getD j 0 = b.getD j 0) : a = b := by
 apply List.ext_getElem hl
 intro j h1 h2
 have := h j h1
 rwa [List.getD_eq_getElem?_getD, List.getD_eq_getElem?_getD, List.getElem?_eq_getElem h1, List.getElem?_eq_getElem h2] at this
theorem Q5 {a : List Int} {i j : Nat} {v : Int} (h : j < a.length) : (a.set i v).getD j 0 = if i = j then v else a.getD j 0 := by
 rw [List.getD_eq_getElem?_getD, List.getD_eq_getElem?_getD, List.getElem?_eq_getElem (by rw [List.length_set]; exact h), List.getElem?_eq_getElem h, List.getElem_set]; split <;> rfl
theorem A09 {l : List Int} {i : Nat} {a b : Int} (h : i < l.length) : A1q l (i : Nat) a b = if l.getD i 0 = a then l.set i b else l := by
 unfold A1q
 rw [Int.toNat_natCast]
 by_cases c : l.getD i 0 = a
 ·rw [if_pos ⟨by omega, by omega, c⟩, if_pos c]
 ·rw [if_neg (fun h => c h.2.2), if_neg c]
theorem A1T {l : List Int} {i : Nat} (h : i < l.length) : U3 l (i : Nat) = l.getD i 0 := by unfold U3; rw [if_pos (by omega), Int.toNat_natCast]
def U8 (N : Nat) (who : Int) (B : List Int) : JV × WS → Prop
 | (.exp j, x) => (x.tabs.length = N ∧ (∀ t ∈ x.tabs, A0C t) ∧ A0C j.table ∧ j.b.who = who) ∧
   ((j.b.st = 0 ∨ j.b.st = -1) ∧ x.own = B ∨ ∃ s : Nat, j.shard = (s : Nat) ∧ s < N ∧ B.getD s 0 = -1 ∧ (1 ≤ j.b.st ∧ j.b.st ≤ 3) ∧ x.own = B.set s who)
 | (.sta b, x) => (x.tabs.length = N ∧ (∀ t ∈ x.tabs, A0C t) ∧ b.who = who) ∧ ∃ k : Nat, k ≤ 3 * N ∧ (∀ j, j < k → j < N → B.getD j 0 = -1) ∧ x.own = stO N who B k ∧ b.st = if k = 3 * N then (-1 : Int) else ((k : Nat) : Int)
 | _ => False
def lkM (N : Nat) : JV → Nat
 | .exp j => if j.b.st = -1 then 0 else (4 - j.b.st).toNat
 | .sta b => if b.st = -1 then 0 else (3 * (N : Int) - b.st).toNat
 | _ => 0
theorem B3Q {N : Nat} {who : Int} {B : List Int} (hB : B.length = N) (hN : 1 ≤ N) (hw : 0 ≤ who) (hBs : ∀ j, j < N → B.getD j 0 = -1 ∨ B.getD j 0 = 99) {j : JE} {x : WS} (h : U8 N who B (.exp j, x)) (hr : (JV.exp j).ready x = true) :
  U8 N who B (H4 (.exp j, x)) ∧ lkM N (H4 (.exp j, x)).1 < lkM N (.exp j) ∧ (E4 j x).1.table = j.table ∨ U8 N who B (H4 (.exp j, x)) ∧ lkM N (H4 (.exp j, x)).1 < lkM N (.exp j) ∧ A0C (E4 j x).1.table := by
 obtain ⟨⟨h1, h2, h3, h4⟩, h5⟩ := h
 have hst : j.b.st ≠ -1 := fun h => by simp [JV.ready, JV.b, h] at hr
 simp only [H4, JV.step0]
 by_cases c0 : Z2 x j.shard = false
 ·have e : E4 j x = ({ j with b := j.b.refuse 1 }, x, true, true, false) := if_pos c0
  rw [e]
  left
  refine ⟨⟨⟨h1, h2, h3, h4⟩, ?_⟩, ?_, rfl⟩
  ·rcases h5 with h5 | ⟨s, g1, g2, _⟩
   ·exact Or.inl ⟨Or.inr rfl, h5.2⟩
   ·exfalso
    unfold Z2 at c0
    simp only [Bool.and_eq_false_iff, decide_eq_false_iff_not] at c0
    omega
  ·simp only [lkM, JB.refuse]
   rw [if_pos trivial, if_neg hst]
   rcases h5 with ⟨h5 | h5, _⟩ | ⟨s, _, _, _, g4, _⟩ <;> omega
 have hin : 0 ≤ j.shard ∧ j.shard < N := by
  have : Z2 x j.shard = true := by simpa using c0
  unfold Z2 at this; rw [h1] at this; simpa using this
 obtain ⟨s, hs⟩ : ∃ s : Nat, j.shard = s := ⟨j.shard.toNat, by omega⟩
 have hsN : s < N := by omega
 have hm : ∀ st' : Int, (st' = j.b.st + 1 ∨ st' = -1) → (if st' = -1 then 0 else (4 - st').toNat) < (if j.b.st = -1 then 0 else (4 - j.b.st).toNat) := fun st' h => by
  rw [if_neg hst]
  have : 0 ≤ j.b.st ∧ j.b.st ≤ 3 := by rcases h5 with ⟨h5 | h5, _⟩ | ⟨s, _, _, _, g4, _⟩ <;> omega
  split <;> omega
 unfold E4
 rw [if_neg c0]
 by_cases d0 : j.b.st = 0
 ·rw [if_pos d0]
  have h5 : x.own = B := by
   rcases h5 with ⟨_, h5⟩ | ⟨s', _, _, _, g4, _⟩
   ·exact h5
   ·omega
  have hown : B.getD s 0 = -1 := by
   simp [JV.ready, JV.waits, JV.b, d0, hs] at hr
   rw [h5, A1T (by omega)] at hr
   rcases hBs s hsN with h | h <;> omega
  left
  refine ⟨⟨⟨h1, h2, h3, h4⟩, Or.inr ⟨s, hs, hsN, hown, by simp only [JE.up]; omega, ?_⟩⟩, hm _ (Or.inl rfl), rfl⟩
  simp only
  rw [hs, h5, h4]
  unfold l2
  rw [if_pos hw, A09 (by omega), if_pos hown]
 rw [if_neg d0]
 rcases h5 with ⟨h5 | h5, _⟩ | ⟨s', g1, g2, g3, g4, g5⟩
 ·omega
 ·omega
 obtain rfl : s = s' := by omega
 by_cases d1 : j.b.st = 1
 ·rw [if_pos d1]
  have ht : A0C (A5K x j.shard) := by
   unfold A5K
   rw [hs, Int.toNat_natCast, List.getD_eq_getElem?_getD, List.getElem?_eq_getElem (by omega)]
   exact h2 _ (List.getElem_mem _)
  right
  simp only [B3U ht]
  exact ⟨⟨⟨h1, h2, ht, h4⟩, Or.inr ⟨s, hs, g2, g3, by simp only; omega, g5⟩⟩, hm _ (Or.inl rfl), ht⟩
 rw [if_neg d1]
 by_cases d2 : j.b.st = 2
 ·rw [if_pos d2]
  left
  refine ⟨⟨⟨by simp only [List.length_set]; exact h1, fun t ht => ?_, h3, h4⟩, Or.inr ⟨s, hs, g2, g3, by simp only [JE.up]; omega, g5⟩⟩, hm _ (Or.inl rfl), rfl⟩
  rcases List.mem_or_eq_of_mem_set ht with ht | rfl
  ·exact h2 t ht
  ·exact h3
 rw [if_neg d2]
 left
 refine ⟨⟨⟨h1, h2, h3, h4⟩, Or.inl ⟨Or.inr rfl, ?_⟩⟩, hm _ (Or.inr rfl), rfl⟩
 simp only
 rw [hs, g5, h4]
 unfold H7
 have hb : (B.set s who).getD s 0 = who := by rw [Q5 (by omega), if_pos rfl]
 rw [if_pos hw, A09 (by rw [List.length_set]; omega), if_pos hb, List.set_set]
 refine W2 (by rw [List.length_set]) fun k hk => ?_
 rw [List.length_set] at hk
 rw [Q5 hk]
 by_cases c : s = k
 ·rw [if_pos c, ← c, g3]
 ·rw [if_neg c]
theorem B15 {N : Nat} {who : Int} {B : List Int} (hB : B.length = N) (hN : 1 ≤ N) (hw : 0 ≤ who) (hBs : ∀ j, j < N → B.getD j 0 = -1 ∨ B.getD j 0 = 99) {b : JB} {x : WS} (h : U8 N who B (.sta b, x)) (hr : (JV.sta b).ready x = true) :
  U8 N who B (H4 (.sta b, x)) ∧ lkM N (H4 (.sta b, x)).1 < lkM N (.sta b) ∧ (b.st < N → (L7 b x).1.st = b.st + 1) := by
 obtain ⟨⟨h1, h2, h3⟩, k, h4, h5, h6, h7⟩ := h
 have hst : b.st ≠ -1 := fun h => by simp [JV.ready, JV.b, h] at hr
 have hk : k < 3 * N := by
  by_cases c : k = 3 * N
  ·rw [if_pos c] at h7; exact absurd h7 hst
  ·omega
 rw [if_neg (by omega)] at h7
 simp only [H4, JV.step0]
 have em : b.st % (N : Int) = ((k % N : Nat) : Int) := by rw [h7]; rfl
 unfold L7
 simp only [h1, em]
 by_cases c0 : k < N
 ·have hmod : k % N = k := Nat.mod_eq_of_lt c0
  rw [if_pos (show b.st < (N : Int) by omega), hmod]
  have hown : B.getD k 0 = -1 := by
   have hlt : b.st < (x.tabs.length : Int) := by omega
   simp [JV.ready, JV.waits, JV.b, hst, hlt] at hr
   rw [h7, h6, A1T (by rw [F5]; exact c0), N2 c0, if_neg (by omega)] at hr
   rcases hBs k c0 with h | h <;> omega
  refine ⟨⟨⟨h1, h2, h3⟩, k + 1, by omega, fun j hj hjN => ?_, ?_, ?_⟩, ?_, fun _ => rfl⟩
  ·by_cases c : j = k
   ·rw [c]; exact hown
   ·exact h5 j (by omega) hjN
  ·simp only
   rw [h6, h3]
   unfold l2
   rw [if_pos hw, A09 (by rw [F5]; exact c0), if_pos (by rw [N2 c0, if_neg (by omega)]; exact hown)]
   refine W2 (by rw [List.length_set, F5, F5]) fun j hj => ?_
   rw [List.length_set, F5] at hj
   rw [Q5 (by rw [F5]; exact hj), N2 hj, N2 hj]
   by_cases c : k = j
   ·rw [if_pos c, if_pos (by omega)]
   ·rw [if_neg c]
    by_cases c2 : j < k
    ·rw [if_pos (by omega), if_pos (by omega)]
    ·rw [if_neg (by omega), if_neg (by omega)]
  ·simp only; rw [if_neg (by omega), h7]; omega
  ·simp only [lkM]; rw [if_neg hst, if_neg (by omega)]; omega
 rw [if_neg (show ¬ b.st < (N : Int) by omega)]
 by_cases c1 : k < 2 * N
 ·rw [if_pos (show b.st < 2 * (N : Int) by omega)]
  refine ⟨⟨⟨h1, h2, h3⟩, k + 1, by omega, fun j hj hjN => h5 j (by omega) hjN, ?_, ?_⟩, ?_, fun h => by omega⟩
  ·simp only
   rw [h6]
   refine W2 (by rw [F5, F5]) fun j hj => ?_
   rw [F5] at hj
   rw [N2 hj, N2 hj, if_pos (by omega), if_pos (by omega)]
  ·simp only; rw [if_neg (by omega), h7]; omega
  ·simp only [lkM]; rw [if_neg hst, if_neg (by omega)]; omega
 rw [if_neg (show ¬ b.st < 2 * (N : Int) by omega)]
 obtain ⟨r, rfl⟩ : ∃ r, k = 2 * N + r := ⟨k - 2 * N, by omega⟩
 have hmod : (2 * N + r) % N = r := by rw [show 2 * N + r = r + N * 2 by omega, Nat.add_mul_mod_self_left]; exact Nat.mod_eq_of_lt (by omega)
 rw [hmod]
 have hun : H7 x.own ((r : Nat) : Int) b.who = stO N who B (2 * N + r + 1) := by
  rw [h6, h3]
  unfold H7
  rw [if_pos hw, A09 (by rw [F5]; omega), if_pos (by rw [N2 (by omega), if_pos (by omega)])]
  refine W2 (by rw [List.length_set, F5, F5]) fun j hj => ?_
  rw [List.length_set, F5] at hj
  rw [Q5 (by rw [F5]; exact hj), N2 hj, N2 hj]
  by_cases c : r = j
  ·rw [if_pos c, if_neg (by omega), h5 j (by omega) hj]
  ·rw [if_neg c]
   by_cases c2 : r ≤ j
   ·rw [if_pos (by omega), if_pos (by omega)]
   ·rw [if_neg (by omega), if_neg (by omega)]
 by_cases c2 : ((r : Nat) : Int) = (N : Int) - 1
 ·rw [if_pos c2]
  refine ⟨⟨⟨h1, h2, h3⟩, 2 * N + r + 1, by omega, fun j hj hjN => h5 j (by omega) hjN, hun, ?_⟩, ?_, fun h => by omega⟩
  ·simp only; rw [if_pos (by omega)]
  ·simp only [lkM]; rw [if_neg hst]; simp only [if_true]; omega
 ·rw [if_neg c2]
  refine ⟨⟨⟨h1, h2, h3⟩, 2 * N + r + 1, by omega, fun j hj hjN => h5 j (by omega) hjN, hun, ?_⟩, ?_, fun h => by omega⟩
  ·simp only; rw [if_neg (by omega), h7]; omega
  ·simp only [lkM]; rw [if_neg hst, if_neg (by omega)]; omega
theorem B0y (Q : JV × WS → Prop) (μ : JV × WS → Nat) (hs : ∀ y, Q y → y.1.ready y.2 = true → Q (H4 y) ∧ μ (H4 y) < μ y) (he : ∀ y, Q y → y.1.ready y.2 = false → y.1.b.st = -1) :
  ∀ (f : Nat) (y : JV × WS) (n tk bad : Nat), Q y → μ y ≤ f → Q ((Q1 f (S4 y n tk bad)).j, (Q1 f (S4 y n tk bad)).x) ∧ (Q1 f (S4 y n tk bad)).j.b.st = -1
 | 0, y, n, tk, bad, h, hf => by
  have hr : y.1.ready y.2 = false := by
   cases hr : y.1.ready y.2 with
   | false => rfl
   | true => have := (hs y h hr).2; omega
  exact ⟨h, he y h hr⟩
 | f + 1, y, n, tk, bad, h, hf => by
  cases hr : y.1.ready y.2 with
  | false => rw [A6S hr]; exact ⟨h, he y h hr⟩
  | true =>
   obtain ⟨h1, h2⟩ := hs y h hr
   rw [A4n hr]
   exact B0y Q μ hs he f _ _ _ _ h1 (by omega)
def E2 (N : Nat) : List Int := List.replicate N (-1)
theorem H9 {N j : Nat} (h : j < N) : (E2 N).getD j 0 = -1 := by
 rw [List.getD_eq_getElem?_getD, List.getElem?_eq_getElem (by simp [E2]; exact h)]; simp [E2]
theorem A1L {l : List Int} (h : ∀ j, j < l.length → l.getD j 0 = -1) (i : Int) : U3 l i = -1 := by
 unfold U3
 split
 ·rename_i hi; exact h _ (by omega)
 ·rfl
theorem A5Z {N : Nat} {who : Int} {B : List Int} (hB : B.length = N) (hN : 1 ≤ N) (hw : 0 ≤ who) (hBs : ∀ j, j < N → B.getD j 0 = -1 ∨ B.getD j 0 = 99) {y : JV × WS} (h : U8 N who B y) (hr : y.1.ready y.2 = true) : U8 N who B (H4 y) ∧ lkM N (H4 y).1 < lkM N y.1 := by
 obtain ⟨j, x⟩ := y
 cases j with
 | exp j => rcases B3Q hB hN hw hBs h hr with ⟨h1, h2, _⟩ | ⟨h1, h2, _⟩ <;> exact ⟨h1, h2⟩
 | sta b => obtain ⟨h1, h2, _⟩ := B15 hB hN hw hBs h hr; exact ⟨h1, h2⟩
 | upd j => exact h.elim
 | non j => exact h.elim
theorem B6g {N : Nat} {who : Int} (hN : 1 ≤ N) {y : JV × WS} (h : U8 N who (E2 N) y) (hr : y.1.ready y.2 = false) : y.1.b.st = -1 := by
 obtain ⟨j, x⟩ := y
 have hl : (E2 N).length = N := by simp [E2]
 cases j with
 | exp j =>
  obtain ⟨⟨h1, h2, h3, h4⟩, h5⟩ := h
  simp only [JV.ready, JV.waits, JV.b] at hr ⊢
  by_cases c : j.b.st = -1
  ·exact c
  ·exfalso
   rcases h5 with ⟨h5 | h5, h6⟩ | ⟨s, _, _, _, g4, _⟩
   ·have : U3 x.own j.shard = -1 := by rw [h6]; exact A1L (fun k hk => H9 (by omega)) _
    simp [h5, this] at hr
   ·exact c h5
   ·have : ¬ j.b.st = 0 := by omega
    simp [this, c] at hr
 | sta b =>
  obtain ⟨⟨h1, h2, h3⟩, k, h4, h5, h6, h7⟩ := h
  simp only [JV.ready, JV.waits, JV.b] at hr ⊢
  by_cases c : b.st = -1
  ·exact c
  ·exfalso
   by_cases ck : k = 3 * N
   ·rw [if_pos ck] at h7; exact c h7
   ·rw [if_neg ck] at h7
    by_cases c2 : k < N
    ·have : U3 x.own b.st = -1 := by rw [h7, h6, A1T (by rw [F5]; exact c2), N2 c2, if_neg (by omega)]; exact H9 c2
     simp [c, this] at hr
    ·have : ¬ b.st < (x.tabs.length : Int) := by omega
     simp [c, this] at hr
 | upd j => exact h.elim
 | non j => exact h.elim
theorem B7H {N : Nat} {who : Int} {B : List Int} {y : JV × WS} (hN : N ≤ 16) (h : U8 N who B y) : lkM N y.1 ≤ 200 := by
 obtain ⟨j, x⟩ := y
 cases j with
 | exp j =>
  obtain ⟨_, h5⟩ := h
  simp only [lkM]
  rcases h5 with ⟨h5 | h5, _⟩ | ⟨s, _, _, _, g4, _⟩ <;> split <;> omega
 | sta b =>
  obtain ⟨_, k, h4, _, _, h7⟩ := h
  simp only [lkM]
  split
  ·omega
  ·split at h7 <;> omega
 | upd j => exact h.elim
 | non j => exact h.elim
theorem B5g {N : Nat} {who : Int} {y : JV × WS} (h : U8 N who (E2 N) y) (he : y.1.b.st = -1) : y.2.own = E2 N := by
 obtain ⟨j, x⟩ := y
 cases j with
 | exp j =>
  obtain ⟨_, h5⟩ := h
  simp only [JV.b] at he
  rcases h5 with ⟨_, h6⟩ | ⟨s, _, _, _, g4, _⟩
  ·exact h6
  ·omega
 | sta b =>
  obtain ⟨_, k, h4, _, h6, h7⟩ := h
  simp only [JV.b] at he
  simp only
  by_cases ck : k = 3 * N
  ·rw [h6, ck]
   refine W2 (by rw [F5]; simp [E2]) fun j hj => ?_
   rw [F5] at hj
   rw [N2 hj, if_neg (by omega)]
  ·rw [if_neg ck] at h7; omega
 | upd j => exact h.elim
 | non j => exact h.elim
theorem B60 {N : Nat} {who : Int} (hN : 1 ≤ N ∧ N ≤ 16) (hw : 0 ≤ who) {y : JV × WS} (h : U8 N who (E2 N) y) (n tk bad : Nat) :
  (Q1 200 (S4 y n tk bad)).j.b.st = -1 ∧ (Q1 200 (S4 y n tk bad)).x.own = E2 N := by
 have hl : (E2 N).length = N := by simp [E2]
 obtain ⟨h1, h2⟩ := B0y (U8 N who (E2 N)) (fun y => lkM N y.1) (fun y hy hr => A5Z hl hN.1 hw (fun j hj => Or.inl (H9 hj)) hy hr) (fun y hy hr => B6g hN.1 hy hr) 200 y n tk bad h (B7H hN.2 h)
 exact ⟨h2, B5g h1 h2⟩
end Go.Proofs.YtjobgnabneddjaaGreat
namespace Go.Proofs.YtjobgnabneddjaaGreat
open Go
def l4 (N i : Nat) : List Int := (E2 N).set i 99
theorem G6 (N i : Nat) : (l4 N i).length = N := by simp [l4, E2]
theorem V1 {N i j : Nat} (h : j < N) : (l4 N i).getD j 0 = if i = j then 99 else -1 := by
 unfold l4; rw [Q5 (by simp [E2]; exact h), H9 h]
theorem A5d {N i : Nat} (j : Nat) (h : j < N) : (l4 N i).getD j 0 = -1 ∨ (l4 N i).getD j 0 = 99 := by
 rw [V1 h]; split <;> simp
def A2V (N : Nat) (who : Int) (i n : Nat) : JV × WS → Prop
 | (.exp j, x) => U8 N who (l4 N i) (.exp j, x) ∧ (j.shard = (i : Nat) → j.b.st = 0)
 | (.sta b, x) => U8 N who (l4 N i) (.sta b, x) ∧ b.st = ((min n i : Nat) : Int)
 | _ => False
theorem A0Z {N : Nat} {who : Int} {i n : Nat} {y : JV × WS} (h : A2V N who i n y) : U8 N who (l4 N i) y := by
 obtain ⟨j, x⟩ := y
 cases j with
 | exp j => exact h.1
 | sta b => exact h.1
 | upd j => exact h.elim
 | non j => exact h.elim
theorem B0s {N : Nat} {who : Int} {i n : Nat} (hi : i < N) {j : JE} {x : WS} (h : A2V N who i n (.exp j, x)) (hs : j.shard = (i : Nat)) : (JV.exp j).ready x = false := by
 obtain ⟨⟨_, h5⟩, h6⟩ := h
 have h0 := h6 hs
 rcases h5 with ⟨_, h5⟩ | ⟨s, _, _, _, g4, _⟩
 ·have : U3 x.own j.shard = 99 := by rw [h5, hs, A1T (by rw [G6]; exact hi), V1 hi, if_pos rfl]
  simp [JV.ready, JV.waits, JV.b, h0, this]
 ·omega
theorem A5n {N : Nat} {who : Int} {i n : Nat} (hi : i < N) {b : JB} {x : WS} (h : A2V N who i n (.sta b, x)) : (JV.sta b).ready x = decide (n < i) ∧ x.own = stO N who (l4 N i) (min n i) := by
 obtain ⟨⟨⟨h1, h2, h3⟩, k, h4, h5, h6, h7⟩, h8⟩ := h
 have hk : k = min n i := by
  by_cases c : k = 3 * N
  ·rw [if_pos c] at h7; omega
  ·rw [if_neg c] at h7; omega
 rw [hk] at h6
 refine ⟨?_, h6⟩
 have hlt : b.st < (x.tabs.length : Int) := by rw [h1, h8]; omega
 have hne : ¬ b.st = -1 := by rw [h8]; omega
 have ho : U3 x.own b.st = if n < i then -1 else 99 := by
  rw [h8, h6, A1T (by rw [F5]; omega), N2 (by omega), if_neg (by omega), V1 (by omega)]
  by_cases c : n < i
  ·rw [if_pos c, if_neg (by omega)]
  ·rw [if_neg c, if_pos (by omega)]
 simp only [JV.ready, JV.waits, JV.b, ho]
 by_cases c : n < i
 ·simp [c, hne]
 ·simp [c, hne, hlt]
theorem A8Y (j : JE) (x : WS) : (E4 j x).1.shard = j.shard := by
 unfold E4
 by_cases c : Z2 x j.shard = false
 ·rw [if_pos c]
 rw [if_neg c]
 by_cases c : j.b.st = 0
 ·rw [if_pos c]; rfl
 rw [if_neg c]
 by_cases c : j.b.st = 1
 ·rw [if_pos c]
 rw [if_neg c]
 by_cases c : j.b.st = 2
 ·rw [if_pos c]; rfl
 rw [if_neg c]
theorem A9D {N : Nat} {who : Int} {i n : Nat} (hN : 1 ≤ N) (hw : 0 ≤ who) (hi : i < N) {y : JV × WS} (h : A2V N who i n y) : A2V N who i (n + 1) (A11 y) := by
 obtain ⟨j, x⟩ := y
 unfold A11
 cases j with
 | exp j =>
  cases hr : (JV.exp j).ready x with
  | false => rw [if_neg (by simp)]; exact h
  | true =>
   rw [if_pos (by simp)]
   have hne : j.shard ≠ (i : Nat) := fun hs => by rw [B0s hi h hs] at hr; cases hr
   have h1 := (A5Z (G6 N i) hN hw (fun j hj => A5d j hj) h.1 hr).1
   refine ⟨h1, fun hs => ?_⟩
   exfalso
   have : (E4 j x).1.shard = j.shard := A8Y j x
   exact hne (by rw [← this]; exact hs)
 | sta b =>
  obtain ⟨e1, e2⟩ := A5n hi h
  simp only [e1]
  by_cases c : n < i
  ·rw [if_pos (by simpa using c)]
   have hr : (JV.sta b).ready x = true := by rw [e1]; simpa using c
   obtain ⟨h1, _, h3⟩ := B15 (G6 N i) hN hw (fun j hj => A5d j hj) h.1 hr
   have h8 := h.2
   refine ⟨h1, ?_⟩
   rw [h3 (by rw [h8]; omega), h8]
   omega
  ·rw [if_neg (by simpa using c)]
   refine ⟨h.1, ?_⟩
   have h8 := h.2
   rw [h8]; omega
 | upd j => exact h.elim
 | non j => exact h.elim
def l8 (own : List Int) (who : Int) (j : Nat) : Nat := ((List.range j).filter fun p => decide (own.getD p 0 = who)).length
theorem A5M (own : List Int) (who : Int) (j : Nat) : l8 own who (j + 1) = if own.getD j 0 = who then l8 own who j + 1 else l8 own who j := by
 unfold l8
 rw [List.range_succ, List.filter_append, List.length_append]
 by_cases c : own.getD j 0 = who
 ·rw [if_pos c]; simp only [List.filter_cons, c, decide_true, if_true, List.filter_nil, List.length_cons, List.length_nil]
 ·rw [if_neg c]; simp only [List.filter_cons, c, decide_false, Bool.false_eq_true, if_false, List.filter_nil, List.length_nil, Nat.add_zero]
theorem B0n (own : List Int) (who : Int) (j : Nat) : l8 own who j ≤ j := by
 unfold l8
 exact Nat.le_trans (List.length_filter_le _ _) (by simp)
theorem B4Q {N : Nat} {who : Int} {i n : Nat} (hw : 0 ≤ who ∧ who ≤ 60) (hi : i < N) {b : JB} {x : WS} (h : A2V N who i n (.sta b, x)) : l8 x.own who N = min n i := by
 obtain ⟨_, e⟩ := A5n hi h
 have key : ∀ j, j ≤ N → l8 x.own who j = min j (min n i) := fun j => by
  induction j with
  | zero => intro _; simp [l8]
  | succ j ih =>
   intro hj
   rw [A5M, ih (by omega), e, N2 (by omega)]
   by_cases c : j < min n i
   ·have e1 : (if j < min n i ∧ min n i ≤ 2 * N + j then who else (l4 N i).getD j 0) = who := if_pos ⟨c, by omega⟩
    rw [if_pos e1]; omega
   ·have e1 : ¬ (if j < min n i ∧ min n i ≤ 2 * N + j then who else (l4 N i).getD j 0) = who := by
     rw [if_neg (fun h => c h.1), V1 (by omega)]
     split <;> omega
    rw [if_neg e1]; omega
 rw [key N (Nat.le_refl _)]; omega
theorem A60 {N : Nat} {who : Int} {i n : Nat} (hw : 0 ≤ who ∧ who ≤ 60) (hi : i < N) {y : JV × WS} (h : A2V N who i n y) : U8 N who (E2 N) (y.1, { y.2 with own := H7 y.2.own (i : Nat) 99 }) := by
 have hfl : (E2 N).length = N := by simp [E2]
 have hset : ∀ (l : List Int), l.length = N → l.getD i 0 = 99 → H7 l (i : Nat) 99 = l.set i (-1) := fun l hl h99 => by
  unfold H7; rw [if_pos (by omega), A09 (by omega), if_pos h99]
 obtain ⟨j, x⟩ := y
 cases j with
 | exp j =>
  obtain ⟨⟨h4, h5⟩, h6⟩ := h
  refine ⟨h4, ?_⟩
  rcases h5 with ⟨h5, h7⟩ | ⟨s, g1, g2, g3, g4, g5⟩
  ·refine Or.inl ⟨h5, ?_⟩
   simp only
   rw [h7, hset _ (G6 N i) (by rw [V1 hi, if_pos rfl])]
   refine W2 (by rw [List.length_set, G6, hfl]) fun k hk => ?_
   rw [List.length_set, G6] at hk
   rw [Q5 (by rw [G6]; exact hk), H9 hk, V1 hk]
   by_cases c : i = k
   ·rw [if_pos c]
   ·rw [if_neg c, if_neg c]
  ·have hne : i ≠ s := fun hc => by rw [← hc, V1 hi, if_pos rfl] at g3; omega
   refine Or.inr ⟨s, g1, g2, H9 g2, g4, ?_⟩
   simp only
   have hl : ((l4 N i).set s who).length = N := by rw [List.length_set, G6]
   rw [g5, hset _ hl (by rw [Q5 (by rw [G6]; exact hi), if_neg (Ne.symm hne), V1 hi, if_pos rfl])]
   refine W2 (by rw [List.length_set, hl, List.length_set, hfl]) fun k hk => ?_
   rw [List.length_set, hl] at hk
   rw [Q5 (by rw [hl]; exact hk), Q5 (by rw [G6]; exact hk), Q5 (by rw [hfl]; exact hk), H9 hk, V1 hk]
   by_cases c : i = k
   ·rw [if_pos c, if_neg (by omega)]
   ·rw [if_neg c, if_neg c]
 | sta b =>
  obtain ⟨_, e⟩ := A5n hi h
  obtain ⟨⟨h1, k, h4, h5, h6, h7⟩, h8⟩ := h
  have hk : k = min n i := by
   by_cases c : k = 3 * N
   ·rw [if_pos c] at h7; omega
   ·rw [if_neg c] at h7; omega
  refine ⟨h1, k, h4, fun j _ hj => H9 hj, ?_, h7⟩
  simp only
  have hl := F5 N who (l4 N i) k
  rw [h6, hset _ hl (by rw [N2 hi, if_neg (by omega), V1 hi, if_pos rfl])]
  refine W2 (by rw [List.length_set, hl, F5]) fun j hj => ?_
  rw [List.length_set, hl] at hj
  rw [Q5 (by rw [hl]; exact hj), N2 hj, N2 hj, V1 hj, H9 hj]
  by_cases c : i = j
  ·rw [if_pos c, if_neg (by omega)]
  ·rw [if_neg c]
   by_cases c2 : j < k ∧ k ≤ 2 * N + j
   ·rw [if_pos c2, if_pos c2]
   ·rw [if_neg c2, if_neg c2, if_neg c]
 | upd j => exact h.elim
 | non j => exact h.elim
end Go.Proofs.YtjobgnabneddjaaGreat
namespace Go.Proofs.YtjobgnabneddjaaGreat
open Go
def Y9 (b : Nat) (j : JE) (tv : Value) : Res := .pt b (.cells (C0 j.b [.int .i64 j.shard, .int .i64 (j.place : Nat), tv]) 170)
abbrev d9 := List (Value × List EnV)
structure WoX where
 cn : Int
 own : List Int
 tv : Value
 pv : Value
 ts : d9
 pl : List Nat
def WoH.ux (m : WoH) (d : WoX) : WoH := { m with cn := d.cn, own := d.own, tv := d.tv, pv := d.pv, ts := d.ts, pl := d.pl }
def WoH.dx (m : WoH) : WoX := ⟨m.cn, m.own, m.tv, m.pv, m.ts, m.pl⟩
def A6A (a b : d9) : Prop := ∀ t ∈ a, t ∈ b
theorem A6A.left {a b : d9} (h : A6A a b) (c : d9) : A6A a (b ++ c) := fun t ht => List.mem_append_left _ (h t ht)
def A5l (a b : d9) (t : List EnV) : Prop := ∀ x ∈ b, x ∈ a ∨ x.2 = t
theorem A5l.same (a : d9) (t : List EnV) : A5l a a t := fun x hx => Or.inl hx
theorem A5l.push (a : d9) (v : Value) (t : List EnV) : A5l a (a ++ [(v, t)]) t := fun x hx => by
 rcases List.mem_append.1 hx with hx | hx
 ·exact Or.inl hx
 ·rw [List.mem_singleton.1 hx]; exact Or.inr rfl
structure TabsOk (m : WoH) (P : d9) : Prop where
 few : m.ts.length ≤ 1000
 pl : m.pl.length = m.ts.length
 len : ∀ t ∈ m.ts, t.2.length ≤ 1000000
 keys : ∀ t ∈ m.ts, A1K t.2
 own : m.own.length ≤ 1024
 pool : A6A m.ts P
theorem B6N {l : List Nat} {i : Nat} (h : i < l.length) : (e7 l)[i]? = some (.int .i64 (l.getD i 0 : Nat)) := by
 unfold e7; rw [List.getElem?_map, List.getElem?_eq_getElem h, List.getD_eq_getElem?_getD, List.getElem?_eq_getElem h]; rfl
theorem A9b {α : Type} {f : α → Value} (l : List α) (i : Nat) (x : α) (h : i < l.length) : U0 (l.map f) i [f x] = (l.set i x).map f := by rw [B0A (by simpa using h), List.map_set]
theorem B3L {κ : Bool} {S : List Nat} {w0 : World} {H : List Res} {K0 : WP} {P : d9} {v : Value} {l : List EnV} (hm : K8 P ∈ H) (ht : (v, l) ∈ P) (h : ∀ a c, v = .slice a l.length c → TW κ S w0 H K0) : TW κ S w0 H K0 := fun w hw => by
 obtain ⟨a, c, e⟩ := K9.form ((hw.hold _ hm : A74 P w) _ ht)
 exact h a c e w hw
set_option maxHeartbeats 2000000 in
theorem B3g (w : World) (b : Nat) (j : JE) (tv : Value) (m : WoH) (P : d9) (hx : TabsOk m P) (hst : 0 ≤ j.b.st ∧ j.b.st ≤ 500) (ht : (tv, j.table) ∈ P)
  (hw : LW false (B2 (Y9 b j tv :: K8 P :: C3 m)) w (Y9 b j tv :: K8 P :: C3 m) w) :
  Fn PR B8 329 #[.pointer (some ⟨b, 0, none⟩), .pointer (some ⟨m.b, 0, none⟩)] w (Rn (B2 (Y9 b j tv :: K8 P :: C3 m)) w (fun (y : Value × WoX × d9) u => u = H3 (E4 j m.ws).2.2 ∧ (m.ux y.2.1).ws = (E4 j m.ws).2.1 ∧ A6A y.2.1.ts y.2.2 ∧ (y.1, (E4 j m.ws).1.table) ∈ y.2.2 ∧ A5l P y.2.2 (E4 j m.ws).1.table) fun y => Y9 b (E4 j m.ws).1 y.1 :: K8 y.2.2 :: C3 (m.ux y.2.1)) := by
 refine A2L (TW.goH (κ := false) ?_ hw)
 unfold j7
 obtain ⟨h1, h2, h3, h4, h5, h6⟩ := hx
 have htl : m.ws.tabs.length = m.ts.length := by simp [WoH.ws]
 generalize hS : B2 (Y9 b j tv :: K8 P :: C3 m) = S at *
 by_cases c1 : Z2 m.ws j.shard = false
 ·have e : E4 j m.ws = ({ j with b := j.b.refuse 1 }, m.ws, true, true, false) := if_pos c1
  rw [e]
  simp only [C3, Y9, C0, D3, D7, WoH.ux]
  have c1' : j.shard < 0 ∨ (m.ts.length : Int) ≤ j.shard := by
   unfold Z2 at c1; rw [htl] at c1
   simp only [Bool.and_eq_false_iff, decide_eq_false_iff_not] at c1
   omega
  refine Q8 (e := 84) (k := 1) (v := m.tv) (q := m.ts.length) (xs := m.ts.map (·.1)) (by (repeat constructor)) fun ta tc hta => ?_
  rw [hta]
  rcases c1' with c1 | c1
  ·(have zz:=trivial;repeat((first|clear zz|with_reducible first|refine A3 ?_|refine A5 fun _=>?_|refine A4 fun _=>?_);try simp(disch:=first|omega|assumption|((repeat(first|exact A1|exact uH|apply A2|apply uT));first|done|fail)|(simp;first|done|omega|fail))[c1]))
   refine B4 (Hc := [.pt b (.cells (C0 j.b [.int .i64 j.shard, .int .i64 (j.place : Nat), tv]) 170)]) M3 (fun w' _ hs => A0w w' b _ j.b _ 1 hs) (by unfold C0; (repeat' constructor)) ?_
   rintro _ v rfl
   simp only [List.cons_append, List.nil_append, H3, C0]
   (have zz:=trivial;repeat((first|clear zz|with_reducible first|refine A3 ?_|refine A5 fun _=>?_|refine A4 fun _=>?_);try simp(disch:=first|omega|assumption|((repeat(first|exact A1|exact uH|apply A2|apply uT));first|done|fail)|(simp;first|done|omega|fail))[]))
   refine B0 (tv, m.dx, P) ⟨rfl, rfl, h6, ht, .same _ _⟩ ?_
   simp only [WoH.dx, hta]
   (repeat' constructor)
  ·have c2 : ¬ j.shard < 0 := by omega
   have c3 : ¬ j.shard < (m.ts.length : Nat) := by omega
   (have zz:=trivial;repeat((first|clear zz|with_reducible first|refine A3 ?_|refine A5 fun _=>?_|refine A4 fun _=>?_);try simp(disch:=first|omega|assumption|((repeat(first|exact A1|exact uH|apply A2|apply uT));first|done|fail)|(simp;first|done|omega|fail))[c1, c2, c3]))
   refine B4 (Hc := [.pt b (.cells (C0 j.b [.int .i64 j.shard, .int .i64 (j.place : Nat), tv]) 170)]) M3 (fun w' _ hs => A0w w' b _ j.b _ 1 hs) (by unfold C0; (repeat' constructor)) ?_
   rintro _ v rfl
   simp only [List.cons_append, List.nil_append, H3, C0]
   (have zz:=trivial;repeat((first|clear zz|with_reducible first|refine A3 ?_|refine A5 fun _=>?_|refine A4 fun _=>?_);try simp(disch:=first|omega|assumption|((repeat(first|exact A1|exact uH|apply A2|apply uT));first|done|fail)|(simp;first|done|omega|fail))[]))
   refine B0 (tv, m.dx, P) ⟨rfl, rfl, h6, ht, .same _ _⟩ ?_
   simp only [WoH.dx, hta]
   (repeat' constructor)
 have c1t : Z2 m.ws j.shard = true := by simpa using c1
 have c2 : 0 ≤ j.shard ∧ j.shard < m.ts.length := by unfold Z2 at c1t; rw [htl] at c1t; simpa using c1t
 obtain ⟨i, hi⟩ : ∃ i : Nat, j.shard = i := ⟨j.shard.toNat, by omega⟩
 have hlt : i < m.ts.length := by omega
 have hlp : i < m.pl.length := by omega
 have n1 : ¬ ((i : Nat) : Int) < 0 := by omega
 have n2 : ¬ (m.ts.length : Int) ≤ (i : Nat) := by omega
 have n3 : ¬ m.ts.length ≤ i := by omega
 obtain ⟨⟨tv0, tl⟩, hx0⟩ : ∃ x, m.ts[i]? = some x := ⟨_, List.getElem?_eq_getElem hlt⟩
 have hxm := List.mem_of_getElem? hx0
 have g0 : (m.ts.map (·.1))[i]? = some tv0 := by rw [List.getElem?_map, hx0]; rfl
 have gp := B6N hlp
 have gg : m.ts[i]'hlt = (tv0, tl) := (List.getElem?_eq_some_iff.1 hx0).2
 have hti : A5K m.ws j.shard = tl := by simp [A5K, WoH.ws, hi, List.getD_eq_getElem?_getD, hx0]
 have hpi : A9M m.ws j.shard = m.pl.getD i 0 := by simp [A9M, WoH.ws, hi]
 obtain ⟨pn, hpn⟩ : ∃ z, z = m.pl.getD i 0 := ⟨_, rfl⟩
 rw [← hpn] at gp hpi
 have gpp := (List.getElem?_eq_some_iff.1 gp).2
 have hnow : m.ws.now = m.now := rfl
 unfold E4
 rw [if_neg c1, hti, hpi, hnow]
 by_cases d0 : j.b.st = 0
 ·simp only [if_pos d0]
  simp only [C3, Y9, C0, D3, D7, WoH.ux, JE.up, hi]
  refine Q8 (e := 84) (k := 1) (v := m.tv) (q := m.ts.length) (xs := m.ts.map (·.1)) (by (repeat constructor)) fun ta tc hta => ?_
  rw [hta]
  (have zz:=trivial;repeat((first|clear zz|with_reducible first|refine A3 ?_|refine A5 fun _=>?_|refine A4 fun _=>?_);try simp(disch:=first|omega|assumption|((repeat(first|exact A1|exact uH|apply A2|apply uT));first|done|fail)|(simp;first|done|omega|fail))[d0, hlt, n1, n2, n3]))
  refine B4 (Hc := B3 m.bc m.cn m.cv m.ov m.cells m.own) Q0 (fun w' _ hs => A31 w' m.bc m.cn m.cv m.ov m.cells m.own (i : Nat) j.b.who h5 hs) (by unfold B3; (repeat' constructor)) ?_
  rintro n' v ⟨r, rfl⟩
  simp only [B3, List.cons_append, List.nil_append]
  (have zz:=trivial;repeat((first|clear zz|with_reducible first|refine A3 ?_|refine A5 fun _=>?_|refine A4 fun _=>?_);try simp(disch:=first|omega|assumption|((repeat(first|exact A1|exact uH|apply A2|apply uT));first|done|fail)|(simp;first|done|omega|fail))[]))
  refine B0 (tv, { m.dx with cn := n', own := l2 m.own (i : Nat) j.b.who, tv := .slice ta m.ts.length tc }, P) ⟨rfl, by simp only [WoH.ws, WoH.dx], h6, ht, .same _ _⟩ ?_
  simp only [WoH.dx, d0]
  (repeat' constructor)
 simp only [if_neg d0]
 by_cases d1 : j.b.st = 1
 ·simp only [if_pos d1]
  simp only [C3, Y9, C0, D3, D7, WoH.ux, JE.up, hi]
  refine A0G (e := 84) (k := 1) (v := m.tv) (q := m.ts.length) (xs := m.ts.map (·.1)) (by (repeat constructor)) (by omega) fun tg tc hta => ?_
  refine A0G (e := 3) (k := 1) (v := m.pv) (q := m.pl.length) (xs := e7 m.pl) (by (repeat constructor)) (by omega) fun pg pc hpa => ?_
  rw [hta, hpa]
  (have zz:=trivial;repeat((first|clear zz|with_reducible first|refine A3 ?_|refine A5 fun _=>?_|refine A4 fun _=>?_);try simp(disch:=first|omega|assumption|((repeat(first|exact A1|exact uH|apply A2|apply uT));first|done|fail)|(simp;first|done|omega|fail))[d0, d1, hlt, hlp, n1, n2, n3, g0, gp, gg, gpp]))
  refine N4 A7Q (fun w' hw' => B6A w' tv0 tl pn 4 m.now (h4 _ hxm) (h3 _ hxm) (B2V (t := (tv0, tl)) hw' (ts := P) (by (repeat constructor)) (h6 _ hxm))) ?_
  rintro r _ rfl
  refine A2l (e := 218) (k := 4) (v := r) (q := (W8 tl pn 4 m.now).1.length) (xs := (W8 tl pn 4 m.now).1.flatMap G1) (by (repeat constructor)) fun hr1 hr2 hr3 => ?_
  have hr4 : r.cells.toList = [r] := by rw [hr1]
  (have zz:=trivial;repeat((first|clear zz|with_reducible first|refine A3 ?_|refine A5 fun _=>?_|refine A4 fun _=>?_);try simp(disch:=first|omega|assumption|((repeat(first|exact A1|exact uH|apply A2|apply uT));first|done|fail)|(simp;first|done|omega|fail))[hr1, hr2, hr3, hr4]))
  refine A13 (r := r) (l := (W8 tl pn 4 m.now).1) (ts := P) (by (repeat' constructor)) ?_
  refine B0 (r, { m.dx with tv := .slice (some ⟨tg, 0, none⟩) m.ts.length tc, pv := .slice (some ⟨pg, 0, none⟩) m.pl.length pc }, P ++ [(r, (W8 tl pn 4 m.now).1)]) ⟨rfl, by simp only [WoH.ws, WoH.dx], h6.left _, List.mem_append_right _ (List.mem_singleton.2 rfl), .push _ _ _⟩ ?_
  simp only [WoH.dx, d1]
  (repeat' constructor)
 simp only [if_neg d1]
 by_cases d2 : j.b.st = 2
 ·simp only [if_pos d2]
  simp only [C3, Y9, C0, D3, D7, WoH.ux, JE.up, hi]
  refine A0G (e := 84) (k := 1) (v := m.tv) (q := m.ts.length) (xs := m.ts.map (·.1)) (by (repeat constructor)) (by omega) fun tg tc hta => ?_
  refine A0G (e := 3) (k := 1) (v := m.pv) (q := m.pl.length) (xs := e7 m.pl) (by (repeat constructor)) (by omega) fun pg pc hpa => ?_
  rw [hta, hpa]
  refine B3L (P := P) (l := j.table) (by (repeat constructor)) ht fun xa xc hxa => ?_
  subst hxa
  (have zz:=trivial;repeat((first|clear zz|with_reducible first|refine A3 ?_|refine A5 fun _=>?_|refine A4 fun _=>?_);try simp(disch:=first|omega|assumption|((repeat(first|exact A1|exact uH|apply A2|apply uT));first|done|fail)|(simp;first|done|omega|fail))[d0, d1, d2, hlt, hlp, n1, n2, n3, g0, gp, gg, gpp]))
  refine U1 (by (repeat constructor)) (by simp) (by simp; omega) (by simp) ?_
  have e1 : U0 (m.ts.map (·.1)) i (Value.slice xa j.table.length xc).cells.toList = (m.ts.set i (.slice xa j.table.length xc, j.table)).map (·.1) := A9b (f := (·.1)) m.ts i (.slice xa j.table.length xc, j.table) hlt
  rw [e1]
  (have zz:=trivial;repeat((first|clear zz|with_reducible first|refine A3 ?_|refine A5 fun _=>?_|refine A4 fun _=>?_);try simp(disch:=first|omega|assumption|((repeat(first|exact A1|exact uH|apply A2|apply uT));first|done|fail)|(simp;first|done|omega|fail))[hlp]))
  refine U1 (by (repeat constructor)) (by simp) (by simp; omega) (by simp) ?_
  have e2 : U0 (e7 m.pl) i (Value.int .i64 (j.place : Nat)).cells.toList = e7 (m.pl.set i j.place) := A9b (f := fun n : Nat => Value.int .i64 (n : Int)) m.pl i j.place hlp
  rw [e2]
  (have zz:=trivial;repeat((first|clear zz|with_reducible first|refine A3 ?_|refine A5 fun _=>?_|refine A4 fun _=>?_);try simp(disch:=first|omega|assumption|((repeat(first|exact A1|exact uH|apply A2|apply uT));first|done|fail)|(simp;first|done|omega|fail))[]))
  refine B0 (.slice xa j.table.length xc, { m.dx with tv := .slice (some ⟨tg, 0, none⟩) m.ts.length tc, pv := .slice (some ⟨pg, 0, none⟩) m.pl.length pc, ts := m.ts.set i (.slice xa j.table.length xc, j.table), pl := m.pl.set i j.place }, P) ⟨rfl, by simp only [WoH.ws, WoH.dx, List.map_set, Int.toNat_natCast], fun t ht' => ?_, ht, .same _ _⟩ ?_
  ·rcases List.mem_or_eq_of_mem_set ht' with ht' | rfl
   ·exact h6 t ht'
   ·exact ht
  simp only [WoH.dx, List.length_set, List.map_set, d2]
  (repeat' constructor)
 simp only [if_neg d2]
 simp only [C3, Y9, C0, D3, D7, WoH.ux, JE.up, hi]
 refine Q8 (e := 84) (k := 1) (v := m.tv) (q := m.ts.length) (xs := m.ts.map (·.1)) (by (repeat constructor)) fun ta tc hta => ?_
 rw [hta]
 (have zz:=trivial;repeat((first|clear zz|with_reducible first|refine A3 ?_|refine A5 fun _=>?_|refine A4 fun _=>?_);try simp(disch:=first|omega|assumption|((repeat(first|exact A1|exact uH|apply A2|apply uT));first|done|fail)|(simp;first|done|omega|fail))[d0, d1, d2, hlt, n1, n2, n3]))
 refine B4 (Hc := B3 m.bc m.cn m.cv m.ov m.cells m.own) F2 (fun w' _ hs => W1 w' m.bc m.cn m.cv m.ov m.cells m.own (i : Nat) j.b.who h5 hs) (by unfold B3; (repeat' constructor)) ?_
 rintro n' v ⟨r, rfl⟩
 simp only [B3, List.cons_append, List.nil_append]
 (have zz:=trivial;repeat((first|clear zz|with_reducible first|refine A3 ?_|refine A5 fun _=>?_|refine A4 fun _=>?_);try simp(disch:=first|omega|assumption|((repeat(first|exact A1|exact uH|apply A2|apply uT));first|done|fail)|(simp;first|done|omega|fail))[]))
 refine B4 (Hc := [.pt b (.cells (C0 { j.b with st := j.b.st + 1 } [.int .i64 (i : Nat), .int .i64 (j.place : Nat), tv]) 170)]) M4 (fun w' _ hs => A01 w' b _ { j.b with st := j.b.st + 1 } _ hs) (by unfold C0; (repeat' constructor)) ?_
 rintro _ v rfl
 simp only [List.cons_append, List.nil_append, H3, C0]
 (have zz:=trivial;repeat((first|clear zz|with_reducible first|refine A3 ?_|refine A5 fun _=>?_|refine A4 fun _=>?_);try simp(disch:=first|omega|assumption|((repeat(first|exact A1|exact uH|apply A2|apply uT));first|done|fail)|(simp;first|done|omega|fail))[]))
 refine B0 (tv, { m.dx with cn := n', own := H7 m.own (i : Nat) j.b.who, tv := .slice ta m.ts.length tc }, P) ⟨rfl, by simp only [WoH.ws, WoH.dx], h6, ht, .same _ _⟩ ?_
 simp only [WoH.dx]
 (repeat' constructor)
end Go.Proofs.YtjobgnabneddjaaGreat
namespace Go.Proofs.YtjobgnabneddjaaGreat
open Go
def y9 (b : Nat) (j : JB) : Res := .pt b (.cells (C0 j []) 173)
set_option maxHeartbeats 2000000 in
theorem B3z (w : World) (b : Nat) (j : JB) (m : WoH) (P : d9) (hx : TabsOk m P) (h0 : 1 ≤ m.ts.length) (hst : 0 ≤ j.st ∧ j.st ≤ 5000)
  (hw : LW false (B2 (y9 b j :: K8 P :: C3 m)) w (y9 b j :: K8 P :: C3 m) w) :
  Fn PR B8 332 #[.pointer (some ⟨b, 0, none⟩), .pointer (some ⟨m.b, 0, none⟩)] w (Rn (B2 (y9 b j :: K8 P :: C3 m)) w (fun (d : WoX) u => u = H3 (L7 j m.ws).2.2 ∧ (m.ux d).ws = (L7 j m.ws).2.1 ∧ d.ts = m.ts) fun d => y9 b (L7 j m.ws).1 :: K8 P :: C3 (m.ux d)) := by
 refine A24 (TW.goH (κ := false) ?_ hw)
 unfold p9
 obtain ⟨h1, h2, h3, h4, h5, h6⟩ := hx
 have htl : m.ws.tabs.length = m.ts.length := by simp [WoH.ws]
 generalize hS : B2 (y9 b j :: K8 P :: C3 m) = S at *
 obtain ⟨k, hk⟩ : ∃ k : Nat, j.st = k := ⟨j.st.toNat, by omega⟩
 have dv : j.st.tdiv (m.ts.length : Nat) = ((k / m.ts.length : Nat) : Int) := by rw [hk]; rfl
 have md : j.st.tmod (m.ts.length : Nat) = ((k % m.ts.length : Nat) : Int) := by rw [hk]; rfl
 have em : j.st % (m.ts.length : Nat) = ((k % m.ts.length : Nat) : Int) := by rw [hk]; rfl
 have hlt : k % m.ts.length < m.ts.length := Nat.mod_lt _ (by omega)
 have nz : ¬ ((m.ts.length : Nat) : Int) = 0 := by omega
 have q0 : k / m.ts.length = 0 ↔ k < m.ts.length := by rw [Nat.div_eq_zero_iff]; omega
 have q1 : k / m.ts.length = 1 ↔ (m.ts.length ≤ k ∧ k < 2 * m.ts.length) := by
  rw [Nat.div_eq_iff (by omega)]; omega
 have hqb : k / m.ts.length ≤ 5000 := Nat.le_trans (Nat.div_le_self _ _) (by omega)
 unfold L7
 simp only [htl, em]
 generalize k % m.ts.length = i at *
 generalize k / m.ts.length = q at *
 have wq : IntKind.i64.wrap ((q : Nat) : Int) = ((q : Nat) : Int) := A97 (by omega) (by omega)
 simp only [C3, y9, C0, D3, D7, WoH.ux]
 by_cases d0 : j.st < (m.ts.length : Nat)
 ·simp only [if_pos d0]
  have e0 : q = 0 := q0.2 (by omega)
  subst e0
  refine Q8 (e := 84) (k := 1) (v := m.tv) (q := m.ts.length) (xs := m.ts.map (·.1)) (by (repeat constructor)) fun ta tc hta => ?_
  rw [hta]
  (have zz:=trivial;repeat((first|clear zz|with_reducible first|refine A3 ?_|refine A5 fun _=>?_|refine A4 fun _=>?_);try simp(disch:=first|omega|assumption|((repeat(first|exact A1|exact uH|apply A2|apply uT));first|done|fail)|(simp;first|done|omega|fail))[A9B, A0K, dv, md, wq, nz]))
  refine B4 (Hc := B3 m.bc m.cn m.cv m.ov m.cells m.own) Q0 (fun w' _ hs => A31 w' m.bc m.cn m.cv m.ov m.cells m.own (i : Nat) j.who h5 hs) (by unfold B3; (repeat' constructor)) ?_
  rintro n' v ⟨r, rfl⟩
  simp only [B3, List.cons_append, List.nil_append]
  (have zz:=trivial;repeat((first|clear zz|with_reducible first|refine A3 ?_|refine A5 fun _=>?_|refine A4 fun _=>?_);try simp(disch:=first|omega|assumption|((repeat(first|exact A1|exact uH|apply A2|apply uT));first|done|fail)|(simp;first|done|omega|fail))[dv, md, wq]))
  refine B0 { m.dx with cn := n', own := l2 m.own (i : Nat) j.who, tv := .slice ta m.ts.length tc } ⟨rfl, by simp only [WoH.ws, WoH.dx], rfl⟩ ?_
  simp only [WoH.dx]
  (repeat' constructor)
 simp only [if_neg d0]
 have n0 : ¬ q = 0 := fun h => by have := q0.1 h; omega
 by_cases d1 : j.st < 2 * (m.ts.length : Nat)
 ·simp only [if_pos d1]
  have e1 : q = 1 := q1.2 (by omega)
  subst e1
  obtain ⟨⟨tv0, tl⟩, hx0⟩ : ∃ x, m.ts[i]? = some x := ⟨_, List.getElem?_eq_getElem hlt⟩
  have hxm := List.mem_of_getElem? hx0
  have g0 : (m.ts.map (·.1))[i]? = some tv0 := by rw [List.getElem?_map, hx0]; rfl
  have gg : m.ts[i]'hlt = (tv0, tl) := (List.getElem?_eq_some_iff.1 hx0).2
  have hti : A5K m.ws (i : Nat) = tl := by simp [A5K, WoH.ws, List.getD_eq_getElem?_getD, hx0]
  rw [hti]
  refine A0G (e := 84) (k := 1) (v := m.tv) (q := m.ts.length) (xs := m.ts.map (·.1)) (by (repeat constructor)) (by omega) fun tg tc hta => ?_
  rw [hta]
  (have zz:=trivial;repeat((first|clear zz|with_reducible first|refine A3 ?_|refine A5 fun _=>?_|refine A4 fun _=>?_);try simp(disch:=first|omega|assumption|((repeat(first|exact A1|exact uH|apply A2|apply uT));first|done|fail)|(simp;first|done|omega|fail))[A9B, A0K, dv, md, wq, nz, hlt, g0, gg]))
  refine D1 A1x (fun w' hw' => A9s w' tv0 tl 1 (h3 _ hxm) (B2V (t := (tv0, tl)) hw' (ts := P) (by (repeat constructor)) (h6 _ hxm))) ?_
  (have zz:=trivial;repeat((first|clear zz|with_reducible first|refine A3 ?_|refine A5 fun _=>?_|refine A4 fun _=>?_);try simp(disch:=first|omega|assumption|((repeat(first|exact A1|exact uH|apply A2|apply uT));first|done|fail)|(simp;first|done|omega|fail))[dv, md, wq]))
  refine B0 { m.dx with tv := .slice (some ⟨tg, 0, none⟩) m.ts.length tc } ⟨rfl, by simp only [WoH.ws, WoH.dx], rfl⟩ ?_
  simp only [WoH.dx]
  (repeat' constructor)
 simp only [if_neg d1]
 have n1 : ¬ q = 1 := fun h => by have := q1.1 h; omega
 have n0' : ¬ ((q : Nat) : Int) = 0 := by omega
 have n1' : ¬ ((q : Nat) : Int) = 1 := by omega
 by_cases d2 : ((i : Nat) : Int) = (m.ts.length : Nat) - 1
 ·simp only [if_pos d2]
  refine Q8 (e := 84) (k := 1) (v := m.tv) (q := m.ts.length) (xs := m.ts.map (·.1)) (by (repeat constructor)) fun ta tc hta => ?_
  rw [hta]
  (have zz:=trivial;repeat((first|clear zz|with_reducible first|refine A3 ?_|refine A5 fun _=>?_|refine A4 fun _=>?_);try simp(disch:=first|omega|assumption|((repeat(first|exact A1|exact uH|apply A2|apply uT));first|done|fail)|(simp;first|done|omega|fail))[A9B, A0K, dv, md, wq, nz, n0, n1, n0', n1']))
  refine B4 (Hc := B3 m.bc m.cn m.cv m.ov m.cells m.own) F2 (fun w' _ hs => W1 w' m.bc m.cn m.cv m.ov m.cells m.own (i : Nat) j.who h5 hs) (by unfold B3; (repeat' constructor)) ?_
  rintro n' v ⟨r, rfl⟩
  simp only [B3, List.cons_append, List.nil_append]
  (have zz:=trivial;repeat((first|clear zz|with_reducible first|refine A3 ?_|refine A5 fun _=>?_|refine A4 fun _=>?_);try simp(disch:=first|omega|assumption|((repeat(first|exact A1|exact uH|apply A2|apply uT));first|done|fail)|(simp;first|done|omega|fail))[d2, dv, md, wq]))
  refine B4 (Hc := [.pt b (.cells (C0 { j with st := j.st + 1 } []) 173)]) M4 (fun w' _ hs => A01 w' b _ { j with st := j.st + 1 } _ hs) (by unfold C0; (repeat' constructor)) ?_
  rintro _ v rfl
  simp only [List.cons_append, List.nil_append, H3, C0]
  (have zz:=trivial;repeat((first|clear zz|with_reducible first|refine A3 ?_|refine A5 fun _=>?_|refine A4 fun _=>?_);try simp(disch:=first|omega|assumption|((repeat(first|exact A1|exact uH|apply A2|apply uT));first|done|fail)|(simp;first|done|omega|fail))[dv, md, wq]))
  refine B0 { m.dx with cn := n', own := H7 m.own (i : Nat) j.who, tv := .slice ta m.ts.length tc } ⟨rfl, by simp only [WoH.ws, WoH.dx, d2], rfl⟩ ?_
  simp only [WoH.dx, d2]
  (repeat' constructor)
 ·simp only [if_neg d2]
  refine Q8 (e := 84) (k := 1) (v := m.tv) (q := m.ts.length) (xs := m.ts.map (·.1)) (by (repeat constructor)) fun ta tc hta => ?_
  rw [hta]
  (have zz:=trivial;repeat((first|clear zz|with_reducible first|refine A3 ?_|refine A5 fun _=>?_|refine A4 fun _=>?_);try simp(disch:=first|omega|assumption|((repeat(first|exact A1|exact uH|apply A2|apply uT));first|done|fail)|(simp;first|done|omega|fail))[A9B, A0K, dv, md, wq, nz, n0, n1, n0', n1']))
  refine B4 (Hc := B3 m.bc m.cn m.cv m.ov m.cells m.own) F2 (fun w' _ hs => W1 w' m.bc m.cn m.cv m.ov m.cells m.own (i : Nat) j.who h5 hs) (by unfold B3; (repeat' constructor)) ?_
  rintro n' v ⟨r, rfl⟩
  simp only [B3, List.cons_append, List.nil_append]
  (have zz:=trivial;repeat((first|clear zz|with_reducible first|refine A3 ?_|refine A5 fun _=>?_|refine A4 fun _=>?_);try simp(disch:=first|omega|assumption|((repeat(first|exact A1|exact uH|apply A2|apply uT));first|done|fail)|(simp;first|done|omega|fail))[d2, dv, md, wq]))
  refine B0 { m.dx with cn := n', own := H7 m.own (i : Nat) j.who, tv := .slice ta m.ts.length tc } ⟨rfl, by simp only [WoH.ws, WoH.dx], rfl⟩ ?_
  simp only [WoH.dx]
  (repeat' constructor)
end Go.Proofs.YtjobgnabneddjaaGreat
namespace Go.Proofs.YtjobgnabneddjaaGreat
open Go
theorem Fn.frame {f : FuncId} {args : Array Value} {w : World} {α : Type} {φ : α → Value → Prop} {Hn : α → List Res} {Hc Hk : List Res} (h : Fn PR B8 f args w (Rn (B2 Hc) w φ Hn)) (hw : LW false (B2 (Hc ++ Hk)) w (Hc ++ Hk) w) :
  Fn PR B8 f args w (Rn (B2 (Hc ++ Hk)) w φ fun a => Hn a ++ Hk) := h.mono fun v w' ⟨a, h1, h2⟩ => ⟨a, h1, hw.part h2⟩
theorem B0u (w : World) (m : WoH) (i : Int) (hb : bl w m.b = some (.cells (D7 m.c (.pointer (some ⟨m.bc, 0, none⟩)) (.pointer (some ⟨m.bs, 0, none⟩)) (.pointer (some ⟨m.bk, 0, none⟩)) m.tv m.pv (.int .i64 m.now)) 39 (0, 0)))
  (hc : bl w m.bc = some (.cells #[.int .i64 m.cn, m.cv, m.ov] 141 (0, 0))) (hv : G3 w m.ov m.own.length (D4 m.own)) :
  Fn PR B8 331 #[.pointer (some ⟨m.b, 0, none⟩), .int .i64 i] w (fun u w' => u = .bool (decide (U3 m.own i < 0)) ∧ D0 [] w w') := by
 refine Fn.pure (A61 (TW.go (κ := false) (S := []) ?_))
 unfold A2D
 have h5 : w.cell? ⟨m.b, 5, none⟩ = some (.pointer (some ⟨m.bc, 0, none⟩)) := by rw [C8 hb]; rfl
 (have zz:=trivial;repeat((first|clear zz|with_reducible first|refine A3 ?_|refine A5 fun _=>?_|refine A4 fun _=>?_);try simp(disch:=first|omega|assumption|((repeat(first|exact A1|exact uH|apply A2|apply uT));first|done|fail)|(simp;first|done|omega|fail))[h5]))
 refine D1 F6 (fun w' hw' => Z5 w' m.bc m.cn m.cv m.ov m.own i (hw'.ks.2.1 _ _ (by simp) rfl hc) (hv.ks hw'.ks (by simp))) ?_
 (have zz:=trivial;repeat((first|clear zz|with_reducible first|refine A3 ?_|refine A5 fun _=>?_|refine A4 fun _=>?_);try simp(disch:=first|omega|assumption|((repeat(first|exact A1|exact uH|apply A2|apply uT));first|done|fail)|(simp;first|done|omega|fail))[]))
 exact B9 rfl
structure WoAt (w : World) (m : WoH) : Prop where
 b : bl w m.b = some (.cells (D7 m.c (.pointer (some ⟨m.bc, 0, none⟩)) (.pointer (some ⟨m.bs, 0, none⟩)) (.pointer (some ⟨m.bk, 0, none⟩)) m.tv m.pv (.int .i64 m.now)) 39 (0, 0))
 c : bl w m.bc = some (.cells #[.int .i64 m.cn, m.cv, m.ov] 141 (0, 0))
 v : G3 w m.ov m.own.length (D4 m.own)
theorem WoAt.own {κ : Bool} {S : List Nat} {w0 w : World} {H : List Res} {m : WoH} (hw : LW κ S w0 H w) (h : ∀ r ∈ C3 m, r ∈ H) : WoAt w m :=
 ⟨hw.pt (h _ (by unfold C3 D3; (repeat constructor))), hw.pt (h _ (by unfold C3; (repeat constructor))), P4.own (e := 3) (k := 1) (h _ (by unfold C3; (repeat constructor))) w hw⟩
theorem WoAt.ks {w w' : World} {m : WoH} (h : WoAt w m) (hk : KS false [] w w') : WoAt w' m := ⟨hk.2.1 _ _ (by simp) rfl h.b, hk.2.1 _ _ (by simp) rfl h.c, h.v.ks hk (by simp)⟩
theorem A8J (w : World) (b : Nat) (j : JE) (tv : Value) (m : WoH) (hb : bl w b = some (.cells (C0 j.b [.int .i64 j.shard, .int .i64 (j.place : Nat), tv]) 170 (0, 0))) (hm : WoAt w m) :
  Fn PR B8 330 #[.pointer (some ⟨b, 0, none⟩), .pointer (some ⟨m.b, 0, none⟩)] w (fun u w' => u = .bool ((JV.exp j).waits m.ws) ∧ D0 [] w w') := by
 refine Fn.pure (A1l (TW.go (κ := false) (S := []) ?_))
 unfold c6
 have h1 : w.cell? ⟨b, 1, none⟩ = some (.int .i64 j.b.st) := by rw [C8 hb]; rfl
 have h6 : w.cell? ⟨b, 6, none⟩ = some (.int .i64 j.shard) := by rw [C8 hb]; rfl
 have ho : m.ws.own = m.own := rfl
 by_cases c1 : j.b.st = 0
 ·(have zz:=trivial;repeat((first|clear zz|with_reducible first|refine A3 ?_|refine A5 fun _=>?_|refine A4 fun _=>?_);try simp(disch:=first|omega|assumption|((repeat(first|exact A1|exact uH|apply A2|apply uT));first|done|fail)|(simp;first|done|omega|fail))[h1, h6, c1]))
  refine D1 A1Q (fun w' hw' => let h := hm.ks hw'.ks; B0u w' m j.shard h.b h.c h.v) ?_
  (have zz:=trivial;repeat((first|clear zz|with_reducible first|refine A3 ?_|refine A5 fun _=>?_|refine A4 fun _=>?_);try simp(disch:=first|omega|assumption|((repeat(first|exact A1|exact uH|apply A2|apply uT));first|done|fail)|(simp;first|done|omega|fail))[]))
  exact B9 (by simp [JV.waits, c1, ho])
 ·(have zz:=trivial;repeat((first|clear zz|with_reducible first|refine A3 ?_|refine A5 fun _=>?_|refine A4 fun _=>?_);try simp(disch:=first|omega|assumption|((repeat(first|exact A1|exact uH|apply A2|apply uT));first|done|fail)|(simp;first|done|omega|fail))[h1, h6, c1]))
  exact B9 (by simp [JV.waits, c1])
theorem A8B (w : World) (b : Nat) (j : JB) (m : WoH) (hl : m.ts.length ≤ 1000) (hb : bl w b = some (.cells (C0 j []) 173 (0, 0))) (hm : WoAt w m) (htv : ∃ a c, m.tv = .slice a m.ts.length c) :
  Fn PR B8 333 #[.pointer (some ⟨b, 0, none⟩), .pointer (some ⟨m.b, 0, none⟩)] w (fun u w' => u = .bool ((JV.sta j).waits m.ws) ∧ D0 [] w w') := by
 refine Fn.pure (A2b (TW.go (κ := false) (S := []) ?_))
 unfold j6
 obtain ⟨a, c, htv⟩ := htv
 have h1 : w.cell? ⟨b, 1, none⟩ = some (.int .i64 j.st) := by rw [C8 hb]; rfl
 have h8 : w.cell? ⟨m.b, 8, none⟩ = some (.slice a m.ts.length c) := by rw [C8 hm.b]; exact congrArg some htv
 have ho : m.ws.own = m.own := rfl
 have htl : m.ws.tabs.length = m.ts.length := by simp [WoH.ws]
 by_cases c1 : j.st < (m.ts.length : Nat)
 ·(have zz:=trivial;repeat((first|clear zz|with_reducible first|refine A3 ?_|refine A5 fun _=>?_|refine A4 fun _=>?_);try simp(disch:=first|omega|assumption|((repeat(first|exact A1|exact uH|apply A2|apply uT));first|done|fail)|(simp;first|done|omega|fail))[h1, h8, c1]))
  refine D1 A1Q (fun w' hw' => let h := hm.ks hw'.ks; B0u w' m j.st h.b h.c h.v) ?_
  (have zz:=trivial;repeat((first|clear zz|with_reducible first|refine A3 ?_|refine A5 fun _=>?_|refine A4 fun _=>?_);try simp(disch:=first|omega|assumption|((repeat(first|exact A1|exact uH|apply A2|apply uT));first|done|fail)|(simp;first|done|omega|fail))[c1]))
  exact B9 (by simp [JV.waits, htl, c1, ho])
 ·(have zz:=trivial;repeat((first|clear zz|with_reducible first|refine A3 ?_|refine A5 fun _=>?_|refine A4 fun _=>?_);try simp(disch:=first|omega|assumption|((repeat(first|exact A1|exact uH|apply A2|apply uT));first|done|fail)|(simp;first|done|omega|fail))[h1, h8, c1]))
  exact B9 (by simp [JV.waits, htl, c1])
def B5G {β : Type} (j : JB) (wt : Bool) (told : k4) (φ : β → Prop) : Option β → Value → Prop
 | none, u => (j.st = -1 ∨ wt = true) ∧ u = H3 (false, false, false)
 | some a, u => (j.st ≠ -1 ∧ wt = false) ∧ u = H3 told ∧ φ a
def B5M {β : Type} (Hc : List Res) (Hn : β → List Res) : Option β → List Res
 | none => Hc
 | some a => Hn a
theorem A6u (w : World) (jb b : Nat) (I : Value) (j : JB) (rest : List Value) (T : TypeId) (wp : Value) (wt : Bool) (told : k4) (fW fS : FuncId) (argsW argsS : Array Value) (hI : I = K5 b ∨ I = l7 b ∨ I = m7 b ∨ I = A7P b)
  (Hc : List Res) {β : Type} (φ : β → Prop) (Hn : β → List Res)
  (hcw : ∀ w, (callMethod I "gangplank/control.waits" [wp].toArray).run PR w = .ok (.enter fW argsW) w) (hcs : ∀ w, (callMethod I "gangplank/control.step" [wp].toArray).run PR w = .ok (.enter fS argsS) w)
  (hpt : Res.pt b (.cells (C0 j rest) T) ∈ Hc)
  (hW : ∀ w', LW false (B2 (G4 jb I :: Hc)) w (G4 jb I :: Hc) w' → Fn PR B8 fW argsW w' (fun v w'' => v = .bool wt ∧ D0 [] w' w''))
  (hSt : j.st ≠ -1 → wt = false → ∀ w', LW false (B2 (G4 jb I :: Hc)) w (Hc ++ [G4 jb I]) w' → LW false (B2 Hc) w' Hc w' → Fn PR B8 fS argsS w' (Rn (B2 Hc) w' (fun a u => u = H3 told ∧ φ a) Hn))
  (hw : LW false (B2 (G4 jb I :: Hc)) w (G4 jb I :: Hc) w) :
  Fn PR B8 36 #[.pointer (some ⟨jb, 0, none⟩), wp] w (Rn (B2 (G4 jb I :: Hc)) w (B5G j wt told φ) fun y => G4 jb I :: B5M Hc Hn y) := by
 refine y5 (TW.goH (κ := false) ?_ hw)
 unfold Y2
 generalize hS : B2 (G4 jb I :: Hc) = S at *
 have hR := fun (w' : World) (hw' : LW false S w (G4 jb I :: Hc) w') =>
  n8 w' jb b I j rest T wp wt fW argsW hI (hw'.pt (List.mem_cons_self ..)) (hw'.pt (List.mem_cons_of_mem _ hpt)) hcw (fun w'' hk => hW w'' (hw'.ext hk))
 generalize hφ : B5G j wt told φ = Φ
 generalize hHn : (fun y => G4 jb I :: B5M Hc Hn y) = Hn'
 (have zz:=trivial;repeat((first|clear zz|with_reducible first|refine A3 ?_|refine A5 fun _=>?_|refine A4 fun _=>?_);try simp(disch:=first|omega|assumption|((repeat(first|exact A1|exact uH|apply A2|apply uT));first|done|fail)|(simp;first|done|omega|fail))[]))
 rename_i bx
 refine D1 E5 (fun w' hw' => hR w' (hw'.sub (List.sublist_cons_self _ _))) ?_
 by_cases c1 : j.st = -1
 ·(have zz:=trivial;repeat((first|clear zz|with_reducible first|refine A3 ?_|refine A5 fun _=>?_|refine A4 fun _=>?_);try simp(disch:=first|omega|assumption|((repeat(first|exact A1|exact uH|apply A2|apply uT));first|done|fail)|(simp;first|done|omega|fail))[c1]))
  subst hφ hHn
  exact TW.sub (B0 none ⟨Or.inl c1, rfl⟩ (n5 _)) (List.sublist_cons_self _ _)
 cases wt with
 | true =>
  (have zz:=trivial;repeat((first|clear zz|with_reducible first|refine A3 ?_|refine A5 fun _=>?_|refine A4 fun _=>?_);try simp(disch:=first|omega|assumption|((repeat(first|exact A1|exact uH|apply A2|apply uT));first|done|fail)|(simp;first|done|omega|fail))[c1]))
  subst hφ hHn
  exact TW.sub (B0 none ⟨Or.inr rfl, rfl⟩ (n5 _)) (List.sublist_cons_self _ _)
 | false =>
  (have zz:=trivial;repeat((first|clear zz|with_reducible first|refine A3 ?_|refine A5 fun _=>?_|refine A4 fun _=>?_);try simp(disch:=first|omega|assumption|((repeat(first|exact A1|exact uH|apply A2|apply uT));first|done|fail)|(simp;first|done|omega|fail))[c1]))
  simp only [G4]
  (have zz:=trivial;repeat((first|clear zz|with_reducible first|refine A3 ?_|refine A5 fun _=>?_|refine A4 fun _=>?_);try simp(disch:=first|omega|assumption|((repeat(first|exact A1|exact uH|apply A2|apply uT));first|done|fail)|(simp;first|done|omega|fail))[c1]))
  refine B26 (Hc := Hc) (Hk := [.pt bx (.cells #[.bool false, .bool false, .bool false] 42), G4 jb I]) hcs (fun w' hw' hs => hSt c1 rfl w' (hw'.sub (List.Sublist.append (List.Sublist.refl _) (List.sublist_cons_self _ _))) hs) ?_ ?_
  ·have hp : ∀ (A : List Res) (r s : Res), Part A (r :: s :: A) [r, s] := fun A r s => by
    induction A with
    | nil => exact Part.nil
    | cons s A ih => exact Part.cons (.there (.there .here)) ih
   exact hp Hc _ _
  rintro a v ⟨rfl, hv⟩
  refine TW.perm ?_ List.perm_append_comm
  simp only [List.cons_append, List.nil_append, H3]
  (have zz:=trivial;repeat((first|clear zz|with_reducible first|refine A3 ?_|refine A5 fun _=>?_|refine A4 fun _=>?_);try simp(disch:=first|omega|assumption|((repeat(first|exact A1|exact uH|apply A2|apply uT));first|done|fail)|(simp;first|done|omega|fail))[]))
  subst hφ hHn
  exact TW.sub (B0 (some a) ⟨⟨c1, rfl⟩, rfl, hv⟩ (n5 _)) (List.sublist_cons_self _ _)
end Go.Proofs.YtjobgnabneddjaaGreat
namespace Go.Proofs.YtjobgnabneddjaaGreat
open Go
inductive LJ where
 | exp (j : JE) (tv : Value)
 | sta (j : JB)
def LJ.v : LJ → JV
 | .exp j _ => .exp j
 | .sta j => .sta j
def LJ.I (b : Nat) : LJ → Value
 | .exp _ _ => l7 b
 | .sta _ => m7 b
def LJ.res (b : Nat) : LJ → Res
 | .exp j tv => Y9 b j tv
 | .sta j => y9 b j
abbrev LS := LJ × d9 × WoX
def E1 (jb b : Nat) (m : WoH) (a : LS) : List Res := G4 jb (a.1.I b) :: a.1.res b :: K8 a.2.1 :: C3 (m.ux a.2.2)
def M2 (m : WoH) (a : LS) : JV × WS := (a.1.v, (m.ux a.2.2).ws)
def lkT : LJ → d9 → Prop
 | .exp j tv, P => (tv, j.table) ∈ P
 | .sta _, _ => True
structure LkC (N : Nat) (m : WoH) (a : LS) : Prop where
 n : 1 ≤ N ∧ N ≤ 16
 emp : ∀ t ∈ a.2.1, A0C t.2
 sub : A6A a.2.2.ts a.2.1
 pl : a.2.2.pl.length = N
 tb : lkT a.1 a.2.1
theorem A06 {N : Nat} {who : Int} {B : List Int} {m : WoH} {a : LS} (h : U8 N who B (M2 m a)) : a.2.2.ts.length = N := by
 obtain ⟨j, P, d⟩ := a
 have e : (m.ux d).ws.tabs.length = d.ts.length := by simp [WoH.ws, WoH.ux]
 cases j with
 | exp j tv => rw [← e]; exact h.1.1
 | sta j => rw [← e]; exact h.1.1
theorem A9Z {N : Nat} {who : Int} {B : List Int} {m : WoH} {a : LS} (hB : B.length = N) (h : U8 N who B (M2 m a)) : a.2.2.own.length = N := by
 obtain ⟨j, P, d⟩ := a
 have e : (m.ux d).ws.own = d.own := rfl
 cases j with
 | exp j tv =>
  rw [← e]
  rcases h.2 with ⟨_, h2⟩ | ⟨s, _, _, _, _, h2⟩
  ·exact (congrArg List.length h2).trans hB
  ·exact (congrArg List.length h2).trans (by rw [List.length_set]; exact hB)
 | sta j =>
  obtain ⟨_, k, _, _, h2, _⟩ := h
  rw [← e]
  exact (congrArg List.length h2).trans (F5 _ _ _ _)
theorem LkC.ok {N : Nat} {who : Int} {B : List Int} {m : WoH} {a : LS} (h : LkC N m a) (hB : B.length = N) (hl : U8 N who B (M2 m a)) : TabsOk (m.ux a.2.2) a.2.1 := by
 have h1 := A06 hl
 have h2 := A9Z hB hl
 have hn := h.n
 refine ⟨by show a.2.2.ts.length ≤ _; omega, by show a.2.2.pl.length = a.2.2.ts.length; rw [h1]; exact h.pl, fun t ht => ?_, fun t ht => B33 (h.emp _ (h.sub _ ht)), by show a.2.2.own.length ≤ _; omega, h.sub⟩
 have := (h.emp _ (h.sub _ ht)).2; omega
theorem B6m (j : JE) (x : WS) : (E4 j x).2.1.places.length = x.places.length := by
 unfold E4
 by_cases c : Z2 x j.shard = false
 ·rw [if_pos c]
 rw [if_neg c]
 by_cases c : j.b.st = 0
 ·rw [if_pos c]
 rw [if_neg c]
 by_cases c : j.b.st = 1
 ·rw [if_pos c]
 rw [if_neg c]
 by_cases c : j.b.st = 2
 ·rw [if_pos c]; simp only [List.length_set]
 rw [if_neg c]
theorem B7W (b : JB) (x : WS) : (L7 b x).2.1.places = x.places := by
 unfold L7
 simp only
 repeat' split
 all_goals rfl
theorem B2G {jb b : Nat} {m : WoH} {a : LS} {Hk : List Res} : ∀ r ∈ C3 (m.ux a.2.2), r ∈ E1 jb b m a ++ Hk := fun r hr => List.mem_append_left _ (by unfold E1; exact List.mem_cons_of_mem _ (List.mem_cons_of_mem _ (List.mem_cons_of_mem _ hr)))
theorem LkC.tv {N : Nat} {m : WoH} {a : LS} {jb b : Nat} {κ : Bool} {S : List Nat} {w0 w : World} {Hk : List Res} (hw : LW κ S w0 (E1 jb b m a ++ Hk) w) : ∃ x c, (m.ux a.2.2).tv = .slice x (m.ux a.2.2).ts.length c := by
 have := hw.hold (.own 84 1 (m.ux a.2.2).tv (m.ux a.2.2).ts.length ((m.ux a.2.2).ts.map (·.1))) (B2G _ (by unfold C3; (repeat constructor)))
 exact K9.form this
theorem A3b {N : Nat} {who : Int} {B : List Int} {κ : Bool} {S : List Nat} (w w' : World) (jb b : Nat) (m : WoH) (a : LS) {Hk : List Res} (hB : B.length = N) (hc : LkC N m a) (hl : U8 N who B (M2 m a)) (hw : LW κ S w (E1 jb b m a ++ Hk) w') :
  Fn PR B8 39 #[.pointer (some ⟨jb, 0, none⟩), .pointer (some ⟨m.b, 0, none⟩)] w' (fun u w'' => u = .bool ((M2 m a).1.ready (M2 m a).2) ∧ D0 [] w' w'') := by
 have hwo : WoAt w' (m.ux a.2.2) := WoAt.own hw B2G
 have htv := LkC.tv (N := N) hw
 have hts := A06 hl
 have hn := hc.n
 have hj := hw.pt (b := jb) (o := .cells #[a.1.I b] 167 (0, 0)) (List.mem_append_left _ (by unfold E1 G4; (repeat constructor)))
 have hm : a.1.res b ∈ E1 jb b m a ++ Hk := List.mem_append_left _ (by unfold E1; (repeat constructor))
 obtain ⟨j, P, d⟩ := a
 cases j with
 | exp j tv =>
  have hb : bl w' b = some (.cells (C0 j.b [.int .i64 j.shard, .int .i64 (j.place : Nat), tv]) 170 (0, 0)) := hw.pt hm
  exact n8 w' jb b (l7 b) j.b _ _ (.pointer (some ⟨m.b, 0, none⟩)) ((JV.exp j).waits (m.ux d).ws) _ _ (Or.inr (Or.inl rfl)) hj hb (fun w => A2C w b _) (fun w'' hk => A8J w'' b j tv (m.ux d) (hk.2.1 _ _ (by simp) rfl hb) (hwo.ks hk))
 | sta j =>
  have hb : bl w' b = some (.cells (C0 j []) 173 (0, 0)) := hw.pt hm
  exact n8 w' jb b (m7 b) j _ _ (.pointer (some ⟨m.b, 0, none⟩)) ((JV.sta j).waits (m.ux d).ws) _ _ (Or.inr (Or.inr (Or.inl rfl))) hj hb (fun w => A1w w b _) (fun w'' hk => A8B w'' b j (m.ux d) (by show d.ts.length ≤ 1000; simp only at hts; omega) (hk.2.1 _ _ (by simp) rfl hb) (hwo.ks hk) htv)
theorem B9B {N : Nat} {who : Int} {B : List Int} {y : JV × WS} (hN : N ≤ 16) (h : U8 N who B y) : -1 ≤ y.1.b.st ∧ y.1.b.st ≤ 100 := by
 obtain ⟨j, x⟩ := y
 cases j with
 | exp j =>
  obtain ⟨_, h5⟩ := h
  simp only [JV.b]
  rcases h5 with ⟨h5 | h5, _⟩ | ⟨s, _, _, _, g4, _⟩ <;> omega
 | sta b =>
  obtain ⟨_, k, h4, _, _, h7⟩ := h
  simp only [JV.b]
  split at h7 <;> omega
 | upd j => exact h.elim
 | non j => exact h.elim
def A7A (y : JV × WS) : k4 := if y.1.ready y.2 then (y.1.step0 y.2).2.2 else (false, false, false)
theorem A9u {y : JV × WS} (h : y.1.ready y.2 = false) : A7A y = (false, false, false) := by unfold A7A; rw [if_neg (by rw [h]; decide)]
theorem A4p {y : JV × WS} (h : y.1.ready y.2 = true) : A7A y = (y.1.step0 y.2).2.2 := by unfold A7A; rw [if_pos h]
theorem A6N {y : JV × WS} (h : y.1.ready y.2 = false) : A11 y = y := by unfold A11; rw [if_neg (by rw [h]; decide)]
theorem A0b {y : JV × WS} (h : y.1.ready y.2 = true) : A11 y = H4 y := by unfold A11; rw [if_pos h]
def lkN (N : Nat) (m : WoH) (a a' : LS) : Prop := M2 m a' = A11 (M2 m a) ∧ LkC N m a' ∧ a'.1.I 0 = a.1.I 0
set_option maxHeartbeats 1000000 in
theorem A4l {N : Nat} {who : Int} {B : List Int} (w' : World) (jb b : Nat) (m : WoH) (a : LS) (hB : B.length = N) (hw0 : 0 ≤ who) (hBs : ∀ j, j < N → B.getD j 0 = -1 ∨ B.getD j 0 = 99) (hc : LkC N m a) (hl : U8 N who B (M2 m a)) (hw : LW false (B2 (E1 jb b m a)) w' (E1 jb b m a) w') :
  Fn PR B8 36 #[.pointer (some ⟨jb, 0, none⟩), .pointer (some ⟨m.b, 0, none⟩)] w' (Rn (B2 (E1 jb b m a)) w' (fun (a' : LS) u => u = H3 (A7A (M2 m a)) ∧ lkN N m a a') (E1 jb b m)) := by
 have hok := hc.ok hB hl
 have hts := A06 hl
 have hn := hc.n
 have hst := B9B hn.2 hl
 have hstep := fun hr => A5Z hB hn.1 hw0 hBs hl hr
 obtain ⟨j, P, d⟩ := a
 cases j with
 | exp j tv =>
  simp only [M2, LJ.v, JV.b] at hst hl hstep hts
  have hl' := fun hr => B3Q hB hn.1 hw0 hBs hl hr
  have h := A6u w' jb b (l7 b) j.b [.int .i64 j.shard, .int .i64 (j.place : Nat), tv] 170 (.pointer (some ⟨m.b, 0, none⟩)) ((JV.exp j).waits (m.ux d).ws) (E4 j (m.ux d).ws).2.2 _ _ _ _ (Or.inr (Or.inl rfl))
   (Y9 b j tv :: K8 P :: C3 (m.ux d)) (fun y : Value × WoX × d9 => (m.ux y.2.1).ws = (E4 j (m.ux d).ws).2.1 ∧ A6A y.2.1.ts y.2.2 ∧ (y.1, (E4 j (m.ux d).ws).1.table) ∈ y.2.2 ∧ A5l P y.2.2 (E4 j (m.ux d).ws).1.table)
   (fun y => Y9 b (E4 j (m.ux d).ws).1 y.1 :: K8 y.2.2 :: C3 (m.ux y.2.1))
   (fun w => A2C w b _) (fun w => A7T w b _) (by unfold Y9; (repeat constructor))
   (fun w'' hw'' => A8J w'' b j tv (m.ux d) (hw''.pt (by unfold Y9; (repeat constructor))) (WoAt.own hw'' fun r hr => List.mem_cons_of_mem _ (List.mem_cons_of_mem _ (List.mem_cons_of_mem _ hr))))
   (fun h1 h2 w'' hw'' hs => B3g w'' b j tv (m.ux d) P hok (by omega) hc.tb hs) hw
  refine h.mono fun u w'' hr => ?_
  obtain ⟨y, h1, h2⟩ := hr
  cases y with
  | none =>
   obtain ⟨h1, h3⟩ := h1
   have hr : (JV.exp j).ready (m.ux d).ws = false := by rcases h1 with h1 | h1 <;> simp [JV.ready, JV.b, h1]
   refine ⟨(.exp j tv, P, d), ⟨?_, ?_, hc, rfl⟩, h2⟩
   ·rw [h3, A9u (y := M2 m (.exp j tv, P, d)) hr]
   ·exact (A6N (y := M2 m (.exp j tv, P, d)) hr).symm
  | some y =>
   obtain ⟨⟨h1, h3⟩, h4, h5, h6, h7, h8⟩ := h1
   have hr : (JV.exp j).ready (m.ux d).ws = true := by simp [JV.ready, JV.b, h1, h3]
   have hV : M2 m (.exp (E4 j (m.ux d).ws).1 y.1, y.2.2, y.2.1) = H4 (.exp j, (m.ux d).ws) := by simp only [M2, LJ.v, H4, JV.step0, h5]
   refine ⟨(.exp (E4 j (m.ux d).ws).1 y.1, y.2.2, y.2.1), ⟨?_, ?_, ⟨hn, fun t ht => ?_, h6, ?_, h7⟩, rfl⟩, h2⟩
   ·rw [h4, A4p (y := M2 m (.exp j tv, P, d)) hr]; rfl
   ·rw [hV, A0b (y := M2 m (.exp j tv, P, d)) hr]; rfl
   ·rcases h8 t ht with h | h
    ·exact hc.emp t h
    ·rw [h]
     rcases hl' hr with ⟨_, _, g⟩ | ⟨_, _, g⟩
     ·rw [g]; exact hc.emp _ hc.tb
     ·exact g
   ·have e : y.2.1.pl = (E4 j (m.ux d).ws).2.1.places := congrArg WS.places h5
    show y.2.1.pl.length = N
    rw [e, B6m]; exact hc.pl
 | sta j =>
  simp only [M2, LJ.v, JV.b] at hst hl hstep hts
  have h := A6u w' jb b (m7 b) j [] 173 (.pointer (some ⟨m.b, 0, none⟩)) ((JV.sta j).waits (m.ux d).ws) (L7 j (m.ux d).ws).2.2 _ _ _ _ (Or.inr (Or.inr (Or.inl rfl)))
   (y9 b j :: K8 P :: C3 (m.ux d)) (fun y : WoX => (m.ux y).ws = (L7 j (m.ux d).ws).2.1 ∧ y.ts = d.ts)
   (fun y => y9 b (L7 j (m.ux d).ws).1 :: K8 P :: C3 (m.ux y))
   (fun w => A1w w b _) (fun w => A7M w b _) (by unfold y9; (repeat constructor))
   (fun w'' hw'' => A8B w'' b j (m.ux d) (by show d.ts.length ≤ 1000; omega) (hw''.pt (by unfold y9; (repeat constructor))) (WoAt.own hw'' fun r hr => List.mem_cons_of_mem _ (List.mem_cons_of_mem _ (List.mem_cons_of_mem _ hr))) (K9.form (hw''.hold (.own 84 1 (m.ux d).tv (m.ux d).ts.length ((m.ux d).ts.map (·.1))) (by unfold C3; (repeat constructor)))))
   (fun h1 h2 w'' hw'' hs => B3z w'' b j (m.ux d) P hok (by show 1 ≤ d.ts.length; omega) (by omega) hs) hw
  refine h.mono fun u w'' hr => ?_
  obtain ⟨y, h1, h2⟩ := hr
  cases y with
  | none =>
   obtain ⟨h1, h3⟩ := h1
   have hr : (JV.sta j).ready (m.ux d).ws = false := by rcases h1 with h1 | h1 <;> simp [JV.ready, JV.b, h1]
   refine ⟨(.sta j, P, d), ⟨?_, ?_, hc, rfl⟩, h2⟩
   ·rw [h3, A9u (y := M2 m (.sta j, P, d)) hr]
   ·exact (A6N (y := M2 m (.sta j, P, d)) hr).symm
  | some y =>
   obtain ⟨⟨h1, h3⟩, h4, h5, h6⟩ := h1
   have hr : (JV.sta j).ready (m.ux d).ws = true := by simp [JV.ready, JV.b, h1, h3]
   have hV : M2 m (.sta (L7 j (m.ux d).ws).1, P, y) = H4 (.sta j, (m.ux d).ws) := by simp only [M2, LJ.v, H4, JV.step0, h5]
   refine ⟨(.sta (L7 j (m.ux d).ws).1, P, y), ⟨?_, ?_, ⟨hn, hc.emp, fun t ht => hc.sub t (by rw [← h6]; exact ht), ?_, trivial⟩, rfl⟩, h2⟩
   ·rw [h4, A4p (y := M2 m (.sta j, P, d)) hr]; rfl
   ·rw [hV, A0b (y := M2 m (.sta j, P, d)) hr]; rfl
   ·have e : y.pl = (L7 j (m.ux d).ws).2.1.places := congrArg WS.places h5
    show y.pl.length = N
    rw [e, B7W]; exact hc.pl
end Go.Proofs.YtjobgnabneddjaaGreat
namespace Go.Proofs.YtjobgnabneddjaaGreat
open Go
end Go.Proofs.YtjobgnabneddjaaGreat
namespace Go.Proofs.YtjobgnabneddjaaGreat
open Go
def S2 (who : Int) (p : List H8) : JU := ⟨⟨who, 0, p7⟩, p, [], 0, 0⟩
abbrev pW (x : WS) : List Int := B84 x x.c.wk.toNat
abbrev kF (x : WS) : List (Int × Int) := B7a (pW x) x.keep
abbrev sF (x : WS) : List SlV := B6y (pW x) x.keep x.sl
def epW (x : WS) : Int := IntKind.i64.wrap (M1 x.cells 0 + 1)
def B0F (x : WS) (p : List H8) : WS :=
 { x with cells := S1 (S1 x.cells 1 (H5 (kF x) + 1)) 0 (epW x), sl := A0f (sF x) (H5 (kF x)) (.rdy p), keep := if 0 < M1 x.cells 1 then A9e (S7 (kF x)) (M1 x.cells 1 - 1) (epW x) else S7 (kF x) }
end Go.Proofs.YtjobgnabneddjaaGreat
namespace Go.Proofs.YtjobgnabneddjaaGreat
open Go
abbrev UpA := JU × Value × WoD
def upH (jb b : Nat) (pv : Value) (m : WoH) (a : UpA) : List Res := G4 jb (K5 b) :: F9 b a.1 pv a.2.1 :: G9 a.1 a.2.1 :: C3 (m.up a.2.2)
theorem B2q {j : JU} {x : WS} (h : j.b.st ≠ -1) : A7W j x = G0 j x := if_neg h
theorem B22 (w w' : World) (jb b : Nat) (pv : Value) (m : WoH) (a : UpA) {κ : Bool} {S : List Nat} {H : List Res} (h1 : G4 jb (K5 b) ∈ H) (h2 : F9 b a.1 pv a.2.1 ∈ H) (v : Value) (x : WS) (hw' : LW κ S w H w') :
  Fn PR B8 39 #[.pointer (some ⟨jb, 0, none⟩), v] w' (fun u w'' => u = .bool ((JV.upd a.1).ready x) ∧ D0 [] w' w'') :=
 n8 w' jb b (K5 b) a.1.b _ _ v false _ _ (Or.inl rfl) (hw'.pt h1) (hw'.pt h2) (fun w => r9 w b _) (fun w'' _ => A46 w'' _ _)
theorem A8d (w w' : World) (jb b : Nat) (pv : Value) (m : WoH) (p : List H8) (hpl : p.length ≤ 1000) {S : List Nat} (n : Nat) (hn : n < 400) (a : UpA) (hi : UInv n a.1 (m.up a.2.2).ws) (hp : a.1.pool = p) (hrd : (JV.upd a.1).ready (m.up a.2.2).ws = true) (hv : ∀ w', KS false S w w' → G3 w' pv p.length (p.flatMap G8))
  (hw' : LW false S w (upH jb b pv m a) w') (hs : LW false (B2 (upH jb b pv m a)) w' (upH jb b pv m a) w') :
  Fn PR B8 36 #[.pointer (some ⟨jb, 0, none⟩), .pointer (some ⟨m.b, 0, none⟩)] w' (Rn (B2 (upH jb b pv m a)) w' (fun (a' : UpA) u => u = H3 ((JV.upd a.1).step0 (m.up a.2.2).ws).2.2 ∧ (JV.upd a'.1, (m.up a'.2.2).ws) = H4 (.upd a.1, (m.up a.2.2).ws) ∧ UInv (n + 1) a'.1 (m.up a'.2.2).ws ∧ a'.1.pool = p) (upH jb b pv m)) := by
 obtain ⟨j, qv, d⟩ := a
 simp only at hi hp hrd
 subst hp
 have hst : j.b.st ≠ -1 := by
  intro h
  simp [JV.ready, JV.b, h] at hrd
 obtain ⟨i1, i2, i3, i4, i5, i6⟩ := hi
 have h := B3D w' jb b j pv qv (m.up d) i1 (by omega) hpl (by omega) (by omega) i5 (fun w'' hk => hv w'' ?_) hs
 ·rw [B2q hst] at h
  refine Fn.mono h fun u w'' hr => ?_
  obtain ⟨⟨qv', d'⟩, ⟨h1, h2⟩, h3⟩ := hr
  have hn := B24 ⟨i1, i2, i3, i4, i5, i6⟩ hst
  have e2 : (m.up d').ws = (G0 j (m.up d).ws).2.1 := h2
  refine ⟨((G0 j (m.up d).ws).1, qv', d'), ⟨h1, ?_, ?_, ?_⟩, h3⟩
  ·simp only [H4, JV.step0, e2]
  ·simp only [e2]; exact hn
  ·exact A9z _ _
 ·refine hw'.ks.then hk fun x hx => ?_
  obtain ⟨r, hr, hxr⟩ := G5.1 hx
  exact (hw'.own r hr x hxr).1
end Go.Proofs.YtjobgnabneddjaaGreat
namespace Go.Proofs.YtjobgnabneddjaaGreat
open Go
theorem A8a {x : WS} {p : List H8} (i : Nat) : M1 (B0F x p).cells ((i : Nat) + 2) = M1 x.cells ((i : Nat) + 2) := by
 simp only [B0F]
 rw [A9q _ _ (by omega), A9q _ _ (by omega)]
end Go.Proofs.YtjobgnabneddjaaGreat
namespace Go.Proofs.YtjobgnabneddjaaGreat
open Go
theorem Z9 (w : World) (m : WoH) (hb : bl w m.b = some (.cells (D7 m.c (.pointer (some ⟨m.bc, 0, none⟩)) (.pointer (some ⟨m.bs, 0, none⟩)) (.pointer (some ⟨m.bk, 0, none⟩)) m.tv m.pv (.int .i64 m.now)) 39 (0, 0))) :
  Fn PR B8 30 #[.pointer (some ⟨m.b, 0, none⟩)] w (fun u w' => u = .bool true ∧ D0 [] w w') := by
 refine Fn.pure (A1j (TW.go (κ := false) (S := []) ?_))
 unfold c7
 have h5 : w.cell? ⟨m.b, 5, none⟩ = some (.pointer (some ⟨m.bc, 0, none⟩)) := by rw [C8 hb]; rfl
 have h6 : w.cell? ⟨m.b, 6, none⟩ = some (.pointer (some ⟨m.bs, 0, none⟩)) := by rw [C8 hb]; rfl
 have h7 : w.cell? ⟨m.b, 7, none⟩ = some (.pointer (some ⟨m.bk, 0, none⟩)) := by rw [C8 hb]; rfl
 (have zz:=trivial;repeat((first|clear zz|with_reducible first|refine A3 ?_|refine A5 fun _=>?_|refine A4 fun _=>?_);try simp(disch:=first|omega|assumption|((repeat(first|exact A1|exact uH|apply A2|apply uT));first|done|fail)|(simp;first|done|omega|fail))[h5, h6, h7]))
 exact B9 rfl
theorem B4J {κ : Bool} {S : List Nat} {w0 w' : World} {Hc Hk : List Res} {e : TypeId} {k q : Nat} {v : Value} {xs : List Value} (hw' : LW κ S w0 (Hc ++ Hk) w') (hm : Res.own e k v q xs ∈ Hk) : ∀ w'', KS false (B2 Hc) w' w'' → G3 w'' v q xs := fun w'' hk => by
 have h := K9.rd (hw'.hold _ (List.mem_append_right _ hm))
 refine h.ks hk fun g hg hin => ?_
 obtain ⟨r, hr, hgr⟩ := G5.1 hin
 exact (List.pairwise_append.1 hw'.dis).2.2 r hr _ hm g hgr hg
def B14 : CfgV := ⟨1, 1, 1, 5, 2⟩
def p20 : List H8 := [(7, 1)]
def R20 : RunV := Q1 20 ⟨.upd (S2 0 p20), T5 B14, 0, 0, 0⟩
theorem B81 : R20.n = 6 := by kernel_rfl
theorem B8y : R20.j.b = ⟨0, -1, p7⟩ := by kernel_rfl
theorem B7d : Q9 B14 = true := by kernel_rfl
theorem B68 {c : CfgV} (h : Q9 c = true) : WsOk (T5 c) := by
 simp only [Q9, V3, Bool.and_eq_true, decide_eq_true_eq] at h
 refine ⟨by simp only [T5]; omega, by simp only [T5, List.length_replicate], by simp only [T5, List.length_replicate]; omega, by simp only [T5, List.length_replicate]; omega, by simp only [T5, List.length_replicate]; omega⟩
theorem B5w (n : Nat) (i : Int) : M1 (List.replicate n 0) i = 0 := by
 unfold M1
 split
 ·rw [List.getD_eq_getElem?_getD, List.getElem?_replicate]; split <;> rfl
 ·rfl
theorem B4Y {c : CfgV} (h : Q9 c = true) (who : Int) (p : List H8) : UInv 0 (S2 who p) (T5 c) :=
 ⟨B68 h, by simp [S2], by simp [S2], by simp [S2], by simp [S2], by simp [T5, B5w]⟩
theorem B1C {who : Int} (hw : who ≠ 0) (p : List H8) (x : WS) : (JV.upd (S2 who p)).step0 x = (.upd { S2 who p with b := ⟨who, -1, ⟨1, 0, false, 0⟩⟩ }, x, true, true, false) := by
 have hb : U6 (S2 who p) = 1 := if_neg hw
 simp only [JV.step0]
 unfold G0
 rw [if_pos ⟨rfl, by rw [hb]; decide⟩, hb]
 rfl
set_option maxHeartbeats 2000000 in
theorem B1S (w : World) : Fn PR B8 28 #[] w (fun r w' => r = .bool true ∧ D0 [] w w') := by
 refine Fn.pure (A1m (TW.go (κ := false) (S := []) ?_))
 unfold c9
 (have zz:=trivial;repeat((first|clear zz|with_reducible first|refine A3 ?_|refine A5 fun _=>?_|refine A4 fun _=>?_);try simp(disch:=first|omega|assumption|((repeat(first|exact A1|exact uH|apply A2|apply uT));first|done|fail)|(simp;first|done|omega|fail))[]))
 refine N4 A0g (fun w' hw' => A71 w' B14) ?_
 rw [B7d]
 simp only [if_true]
 rintro m v ⟨rfl, hmc, hws⟩
 (have zz:=trivial;repeat((first|clear zz|with_reducible first|refine A3 ?_|refine A5 fun _=>?_|refine A4 fun _=>?_|refine r6 fun _=>?_|refine u9 (hK:=fun _=>?_)|refine s0 (hK:=fun _=>?_)|refine x6 (hK:=fun _=>?_)|refine v6 (hK:=fun _=>?_)|refine s7 (hK:=fun _=>?_));try simp(disch:=first|omega|assumption|((repeat(first|exact A1|exact uH|apply A2|apply uT));first|done|fail)|(simp;first|done|omega|fail))[]))
 rename_i bp
 refine N4 Y3 (fun w' hw' => B1E w' 0 (some ⟨bp, 0, none⟩) 1 1 ⟨#[]⟩ 0) ?_
 rintro ⟨jb, b⟩ v rfl
 (have zz:=trivial;repeat((first|clear zz|with_reducible first|refine A3 ?_|refine A5 fun _=>?_|refine A4 fun _=>?_);try simp(disch:=first|omega|assumption|((repeat(first|exact A1|exact uH|apply A2|apply uT));first|done|fail)|(simp;first|done|omega|fail))[]))
 refine N4 Y3 (fun w' hw' => B1E w' 1 none 0 0 ⟨#[]⟩ 0) ?_
 rintro ⟨kb, kc⟩ v rfl
 refine A0L 3 1 ?_
 refine A0L 3 1 ?_
 (have zz:=trivial;repeat((first|clear zz|with_reducible first|refine A3 ?_|refine A5 fun _=>?_|refine A4 fun _=>?_);try simp(disch:=first|omega|assumption|((repeat(first|exact A1|exact uH|apply A2|apply uT));first|done|fail)|(simp;first|done|omega|fail))[]))
 have hdd : m.up m.dd = m := rfl
 obtain ⟨pv, hpv⟩ : ∃ pv, pv = Value.slice (some ⟨bp, 0, none⟩) 1 1 := ⟨_, rfl⟩
 rw [← hpv]
 obtain ⟨Hf, hHf⟩ : ∃ Hf : List Res, Hf = [.own 155 2 pv 1 [.int .i64 7, .int .i64 1], .own 3 1 (.slice none 0 0) 0 [], G4 kb (K5 kc), .pt kc (.cells (C0 ⟨1, 0, p7⟩ [.slice none 0 0, .slice none 0 0, .int .i64 0, .int .i64 0]) 163)] := ⟨_, rfl⟩
 refine Sels.tw (rs := upH jb b pv m (S2 0 p20, G2, m.dd) ++ Hf) (by subst hHf; simp only [upH, F9, G9, S2, G2, D4, List.map_nil, List.length_nil, hdd, C3, List.cons_append, List.nil_append]; (repeat' constructor)) ?_
 have hrdp : ∀ (d : UpA) (w' : World), LW false [] w (upH jb b pv m d ++ Hf) w' → ∀ w'', KS false (B2 (upH jb b pv m d)) w' w'' → G3 w'' pv p20.length (p20.flatMap G8) := fun d w' hw' w'' hk =>
  B4J (e := 155) (k := 2) hw' (by rw [hHf]; exact List.mem_cons_self ..) w'' hk
 refine B1r (fun (y : UpA × Nat) => upH jb b pv m y.1 ++ Hf) (fun y => y.2 ≤ 20 ∧ UInv y.2 y.1.1 (m.up y.1.2.2).ws ∧ y.1.1.pool = p20 ∧ ∃ tk bad, Q1 (20 - y.2) (S4 (.upd y.1.1, (m.up y.1.2.2).ws) y.2 tk bad) = R20) (fun y => 20 - y.2) ((S2 0 p20, G2, m.dd), 0) (fun y => .int .i64 (y.2 : Nat)) ⟨Nat.zero_le _, by rw [hdd, hws]; exact B4Y B7d 0 p20, rfl, 0, 0, by rw [hdd, hws]; rfl⟩ ?_
 rintro ⟨⟨j', qv, d⟩, n⟩ ⟨h1, h2, h3, tk, bad, h4⟩ L hL
 simp only at h1 h2 h3 h4 hL ⊢
 have hfin : (JV.upd j').ready (m.up d).ws = false ∨ n = 20 → n = 6 ∧ j'.b = ⟨0, -1, p7⟩ := fun h => by
  have e : S4 (.upd j', (m.up d).ws) n tk bad = R20 := by
   rw [← h4]
   rcases h with h | h
   ·rw [A6S h]
   ·rw [show 20 - n = 0 by omega]; rfl
  exact ⟨by rw [← B81, ← e]; rfl, by rw [← B8y, ← e]; rfl⟩
 have hnx : (JV.upd j').ready (m.up d).ws = true → n < 20 → ∃ tk bad, Q1 (20 - (n + 1)) (S4 (H4 (.upd j', (m.up d).ws)) (n + 1) tk bad) = R20 := fun h hn => by
  rw [← h4, show 20 - n = 20 - (n + 1) + 1 by omega, A4n h]
  exact ⟨_, _, rfl⟩
 have hR := fun (w' : World) (hw' : LW false [] w (upH jb b pv m (j', qv, d) ++ Hf) w') => B22 w w' jb b pv m (j', qv, d) (List.mem_append_left _ (by unfold upH; (repeat constructor))) (List.mem_append_left _ (by unfold upH; (repeat constructor))) (.pointer (some ⟨m.b, 0, none⟩)) (m.up d).ws hw'
 obtain ⟨rd, hrd⟩ : ∃ r, r = (JV.upd j').ready (m.up d).ws := ⟨_, rfl⟩
 have hn20 : n < 20 ∨ rd = false := by
  by_cases h : n < 20
  ·exact Or.inl h
  ·have := (hfin (Or.inr (by omega))).1; omega
 simp only [← hrd] at hfin hnx hR
 have hexit : rd = false → n = 6 ∧ j'.b = ⟨0, -1, p7⟩ := fun h => hfin (Or.inl h)
 clear hfin h4
 cases rd with
 | true =>
  have c1 : n < 20 := by rcases hn20 with h | h; exact h; cases h
  have c1' : ((n : Nat) : Int) < 20 := by omega
  (have zz:=trivial;repeat((first|clear zz|with_reducible first|refine A3 ?_|refine A5 fun _=>?_|refine A4 fun _=>?_);try simp(disch:=first|omega|assumption|((repeat(first|exact A1|exact uH|apply A2|apply uT));first|done|fail)|(simp;first|done|omega|fail))[c1, c1']))
  refine D1 E5 (fun w' hw' => hR w' hw') ?_
  (have zz:=trivial;repeat((first|clear zz|with_reducible first|refine A3 ?_|refine A5 fun _=>?_|refine A4 fun _=>?_);try simp(disch:=first|omega|assumption|((repeat(first|exact A1|exact uH|apply A2|apply uT));first|done|fail)|(simp;first|done|omega|fail))[c1, c1']))
  refine B4 (Hc := upH jb b pv m (j', qv, d)) (Hk := Hf) L0 (fun w' hw' hs => A8d w' w' jb b pv m p20 (by simp [p20]) n (by omega) (j', qv, d) h2 h3 hrd.symm (hrdp (j', qv, d) w' hw') hs hs) (B0B _ _) ?_
  rintro ⟨j2, qv2, d2⟩ v ⟨rfl, k1, k2, k3⟩
  obtain ⟨tk', bad', h⟩ := hnx rfl c1
  rw [← k1] at h
  (have zz:=trivial;repeat((first|clear zz|with_reducible first|refine A3 ?_|refine A5 fun _=>?_|refine A4 fun _=>?_);try simp(disch:=first|omega|assumption|((repeat(first|exact A1|exact uH|apply A2|apply uT));first|done|fail)|(simp;first|done|omega|fail))[]))
  exact hL ((j2, qv2, d2), n + 1) ⟨by simp only; omega, k2, k3, tk', bad', h⟩ (by simp only; omega)
 | false =>
  obtain ⟨rfl, hb⟩ := hexit rfl
  clear hL hnx hexit
  (have zz:=trivial;repeat((first|clear zz|with_reducible first|refine A3 ?_|refine A5 fun _=>?_|refine A4 fun _=>?_);try simp(disch:=first|omega|assumption|((repeat(first|exact A1|exact uH|apply A2|apply uT));first|done|fail)|(simp;first|done|omega|fail))[]))
  refine D1 E5 (fun w' hw' => hR w' hw') ?_
  (have zz:=trivial;repeat((first|clear zz|with_reducible first|refine A3 ?_|refine A5 fun _=>?_|refine A4 fun _=>?_);try simp(disch:=first|omega|assumption|((repeat(first|exact A1|exact uH|apply A2|apply uT));first|done|fail)|(simp;first|done|omega|fail))[]))
  obtain ⟨m2, hm2⟩ : ∃ m2, m2 = m.up d := ⟨_, rfl⟩
  have hb2 : m.b = m2.b := by rw [hm2]; rfl
  rw [← hm2] at h2
  have h20 : UInv 0 (S2 1 []) (m2.up m2.dd).ws := ⟨h2.ok, by simp [S2], by simp [S2], by simp [S2], by simp [S2], h2.cur⟩
  have hA := fun (w' : World) (g1 : bl w' jb = some (.cells #[K5 b] 167 (0, 0))) (g2 : bl w' b = some (.cells (C0 j'.b [pv, qv, .int .i64 j'.slot, .int .i64 j'.old]) 163 (0, 0))) =>
   A7G w' jb b (K5 b) j'.b _ _ (Or.inl rfl) g1 g2
  have hSt := fun (w' : World) (g1 : bl w' jb = some (.cells #[K5 b] 167 (0, 0))) (g2 : bl w' b = some (.cells (C0 j'.b [pv, qv, .int .i64 j'.slot, .int .i64 j'.old]) 163 (0, 0))) =>
   A10 w' jb b (K5 b) j'.b _ _ (Or.inl rfl) g1 g2
  refine B4 (Hc := upH kb kc G2 m2 (S2 1 [], G2, m2.dd)) (Hk := [G4 jb (K5 b), F9 b j' pv qv, G9 j' qv, .own 155 2 pv 1 [.int .i64 7, .int .i64 1]]) L0 (fun w' hw' hs => by rw [hb2]; exact A8d w' w' kb kc G2 m2 [] (by simp) 0 (by omega) (S2 1 [], G2, m2.dd) h20 rfl rfl (fun w'' _ => Or.inl ⟨rfl, rfl, none, 0, rfl⟩) hs hs) (by subst hHf; simp only [upH, ← hm2, show m2.up m2.dd = m2 from rfl, C3, List.cons_append, List.nil_append]; simp only [F9, G9, S2, G2, D4, List.map_nil, List.length_nil]; (repeat' constructor)) ?_
  rintro ⟨k2, qk, dk⟩ v ⟨rfl, e1, _, _⟩
  simp only [H4, B1C (show (1 : Int) ≠ 0 by decide)] at e1
  obtain ⟨e2, -⟩ := Prod.mk.inj e1
  injection e2 with e2
  subst e2
  simp only [B1C (show (1 : Int) ≠ 0 by decide), H3, upH]
  have hA2 := fun (w' : World) (g1 : bl w' kb = some (.cells #[K5 kc] 167 (0, 0))) (g2 : bl w' kc = some (.cells (C0 ⟨1, -1, ⟨1, 0, false, 0⟩⟩ [G2, qk, .int .i64 0, .int .i64 0]) 163 (0, 0))) =>
   A7G w' kb kc (K5 kc) ⟨1, -1, ⟨1, 0, false, 0⟩⟩ _ _ (Or.inl rfl) g1 g2
  have hR2 := fun (w' : World) (g1 : bl w' kb = some (.cells #[K5 kc] 167 (0, 0))) (g2 : bl w' kc = some (.cells (C0 ⟨1, -1, ⟨1, 0, false, 0⟩⟩ [G2, qk, .int .i64 0, .int .i64 0]) 163 (0, 0))) =>
   n8 w' kb kc (K5 kc) ⟨1, -1, ⟨1, 0, false, 0⟩⟩ _ _ (.pointer (some ⟨m.b, 0, none⟩)) false _ _ (Or.inl rfl) g1 g2 (fun w => r9 w kc _) (fun w'' _ => A46 w'' _ _)
  simp only [hb] at hA hSt
  (have zz:=trivial;repeat((first|clear zz|with_reducible first|refine A3 ?_|refine A5 fun _=>?_|refine A4 fun _=>?_);try simp(disch:=first|omega|assumption|((repeat(first|exact A1|exact uH|apply A2|apply uT));first|done|fail)|(simp;first|done|omega|fail))[]))
  refine D1 f8 (fun w' hw' => hA w' (hw'.pt (b := jb) (by unfold G4; (repeat constructor))) (hw'.pt (b := b) (by unfold F9; rw [hb]; (repeat constructor)))) ?_
  simp only [p7, AnsV.val]
  (have zz:=trivial;repeat((first|clear zz|with_reducible first|refine A3 ?_|refine A5 fun _=>?_|refine A4 fun _=>?_);try simp(disch:=first|omega|assumption|((repeat(first|exact A1|exact uH|apply A2|apply uT));first|done|fail)|(simp;first|done|omega|fail))[]))
  refine D1 E3 (fun w' hw' => hSt w' (hw'.pt (b := jb) (by unfold G4; (repeat constructor))) (hw'.pt (b := b) (by unfold F9; rw [hb]; (repeat constructor)))) ?_
  (have zz:=trivial;repeat((first|clear zz|with_reducible first|refine A3 ?_|refine A5 fun _=>?_|refine A4 fun _=>?_);try simp(disch:=first|omega|assumption|((repeat(first|exact A1|exact uH|apply A2|apply uT));first|done|fail)|(simp;first|done|omega|fail))[]))
  refine D1 f8 (fun w' hw' => hA2 w' (hw'.pt (b := kb) (by unfold G4; (repeat constructor))) (hw'.pt (b := kc) (by unfold F9; simp only [S2]; (repeat constructor)))) ?_
  simp only [AnsV.val]
  (have zz:=trivial;repeat((first|clear zz|with_reducible first|refine A3 ?_|refine A5 fun _=>?_|refine A4 fun _=>?_);try simp(disch:=first|omega|assumption|((repeat(first|exact A1|exact uH|apply A2|apply uT));first|done|fail)|(simp;first|done|omega|fail))[]))
  refine D1 E5 (fun w' hw' => hR2 w' (hw'.pt (b := kb) (by unfold G4; (repeat constructor))) (hw'.pt (b := kc) (by unfold F9; simp only [S2]; (repeat constructor)))) ?_
  (have zz:=trivial;repeat((first|clear zz|with_reducible first|refine A3 ?_|refine A5 fun _=>?_|refine A4 fun _=>?_);try simp(disch:=first|omega|assumption|((repeat(first|exact A1|exact uH|apply A2|apply uT));first|done|fail)|(simp;first|done|omega|fail))[]))
  exact B9 rfl
end Go.Proofs.YtjobgnabneddjaaGreat
namespace Go.Proofs.YtjobgnabneddjaaGreat
open Go
theorem B2n {K : Value → WP} (a b : Bool) : A0 PR (binOp .neq 4 (.bool a) (.bool b)) K = K (.bool (!(a == b))) := D5 (fun w => by
 have h : (Op.equal 4 (.bool a) (.bool b)).run PR w = .ok (a == b) w := A1B (e := 9999) ty4 w
 simp [binOp, h]) K
def A7C (x : WS) (p : Int) : Prop := M1 x.cells 2 = p ∧ ∀ i : Nat, M1 x.cells ((i : Nat) + 3) = 0
theorem A7C.after {x : WS} {v : Int} (h : A7C x v) (p : List H8) : A7C (B0F x p) v := by
 refine ⟨?_, fun i => ?_⟩
 ·have := A8a (x := x) (p := p) 0
  simp only [Int.natCast_zero, Int.zero_add] at this
  rw [this]; exact h.1
 ·have := A8a (x := x) (p := p) (i + 1)
  rw [show (((i + 1 : Nat) : Int) + 2) = (i : Nat) + 3 by omega] at this
  rw [this]; exact h.2 i
theorem A7C.zero {x : WS} (h : A7C x 0) (i : Nat) : M1 x.cells ((i : Nat) + 2) = 0 := by
 cases i with
 | zero => exact h.1
 | succ i => rw [show (((i + 1 : Nat) : Int) + 2) = (i : Nat) + 3 by omega]; exact h.2 i
end Go.Proofs.YtjobgnabneddjaaGreat
namespace Go.Proofs.YtjobgnabneddjaaGreat
open Go
theorem B6C (w : World) (who : Int) (pa : Option Addr) (pn pc : Nat) (pk : ByteArray) (shard : Int) :
  Fn PR B8 32 #[.int .i64 who, .agg #[.int .i64 2, .string pk, .slice pa pn pc, .int .i64 shard]] w (Rn [] w (fun (x : Nat × Nat) u => u = .pointer (some ⟨x.1, 0, none⟩)) fun x => [G4 x.1 (l7 x.2), Y9 x.2 ⟨⟨who, 0, p7⟩, shard, 0, []⟩ G2]) := by
 refine A0E (TW.go (κ := false) (S := []) ?_)
 unfold b9
 (have zz:=trivial;repeat((first|clear zz|with_reducible first|refine A3 ?_|refine A5 fun _=>?_|refine A4 fun _=>?_);try simp(disch:=first|omega|assumption|((repeat(first|exact A1|exact uH|apply A2|apply uT));first|done|fail)|(simp;first|done|omega|fail))[]))
 rename_i a1 a2 a3 a4
 refine B0 (a4, a3) rfl ?_
 simp only [G4, Y9, C0, p7, G2]
 (repeat' constructor)
theorem B53 (w : World) (who : Int) (pa : Option Addr) (pn pc : Nat) (pk : ByteArray) (shard : Int) :
  Fn PR B8 32 #[.int .i64 who, .agg #[.int .i64 3, .string pk, .slice pa pn pc, .int .i64 shard]] w (Rn [] w (fun (x : Nat × Nat) u => u = .pointer (some ⟨x.1, 0, none⟩)) fun x => [G4 x.1 (m7 x.2), y9 x.2 ⟨who, 0, p7⟩]) := by
 refine A0E (TW.go (κ := false) (S := []) ?_)
 unfold b9
 (have zz:=trivial;repeat((first|clear zz|with_reducible first|refine A3 ?_|refine A5 fun _=>?_|refine A4 fun _=>?_);try simp(disch:=first|omega|assumption|((repeat(first|exact A1|exact uH|apply A2|apply uT));first|done|fail)|(simp;first|done|omega|fail))[]))
 rename_i a1 a2 a3 a4
 refine B0 (a4, a3) rfl ?_
 simp only [G4, y9, C0, p7, G2]
 (repeat' constructor)
def A40 (kind shard : Int) : LJ → Prop
 | .exp j _ => kind = 2 ∧ j.shard = shard
 | .sta _ => kind = 3
theorem A8U {N : Nat} {kind shard : Int} {m : WoH} {a a' : LS} (h : A40 kind shard a.1) (hs : lkN N m a a') : A40 kind shard a'.1 := by
 obtain ⟨h1, _, h3⟩ := hs
 obtain ⟨l, P, d⟩ := a
 obtain ⟨l', P', d'⟩ := a'
 cases l with
 | exp j tv =>
  cases l' with
  | exp j' tv' =>
   refine ⟨h.1, ?_⟩
   have e : JV.exp j' = (A11 (JV.exp j, (m.ux d).ws)).1 := congrArg Prod.fst h1
   rw [← h.2]
   cases hr : (JV.exp j).ready (m.ux d).ws with
   | false => rw [A6N (y := (JV.exp j, (m.ux d).ws)) hr] at e; injection e with e; rw [e]
   | true => rw [A0b (y := (JV.exp j, (m.ux d).ws)) hr] at e; injection e with e; rw [e]; exact A8Y j _
  | sta j' =>
   exfalso
   simp only [LJ.I, l7, m7] at h3
   injection h3 with h3
   exact absurd h3 (by decide)
 | sta j =>
  cases l' with
  | exp j' tv' =>
   exfalso
   simp only [LJ.I, l7, m7] at h3
   injection h3 with h3
   exact absurd h3 (by decide)
  | sta j' => exact h
theorem l6 (r s : Res) : ∀ A : List Res, Part A (r :: s :: A) [r, s]
 | [] => Part.nil
 | t :: A => Part.cons (.there (.there .here)) (l6 r s A)
theorem b8 (w' : World) (jb b : Nat) (m : WoH) (a : LS) {κ : Bool} {S : List Nat} {w0 : World} {H : List Res} (hw : LW κ S w0 H w') (h1 : G4 jb (a.1.I b) ∈ H) (h2 : a.1.res b ∈ H) :
  Fn PR B8 38 #[.pointer (some ⟨jb, 0, none⟩)] w' (fun u w'' => u = .int .i64 a.1.v.b.st ∧ D0 [] w' w'') := by
 obtain ⟨l, P, d⟩ := a
 cases l with
 | exp j tv => exact A10 w' jb b (l7 b) j.b _ _ (Or.inr (Or.inl rfl)) (hw.pt h1) (hw.pt h2)
 | sta j => exact A10 w' jb b (m7 b) j _ _ (Or.inr (Or.inr (Or.inl rfl))) (hw.pt h1) (hw.pt h2)
theorem B09 {c : CfgV} (hok : Q9 c = true) {m : WoH} (hws : m.ws = T5 c) {i : Nat} (hi : i < c.sh.toNat) (who : Int) (d : WoX) (hd : d.ts = m.ts ∧ d.pl = m.pl ∧ d.own = l2 m.own (i : Nat) 99) (l : LJ) {kind shard : Int} (hl : A40 kind shard l)
  (hl0 : (∃ tv, l = .exp ⟨⟨who, 0, p7⟩, shard, 0, []⟩ tv ∧ tv = G2) ∨ l = .sta ⟨who, 0, p7⟩) :
  LkC c.sh.toNat m (l, m.ts ++ [(G2, [])], d) ∧ A2V c.sh.toNat who i 0 (M2 m (l, m.ts ++ [(G2, [])], d)) := by
 simp only [Q9, V3, Bool.and_eq_true, decide_eq_true_eq] at hok
 obtain ⟨hd1, hd2, hd3⟩ := hd
 have e1 : m.ts.map (·.2) = List.replicate c.sh.toNat (P3 c.cp.toNat) := congrArg WS.tabs hws
 have e2 : m.own = E2 c.sh.toNat := congrArg WS.own hws
 have e3 : m.pl = List.replicate c.sh.toNat 0 := congrArg WS.places hws
 have e4 : d.own = l4 c.sh.toNat i := by
  rw [hd3, e2]
  unfold l2
  rw [if_pos (by omega), A09 (by simp [E2]; omega), if_pos (H9 hi)]
  rfl
 have hts : d.ts.length = c.sh.toNat := by rw [hd1, ← List.length_map (f := (·.2)), e1, List.length_replicate]
 have hem : ∀ t ∈ m.ts, A0C t.2 := fun t ht => by
  have : t.2 ∈ m.ts.map (·.2) := List.mem_map.2 ⟨t, ht, rfl⟩
  rw [e1] at this
  rw [(List.mem_replicate.1 this).2]; exact B5y _
 have hx : (m.ux d).ws.tabs.length = c.sh.toNat ∧ ∀ t ∈ (m.ux d).ws.tabs, A0C t := by
  refine ⟨by show (d.ts.map (·.2)).length = _; rw [List.length_map]; exact hts, fun t ht => ?_⟩
  have ht' : t ∈ d.ts.map (·.2) := ht
  rw [hd1] at ht'
  obtain ⟨u, hu, rfl⟩ := List.mem_map.1 ht'
  exact hem u hu
 have hemp : A0C ([] : List EnV) := ⟨fun x hx => by simp at hx, by simp⟩
 refine ⟨⟨by omega, fun t ht => ?_, fun t ht => List.mem_append_left _ (by rw [← hd1]; exact ht), by rw [hd2, e3, List.length_replicate], ?_⟩, ?_⟩
 ·rcases List.mem_append.1 ht with ht | ht
  ·exact hem t ht
  ·rw [List.mem_singleton.1 ht]; exact hemp
 ·rcases hl0 with ⟨tv, rfl, rfl⟩ | rfl
  ·exact List.mem_append_right _ (List.mem_singleton.2 rfl)
  ·trivial
 ·rcases hl0 with ⟨tv, rfl, rfl⟩ | rfl
  ·exact ⟨⟨⟨hx.1, hx.2, hemp, rfl⟩, Or.inl ⟨Or.inl rfl, e4⟩⟩, fun _ => rfl⟩
  ·refine ⟨⟨⟨hx.1, hx.2, rfl⟩, 0, by omega, fun j hj => by omega, ?_, by rw [if_neg (by omega)]; rfl⟩, by simp⟩
   refine (show (m.ux d).ws.own = _ from e4).trans ?_
   refine W2 (by rw [G6, F5]) fun j hj => ?_
   rw [G6] at hj
   rw [N2 hj, if_neg (by omega)]
theorem LkC.with {N : Nat} {m : WoH} {l : LJ} {P : d9} {d : WoX} (h : LkC N m (l, P, d)) (cn : Int) (own : List Int) : LkC N m (l, P, { d with cn := cn, own := own }) := ⟨h.n, h.emp, h.sub, h.pl, h.tb⟩
theorem A5W {N : Nat} {who : Int} (w' : World) (jb b : Nat) (m : WoH) (a : LS) (hwho : 0 ≤ who) (hc : LkC N m a) (hl : U8 N who (E2 N) (M2 m a)) (hs : LW false (B2 (E1 jb b m a)) w' (E1 jb b m a) w') :
  Fn PR B8 33 #[.pointer (some ⟨jb, 0, none⟩), .pointer (some ⟨m.b, 0, none⟩)] w' (Rn (B2 (E1 jb b m a)) w' (fun (y : LS) u => (∃ x1 x2 x3 : Nat, u = .tuple #[.int .i64 (x1 : Nat), .int .i64 (x2 : Nat), .int .i64 (x3 : Nat)]) ∧ LkC N m y ∧ y.1.v.b.st = -1 ∧ y.2.2.own = E2 N ∧ y.2.2.ts.length = N) (E1 jb b m)) := by
 have hfl : (E2 N).length = N := by simp [E2]
 have hfo : ∀ j, j < N → (E2 N).getD j 0 = -1 ∨ (E2 N).getD j 0 = 99 := fun j hj => Or.inl (H9 hj)
 have h := B4A w' (.pointer (some ⟨jb, 0, none⟩)) (.pointer (some ⟨m.b, 0, none⟩)) (E1 jb b m) (fun n y => LkC N m y ∧ U8 N who (E2 N) (M2 m y)) (M2 m) a ⟨hc, hl⟩
  (fun n y w'' hy hw'' => A3b (Hk := []) w' w'' jb b m y hfl hy.1 hy.2 (by rw [List.append_nil]; exact hw''))
  (fun n y w'' _ hy hr _ hs' => (A4l w'' jb b m y hfl hwho hfo hy.1 hy.2 hs').mono fun u w3 ⟨y', ⟨g1, g2, g3, g4⟩, g5⟩ => ⟨y', ⟨by rw [g1, A4p hr], by rw [g2, A0b hr], g3, by rw [g2, A0b hr]; exact (A5Z hfl hc.n.1 hwho hfo hy.2 hr).1⟩, g5⟩) hs
 refine h.mono fun u w'' hr => ?_
 obtain ⟨⟨y, n, tk, bad⟩, ⟨h1, h2, h3⟩, h4⟩ := hr
 obtain ⟨r1, r2⟩ := B60 hc.n hwho hl 0 0 0
 rw [← h3] at r1 r2
 exact ⟨y, ⟨⟨n, tk, bad, h1⟩, h2.1, r1, r2, A06 h2.2⟩, h4⟩
theorem B4b (a b : Nat) : min ((a : Nat) : Int) ((b : Nat) : Int) = ((min a b : Nat) : Int) := by omega
set_option maxHeartbeats 8000000 in
theorem A6n (w : World) (c : CfgV) (who : Int) (kind shard : Int) (pk : ByteArray) (pa : Option Addr) (pn pc : Nat) (i0 n0 : Int) :
  Fn PR B8 5 #[c.val, .int .i64 who, .agg #[.int .i64 kind, .string pk, .slice pa pn pc, .int .i64 shard], .int .i64 i0, .int .i64 n0] w (fun v w' => v = .bool true ∧ D0 [] w w') := by
 refine Fn.pure (w9 (TW.go (κ := false) (S := []) ?_))
 unfold T4
 simp only [CfgV.val]
 (have zz:=trivial;repeat((first|clear zz|with_reducible first|refine A3 ?_|refine A5 fun _=>?_|refine A4 fun _=>?_);try simp(disch:=first|omega|assumption|((repeat(first|exact A1|exact uH|apply A2|apply uT));first|done|fail)|(simp;first|done|omega|fail))[]))
 rename_i bc bo
 refine D1 A1H (fun w' _ => B1S w') ?_
 (have zz:=trivial;repeat((first|clear zz|with_reducible first|refine A3 ?_|refine A5 fun _=>?_|refine A4 fun _=>?_);try simp(disch:=first|omega|assumption|((repeat(first|exact A1|exact uH|apply A2|apply uT));first|done|fail)|(simp;first|done|omega|fail))[]))
 refine D1 A1P (fun w' _ => B3s w' c) ?_
 cases hs : A2p c with
 | false => (have zz:=trivial;repeat((first|clear zz|with_reducible first|refine A3 ?_|refine A5 fun _=>?_|refine A4 fun _=>?_);try simp(disch:=first|omega|assumption|((repeat(first|exact A1|exact uH|apply A2|apply uT));first|done|fail)|(simp;first|done|omega|fail))[])); exact B9 rfl
 | true =>
 by_cases hk : kind = 2 ∨ kind = 3
 case neg =>
  have k2 : ¬ kind = 2 := fun h => hk (Or.inl h)
  have k3 : ¬ kind = 3 := fun h => hk (Or.inr h)
  (have zz:=trivial;repeat((first|clear zz|with_reducible first|refine A3 ?_|refine A5 fun _=>?_|refine A4 fun _=>?_);try simp(disch:=first|omega|assumption|((repeat(first|exact A1|exact uH|apply A2|apply uT));first|done|fail)|(simp;first|done|omega|fail))[k2, k3])); exact B9 rfl
 have hg : ∀ (P : Prop), (kind = 2 → P) → (kind = 3 → P) → P := fun P h2 h3 => hk.elim h2 h3
 by_cases hw1 : who < 0
 ·rcases hk with rfl | rfl <;> ((have zz:=trivial;repeat((first|clear zz|with_reducible first|refine A3 ?_|refine A5 fun _=>?_|refine A4 fun _=>?_);try simp(disch:=first|omega|assumption|((repeat(first|exact A1|exact uH|apply A2|apply uT));first|done|fail)|(simp;first|done|omega|fail))[hw1])); exact B9 rfl)
 by_cases hw2 : 60 < who
 ·rcases hk with rfl | rfl <;> ((have zz:=trivial;repeat((first|clear zz|with_reducible first|refine A3 ?_|refine A5 fun _=>?_|refine A4 fun _=>?_);try simp(disch:=first|omega|assumption|((repeat(first|exact A1|exact uH|apply A2|apply uT));first|done|fail)|(simp;first|done|omega|fail))[hw1, hw2])); exact B9 rfl)
 by_cases hn1 : n0 < 0
 ·rcases hk with rfl | rfl <;> ((have zz:=trivial;repeat((first|clear zz|with_reducible first|refine A3 ?_|refine A5 fun _=>?_|refine A4 fun _=>?_);try simp(disch:=first|omega|assumption|((repeat(first|exact A1|exact uH|apply A2|apply uT));first|done|fail)|(simp;first|done|omega|fail))[hw1, hw2, hn1])); exact B9 rfl)
 by_cases hn2 : 60 < n0
 ·rcases hk with rfl | rfl <;> ((have zz:=trivial;repeat((first|clear zz|with_reducible first|refine A3 ?_|refine A5 fun _=>?_|refine A4 fun _=>?_);try simp(disch:=first|omega|assumption|((repeat(first|exact A1|exact uH|apply A2|apply uT));first|done|fail)|(simp;first|done|omega|fail))[hw1, hw2, hn1, hn2])); exact B9 rfl)
 obtain ⟨n, rfl⟩ : ∃ n : Nat, n0 = n := ⟨n0.toNat, by omega⟩
 have hwho : 0 ≤ who ∧ who ≤ 60 := ⟨by omega, by omega⟩
 rcases hk with rfl | rfl
 ·(have zz:=trivial;repeat((first|clear zz|with_reducible first|refine A3 ?_|refine A5 fun _=>?_|refine A4 fun _=>?_);try simp(disch:=first|omega|assumption|((repeat(first|exact A1|exact uH|apply A2|apply uT));first|done|fail)|(simp;first|done|omega|fail))[hw1, hw2, hn1, hn2]))
  refine N4 A0g (fun w' hw' => A71 w' c) ?_
  cases hok : Q9 c with
  | false =>
   simp only [Bool.false_eq_true, if_false]
   rintro m v rfl
   (have zz:=trivial;repeat((first|clear zz|with_reducible first|refine A3 ?_|refine A5 fun _=>?_|refine A4 fun _=>?_);try simp(disch:=first|omega|assumption|((repeat(first|exact A1|exact uH|apply A2|apply uT));first|done|fail)|(simp;first|done|omega|fail))[]))
   exact B9 rfl
  | true =>
  simp only [if_true]
  rintro m v ⟨rfl, hmc, hws⟩
  simp only [C3, D3, List.cons_append, List.nil_append]
  (have zz:=trivial;repeat((first|clear zz|with_reducible first|refine A3 ?_|refine A5 fun _=>?_|refine A4 fun _=>?_);try simp(disch:=first|omega|assumption|((repeat(first|exact A1|exact uH|apply A2|apply uT));first|done|fail)|(simp;first|done|omega|fail))[]))
  refine N4 Y3 (fun w' hw' => B6C w' who pa pn pc pk shard) ?_
  rintro ⟨jb, b⟩ v rfl
  simp only [List.cons_append, List.nil_append]
  (have zz:=trivial;repeat((first|clear zz|with_reducible first|refine A3 ?_|refine A5 fun _=>?_|refine A4 fun _=>?_);try simp(disch:=first|omega|assumption|((repeat(first|exact A1|exact uH|apply A2|apply uT));first|done|fail)|(simp;first|done|omega|fail))[]))
  refine D1 F7 (fun w' hw' => Z9 w' m (hw'.pt (b := m.b) (by unfold D7; (repeat constructor)))) ?_
  by_cases hi1 : i0 < 0
  ·(have zz:=trivial;repeat((first|clear zz|with_reducible first|refine A3 ?_|refine A5 fun _=>?_|refine A4 fun _=>?_);try simp(disch:=first|omega|assumption|((repeat(first|exact A1|exact uH|apply A2|apply uT));first|done|fail)|(simp;first|done|omega|fail))[hi1]))
   refine D1 F7 (fun w' hw' => Z9 w' m (hw'.pt (b := m.b) (by unfold D7; (repeat constructor)))) ?_
   (have zz:=trivial;repeat((first|clear zz|with_reducible first|refine A3 ?_|refine A5 fun _=>?_|refine A4 fun _=>?_);try simp(disch:=first|omega|assumption|((repeat(first|exact A1|exact uH|apply A2|apply uT));first|done|fail)|(simp;first|done|omega|fail))[]))
   exact B9 rfl
  by_cases hi2 : c.sh ≤ i0
  ·(have zz:=trivial;repeat((first|clear zz|with_reducible first|refine A3 ?_|refine A5 fun _=>?_|refine A4 fun _=>?_);try simp(disch:=first|omega|assumption|((repeat(first|exact A1|exact uH|apply A2|apply uT));first|done|fail)|(simp;first|done|omega|fail))[hi1, hi2]))
   refine D1 F7 (fun w' hw' => Z9 w' m (hw'.pt (b := m.b) (by unfold D7; (repeat constructor)))) ?_
   (have zz:=trivial;repeat((first|clear zz|with_reducible first|refine A3 ?_|refine A5 fun _=>?_|refine A4 fun _=>?_);try simp(disch:=first|omega|assumption|((repeat(first|exact A1|exact uH|apply A2|apply uT));first|done|fail)|(simp;first|done|omega|fail))[]))
   exact B9 rfl
  obtain ⟨i, rfl⟩ : ∃ i : Nat, i0 = i := ⟨i0.toNat, by omega⟩
  have hok2 := hok
  simp only [Q9, V3, Bool.and_eq_true, decide_eq_true_eq] at hok2
  obtain ⟨N, hN⟩ : ∃ N : Nat, c.sh = N := ⟨c.sh.toNat, by omega⟩
  have hNt : c.sh.toNat = N := by omega
  have hNi : i < N := by omega
  have hol : m.own.length ≤ 1024 := by
   have e : m.own = (T5 c).own := congrArg WS.own hws
   rw [e]; simp only [T5, List.length_replicate]; omega
  simp only [D7]
  (have zz:=trivial;repeat((first|clear zz|with_reducible first|refine A3 ?_|refine A5 fun _=>?_|refine A4 fun _=>?_);try simp(disch:=first|omega|assumption|((repeat(first|exact A1|exact uH|apply A2|apply uT));first|done|fail)|(simp;first|done|omega|fail))[hi1, hi2]))
  refine B4 (Hc := B3 m.bc m.cn m.cv m.ov m.cells m.own) Q0 (fun w' _ hs => A31 w' m.bc m.cn m.cv m.ov m.cells m.own (i : Nat) 99 hol hs) (by unfold B3; (repeat' constructor)) ?_
  rintro n1 v ⟨r, rfl⟩
  simp only [B3, List.cons_append, List.nil_append]
  refine A0L 218 4 ?_
  refine A13 (r := .slice none 0 0) (l := []) (ts := m.ts) (by (repeat' constructor)) ?_
  obtain ⟨d0, hd0⟩ : ∃ d : WoX, d = { m.dx with cn := n1, own := l2 m.own (i : Nat) 99 } := ⟨_, rfl⟩
  obtain ⟨hc0, hb0⟩ := B09 hok hws (i := i) (by omega) who d0 (by subst hd0; exact ⟨rfl, rfl, rfl⟩) (.exp ⟨⟨who, 0, p7⟩, shard, 0, []⟩ G2) (kind := 2) (shard := shard) ⟨rfl, rfl⟩ (Or.inl ⟨G2, rfl, rfl⟩)
  rw [hNt] at hc0 hb0
  refine Sels.tw (rs := .pt bc (.cells (E8 c) 23) :: .pt bo (.cells #[.int .i64 2, .string pk, .slice pa pn pc, .int .i64 shard] 64) :: E1 jb b m ((.exp ⟨⟨who, 0, p7⟩, shard, 0, []⟩ G2), m.ts ++ [(G2, [])], d0)) (by subst hd0; simp only [E1, LJ.res, LJ.I, C3, D3, D7, WoH.ux, WoH.dx, E8, G2, List.cons_append, List.nil_append]; (repeat' constructor)) ?_
  clear hd0
  (have zz:=trivial;repeat((first|clear zz|with_reducible first|refine A3 ?_|refine A5 fun _=>?_|refine A4 fun _=>?_);try simp(disch:=first|omega|assumption|((repeat(first|exact A1|exact uH|apply A2|apply uT));first|done|fail)|(simp;first|done|omega|fail))[]))
  refine A25 (α := LS) n (fun _ a => .pt bc (.cells (E8 c) 23) :: .pt bo (.cells #[.int .i64 2, .string pk, .slice pa pn pc, .int .i64 shard] 64) :: E1 jb b m a) (fun q a => A40 2 shard a.1 ∧ LkC N m a ∧ A2V N who i q (M2 m a)) ((.exp ⟨⟨who, 0, p7⟩, shard, 0, []⟩ G2), m.ts ++ [(G2, [])], d0) ⟨⟨rfl, rfl⟩, hc0, hb0⟩ ?_
  rintro q a hq ⟨hk, hc, hb⟩ L hL
  by_cases hlt : q < n
  ·have hlt' : ((q : Nat) : Int) < (n : Nat) := by omega
   (have zz:=trivial;repeat((first|clear zz|with_reducible first|refine A3 ?_|refine A5 fun _=>?_|refine A4 fun _=>?_);try simp(disch:=first|omega|assumption|((repeat(first|exact A1|exact uH|apply A2|apply uT));first|done|fail)|(simp;first|done|omega|fail))[hlt, hlt']))
   refine B4 (Hc := E1 jb b m a) (Hk := [.pt bc (.cells (E8 c) 23), .pt bo (.cells #[.int .i64 2, .string pk, .slice pa pn pc, .int .i64 shard] 64)]) L0 (fun w' hw' hs => A4l w' jb b m a (G6 _ i) hwho.1 (fun j hj => A5d j hj) hc (A0Z hb) hs) (l6 _ _ _) ?_
   rintro a' v ⟨rfl, hv⟩
   refine TW.perm ?_ List.perm_append_comm
   simp only [List.cons_append, List.nil_append]
   (have zz:=trivial;repeat((first|clear zz|with_reducible first|refine A3 ?_|refine A5 fun _=>?_|refine A4 fun _=>?_);try simp(disch:=first|omega|assumption|((repeat(first|exact A1|exact uH|apply A2|apply uT));first|done|fail)|(simp;first|done|omega|fail))[]))
   exact hL hlt a' ⟨A8U hk hv, hv.2.1, by rw [hv.1]; exact A9D hc.n.1 hwho.1 hNi hb⟩
  obtain rfl : q = n := by omega
  clear hL hq hlt hc0 hb0
  obtain ⟨l, P, d⟩ := a
  have hts : d.ts.length = N := A06 (A0Z hb)
  have hown : d.own.length = N := A9Z (G6 _ i) (A0Z hb)
  (have zz:=trivial;repeat((first|clear zz|with_reducible first|refine A3 ?_|refine A5 fun _=>?_|refine A4 fun _=>?_);try simp(disch:=first|omega|assumption|((repeat(first|exact A1|exact uH|apply A2|apply uT));first|done|fail)|(simp;first|done|omega|fail))[Int.lt_irrefl]))
  refine Z6 (α := Unit) N (fun p _ => .int .i64 (l8 d.own who p : Nat)) (fun _ _ => .pt bc (.cells (E8 c) 23) :: .pt bo (.cells #[.int .i64 2, .string pk, .slice pa pn pc, .int .i64 shard] 64) :: E1 jb b m (l, P, d)) (fun _ _ => True) () trivial ?_
  rintro p _ hp _ L hL
  by_cases hlt : p < N
  ·have hlt' : ((p : Nat) : Int) < c.sh := by omega
   have h := hL hlt () trivial
   clear hL
   have hcl := B0n d.own who p
   have hoat : U3 d.own (p : Nat) = d.own.getD p 0 := A1T (by omega)
   rw [A5M] at h
   simp only [E8]
   (have zz:=trivial;repeat((first|clear zz|with_reducible first|refine A3 ?_|refine A5 fun _=>?_|refine A4 fun _=>?_);try simp(disch:=first|omega|assumption|((repeat(first|exact A1|exact uH|apply A2|apply uT));first|done|fail)|(simp;first|done|omega|fail))[hlt, hlt']))
   simp only [E1, C3, D3, D7, List.cons_append, List.nil_append]
   rw [show m.b = (m.ux d).b from rfl]
   (have zz:=trivial;repeat((first|clear zz|with_reducible first|refine A3 ?_|refine A5 fun _=>?_|refine A4 fun _=>?_);try simp(disch:=first|omega|assumption|((repeat(first|exact A1|exact uH|apply A2|apply uT));first|done|fail)|(simp;first|done|omega|fail))[hlt, hlt']))
   refine D1 F6 (fun w' hw' => Z5 w' (m.ux d).bc (m.ux d).cn (m.ux d).cv (m.ux d).ov (m.ux d).own (p : Nat) (hw'.pt (b := (m.ux d).bc) (by (repeat constructor))) (P4.own (e := 3) (k := 1) (by (repeat constructor)) w' hw')) ?_
   rw [show (m.ux d).own = d.own from rfl, hoat]
   obtain ⟨z, hz⟩ : ∃ z, z = d.own.getD p 0 := ⟨_, rfl⟩
   rw [← hz] at h ⊢
   by_cases hq : z = who
   ·rw [if_pos hq, show ((l8 d.own who p + 1 : Nat) : Int) = (l8 d.own who p : Nat) + 1 from rfl] at h
    (have zz:=trivial;repeat((first|clear zz|with_reducible first|refine A3 ?_|refine A5 fun _=>?_|refine A4 fun _=>?_);try simp(disch:=first|omega|assumption|((repeat(first|exact A1|exact uH|apply A2|apply uT));first|done|fail)|(simp;first|done|omega|fail))[hq]))
    exact h
   ·rw [if_neg hq] at h
    (have zz:=trivial;repeat((first|clear zz|with_reducible first|refine A3 ?_|refine A5 fun _=>?_|refine A4 fun _=>?_);try simp(disch:=first|omega|assumption|((repeat(first|exact A1|exact uH|apply A2|apply uT));first|done|fail)|(simp;first|done|omega|fail))[hq]))
    exact h
  obtain rfl : N = p := by omega
  clear hL hlt
  have hshN : ¬ ((N : Nat) : Int) < c.sh := by omega
  simp only [E8]
  (have zz:=trivial;repeat((first|clear zz|with_reducible first|refine A3 ?_|refine A5 fun _=>?_|refine A4 fun _=>?_);try simp(disch:=first|omega|assumption|((repeat(first|exact A1|exact uH|apply A2|apply uT));first|done|fail)|(simp;first|done|omega|fail))[hshN]))
  cases l with
  | sta j =>
   have h23 : (2 : Int) = 3 := hk
   omega
  | exp j tv =>
  have hjs : j.shard = shard := hk.2
  by_cases hsh : shard = (i : Nat)
  ·have hr : (JV.exp j).ready (m.ux d).ws = false := B0s hNi hb (by rw [hjs]; exact hsh)
   have hz : j.b.st = 0 := hb.2 (by rw [hjs]; exact hsh)
   obtain ⟨l, hl⟩ : ∃ l, l = LJ.exp j tv := ⟨_, rfl⟩
   have hz' : l.v.b.st = 0 := by rw [hl]; exact hz
   have hr' : (M2 m (l, P, d)).1.ready (M2 m (l, P, d)).2 = false := by rw [hl]; exact hr
   rw [← hl] at hc hb ⊢
   (have zz:=trivial;repeat((first|clear zz|with_reducible first|refine A3 ?_|refine A5 fun _=>?_|refine A4 fun _=>?_);try simp(disch:=first|omega|assumption|((repeat(first|exact A1|exact uH|apply A2|apply uT));first|done|fail)|(simp;first|done|omega|fail))[hsh, hshN]))
   refine D1 E3 (fun w' hw' => b8 w' jb b m (l, P, d) hw' (by unfold E1; (repeat constructor)) (by unfold E1; (repeat constructor))) ?_
   rw [hz']
   (have zz:=trivial;repeat((first|clear zz|with_reducible first|refine A3 ?_|refine A5 fun _=>?_|refine A4 fun _=>?_);try simp(disch:=first|omega|assumption|((repeat(first|exact A1|exact uH|apply A2|apply uT));first|done|fail)|(simp;first|done|omega|fail))[hsh, hshN]))
   refine D1 E5 (fun w' hw' => A3b (Hk := []) w w' jb b m (l, P, d) (G6 _ i) hc (A0Z hb) (by rw [List.append_nil]; exact hw'.sub (List.Sublist.cons _ (List.Sublist.cons _ (List.Sublist.refl _))))) ?_
   rw [hr']
   (have zz:=trivial;repeat((first|clear zz|with_reducible first|refine A3 ?_|refine A5 fun _=>?_|refine A4 fun _=>?_);try simp(disch:=first|omega|assumption|((repeat(first|exact A1|exact uH|apply A2|apply uT));first|done|fail)|(simp;first|done|omega|fail))[hsh, hshN]))
   simp only [E1, C3, D3, D7, List.cons_append, List.nil_append]
   rw [show m.b = (m.ux d).b from rfl]
   (have zz:=trivial;repeat((first|clear zz|with_reducible first|refine A3 ?_|refine A5 fun _=>?_|refine A4 fun _=>?_);try simp(disch:=first|omega|assumption|((repeat(first|exact A1|exact uH|apply A2|apply uT));first|done|fail)|(simp;first|done|omega|fail))[]))
   refine B4 (Hc := B3 (m.ux d).bc (m.ux d).cn (m.ux d).cv (m.ux d).ov (m.ux d).cells (m.ux d).own) F2 (fun w' _ hs => W1 w' (m.ux d).bc (m.ux d).cn (m.ux d).cv (m.ux d).ov (m.ux d).cells (m.ux d).own (i : Nat) 99 (by show d.own.length ≤ 1024; omega) hs) (by unfold B3; (repeat' constructor)) ?_
   rintro n2 v ⟨r, rfl⟩
   obtain ⟨d2, hd2⟩ : ∃ d2 : WoX, d2 = { d with cn := n2, own := H7 d.own (i : Nat) 99 } := ⟨_, rfl⟩
   have hc2 : LkC N m (l, P, d2) := by rw [hd2]; exact hc.with n2 _
   have hl2 : U8 N who (E2 N) (M2 m (l, P, d2)) := by rw [hd2]; exact A60 hwho hNi hb
   refine Sels.tw (rs := .pt bc (.cells (E8 c) 23) :: .pt bo (.cells #[.int .i64 2, .string pk, .slice pa pn pc, .int .i64 shard] 64) :: E1 jb b m (l, P, d2)) (by subst hd2; simp only [E1, B3, C3, D3, D7, WoH.ux, E8, hsh, List.cons_append, List.nil_append]; (repeat' constructor)) ?_
   clear hd2 hc hb
   rw [show (m.ux d).b = m.b from rfl]
   (have zz:=trivial;repeat((first|clear zz|with_reducible first|refine A3 ?_|refine A5 fun _=>?_|refine A4 fun _=>?_);try simp(disch:=first|omega|assumption|((repeat(first|exact A1|exact uH|apply A2|apply uT));first|done|fail)|(simp;first|done|omega|fail))[]))
   refine B4 (Hc := E1 jb b m (l, P, d2)) (Hk := [.pt bc (.cells (E8 c) 23), .pt bo (.cells #[.int .i64 2, .string pk, .slice pa pn pc, .int .i64 shard] 64)]) M8 (fun w' hw' hs => A5W w' jb b m (l, P, d2) hwho.1 hc2 hl2 hs) (l6 _ _ _) ?_
   rintro y v ⟨⟨x1, x2, x3, rfl⟩, hcy, hst, hoy, hty⟩
   refine TW.perm ?_ List.perm_append_comm
   simp only [List.cons_append, List.nil_append]
   (have zz:=trivial;repeat((first|clear zz|with_reducible first|refine A3 ?_|refine A5 fun _=>?_|refine A4 fun _=>?_);try simp(disch:=first|omega|assumption|((repeat(first|exact A1|exact uH|apply A2|apply uT));first|done|fail)|(simp;first|done|omega|fail))[]))
   refine Z6 (α := Unit) N (fun _ _ => .bool false) (fun _ _ => .pt bc (.cells (E8 c) 23) :: .pt bo (.cells #[.int .i64 2, .string pk, .slice pa pn pc, .int .i64 shard] 64) :: E1 jb b m y) (fun _ _ => True) () trivial ?_
   rintro p _ hp _ L hL
   by_cases hlt : p < N
   ·have hlt' : ((p : Nat) : Int) < c.sh := by omega
    have h := hL hlt () trivial
    clear hL
    have hoat : U3 y.2.2.own (p : Nat) = -1 := by rw [hoy]; exact A1L (fun j hj => H9 (by simpa [E2] using hj)) _
    simp only [E8]
    (have zz:=trivial;repeat((first|clear zz|with_reducible first|refine A3 ?_|refine A5 fun _=>?_|refine A4 fun _=>?_);try simp(disch:=first|omega|assumption|((repeat(first|exact A1|exact uH|apply A2|apply uT));first|done|fail)|(simp;first|done|omega|fail))[hlt, hlt']))
    simp only [E1, C3, D3, D7, List.cons_append, List.nil_append]
    rw [show m.b = (m.ux y.2.2).b from rfl]
    (have zz:=trivial;repeat((first|clear zz|with_reducible first|refine A3 ?_|refine A5 fun _=>?_|refine A4 fun _=>?_);try simp(disch:=first|omega|assumption|((repeat(first|exact A1|exact uH|apply A2|apply uT));first|done|fail)|(simp;first|done|omega|fail))[hlt, hlt']))
    refine D1 F6 (fun w' hw' => Z5 w' (m.ux y.2.2).bc (m.ux y.2.2).cn (m.ux y.2.2).cv (m.ux y.2.2).ov (m.ux y.2.2).own (p : Nat) (hw'.pt (b := (m.ux y.2.2).bc) (by (repeat constructor))) (P4.own (e := 3) (k := 1) (by (repeat constructor)) w' hw')) ?_
    rw [show (m.ux y.2.2).own = y.2.2.own from rfl, hoat]
    (have zz:=trivial;repeat((first|clear zz|with_reducible first|refine A3 ?_|refine A5 fun _=>?_|refine A4 fun _=>?_);try simp(disch:=first|omega|assumption|((repeat(first|exact A1|exact uH|apply A2|apply uT));first|done|fail)|(simp;first|done|omega|fail))[]))
    exact h
   obtain rfl : N = p := by omega
   clear hL hlt
   simp only [E8]
   (have zz:=trivial;repeat((first|clear zz|with_reducible first|refine A3 ?_|refine A5 fun _=>?_|refine A4 fun _=>?_);try simp(disch:=first|omega|assumption|((repeat(first|exact A1|exact uH|apply A2|apply uT));first|done|fail)|(simp;first|done|omega|fail))[hshN]))
   refine D1 E3 (fun w' hw' => b8 w' jb b m y hw' (by unfold E1; (repeat constructor)) (by unfold E1; (repeat constructor))) ?_
   rw [hst]
   (have zz:=trivial;repeat((first|clear zz|with_reducible first|refine A3 ?_|refine A5 fun _=>?_|refine A4 fun _=>?_);try simp(disch:=first|omega|assumption|((repeat(first|exact A1|exact uH|apply A2|apply uT));first|done|fail)|(simp;first|done|omega|fail))[]))
   exact B9 rfl
  ·obtain ⟨l, hl⟩ : ∃ l, l = LJ.exp j tv := ⟨_, rfl⟩
   rw [← hl] at hc hb ⊢
   (have zz:=trivial;repeat((first|clear zz|with_reducible first|refine A3 ?_|refine A5 fun _=>?_|refine A4 fun _=>?_);try simp(disch:=first|omega|assumption|((repeat(first|exact A1|exact uH|apply A2|apply uT));first|done|fail)|(simp;first|done|omega|fail))[hsh, hshN]))
   simp only [E1, C3, D3, D7, List.cons_append, List.nil_append]
   rw [show m.b = (m.ux d).b from rfl]
   (have zz:=trivial;repeat((first|clear zz|with_reducible first|refine A3 ?_|refine A5 fun _=>?_|refine A4 fun _=>?_);try simp(disch:=first|omega|assumption|((repeat(first|exact A1|exact uH|apply A2|apply uT));first|done|fail)|(simp;first|done|omega|fail))[]))
   refine B4 (Hc := B3 (m.ux d).bc (m.ux d).cn (m.ux d).cv (m.ux d).ov (m.ux d).cells (m.ux d).own) F2 (fun w' _ hs => W1 w' (m.ux d).bc (m.ux d).cn (m.ux d).cv (m.ux d).ov (m.ux d).cells (m.ux d).own (i : Nat) 99 (by show d.own.length ≤ 1024; omega) hs) (by unfold B3; (repeat' constructor)) ?_
   rintro n2 v ⟨r, rfl⟩
   obtain ⟨d2, hd2⟩ : ∃ d2 : WoX, d2 = { d with cn := n2, own := H7 d.own (i : Nat) 99 } := ⟨_, rfl⟩
   have hc2 : LkC N m (l, P, d2) := by rw [hd2]; exact hc.with n2 _
   have hl2 : U8 N who (E2 N) (M2 m (l, P, d2)) := by rw [hd2]; exact A60 hwho hNi hb
   refine Sels.tw (rs := .pt bc (.cells (E8 c) 23) :: .pt bo (.cells #[.int .i64 2, .string pk, .slice pa pn pc, .int .i64 shard] 64) :: E1 jb b m (l, P, d2)) (by subst hd2; simp only [E1, B3, C3, D3, D7, WoH.ux, E8, List.cons_append, List.nil_append]; (repeat' constructor)) ?_
   clear hd2 hc hb
   rw [show (m.ux d).b = m.b from rfl]
   (have zz:=trivial;repeat((first|clear zz|with_reducible first|refine A3 ?_|refine A5 fun _=>?_|refine A4 fun _=>?_);try simp(disch:=first|omega|assumption|((repeat(first|exact A1|exact uH|apply A2|apply uT));first|done|fail)|(simp;first|done|omega|fail))[]))
   refine B4 (Hc := E1 jb b m (l, P, d2)) (Hk := [.pt bc (.cells (E8 c) 23), .pt bo (.cells #[.int .i64 2, .string pk, .slice pa pn pc, .int .i64 shard] 64)]) M8 (fun w' hw' hs => A5W w' jb b m (l, P, d2) hwho.1 hc2 hl2 hs) (l6 _ _ _) ?_
   rintro y v ⟨⟨x1, x2, x3, rfl⟩, hcy, hst, hoy, hty⟩
   refine TW.perm ?_ List.perm_append_comm
   simp only [List.cons_append, List.nil_append]
   (have zz:=trivial;repeat((first|clear zz|with_reducible first|refine A3 ?_|refine A5 fun _=>?_|refine A4 fun _=>?_);try simp(disch:=first|omega|assumption|((repeat(first|exact A1|exact uH|apply A2|apply uT));first|done|fail)|(simp;first|done|omega|fail))[]))
   refine Z6 (α := Unit) N (fun _ _ => .bool false) (fun _ _ => .pt bc (.cells (E8 c) 23) :: .pt bo (.cells #[.int .i64 2, .string pk, .slice pa pn pc, .int .i64 shard] 64) :: E1 jb b m y) (fun _ _ => True) () trivial ?_
   rintro p _ hp _ L hL
   by_cases hlt : p < N
   ·have hlt' : ((p : Nat) : Int) < c.sh := by omega
    have h := hL hlt () trivial
    clear hL
    have hoat : U3 y.2.2.own (p : Nat) = -1 := by rw [hoy]; exact A1L (fun j hj => H9 (by simpa [E2] using hj)) _
    simp only [E8]
    (have zz:=trivial;repeat((first|clear zz|with_reducible first|refine A3 ?_|refine A5 fun _=>?_|refine A4 fun _=>?_);try simp(disch:=first|omega|assumption|((repeat(first|exact A1|exact uH|apply A2|apply uT));first|done|fail)|(simp;first|done|omega|fail))[hlt, hlt']))
    simp only [E1, C3, D3, D7, List.cons_append, List.nil_append]
    rw [show m.b = (m.ux y.2.2).b from rfl]
    (have zz:=trivial;repeat((first|clear zz|with_reducible first|refine A3 ?_|refine A5 fun _=>?_|refine A4 fun _=>?_);try simp(disch:=first|omega|assumption|((repeat(first|exact A1|exact uH|apply A2|apply uT));first|done|fail)|(simp;first|done|omega|fail))[hlt, hlt']))
    refine D1 F6 (fun w' hw' => Z5 w' (m.ux y.2.2).bc (m.ux y.2.2).cn (m.ux y.2.2).cv (m.ux y.2.2).ov (m.ux y.2.2).own (p : Nat) (hw'.pt (b := (m.ux y.2.2).bc) (by (repeat constructor))) (P4.own (e := 3) (k := 1) (by (repeat constructor)) w' hw')) ?_
    rw [show (m.ux y.2.2).own = y.2.2.own from rfl, hoat]
    (have zz:=trivial;repeat((first|clear zz|with_reducible first|refine A3 ?_|refine A5 fun _=>?_|refine A4 fun _=>?_);try simp(disch:=first|omega|assumption|((repeat(first|exact A1|exact uH|apply A2|apply uT));first|done|fail)|(simp;first|done|omega|fail))[]))
    exact h
   obtain rfl : N = p := by omega
   clear hL hlt
   simp only [E8]
   (have zz:=trivial;repeat((first|clear zz|with_reducible first|refine A3 ?_|refine A5 fun _=>?_|refine A4 fun _=>?_);try simp(disch:=first|omega|assumption|((repeat(first|exact A1|exact uH|apply A2|apply uT));first|done|fail)|(simp;first|done|omega|fail))[hshN]))
   refine D1 E3 (fun w' hw' => b8 w' jb b m y hw' (by unfold E1; (repeat constructor)) (by unfold E1; (repeat constructor))) ?_
   rw [hst]
   (have zz:=trivial;repeat((first|clear zz|with_reducible first|refine A3 ?_|refine A5 fun _=>?_|refine A4 fun _=>?_);try simp(disch:=first|omega|assumption|((repeat(first|exact A1|exact uH|apply A2|apply uT));first|done|fail)|(simp;first|done|omega|fail))[]))
   exact B9 rfl
 ·(have zz:=trivial;repeat((first|clear zz|with_reducible first|refine A3 ?_|refine A5 fun _=>?_|refine A4 fun _=>?_);try simp(disch:=first|omega|assumption|((repeat(first|exact A1|exact uH|apply A2|apply uT));first|done|fail)|(simp;first|done|omega|fail))[hw1, hw2, hn1, hn2]))
  refine N4 A0g (fun w' hw' => A71 w' c) ?_
  cases hok : Q9 c with
  | false =>
   simp only [Bool.false_eq_true, if_false]
   rintro m v rfl
   (have zz:=trivial;repeat((first|clear zz|with_reducible first|refine A3 ?_|refine A5 fun _=>?_|refine A4 fun _=>?_);try simp(disch:=first|omega|assumption|((repeat(first|exact A1|exact uH|apply A2|apply uT));first|done|fail)|(simp;first|done|omega|fail))[]))
   exact B9 rfl
  | true =>
  simp only [if_true]
  rintro m v ⟨rfl, hmc, hws⟩
  simp only [C3, D3, List.cons_append, List.nil_append]
  (have zz:=trivial;repeat((first|clear zz|with_reducible first|refine A3 ?_|refine A5 fun _=>?_|refine A4 fun _=>?_);try simp(disch:=first|omega|assumption|((repeat(first|exact A1|exact uH|apply A2|apply uT));first|done|fail)|(simp;first|done|omega|fail))[]))
  refine N4 Y3 (fun w' hw' => B53 w' who pa pn pc pk shard) ?_
  rintro ⟨jb, b⟩ v rfl
  simp only [List.cons_append, List.nil_append]
  (have zz:=trivial;repeat((first|clear zz|with_reducible first|refine A3 ?_|refine A5 fun _=>?_|refine A4 fun _=>?_);try simp(disch:=first|omega|assumption|((repeat(first|exact A1|exact uH|apply A2|apply uT));first|done|fail)|(simp;first|done|omega|fail))[]))
  refine D1 F7 (fun w' hw' => Z9 w' m (hw'.pt (b := m.b) (by unfold D7; (repeat constructor)))) ?_
  by_cases hi1 : i0 < 0
  ·(have zz:=trivial;repeat((first|clear zz|with_reducible first|refine A3 ?_|refine A5 fun _=>?_|refine A4 fun _=>?_);try simp(disch:=first|omega|assumption|((repeat(first|exact A1|exact uH|apply A2|apply uT));first|done|fail)|(simp;first|done|omega|fail))[hi1]))
   refine D1 F7 (fun w' hw' => Z9 w' m (hw'.pt (b := m.b) (by unfold D7; (repeat constructor)))) ?_
   (have zz:=trivial;repeat((first|clear zz|with_reducible first|refine A3 ?_|refine A5 fun _=>?_|refine A4 fun _=>?_);try simp(disch:=first|omega|assumption|((repeat(first|exact A1|exact uH|apply A2|apply uT));first|done|fail)|(simp;first|done|omega|fail))[]))
   exact B9 rfl
  by_cases hi2 : c.sh ≤ i0
  ·(have zz:=trivial;repeat((first|clear zz|with_reducible first|refine A3 ?_|refine A5 fun _=>?_|refine A4 fun _=>?_);try simp(disch:=first|omega|assumption|((repeat(first|exact A1|exact uH|apply A2|apply uT));first|done|fail)|(simp;first|done|omega|fail))[hi1, hi2]))
   refine D1 F7 (fun w' hw' => Z9 w' m (hw'.pt (b := m.b) (by unfold D7; (repeat constructor)))) ?_
   (have zz:=trivial;repeat((first|clear zz|with_reducible first|refine A3 ?_|refine A5 fun _=>?_|refine A4 fun _=>?_);try simp(disch:=first|omega|assumption|((repeat(first|exact A1|exact uH|apply A2|apply uT));first|done|fail)|(simp;first|done|omega|fail))[]))
   exact B9 rfl
  obtain ⟨i, rfl⟩ : ∃ i : Nat, i0 = i := ⟨i0.toNat, by omega⟩
  have hok2 := hok
  simp only [Q9, V3, Bool.and_eq_true, decide_eq_true_eq] at hok2
  obtain ⟨N, hN⟩ : ∃ N : Nat, c.sh = N := ⟨c.sh.toNat, by omega⟩
  have hNt : c.sh.toNat = N := by omega
  have hNi : i < N := by omega
  have hol : m.own.length ≤ 1024 := by
   have e : m.own = (T5 c).own := congrArg WS.own hws
   rw [e]; simp only [T5, List.length_replicate]; omega
  simp only [D7]
  (have zz:=trivial;repeat((first|clear zz|with_reducible first|refine A3 ?_|refine A5 fun _=>?_|refine A4 fun _=>?_);try simp(disch:=first|omega|assumption|((repeat(first|exact A1|exact uH|apply A2|apply uT));first|done|fail)|(simp;first|done|omega|fail))[hi1, hi2]))
  refine B4 (Hc := B3 m.bc m.cn m.cv m.ov m.cells m.own) Q0 (fun w' _ hs => A31 w' m.bc m.cn m.cv m.ov m.cells m.own (i : Nat) 99 hol hs) (by unfold B3; (repeat' constructor)) ?_
  rintro n1 v ⟨r, rfl⟩
  simp only [B3, List.cons_append, List.nil_append]
  refine A0L 218 4 ?_
  refine A13 (r := .slice none 0 0) (l := []) (ts := m.ts) (by (repeat' constructor)) ?_
  obtain ⟨d0, hd0⟩ : ∃ d : WoX, d = { m.dx with cn := n1, own := l2 m.own (i : Nat) 99 } := ⟨_, rfl⟩
  obtain ⟨hc0, hb0⟩ := B09 hok hws (i := i) (by omega) who d0 (by subst hd0; exact ⟨rfl, rfl, rfl⟩) (.sta ⟨who, 0, p7⟩) (kind := 3) (shard := shard) rfl (Or.inr rfl)
  rw [hNt] at hc0 hb0
  refine Sels.tw (rs := .pt bc (.cells (E8 c) 23) :: .pt bo (.cells #[.int .i64 3, .string pk, .slice pa pn pc, .int .i64 shard] 64) :: E1 jb b m ((.sta ⟨who, 0, p7⟩), m.ts ++ [(G2, [])], d0)) (by subst hd0; simp only [E1, LJ.res, LJ.I, C3, D3, D7, WoH.ux, WoH.dx, E8, G2, List.cons_append, List.nil_append]; (repeat' constructor)) ?_
  clear hd0
  (have zz:=trivial;repeat((first|clear zz|with_reducible first|refine A3 ?_|refine A5 fun _=>?_|refine A4 fun _=>?_);try simp(disch:=first|omega|assumption|((repeat(first|exact A1|exact uH|apply A2|apply uT));first|done|fail)|(simp;first|done|omega|fail))[]))
  refine A25 (α := LS) n (fun _ a => .pt bc (.cells (E8 c) 23) :: .pt bo (.cells #[.int .i64 3, .string pk, .slice pa pn pc, .int .i64 shard] 64) :: E1 jb b m a) (fun q a => A40 3 shard a.1 ∧ LkC N m a ∧ A2V N who i q (M2 m a)) ((.sta ⟨who, 0, p7⟩), m.ts ++ [(G2, [])], d0) ⟨rfl, hc0, hb0⟩ ?_
  rintro q a hq ⟨hk, hc, hb⟩ L hL
  by_cases hlt : q < n
  ·have hlt' : ((q : Nat) : Int) < (n : Nat) := by omega
   (have zz:=trivial;repeat((first|clear zz|with_reducible first|refine A3 ?_|refine A5 fun _=>?_|refine A4 fun _=>?_);try simp(disch:=first|omega|assumption|((repeat(first|exact A1|exact uH|apply A2|apply uT));first|done|fail)|(simp;first|done|omega|fail))[hlt, hlt']))
   refine B4 (Hc := E1 jb b m a) (Hk := [.pt bc (.cells (E8 c) 23), .pt bo (.cells #[.int .i64 3, .string pk, .slice pa pn pc, .int .i64 shard] 64)]) L0 (fun w' hw' hs => A4l w' jb b m a (G6 _ i) hwho.1 (fun j hj => A5d j hj) hc (A0Z hb) hs) (l6 _ _ _) ?_
   rintro a' v ⟨rfl, hv⟩
   refine TW.perm ?_ List.perm_append_comm
   simp only [List.cons_append, List.nil_append]
   (have zz:=trivial;repeat((first|clear zz|with_reducible first|refine A3 ?_|refine A5 fun _=>?_|refine A4 fun _=>?_);try simp(disch:=first|omega|assumption|((repeat(first|exact A1|exact uH|apply A2|apply uT));first|done|fail)|(simp;first|done|omega|fail))[]))
   exact hL hlt a' ⟨A8U hk hv, hv.2.1, by rw [hv.1]; exact A9D hc.n.1 hwho.1 hNi hb⟩
  obtain rfl : q = n := by omega
  clear hL hq hlt hc0 hb0
  obtain ⟨l, P, d⟩ := a
  have hts : d.ts.length = N := A06 (A0Z hb)
  have hown : d.own.length = N := A9Z (G6 _ i) (A0Z hb)
  (have zz:=trivial;repeat((first|clear zz|with_reducible first|refine A3 ?_|refine A5 fun _=>?_|refine A4 fun _=>?_);try simp(disch:=first|omega|assumption|((repeat(first|exact A1|exact uH|apply A2|apply uT));first|done|fail)|(simp;first|done|omega|fail))[Int.lt_irrefl]))
  refine Z6 (α := Unit) N (fun p _ => .int .i64 (l8 d.own who p : Nat)) (fun _ _ => .pt bc (.cells (E8 c) 23) :: .pt bo (.cells #[.int .i64 3, .string pk, .slice pa pn pc, .int .i64 shard] 64) :: E1 jb b m (l, P, d)) (fun _ _ => True) () trivial ?_
  rintro p _ hp _ L hL
  by_cases hlt : p < N
  ·have hlt' : ((p : Nat) : Int) < c.sh := by omega
   have h := hL hlt () trivial
   clear hL
   have hcl := B0n d.own who p
   have hoat : U3 d.own (p : Nat) = d.own.getD p 0 := A1T (by omega)
   rw [A5M] at h
   simp only [E8]
   (have zz:=trivial;repeat((first|clear zz|with_reducible first|refine A3 ?_|refine A5 fun _=>?_|refine A4 fun _=>?_);try simp(disch:=first|omega|assumption|((repeat(first|exact A1|exact uH|apply A2|apply uT));first|done|fail)|(simp;first|done|omega|fail))[hlt, hlt']))
   simp only [E1, C3, D3, D7, List.cons_append, List.nil_append]
   rw [show m.b = (m.ux d).b from rfl]
   (have zz:=trivial;repeat((first|clear zz|with_reducible first|refine A3 ?_|refine A5 fun _=>?_|refine A4 fun _=>?_);try simp(disch:=first|omega|assumption|((repeat(first|exact A1|exact uH|apply A2|apply uT));first|done|fail)|(simp;first|done|omega|fail))[hlt, hlt']))
   refine D1 F6 (fun w' hw' => Z5 w' (m.ux d).bc (m.ux d).cn (m.ux d).cv (m.ux d).ov (m.ux d).own (p : Nat) (hw'.pt (b := (m.ux d).bc) (by (repeat constructor))) (P4.own (e := 3) (k := 1) (by (repeat constructor)) w' hw')) ?_
   rw [show (m.ux d).own = d.own from rfl, hoat]
   obtain ⟨z, hz⟩ : ∃ z, z = d.own.getD p 0 := ⟨_, rfl⟩
   rw [← hz] at h ⊢
   by_cases hq : z = who
   ·rw [if_pos hq, show ((l8 d.own who p + 1 : Nat) : Int) = (l8 d.own who p : Nat) + 1 from rfl] at h
    (have zz:=trivial;repeat((first|clear zz|with_reducible first|refine A3 ?_|refine A5 fun _=>?_|refine A4 fun _=>?_);try simp(disch:=first|omega|assumption|((repeat(first|exact A1|exact uH|apply A2|apply uT));first|done|fail)|(simp;first|done|omega|fail))[hq]))
    exact h
   ·rw [if_neg hq] at h
    (have zz:=trivial;repeat((first|clear zz|with_reducible first|refine A3 ?_|refine A5 fun _=>?_|refine A4 fun _=>?_);try simp(disch:=first|omega|assumption|((repeat(first|exact A1|exact uH|apply A2|apply uT));first|done|fail)|(simp;first|done|omega|fail))[hq]))
    exact h
  obtain rfl : N = p := by omega
  clear hL hlt
  have hshN : ¬ ((N : Nat) : Int) < c.sh := by omega
  simp only [E8]
  (have zz:=trivial;repeat((first|clear zz|with_reducible first|refine A3 ?_|refine A5 fun _=>?_|refine A4 fun _=>?_);try simp(disch:=first|omega|assumption|((repeat(first|exact A1|exact uH|apply A2|apply uT));first|done|fail)|(simp;first|done|omega|fail))[hshN]))
  cases l with
  | exp j tv =>
   have h32 : (3 : Int) = 2 := hk.1
   omega
  | sta j =>
  have hm := B4Q hwho hNi hb
  have hz : j.st = ((min q i : Nat) : Int) := hb.2
  have hr := (A5n hNi hb).1
  rw [show (m.ux d).ws.own = d.own from rfl] at hm
  rw [hm]
  obtain ⟨l, hl⟩ : ∃ l, l = LJ.sta j := ⟨_, rfl⟩
  have hz' : l.v.b.st = ((min q i : Nat) : Int) := by rw [hl]; exact hz
  have hr' : (M2 m (l, P, d)).1.ready (M2 m (l, P, d)).2 = decide (q < i) := by rw [hl]; exact hr
  rw [← hl] at hc hb ⊢
  have emin := B4b q i
  have hmb : min q i ≤ 60 := by omega
  generalize min q i = mn at *
  (have zz:=trivial;repeat((first|clear zz|with_reducible first|refine A3 ?_|refine A5 fun _=>?_|refine A4 fun _=>?_);try simp(disch:=first|omega|assumption|((repeat(first|exact A1|exact uH|apply A2|apply uT));first|done|fail)|(simp;first|done|omega|fail))[emin, hshN]))
  refine D1 E3 (fun w' hw' => b8 w' jb b m (l, P, d) hw' (by unfold E1; (repeat constructor)) (by unfold E1; (repeat constructor))) ?_
  rw [hz']
  (have zz:=trivial;repeat((first|clear zz|with_reducible first|refine A3 ?_|refine A5 fun _=>?_|refine A4 fun _=>?_);try simp(disch:=first|omega|assumption|((repeat(first|exact A1|exact uH|apply A2|apply uT));first|done|fail)|(simp;first|done|omega|fail))[emin, hshN]))
  refine D1 E5 (fun w' hw' => A3b (Hk := []) w w' jb b m (l, P, d) (G6 _ i) hc (A0Z hb) (by rw [List.append_nil]; exact hw'.sub (List.Sublist.cons _ (List.Sublist.cons _ (List.Sublist.refl _))))) ?_
  rw [hr']
  by_cases hqi : q < i
  ·have hqi' : ((q : Nat) : Int) < (i : Nat) := by omega
   (have zz:=trivial;repeat((first|clear zz|with_reducible first|refine A3 ?_|refine A5 fun _=>?_|refine A4 fun _=>?_);try simp(disch:=first|omega|assumption|((repeat(first|exact A1|exact uH|apply A2|apply uT));first|done|fail)|(simp;first|done|omega|fail))[hqi, hqi', B2n]))
   simp only [E1, C3, D3, D7, List.cons_append, List.nil_append]
   rw [show m.b = (m.ux d).b from rfl]
   (have zz:=trivial;repeat((first|clear zz|with_reducible first|refine A3 ?_|refine A5 fun _=>?_|refine A4 fun _=>?_);try simp(disch:=first|omega|assumption|((repeat(first|exact A1|exact uH|apply A2|apply uT));first|done|fail)|(simp;first|done|omega|fail))[]))
   refine B4 (Hc := B3 (m.ux d).bc (m.ux d).cn (m.ux d).cv (m.ux d).ov (m.ux d).cells (m.ux d).own) F2 (fun w' _ hs => W1 w' (m.ux d).bc (m.ux d).cn (m.ux d).cv (m.ux d).ov (m.ux d).cells (m.ux d).own (i : Nat) 99 (by show d.own.length ≤ 1024; omega) hs) (by unfold B3; (repeat' constructor)) ?_
   rintro n2 v ⟨r, rfl⟩
   obtain ⟨d2, hd2⟩ : ∃ d2 : WoX, d2 = { d with cn := n2, own := H7 d.own (i : Nat) 99 } := ⟨_, rfl⟩
   have hc2 : LkC N m (l, P, d2) := by rw [hd2]; exact hc.with n2 _
   have hl2 : U8 N who (E2 N) (M2 m (l, P, d2)) := by rw [hd2]; exact A60 hwho hNi hb
   refine Sels.tw (rs := .pt bc (.cells (E8 c) 23) :: .pt bo (.cells #[.int .i64 3, .string pk, .slice pa pn pc, .int .i64 shard] 64) :: E1 jb b m (l, P, d2)) (by subst hd2; simp only [E1, B3, C3, D3, D7, WoH.ux, E8, List.cons_append, List.nil_append]; (repeat' constructor)) ?_
   clear hd2 hc hb
   rw [show (m.ux d).b = m.b from rfl]
   (have zz:=trivial;repeat((first|clear zz|with_reducible first|refine A3 ?_|refine A5 fun _=>?_|refine A4 fun _=>?_);try simp(disch:=first|omega|assumption|((repeat(first|exact A1|exact uH|apply A2|apply uT));first|done|fail)|(simp;first|done|omega|fail))[]))
   refine B4 (Hc := E1 jb b m (l, P, d2)) (Hk := [.pt bc (.cells (E8 c) 23), .pt bo (.cells #[.int .i64 3, .string pk, .slice pa pn pc, .int .i64 shard] 64)]) M8 (fun w' hw' hs => A5W w' jb b m (l, P, d2) hwho.1 hc2 hl2 hs) (l6 _ _ _) ?_
   rintro y v ⟨⟨x1, x2, x3, rfl⟩, hcy, hst, hoy, hty⟩
   refine TW.perm ?_ List.perm_append_comm
   simp only [List.cons_append, List.nil_append]
   (have zz:=trivial;repeat((first|clear zz|with_reducible first|refine A3 ?_|refine A5 fun _=>?_|refine A4 fun _=>?_);try simp(disch:=first|omega|assumption|((repeat(first|exact A1|exact uH|apply A2|apply uT));first|done|fail)|(simp;first|done|omega|fail))[]))
   refine Z6 (α := Unit) N (fun _ _ => .bool false) (fun _ _ => .pt bc (.cells (E8 c) 23) :: .pt bo (.cells #[.int .i64 3, .string pk, .slice pa pn pc, .int .i64 shard] 64) :: E1 jb b m y) (fun _ _ => True) () trivial ?_
   rintro p _ hp _ L hL
   by_cases hlt : p < N
   ·have hlt' : ((p : Nat) : Int) < c.sh := by omega
    have h := hL hlt () trivial
    clear hL
    have hoat : U3 y.2.2.own (p : Nat) = -1 := by rw [hoy]; exact A1L (fun j hj => H9 (by simpa [E2] using hj)) _
    simp only [E8]
    (have zz:=trivial;repeat((first|clear zz|with_reducible first|refine A3 ?_|refine A5 fun _=>?_|refine A4 fun _=>?_);try simp(disch:=first|omega|assumption|((repeat(first|exact A1|exact uH|apply A2|apply uT));first|done|fail)|(simp;first|done|omega|fail))[hlt, hlt']))
    simp only [E1, C3, D3, D7, List.cons_append, List.nil_append]
    rw [show m.b = (m.ux y.2.2).b from rfl]
    (have zz:=trivial;repeat((first|clear zz|with_reducible first|refine A3 ?_|refine A5 fun _=>?_|refine A4 fun _=>?_);try simp(disch:=first|omega|assumption|((repeat(first|exact A1|exact uH|apply A2|apply uT));first|done|fail)|(simp;first|done|omega|fail))[hlt, hlt']))
    refine D1 F6 (fun w' hw' => Z5 w' (m.ux y.2.2).bc (m.ux y.2.2).cn (m.ux y.2.2).cv (m.ux y.2.2).ov (m.ux y.2.2).own (p : Nat) (hw'.pt (b := (m.ux y.2.2).bc) (by (repeat constructor))) (P4.own (e := 3) (k := 1) (by (repeat constructor)) w' hw')) ?_
    rw [show (m.ux y.2.2).own = y.2.2.own from rfl, hoat]
    (have zz:=trivial;repeat((first|clear zz|with_reducible first|refine A3 ?_|refine A5 fun _=>?_|refine A4 fun _=>?_);try simp(disch:=first|omega|assumption|((repeat(first|exact A1|exact uH|apply A2|apply uT));first|done|fail)|(simp;first|done|omega|fail))[]))
    exact h
   obtain rfl : N = p := by omega
   clear hL hlt
   simp only [E8]
   (have zz:=trivial;repeat((first|clear zz|with_reducible first|refine A3 ?_|refine A5 fun _=>?_|refine A4 fun _=>?_);try simp(disch:=first|omega|assumption|((repeat(first|exact A1|exact uH|apply A2|apply uT));first|done|fail)|(simp;first|done|omega|fail))[hshN]))
   refine D1 E3 (fun w' hw' => b8 w' jb b m y hw' (by unfold E1; (repeat constructor)) (by unfold E1; (repeat constructor))) ?_
   rw [hst]
   (have zz:=trivial;repeat((first|clear zz|with_reducible first|refine A3 ?_|refine A5 fun _=>?_|refine A4 fun _=>?_);try simp(disch:=first|omega|assumption|((repeat(first|exact A1|exact uH|apply A2|apply uT));first|done|fail)|(simp;first|done|omega|fail))[]))
   exact B9 rfl
  ·have hqi' : ¬ ((q : Nat) : Int) < (i : Nat) := by omega
   (have zz:=trivial;repeat((first|clear zz|with_reducible first|refine A3 ?_|refine A5 fun _=>?_|refine A4 fun _=>?_);try simp(disch:=first|omega|assumption|((repeat(first|exact A1|exact uH|apply A2|apply uT));first|done|fail)|(simp;first|done|omega|fail))[hqi, hqi', B2n]))
   simp only [E1, C3, D3, D7, List.cons_append, List.nil_append]
   rw [show m.b = (m.ux d).b from rfl]
   (have zz:=trivial;repeat((first|clear zz|with_reducible first|refine A3 ?_|refine A5 fun _=>?_|refine A4 fun _=>?_);try simp(disch:=first|omega|assumption|((repeat(first|exact A1|exact uH|apply A2|apply uT));first|done|fail)|(simp;first|done|omega|fail))[]))
   refine B4 (Hc := B3 (m.ux d).bc (m.ux d).cn (m.ux d).cv (m.ux d).ov (m.ux d).cells (m.ux d).own) F2 (fun w' _ hs => W1 w' (m.ux d).bc (m.ux d).cn (m.ux d).cv (m.ux d).ov (m.ux d).cells (m.ux d).own (i : Nat) 99 (by show d.own.length ≤ 1024; omega) hs) (by unfold B3; (repeat' constructor)) ?_
   rintro n2 v ⟨r, rfl⟩
   obtain ⟨d2, hd2⟩ : ∃ d2 : WoX, d2 = { d with cn := n2, own := H7 d.own (i : Nat) 99 } := ⟨_, rfl⟩
   have hc2 : LkC N m (l, P, d2) := by rw [hd2]; exact hc.with n2 _
   have hl2 : U8 N who (E2 N) (M2 m (l, P, d2)) := by rw [hd2]; exact A60 hwho hNi hb
   refine Sels.tw (rs := .pt bc (.cells (E8 c) 23) :: .pt bo (.cells #[.int .i64 3, .string pk, .slice pa pn pc, .int .i64 shard] 64) :: E1 jb b m (l, P, d2)) (by subst hd2; simp only [E1, B3, C3, D3, D7, WoH.ux, E8, List.cons_append, List.nil_append]; (repeat' constructor)) ?_
   clear hd2 hc hb
   rw [show (m.ux d).b = m.b from rfl]
   (have zz:=trivial;repeat((first|clear zz|with_reducible first|refine A3 ?_|refine A5 fun _=>?_|refine A4 fun _=>?_);try simp(disch:=first|omega|assumption|((repeat(first|exact A1|exact uH|apply A2|apply uT));first|done|fail)|(simp;first|done|omega|fail))[]))
   refine B4 (Hc := E1 jb b m (l, P, d2)) (Hk := [.pt bc (.cells (E8 c) 23), .pt bo (.cells #[.int .i64 3, .string pk, .slice pa pn pc, .int .i64 shard] 64)]) M8 (fun w' hw' hs => A5W w' jb b m (l, P, d2) hwho.1 hc2 hl2 hs) (l6 _ _ _) ?_
   rintro y v ⟨⟨x1, x2, x3, rfl⟩, hcy, hst, hoy, hty⟩
   refine TW.perm ?_ List.perm_append_comm
   simp only [List.cons_append, List.nil_append]
   (have zz:=trivial;repeat((first|clear zz|with_reducible first|refine A3 ?_|refine A5 fun _=>?_|refine A4 fun _=>?_);try simp(disch:=first|omega|assumption|((repeat(first|exact A1|exact uH|apply A2|apply uT));first|done|fail)|(simp;first|done|omega|fail))[]))
   refine Z6 (α := Unit) N (fun _ _ => .bool false) (fun _ _ => .pt bc (.cells (E8 c) 23) :: .pt bo (.cells #[.int .i64 3, .string pk, .slice pa pn pc, .int .i64 shard] 64) :: E1 jb b m y) (fun _ _ => True) () trivial ?_
   rintro p _ hp _ L hL
   by_cases hlt : p < N
   ·have hlt' : ((p : Nat) : Int) < c.sh := by omega
    have h := hL hlt () trivial
    clear hL
    have hoat : U3 y.2.2.own (p : Nat) = -1 := by rw [hoy]; exact A1L (fun j hj => H9 (by simpa [E2] using hj)) _
    simp only [E8]
    (have zz:=trivial;repeat((first|clear zz|with_reducible first|refine A3 ?_|refine A5 fun _=>?_|refine A4 fun _=>?_);try simp(disch:=first|omega|assumption|((repeat(first|exact A1|exact uH|apply A2|apply uT));first|done|fail)|(simp;first|done|omega|fail))[hlt, hlt']))
    simp only [E1, C3, D3, D7, List.cons_append, List.nil_append]
    rw [show m.b = (m.ux y.2.2).b from rfl]
    (have zz:=trivial;repeat((first|clear zz|with_reducible first|refine A3 ?_|refine A5 fun _=>?_|refine A4 fun _=>?_);try simp(disch:=first|omega|assumption|((repeat(first|exact A1|exact uH|apply A2|apply uT));first|done|fail)|(simp;first|done|omega|fail))[hlt, hlt']))
    refine D1 F6 (fun w' hw' => Z5 w' (m.ux y.2.2).bc (m.ux y.2.2).cn (m.ux y.2.2).cv (m.ux y.2.2).ov (m.ux y.2.2).own (p : Nat) (hw'.pt (b := (m.ux y.2.2).bc) (by (repeat constructor))) (P4.own (e := 3) (k := 1) (by (repeat constructor)) w' hw')) ?_
    rw [show (m.ux y.2.2).own = y.2.2.own from rfl, hoat]
    (have zz:=trivial;repeat((first|clear zz|with_reducible first|refine A3 ?_|refine A5 fun _=>?_|refine A4 fun _=>?_);try simp(disch:=first|omega|assumption|((repeat(first|exact A1|exact uH|apply A2|apply uT));first|done|fail)|(simp;first|done|omega|fail))[]))
    exact h
   obtain rfl : N = p := by omega
   clear hL hlt
   simp only [E8]
   (have zz:=trivial;repeat((first|clear zz|with_reducible first|refine A3 ?_|refine A5 fun _=>?_|refine A4 fun _=>?_);try simp(disch:=first|omega|assumption|((repeat(first|exact A1|exact uH|apply A2|apply uT));first|done|fail)|(simp;first|done|omega|fail))[hshN]))
   refine D1 E3 (fun w' hw' => b8 w' jb b m y hw' (by unfold E1; (repeat constructor)) (by unfold E1; (repeat constructor))) ?_
   rw [hst]
   (have zz:=trivial;repeat((first|clear zz|with_reducible first|refine A3 ?_|refine A5 fun _=>?_|refine A4 fun _=>?_);try simp(disch:=first|omega|assumption|((repeat(first|exact A1|exact uH|apply A2|apply uT));first|done|fail)|(simp;first|done|omega|fail))[]))
   exact B9 rfl
end Go.Proofs.YtjobgnabneddjaaGreat
namespace Go.Proofs.YtjobgnabneddjaaGreat
open Go
theorem A8s (w : World) (c : CfgV) (who : Int) (o : OpV × Value) (i n : Int) (ho : G3 w o.2 o.1.pool.length (o.1.pool.flatMap G8)) :
  Fn PR B8 5 #[c.val, .int .i64 who, .agg (B13 o).toArray, .int .i64 i, .int .i64 n] w (fun v w' => v = .bool true ∧ D0 [] w w') := by
 obtain ⟨pa, pc, e, _⟩ := ho.form
 simp only [B13, e]
 exact A6n w c who o.1.kind o.1.shard o.1.packet pa o.1.pool.length pc i n
end Go.Proofs.YtjobgnabneddjaaGreat
