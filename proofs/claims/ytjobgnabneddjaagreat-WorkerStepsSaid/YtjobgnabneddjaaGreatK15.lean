/- The proof of a given statement, a part of it. No condition but what each lemma says. -/
import Derived.Sort.Grow
import Derived.Deep.Draws
import Derived.Test.YtjobgnabneddjaaGreatK14
set_option maxHeartbeats 4000000
set_option linter.unusedVariables false
set_option linter.unusedSimpArgs false
namespace Go.Proofs.YtjobgnabneddjaaGreat
open Go
theorem B8f (w:World) (a:Int):Fn PR B8 252 #[.int .i64 a] w (fun v w' => v = .bool false ∧ w' = w):=by
 refine B5W ?_
 unfold A7B
 simp
theorem B8k (w:World) (a:Int):Fn PR B8 251 #[.int .u64 a] w (fun v w' => v = .bool false ∧ w' = w):=by
 refine B2e ?_
 unfold A35
 simp
def A0a (a b:Int):Int:=if a < b then -1 else if b < a then 1 else 0
theorem C7x (w:World) (a b:Int):Fn PR B8 218 #[.int .i64 a,.int .i64 b] w (fun v w' => v = .int .i64 (A0a a b) ∧ w' = w):=by
 refine B3V ?_
 unfold A42
 refine A8e ((B8f w a).use ?_)
 rintro _ _ ⟨rfl,rfl⟩ _
 refine A8e ((B8f _ b).use ?_)
 rintro _ _ ⟨rfl,rfl⟩ _
 by_cases c1:a < b
 ·simp [c1,A0a]
 by_cases c2:b < a
 ·simp [c1,c2,A0a]
 ·simp [c1,c2,A0a]
theorem C91 (w:World) (a b:Int):Fn PR B8 217 #[.int .u64 a,.int .u64 b] w (fun v w' => v = .int .i64 (A0a a b) ∧ w' = w):=by
 refine B0P ?_
 unfold A2y
 refine A40 ((B8k w a).use ?_)
 rintro _ _ ⟨rfl,rfl⟩ _
 refine A40 ((B8k _ b).use ?_)
 rintro _ _ ⟨rfl,rfl⟩ _
 by_cases c1:a < b
 ·simp [c1,A0a]
 by_cases c2:b < a
 ·simp [c1,c2,A0a]
 ·simp [c1,c2,A0a]
def A4Y (x y:Nat × Int):Int:=if A0a x.1 y.1 ≠ 0 then A0a x.1 y.1 else A0a x.2 y.2
theorem C5l (K:WP) (w:World):drw K w = K w.drew:=rfl
def Gr (w w':World):Prop := ∃ q os,w' = Sort.grow (w.drewN q) os
theorem Gr.refl (w:World):Gr w w:=⟨0,#[],by simp [Sort.grow]; rfl⟩
theorem Gr.alloc {w w':World} (h:Gr w w') (o:Obj):Gr w (w'.alloc o):=by
 obtain ⟨q,os,rfl⟩:=h
 exact ⟨q,os ++ #[o],by rw [Sort.alloc_eq_grow,Sort.grow_grow]⟩
theorem Gr.drew {w w':World} (h:Gr w w'):Gr w w'.drew:=by
 obtain ⟨q,os,rfl⟩:=h
 exact ⟨q + 1,os,rfl⟩
theorem D5z (w:World) (a b:Int) (g:Nat) (h:P3 w g 0 [.int .i64 a,.int .i64 b]):Fn PR B8 216 #[.slice (some ⟨g,0,none⟩) 2 2] w (fun v w' => v = .int .i64 (if a ≠ 0 then a else b) ∧ w' = w):=by
 refine B9g ?_
 unfold B2C
 simp
 refine D8s 2 (fun _ i w' => w' = w ∧ (0 < i → a = 0) ∧ (1 < i → b = 0)) ⟨rfl,by omega,by omega⟩ ?_
 rintro x i w1 hi ⟨hw1,h0,h1⟩ L hL
 rw [hw1]
 have ha:w.cell? ⟨g,0,none⟩ = some (.int .i64 a):=by have:=h.get (i:=0) (v:=.int .i64 a) rfl; simpa using this
 have hb:w.cell? ⟨g,1,none⟩ = some (.int .i64 b):=by have:=h.get (i:=1) (v:=.int .i64 b) rfl; simpa using this
 have hi':i = 0 ∨ i = 1 ∨ i = 2:=by omega
 rcases hi' with rfl | rfl | rfl
 ·by_cases c:a = 0
  ·simp [ha,c]
   exact hL (by omega) _ _ ⟨rfl,fun _=> c,by omega⟩
  ·simp [ha,c]
 ·have ha0:=h0 (by omega)
  by_cases c:b = 0
  ·simp [hb,c]
   exact hL (by omega) _ _ ⟨rfl,fun _=> ha0,fun _=> c⟩
  ·simp [hb,c,ha0]
 ·simp [h0 (by omega),h1 (by omega)]
theorem C8J (w:World) (x y:Nat × Int):Fn PR B8 162 #[.agg #[.int .u64 (x.1:Nat),.int .i64 x.2],.agg #[.int .u64 (y.1:Nat),.int .i64 y.2]] w (fun v w' => v = .int .i64 (A4Y x y) ∧ Gr w w'):=by
 refine A93 ?_
 unfold A2w
 obtain ⟨w2,hw2⟩:∃ w2,w2 = ((w.alloc (.cells #[.int .u64 (x.1:Nat),.int .i64 x.2] 284)).alloc (.cells #[.int .u64 (y.1:Nat),.int .i64 y.2] 284)).drew:=⟨_,rfl⟩
 have hA:bl w2 (sz w) = some (.cells #[.int .u64 (x.1:Nat),.int .i64 x.2] 284):=by
  subst hw2; show bl ((w.alloc _).alloc _) (sz w) = _; rw [A63 (by simp),l5]
 have hB:bl w2 (sz w + 1) = some (.cells #[.int .u64 (y.1:Nat),.int .i64 y.2] 284):=by
  subst hw2; show bl ((w.alloc _).alloc _) (sz w + 1) = _; rw [← C06 w,l5]
 have a0:w2.cell? ⟨sz w,0,none⟩ = some (.int .u64 (x.1:Nat)):=by rw [E8 hA]; rfl
 have a1:w2.cell? ⟨sz w,1,none⟩ = some (.int .i64 x.2):=by rw [E8 hA]; rfl
 have b0:w2.cell? ⟨sz w + 1,0,none⟩ = some (.int .u64 (y.1:Nat)):=by rw [E8 hB]; rfl
 have b1:w2.cell? ⟨sz w + 1,1,none⟩ = some (.int .i64 y.2):=by rw [E8 hB]; rfl
 have hg:Gr w w2:=by subst hw2; exact (((Gr.refl w).alloc _).alloc _).drew
 rw [C4H,C4H,C5l,C06]
 simp only [Value.cells]
 rw [← hw2]
 clear hw2 hA hB
 have r1:(Instr.loadAt 3 (.pointer (some ⟨sz w + 1,0 + 1,none⟩))).run PR w2 = .ok (.int .i64 y.2) w2:=x6 H4 rfl b1
 have r2:(Instr.loadAt 3 (.pointer (some ⟨sz w,0 + 1,none⟩))).run PR w2 = .ok (.int .i64 x.2) w2:=x6 H4 rfl a1
 simp [a0,a1,b0,b1]
 refine B02 ((C91 w2 _ _).use ?_)
 rintro _ w3 ⟨rfl,hw3⟩ _
 rw [hw3,B6n,B6n,C7C]
 refine ⟨r1,r2,?_⟩
 refine B4r ((C7x w2 _ _).use ?_)
 rintro _ w4 ⟨rfl,hw4⟩ _
 rw [hw4,B27 A6x H4 (cs:=#[.int .i64 (A0a x.1 y.1),.int .i64 (A0a x.2 y.2)]) (by decide) (by decide) (by kernel_rfl)]
 have hrow:P3 (w2.alloc (.cells #[.int .i64 (A0a x.1 y.1),.int .i64 (A0a x.2 y.2)] 3)) (sz w2) 0 [.int .i64 (A0a x.1 y.1),.int .i64 (A0a x.2 y.2)]:=fun i hi=> by
  rw [E8 (l5 _ _)]; simp
 refine C0m ((D5z _ _ _ _ hrow).use ?_)
 rintro _ w5 ⟨rfl,hw5⟩ _
 exact ⟨by simp [A4Y],by rw [hw5]; exact hg.alloc _⟩
end Go.Proofs.YtjobgnabneddjaaGreat
namespace Go.Proofs.YtjobgnabneddjaaGreat
open Go Go.Sort Go.Lib
theorem D0p (x y:Nat × Int):A4Y x y < 0 ↔ x.1 < y.1 ∨ (x.1 = y.1 ∧ x.2 < y.2):=by
 unfold A4Y A0a
 by_cases h1:(x.1:Int) < y.1
 ·simp [h1]; omega
 by_cases h2:(y.1:Int) < x.1
 ·simp [h1,h2]; omega
 ·have:x.1 = y.1:=by omega
  by_cases h3:x.2 < y.2
  ·simp [h1,h2,h3]; omega
  by_cases h4:y.2 < x.2
  ·simp [h1,h2,h3,h4]; omega
  ·simp [h1,h2,h3,h4]; omega
theorem C3T (x y:Nat × Int):ltOf A4Y x y = true ↔ x.1 < y.1 ∨ (x.1 = y.1 ∧ x.2 < y.2):=by rw [ltOf,decide_eq_true_eq,D0p]
theorem B4m (x y:Nat × Int):ltOf A4Y x y = false ↔ ¬ (x.1 < y.1 ∨ (x.1 = y.1 ∧ x.2 < y.2)):=by rw [← C3T,Bool.not_eq_true]
theorem D86:Sort.SWO (ltOf A4Y):=by
 refine ⟨fun x=> ?_,fun x y z h1 h2=> ?_,fun x y z h1 h2=> ?_⟩
 ·rw [B4m]; omega
 ·rw [C3T] at *; omega
 ·rw [B4m] at *; omega
theorem D89 (x y:Nat × Int) (h1:ltOf A4Y x y = false) (h2:ltOf A4Y y x = false):x = y:=by
 rw [B4m] at *
 have e1:x.1 = y.1:=by omega
 have e2:x.2 = y.2:=by omega
 exact Prod.ext e1 e2
theorem D3L:(fun x y=> !(ltOf A4Y) y x) = U3:=by
 funext x y
 rw [Bool.eq_iff_iff,Bool.not_eq_true',B4m,U3,decide_eq_true_eq]; omega
theorem C1B (l:List (Nat × Int)):flatK F7 2 l.toArray = (l.flatMap F7).toArray:=by
 apply Array.toList_inj.1
 apply List.ext_getElem
 ·rw [Array.length_toList,size_flatK,List.toList_toArray,T2 j7]; simp
 ·intro i h1 h2
  have hi:i < l.length * 2:=by simpa using h1
  have hf:=l0 (f:=F7) (k:=2) j7 l (i / 2) (i % 2) (by omega)
  rw [show i / 2 * 2 + i % 2 = i by omega] at hf
  have h2':i < (l.flatMap F7).length:=by simpa using h2
  rw [List.getElem?_eq_getElem h2',List.getElem?_eq_getElem (show i / 2 < l.length by omega)] at hf
  have hg:=get_flatK F7 2 l.toArray i (by simpa using hi)
  rw [getElem!_pos _ _ (by simpa using hi)] at hg
  simp only [Array.getElem_toList,List.getElem_toArray]
  rw [hg]
  simp only [Option.bind_some] at hf
  rw [getElem!_pos l.toArray (i / 2) (by simp; omega)]
  simp only [List.getElem_toArray]
  have h3:i % 2 < (F7 l[i / 2]).length:=by rw [j7]; omega
  rw [List.getElem?_eq_getElem h3] at hf
  rw [getElem!_pos (F7 l[i / 2]) (i % 2) h3]
  exact (Option.some.inj hf).symm
theorem C7L {w:World} {g:Nat} {cur:Array Value} {T:TypeId} {F:Array Value} (h:bl w g = some (.cells cur T (0,0))):bl (Sort.putRow id w g 0 F) g = some (.cells (Sort.putCells id 0 F cur) T (0,0)):=by
 have h':w.heap[g]? = some (.cells cur T (0,0)):=h
 simp only [bl,Sort.putRow,Sort.mapBlock,Array.getElem?_modify,if_true,h',Option.map_some]; rfl
theorem A65 {w:World} {g r:Nat} {F:Array Value} (h:r ≠ g):bl (Sort.putRow id w g 0 F) r = bl w r:=by
 simp [bl,Sort.putRow,Sort.mapBlock,Array.getElem?_modify,Ne.symm h]
theorem B9D {F cur:Array Value} (h:F.size ≤ cur.size):(Sort.putCells id 0 F cur).toList.take F.size = F.toList:=by
 apply List.ext_getElem (by simp [Sort.putCells]; omega)
 intro i h1 h2
 have hi:i < F.size:=by simpa using h2
 simp [Sort.putCells,hi]
theorem B4Y {w:World} {os:Array Obj} {r:Nat} {o:Obj} (h:bl w r = some o):bl (Sort.grow w os) r = some o:=by
 have hr:r < w.heap.size:=M2 h
 simp only [bl,Sort.grow,Array.getElem?_append_left hr]; exact h
theorem C2l (w:World) (v:Value) (l:List (Nat × Int)) (hn:l.length ≤ 1000000) (hw:LW false (C3 [B1Q v l]) w [B1Q v l] w) :
  Fn PR B8 213 #[v,.func (.func 162) #[] #[]] w (Rn (C3 [B1Q v l]) w (fun (_:Unit) u=> u = .tuple #[]) fun _=> [B1Q v (L9 l)]):=by
 have ho:U4 w 284 2 v l.length (l.flatMap F7):=hw.hold _ A1
 rcases ho.2 with ⟨rfl,hl0⟩ | ⟨g,cap,cur,rfl,hb,hc,hcs,htk⟩
 ·have hl:l = []:=List.length_eq_zero_iff.1 hl0
  subst hl
  refine Calls.mono (AnyF.slices_SortFunc_none Tryz.sortPlace none 0 (.func (.func 162) #[] #[]) w) ?_
  rintro e w' ⟨he,rfl⟩
  exact ⟨_,he,⟨(),rfl,by simpa [L9] using hw⟩,Sk.refl _ _⟩
 ·have hg:g < w.heap.size:=M2 hb
  have hH:HoldsK F7 2 w g 0 l.toArray:=by
   intro j hj
   rw [C1B] at hj ⊢
   have hj':j < (l.flatMap F7).length:=by simpa using hj
   constructor
   ·rw [E8 hb,Nat.zero_add]
    rw [getElem!_pos _ _ (by simpa using hj')]
    have:cur.toList[j]? = (l.flatMap F7)[j]? := by
     rw [← htk,List.getElem?_take_of_lt (by rw [T2 j7] at hj'; exact hj')]
    rw [Array.getElem?_toList] at this
    rw [this,List.getElem?_eq_getElem hj']; rfl
   ·have hb':w.heap[g]? = some (.cells cur 284 (0,0)):=hb
    simp [World.frozen?,hb']
  have hcmp:CmpLays PR 162 #[] F7 2 A4Y g 0 l.toArray.size w:=by
   intro m os dk _ x y
   refine Calls.mono (C8J (sortWorldK F7 2 w g 0 m dk os) x y) ?_
   rintro e w' ⟨v,he,⟨hv,hgr⟩,_⟩
   exact ⟨by rw [he,hv],hgr⟩
  have main:=AnyQ.slices_SortFunc_total Tryz.sortPlace 2 (fun w=> by kernel_rfl) (fun w=> B06.run_size) F7 j7
   (by intro x u hu; simp only [F7,List.mem_cons,List.not_mem_nil,or_false] at hu; rcases hu with rfl | rfl <;> rfl) A4Y D86 162 #[] g 0 cap l.toArray w
   A9S hcmp hH hg (by simp; omega) D89
  refine Calls.mono main ?_
  rintro e w' ⟨he,n,os,rfl⟩
  have e1:sortWorldK F7 2 w g 0 n (l.toArray.toList.mergeSort fun x y=> !(ltOf A4Y) y x).toArray os = Sort.grow (Sort.putRow id (Sort.ahead w n) g 0 ((L9 l).flatMap F7).toArray) os:=by
   unfold sortWorldK putRowK; rw [← C1B,D3L]; rfl
  rw [e1]
  have hsz:((L9 l).flatMap F7).length = l.length * 2:=by rw [T2 j7,j1]
  have hb2:bl (Sort.ahead w n) g = some (.cells cur 284 (0,0)):=hb
  have hbl:=B4Y (os:=os) (C7L (F:=((L9 l).flatMap F7).toArray) hb2)
  have hks:KS false [g] w (Sort.grow (Sort.putRow id (Sort.ahead w n) g 0 ((L9 l).flatMap F7).toArray) os):=by
   refine ⟨by simp [sz,Sort.grow,Sort.size_putRow],fun r o hr _ e=> ?_,fun h=> by cases h⟩
   exact B4Y (by rw [A65 (by simpa using hr)]; exact e)
  refine ⟨_,he,⟨(),rfl,⟨hks.mono (by simp [C3,Res.foot,N5]),?_,?_,by simp⟩⟩,?_⟩
  ·simp only [List.mem_singleton,forall_eq,Res.holds]
   refine ⟨by rw [hsz,j1],Or.inr ⟨g,cap,_,by rw [j1],hbl,by rw [j1]; exact hc,by simp [Sort.putCells,hcs],?_⟩⟩
   rw [j1]
   have:=B9D (F:=((L9 l).flatMap F7).toArray) (cur:=cur) (by simp only [List.size_toArray,hsz]; rw [← hcs]; omega)
   simpa [hsz] using this
  ·simp only [List.mem_singleton,forall_eq,Res.foot,N5]
   exact ⟨Or.inl (by simp [C3,Res.foot,N5]),M2 hbl⟩
  ·refine ⟨by simp [Sort.grow,Sort.size_putRow],fun r d e=> ?_,fun r lo _ e=> ?_,rfl,rfl⟩
   ·exact B4Y (by rw [A65 (by rintro rfl; have h2:some (Obj.deferred d) = some (Obj.cells cur 284 (0,0)):=e.symm.trans hb; cases h2)]; exact e)
   ·exact B4Y (by rw [A65 (by rintro rfl; have h2:some (Obj.loop lo) = some (Obj.cells cur 284 (0,0)):=e.symm.trans hb; cases h2)]; exact e)
theorem B9k (w:World) (b:Nat) (v:Value) (p:List F8) (hn:p.length ≤ 1000) (hv:F5 w v p.length (p.flatMap H5)) (hS:0 < p.length → ∀ g ∈ N5 v,g ∉ [b])
  (hw:LW false [b] w [.pt b (.cells #[v] 58)] w) :
  Fn PR B8 160 #[B6q b,.func (.func 162) #[] #[]] w (Rn [b] w (fun r u=> u = r) fun r=> [B1Q r (L9 (G9 p))]):=by
 refine A2S (TW.goH (κ:=false) (S := [b]) ?_ hw)
 unfold j5
 have hll:=B4g p
 refine C8 (Hc := [.pt b (.cells #[v] 58)]) A3D (fun w' hw' hs=> C4Z w' b v p hn (hv.ks0 (fun h=> by rw [List.length_eq_zero_iff.1 h]; rfl) hw'.ks hS) hS hs) (by (repeat' constructor)) ?_
 rintro _ r rfl
 refine C8 (Hc := [B1Q r (G9 p)]) n9 (fun w' hw' hs=> C2l w' r (G9 p) (by omega) hs) (by (repeat' constructor)) ?_
 rintro _ _ rfl
 exact B1 r rfl (by (repeat' constructor))
theorem D6G (w:World) (v:Value) (p:List F8) (hn:p.length ≤ 1000) (hv:F5 w v p.length (p.flatMap H5)) :
  Fn PR B8 112 #[v] w (Rn [] w (fun r u=> u = r) fun r=> [.own 290 2 r (L9 (G9 p)).length ((L9 (G9 p)).flatMap F7)]):=by
 refine C0e (TW.go (κ:=false) (S := []) ?_)
 unfold B22
 have hll:=B4g p
 refine H3 B68 (fun w' _=> C9d w' v (by obtain ⟨a,c,rfl,_⟩:=hv.form; exact ⟨a,_,c,rfl⟩)) ?_
 rintro b _ rfl
 refine C8 (Hc := [.pt b (.cells #[v] 58)]) A1p (fun w' hw' hs=> B9k w' b v p hn (hv.ks hw'.ks (by simp)) (fun h0 g hg hgb=> ?_) hs) (by (repeat' constructor)) ?_
 ·obtain ⟨a,c,rfl,hr⟩:=hv.form
  obtain ⟨b',o,rfl,hrow⟩:=hr h0
  have hlen:0 < (p.flatMap H5).length:=by rw [T2 (k:=2) fun _=> rfl]; omega
  have h1:=hrow 0 hlen
  rw [List.getElem?_eq_getElem hlen] at h1
  obtain ⟨c',t',z',h2,h3⟩:=A0k h1
  have hlt:b' < sz w:=M2 h2
  simp [N5] at hg hgb
  subst hg
  rcases (hw'.own _ A1 b (by simp [Res.foot])).1 with h | h
  ·simp at h
  ·omega
 rintro _ r rfl
 have hsl:(L9 (G9 p)).length ≤ 128000:=by rw [j1]; omega
 generalize L9 (G9 p) = q at *
 refine U8 (e:=284) (k:=2) (v:=r) (q:=q.length) (xs:=q.flatMap F7) (by (repeat constructor)) ?_
 rintro ra rc rfl
 (have z:=trivial;repeat((first|clear z|with_reducible first|apply A3|refine A4 fun _=>?_|refine A5 fun _=>?_);try simp(disch:=solve|omega|assumption|repeat(first|exact A1|exact uH|apply A2|apply uT)|(simp;try omega)|fail)[]))
 refine l7 290 2 ?_
 refine P5 (α:=Option Addr × Nat) q.length (fun i x=> .slice x.1 i x.2) (fun i x=> [.own 290 2 (.slice x.1 i x.2) i ((q.take i).flatMap F7),B1Q (.slice ra q.length rc) q]) (fun i _=> True) (none,0) trivial ?_
 rintro i ⟨xa,xc⟩ hi _ L hL
 by_cases hlt:i < q.length
 ·obtain ⟨x,hx⟩:∃ x,q[i]? = some x:=⟨_,List.getElem?_eq_getElem hlt⟩
  have hrl:=C5U (f:=F7) (k:=2) j7 hx
  have hst:(q.take (i + 1)).flatMap F7 = (q.take i).flatMap F7 ++ F7 x:=by rw [List.take_add_one,hx,List.flatMap_append]; simp
  have hL':=fun a c=> hL hlt (a,c) trivial
  simp only [hst,F7] at hL'
  rw [F7] at hrl
  have hl0:((q.take i).flatMap F7).length = i * 2:=by rw [T2 j7,List.length_take]; congr 1; omega
  refine V5 (e:=284) (k:=2) (v:=.slice ra q.length rc) (q:=q.length) (xs:=q.flatMap F7) (by (repeat constructor)) (by omega) ?_
  rintro g gc hg
  cases hg
  (have zz:=trivial;repeat((first|clear zz|with_reducible first|refine A3 ?_|refine A4 fun _=>?_|refine A5 fun _=>?_|refine D5 fun _=>?_|refine E0 (hK:=fun _=>?_)|refine D6 (hK:=fun _=>?_)|refine D4 (hK:=fun _=>?_)|refine D9 (hK:=fun _=>?_)|refine D7 (hK:=fun _=>?_));try simp(disch:=first|omega|assumption|((repeat(first|exact A1|exact uH|apply A2|apply uT));first|done|fail)|(simp;first|done|omega|fail))[hlt,hrl]))
  refine r9 (e:=290) (k:=2) (q:=i) (r:=1) (xs:=(q.take i).flatMap F7) (news := [.int .u64 (x.1:Nat),.int .i64 x.2]) (by (repeat constructor)) (M0.own (by (repeat constructor))) (by decide) (by simp) (by simp) (by simp only [maxLen]; omega) (by omega) fun a' c' => ?_
  (have z:=trivial;repeat((first|clear z|with_reducible first|apply A3|refine A4 fun _=>?_|refine A5 fun _=>?_);try simp(disch:=solve|omega|assumption|repeat(first|exact A1|exact uH|apply A2|apply uT)|(simp;try omega)|fail)[]))
  exact Sels.tw (by (repeat' constructor)) (hL' a' c')
 ·obtain rfl:i = q.length:=by omega
  rw [List.take_length]
  (have z:=trivial;repeat((first|clear z|with_reducible first|apply A3|refine A4 fun _=>?_|refine A5 fun _=>?_);try simp(disch:=solve|omega|assumption|repeat(first|exact A1|exact uH|apply A2|apply uT)|(simp;try omega)|fail)[]))
  exact B1 (.slice xa q.length xc) rfl (by (repeat' constructor))
end Go.Proofs.YtjobgnabneddjaaGreat
namespace Go.Proofs.YtjobgnabneddjaaGreat
open Go
def D2W (x:EnV) (now:Int):Bool:=decide (x.st = 1) && decide (x.dl < now)
def D0x (f n m:Nat):List Nat:=(List.range n).map fun i=> (f + i) % m
def D4y (now:Int) (s:List EnV × Nat) (j:Nat):List EnV × Nat:=if D2W (s.1.getD j noE) now then (s.1.set j d8,s.2 + 1) else s
def D17 (l:List EnV) (f n:Nat) (now:Int):List EnV × Nat:=(D0x f n l.length).foldl (D4y now) (l,0)
def C3e (l:List EnV) (f:Int):Nat:=if f < 0 ∨ (l.length:Int) ≤ f then 0 else f.toNat
def D0P (l:List EnV) (n:Int):Nat:=min n.toNat l.length
def D2l (l:List EnV) (f n now:Int):List EnV × Nat × Nat :=
 let s:=D17 l (C3e l f) (D0P l n) now
 (if 0 < s.2 then N1 s.1 else s.1,if 0 < l.length then (C3e l f + D0P l n) % l.length else C3e l f,s.2)
@[simp] theorem D6j {κ:Bool} {S:List Nat} {w0:World} {H:List Res} {K0:WP} {t:TypeId} {z:Value} [h:TS t z] {b o:Nat} {c:Array Value} {T:TypeId} {f:Nat × Nat} {v:Value} {l:List Rd} {x y:Bool} (hm:Res.pt b (.cells c T f) ∈ H) (hv:c[o]? = some v) :
  TW κ S w0 H (watch PR ((some (.bool x,y),Instr.loadAt t (.pointer (some ⟨b,o,none⟩)),v) :: l) K0) = TW κ S w0 H (watch PR l K0):=let ⟨_,_,h,hd⟩:=h.ti; A4z fun _ w hw=> x6 h hd (by rw [E8 (hw.pt hm)]; exact hv)
@[simp] theorem D3s {κ:Bool} {S:List Nat} {w0:World} {H:List Res} {K0:WP} {s:Sem Value} {v:Value} {l:List Rd}:TW κ S w0 H (watch PR ((some (.bool false,true),s,v) :: l) K0) = TW κ S w0 H (watch PR l K0):=A4z fun h=> by cases h
def V1 (key:ByteArray) (n:Int):Nat:=if n < 1 then 0 else S5 key / 4294967296 % n.toNat
theorem C9v (w:World) (key:ByteArray) (n:Int) (hk:key.size < 2 ^ 60) (hn:n < 2 ^ 63):Fn PR B8 167 #[.string key,.int .i64 n] w (fun v w' => v = .int .i64 (V1 key n:Nat) ∧ C7 [] w w'):=by
 refine Fn.pure (B7y (TW.go (κ:=false) (S := []) ?_))
 unfold A9z
 by_cases c1:n < 1
 ·(have z:=trivial;repeat((first|clear z|with_reducible first|apply A3|refine A4 fun _=>?_|refine A5 fun _=>?_);try simp(disch:=solve|omega|assumption|repeat(first|exact A1|exact uH|apply A2|apply uT)|(simp;try omega)|fail)[c1]))
  exact A9 (by simp [V1,c1])
 (have z:=trivial;repeat((first|clear z|with_reducible first|apply A3|refine A4 fun _=>?_|refine A5 fun _=>?_);try simp(disch:=solve|omega|assumption|repeat(first|exact A1|exact uH|apply A2|apply uT)|(simp;try omega)|fail)[c1]))
 refine B7 A4q (fun w' _=> A8G w' key hk) ?_
 obtain ⟨m,rfl⟩:∃ m:Nat,n = m:=⟨n.toNat,by omega⟩
 have hl:=B0Q key
 have hm:S5 key / 4294967296 % m < m:=Nat.mod_lt _ (by omega)
 have e0:((S5 key:Nat):Int).fdiv (2 ^ min 32 IntKind.u64.bits) = (S5 key / 4294967296:Nat):=by rw [show (2:Int) ^ min 32 IntKind.u64.bits = 4294967296 from rfl,Int.fdiv_eq_ediv_of_nonneg _ (by omega)]; omega
 have e1:((S5 key / 4294967296:Nat):Int).tmod m = (S5 key / 4294967296 % m:Nat):=by rw [Int.tmod_eq_emod_of_nonneg (by omega),Int.natCast_emod]
 have e2:V1 key m = S5 key / 4294967296 % m:=by simp only [V1,if_neg c1,Int.toNat_natCast]
 have hnz:¬ (m:Int) = 0:=by omega
 rw [e2]
 (have z:=trivial;repeat((first|clear z|with_reducible first|apply A3|refine A4 fun _=>?_|refine A5 fun _=>?_);try simp(disch:=solve|omega|assumption|repeat(first|exact A1|exact uH|apply A2|apply uT)|(simp;try omega)|fail)[hnz]))
 rw [e0]
 (have z:=trivial;repeat((first|clear z|with_reducible first|apply A3|refine A4 fun _=>?_|refine A5 fun _=>?_);try simp(disch:=solve|omega|assumption|repeat(first|exact A1|exact uH|apply A2|apply uT)|(simp;try omega)|fail)[hnz,U7]))
 have e3:(((S5 key:Nat):Int) / 4294967296).tmod m = (S5 key / 4294967296 % m:Nat):=by rw [← e1]; congr 1
 rw [e3,N3 (n:=((S5 key / 4294967296 % m:Nat):Int)) (by omega) (by omega)]
 exact A9 (by simp)
theorem C5q {l:List EnV} {key:ByteArray} (h:0 ≤ E4 l key):∃ i:Nat,E4 l key = i ∧ i < l.length:=⟨(E4 l key).toNat,by omega,A0m h⟩
def W8 (l:List EnV) (key:ByteArray):EnV:=l.getD (E4 l key).toNat noE
def K6 (l:List EnV) (p:List F8) (key:ByteArray) (now:Int):Int × Bool :=
 if E4 l key < 0 ∨ (W8 l key).dl < now ∨ Q5 p (W8 l key).bk < 0 then (0,false) else ((W8 l key).bk,true)
theorem A3c (w:World) (n lo hi e:Int) (b:Nat) (hw:LW false [b] w [.pt b (.cells #[.int .i64 e] 27)] w) :
  Fn PR B8 127 #[.int .i64 n,.int .i64 lo,.int .i64 hi,.pointer (some ⟨b,0,none⟩)] w (Rn [b] w (fun (_:Unit) u=> u = .tuple #[]) fun _=> [.pt b (.cells #[.int .i64 (if k9 n lo hi then e else 1)] 27)]):=by
 refine B40 (TW.goH (κ:=false) (S := [b]) ?_ hw)
 unfold A5W
 by_cases c1:n < lo
 ·have hf:k9 n lo hi = false:=by simp [k9]; omega
  (have z:=trivial;repeat((first|clear z|with_reducible first|apply A3|refine A4 fun _=>?_|refine A5 fun _=>?_);try simp(disch:=solve|omega|assumption|repeat(first|exact A1|exact uH|apply A2|apply uT)|(simp;try omega)|fail)[c1]))
  exact B1 () rfl (by simp only [hf]; (repeat' constructor))
 by_cases c2:hi < n
 ·have hf:k9 n lo hi = false:=by simp [k9]; omega
  (have z:=trivial;repeat((first|clear z|with_reducible first|apply A3|refine A4 fun _=>?_|refine A5 fun _=>?_);try simp(disch:=solve|omega|assumption|repeat(first|exact A1|exact uH|apply A2|apply uT)|(simp;try omega)|fail)[c1,c2]))
  exact B1 () rfl (by simp only [hf]; (repeat' constructor))
 ·have hf:k9 n lo hi = true:=by simp [k9]; omega
  (have z:=trivial;repeat((first|clear z|with_reducible first|apply A3|refine A4 fun _=>?_|refine A5 fun _=>?_);try simp(disch:=solve|omega|assumption|repeat(first|exact A1|exact uH|apply A2|apply uT)|(simp;try omega)|fail)[c1,c2]))
  exact B1 () rfl (by simp only [hf]; (repeat' constructor))
theorem C7n (w:World) (c:CfgV):Fn PR B8 65 #[c.val] w (fun v w' => v = .int .i64 (if Q8 c then 0 else 1) ∧ C7 [] w w'):=by
 refine Fn.pure (B74 (TW.go (κ:=false) (S := []) ?_))
 unfold A9u
 simp only [CfgV.val]
 (have z:=trivial;repeat((first|clear z|with_reducible first|apply A3|refine A4 fun _=>?_|refine A5 fun _=>?_);try simp(disch:=solve|omega|assumption|repeat(first|exact A1|exact uH|apply A2|apply uT)|(simp;try omega)|fail)[]))
 rename_i bc be
 refine C8 (Hc := [.pt be (.cells #[.int .i64 0] 27)]) Z2 (fun w' hw hs=> A3c w' c.wk 1 64 0 be hs) (by (repeat' constructor)) ?_
 rintro _ _ rfl
 generalize he1:(if k9 c.wk 1 64 = true then (0:Int) else 1) = e1
 (have z:=trivial;repeat((first|clear z|with_reducible first|apply A3|refine A4 fun _=>?_|refine A5 fun _=>?_);try simp(disch:=solve|omega|assumption|repeat(first|exact A1|exact uH|apply A2|apply uT)|(simp;try omega)|fail)[]))
 refine C8 (Hc := [.pt be (.cells #[.int .i64 e1] 27)]) Z2 (fun w' hw hs=> A3c w' c.sh 1 16 e1 be hs) (by (repeat' constructor)) ?_
 rintro _ _ rfl
 generalize he2:(if k9 c.sh 1 16 = true then e1 else 1) = e2
 (have z:=trivial;repeat((first|clear z|with_reducible first|apply A3|refine A4 fun _=>?_|refine A5 fun _=>?_);try simp(disch:=solve|omega|assumption|repeat(first|exact A1|exact uH|apply A2|apply uT)|(simp;try omega)|fail)[]))
 refine C8 (Hc := [.pt be (.cells #[.int .i64 e2] 27)]) Z2 (fun w' hw hs=> A3c w' c.cp 1 64 e2 be hs) (by (repeat' constructor)) ?_
 rintro _ _ rfl
 generalize he3:(if k9 c.cp 1 64 = true then e2 else 1) = e3
 (have z:=trivial;repeat((first|clear z|with_reducible first|apply A3|refine A4 fun _=>?_|refine A5 fun _=>?_);try simp(disch:=solve|omega|assumption|repeat(first|exact A1|exact uH|apply A2|apply uT)|(simp;try omega)|fail)[]))
 refine C8 (Hc := [.pt be (.cells #[.int .i64 e3] 27)]) Z2 (fun w' hw hs=> A3c w' c.idle 0 1000000 e3 be hs) (by (repeat' constructor)) ?_
 rintro _ _ rfl
 generalize he4:(if k9 c.idle 0 1000000 = true then e3 else 1) = e4
 (have z:=trivial;repeat((first|clear z|with_reducible first|apply A3|refine A4 fun _=>?_|refine A5 fun _=>?_);try simp(disch:=solve|omega|assumption|repeat(first|exact A1|exact uH|apply A2|apply uT)|(simp;try omega)|fail)[]))
 refine C8 (Hc := [.pt be (.cells #[.int .i64 e4] 27)]) Z2 (fun w' hw hs=> A3c w' c.sl 2 8 e4 be hs) (by (repeat' constructor)) ?_
 rintro _ _ rfl
 generalize he5:(if k9 c.sl 2 8 = true then e4 else 1) = e5
 (have z:=trivial;repeat((first|clear z|with_reducible first|apply A3|refine A4 fun _=>?_|refine A5 fun _=>?_);try simp(disch:=solve|omega|assumption|repeat(first|exact A1|exact uH|apply A2|apply uT)|(simp;try omega)|fail)[]))
 refine A9 ?_
 have:e5 = if Q8 c then 0 else 1:=by
  rw [← he5,← he4,← he3,← he2,← he1]
  unfold Q8
  cases k9 c.wk 1 64 <;> cases k9 c.sh 1 16 <;> cases k9 c.cp 1 64 <;> cases k9 c.idle 0 1000000 <;> cases k9 c.sl 2 8 <;> rfl
 rw [this]
def e9 (l:List EnV) (p:List F8) (key:ByteArray) (now:Int):Int:=if (K6 l p key now).2 then (K6 l p key now).1 else B1L p (S5 key)
def A9W (l:List EnV) (p:List F8) (key:ByteArray) (now idle:Int):EnV:=⟨1,key,e9 l p key now,IntKind.i64.wrap (now + idle)⟩
def G1 (l:List EnV) (p:List F8) (key:ByteArray) (closing:Bool) (now idle:Int):List EnV × AnsV × Bool :=
 if (K6 l p key now).2 = false ∧ p = [] then (l,⟨11,0,false,0⟩,false)
 else if closing then (Y3 l key,⟨0,e9 l p key now,false,0⟩,(U6 l key).isSome)
 else match H0 l (A9W l p key now idle) with
  | none=> (l,⟨12,0,false,0⟩,false)
  | some u=> (u,⟨0,e9 l p key now,!(K6 l p key now).2,0⟩,true)
section
variable {κ:Bool} {S:List Nat} {w0:World} {H Hj:List Res} {K:Value → WP}
@[simp] theorem D9q {t:TypeId} {n:Nat} {z:Value} [h:TG t n z] {b o:Nat} {c:Array Value} {T:TypeId} {f:Nat × Nat} {x:Value} (hm:Res.pt b (.cells c T f) ∈ H) :
  TW κ S w0 H (A6 PR (E1 [.v x,.c t (.pointer (some ⟨b,o,none⟩))]) K) = TW κ S w0 H (rdq (W3 c.toList o n) (fun l=> K (.tuple #[x,.agg l.toArray])) (A6 PR (E1 [.v x,.c t (.pointer (some ⟨b,o,none⟩))]) K)):=by
 cases hl:W3 c.toList o n with
 | none=> rfl
 | some l=>
   obtain ⟨_,_,h,hd⟩:=h.ti
   refine TW.congr fun w hw=> ?_
   rw [B5c]
   have hr:=A08 hl (P3.bl (hw.pt hm)); have h2:=A0s hr
   refine V8 ?_ K
   have:=A2x h hd h2.1 h2.2
   simp only [Instr.loadAt,Instr.sureAddr,Sem.run_bind,Sem.run_pure,Result.andThen_ok] at this
   simp [E1,A5S,RV.sem,asAddr,this,one]
theorem D4G {F:Value → Value → WP} {A:(Value → Value → WP) → WP} (v1 v2:Value) (hF:TW κ S w0 Hj (F v1 v2)) (hA:∀ J:Value → Value → WP,TW κ S w0 Hj (J v1 v2) → TW κ S w0 H (A J)):TW κ S w0 H (jn (n:=2) F A):=hA F hF
end
def upW (j:Nat) (x:EnV) (p:Nat × EnV):Nat × EnV:=if p.1 = j then (j,x) else p
theorem C9D (key:ByteArray):∀ L,-1 ≤ M5 key L:=by
 intro L
 induction L with
 | nil=> simp [M5]
 | cons p L ih=> (simp only [M5]; repeat' split) <;> first | omega | exact ih
theorem C9w (l:List EnV) (key:ByteArray) : -1 ≤ E4 l key:=C9D _ _
theorem C4y {key:ByteArray} {j:Nat} {x:EnV} (h1:x.st = 1) (hk:x.key = key):∀ L,M5 key L = j → M5 key (L.map (upW j x)) = j:=by
 intro L
 induction L with
 | nil=> intro h; simp [M5] at h <;> omega
 | cons p L ih=>
  intro h
  rw [List.map_cons]
  by_cases c:p.1 = j
  ·simp [M5,upW,c,h1,hk]
  ·have hu:upW j x p = p:=if_neg c
   simp only [M5] at h ⊢
   rw [hu]
   split at h
   ·omega
   ·split at h
    ·omega
    ·rename_i c0 c1
     rw [if_neg c0,if_neg c1]; exact ih h
theorem C3g {key:ByteArray} {j:Nat} {x:EnV} (h1:x.st = 1) (hk:x.key = key):∀ L,M5 key L < 0 → Q4 L = j → M5 key (L.map (upW j x)) = j:=by
 intro L
 induction L with
 | nil=> intro _ h; simp [Q4] at h <;> omega
 | cons p L ih=>
  intro hf h
  rw [List.map_cons]
  by_cases c:p.1 = j
  ·simp [M5,upW,c,h1,hk]
  ·have hu:upW j x p = p:=if_neg c
   simp only [M5,Q4] at h hf ⊢
   rw [hu]
   by_cases c1:p.2.st = 1
   ·rw [if_pos c1] at h
    rw [if_neg (by omega)] at hf ⊢
    by_cases c2:p.2.st = 1 ∧ p.2.key = key
    ·rw [if_pos c2] at hf; omega
    ·rw [if_neg c2] at hf ⊢; exact ih hf h
   ·rw [if_neg c1] at h; omega
theorem B5q (l:List EnV) (key:ByteArray) (j:Nat) (x:EnV) (hj:j < l.length):P7 (l.set j x) key = (P7 l key).map (upW j x):=by
 unfold P7
 rw [List.length_set,List.map_map]
 refine List.map_congr_left fun i hi=> ?_
 have hi':i < l.length:=List.mem_range.1 hi
 have hm:(K1 key l.length + i) % l.length < l.length:=Nat.mod_lt _ (by omega)
 simp only [Function.comp_apply,upW]
 generalize (K1 key l.length + i) % l.length = q at *
 by_cases c:q = j
 ·subst c; simp [List.getD_eq_getElem?_getD,hm]
 ·rw [if_neg c]; simp [List.getD_eq_getElem?_getD,List.getElem?_set_ne (Ne.symm c)]
theorem C6Q {key:ByteArray} {j:Nat}:∀ L,M5 key L = j → ∃ x,(j,x) ∈ L ∧ x.st = 1 ∧ x.key = key:=by
 intro L
 induction L with
 | nil=> intro h; simp [M5] at h <;> omega
 | cons p L ih=>
  intro h
  simp only [M5] at h
  split at h
  ·omega
  ·split at h
   ·rename_i c
    have:p.1 = j:=by omega
    exact ⟨p.2,by rw [← this]; simp,c⟩
   ·obtain ⟨x,h1,h2⟩:=ih h
    exact ⟨x,List.mem_cons_of_mem _ h1,h2⟩
theorem B5x {l:List EnV} {key:ByteArray} {p:Nat × EnV} (h:p ∈ P7 l key):l[p.1]? = some p.2:=by
 unfold P7 at h
 obtain ⟨i,hi,rfl⟩:=List.mem_map.1 h
 have hi':i < l.length:=List.mem_range.1 hi
 exact getD_some noE (Nat.mod_lt _ (by omega))
theorem C0j {l:List EnV} {key:ByteArray} {j:Nat} (h:E4 l key = j):∃ x,l[j]? = some x ∧ x.st = 1 ∧ x.key = key:=by
 obtain ⟨x,h1,h2⟩:=C6Q _ h
 exact ⟨x,B5x h1,h2⟩
theorem B28 {l u:List EnV} {x:EnV} (h:H0 l x = some u) (h1:x.st = 1):∃ j,j < l.length ∧ u = l.set j x ∧ E4 u x.key = (j:Nat) ∧ (E4 l x.key = (j:Nat) ∨ E4 l x.key < 0 ∧ Q4 (P7 l x.key) = (j:Nat)):=by
 unfold H0 at h
 simp only at h
 by_cases c:E4 l x.key < 0
 ·rw [if_pos c] at h
  by_cases c2:V7 l x.key < 0
  ·rw [if_pos c2] at h; cases h
  ·rw [if_neg c2] at h
   injection h with h
   have hr:V7 l x.key = Q4 (P7 l x.key):=if_neg (by omega)
   have hlt:=B53 (l:=l) (key:=x.key) (by omega)
   refine ⟨_,hlt,h.symm,?_,Or.inr ⟨c,by omega⟩⟩
   subst h
   unfold E4
   rw [B5q _ _ _ _ hlt]
   exact C3g h1 rfl _ c (by omega)
 ·rw [if_neg c,if_neg c] at h
  injection h with h
  have hlt:=A0m (l:=l) (key:=x.key) (by omega)
  refine ⟨_,hlt,h.symm,?_,Or.inl (by omega)⟩
  subst h
  unfold E4 at *
  rw [B5q _ _ _ _ hlt]
  exact C4y h1 rfl _ (by omega)
theorem B5Z {l u:List EnV} {x:EnV} (h:H0 l x = some u):∃ j,j < l.length ∧ u = l.set j x:=by
 unfold H0 at h
 simp only at h
 by_cases c:E4 l x.key < 0
 ·rw [if_pos c] at h
  by_cases c2:V7 l x.key < 0
  ·rw [if_pos c2] at h; cases h
  ·rw [if_neg c2] at h
   injection h with h
   exact ⟨_,B53 (by omega),h.symm⟩
 ·rw [if_neg c,if_neg c] at h
  injection h with h
  exact ⟨_,A0m (by omega),h.symm⟩
theorem C5N {l:List EnV} {x:EnV} (h:H0 l x = none):E4 l x.key < 0:=by
 unfold H0 at h
 simp only at h
 by_cases c:E4 l x.key < 0
 ·exact c
 ·rw [if_neg c,if_neg c] at h; cases h
theorem C6j {l:List EnV} {i:Nat} {p:Nat × EnV}:p ∈ l6 i l ↔ i ≤ p.1 ∧ l[p.1 - i]? = some p.2 ∧ p.2.st = 1:=by
 induction l generalizing i with
 | nil=> simp [l6]
 | cons x l ih=>
  have hs:i + 1 ≤ p.1 → (x :: l)[p.1 - i]? = l[p.1 - (i + 1)]? := fun h=> by
   rw [show p.1 - i = (p.1 - (i + 1)) + 1 by omega,List.getElem?_cons_succ]
  have h0:∀ h:i ≤ p.1,¬ i + 1 ≤ p.1 → p.1 = i:=fun _ _=> by omega
  unfold l6
  split
  ·rename_i c
   rw [List.mem_cons,ih]
   constructor
   ·rintro (rfl | ⟨a,b,d⟩)
    ·simp [c]
    ·exact ⟨by omega,by rw [hs a]; exact b,d⟩
   ·rintro ⟨a,b,d⟩
    by_cases e:i + 1 ≤ p.1
    ·exact Or.inr ⟨e,by rw [← hs e]; exact b,d⟩
    ·have:=h0 a e
     left
     rw [this] at b
     simp at b
     obtain ⟨q,y⟩:=p
     simp_all
  ·rename_i c
   rw [ih]
   constructor
   ·rintro ⟨a,b,d⟩
    exact ⟨by omega,by rw [hs a]; exact b,d⟩
   ·rintro ⟨a,b,d⟩
    by_cases e:i + 1 ≤ p.1
    ·exact ⟨e,by rw [← hs e]; exact b,d⟩
    ·have:=h0 a e
     rw [this] at b
     simp at b
     rw [b] at c
     exact absurd d c
theorem A47 {l:List EnV} {p:Nat × EnV}:p ∈ Q6 l ↔ l[p.1]? = some p.2 ∧ p.2.st = 1:=by
 unfold Q6; rw [C6j]; simp
theorem A55 {l:List EnV}:Y7 l = true ↔ ∀ (i:Nat) (x:EnV),l[i]? = some x → x.st = 1 → E4 l x.key = (i:Nat):=by
 unfold Y7
 rw [List.all_eq_true]
 constructor
 ·intro h i x hx h1
  simpa using h (i,x) (A47.2 ⟨hx,h1⟩)
 ·intro h p hp
  obtain ⟨h1,h2⟩:=A47.1 hp
  simpa using h p.1 p.2 h1 h2
def Y5 (l:List EnV) (key:ByteArray):Prop := ∀ (i:Nat) (x:EnV),l[i]? = some x → x.st = 1 → x.key ≠ key
theorem Y5.find {l:List EnV} {key:ByteArray} (h:Y5 l key):E4 l key < 0:=by
 have hg:=C9w l key
 by_cases c:E4 l key < 0
 ·exact c
 ·obtain ⟨x,h1,h2,h3⟩:=C0j (l:=l) (key:=key) (j:=(E4 l key).toNat) (by omega)
  exact absurd h3 (h _ _ h1 h2)
theorem getElem?_set_some {α:Type} {l:List α} {i j:Nat} {x y:α} (h:(l.set j x)[i]? = some y):(i = j ∧ y = x) ∨ (i ≠ j ∧ l[i]? = some y):=by
 by_cases c:i = j
 ·subst c
  rw [List.getElem?_set_self'] at h
  cases hl:l[i]? with
  | none=> rw [hl] at h; cases h
  | some z=> rw [hl] at h; left; exact ⟨rfl,by simpa using h.symm⟩
 ·rw [List.getElem?_set_ne (Ne.symm c)] at h
  exact Or.inr ⟨c,h⟩
theorem Y5.set {l:List EnV} {key:ByteArray} {j:Nat} {x:EnV} (h:Y5 l key) (hx:x.st = 1 → x.key ≠ key):Y5 (l.set j x) key:=fun i y hy h1=> by
 rcases getElem?_set_some hy with ⟨_,rfl⟩ | ⟨_,h2⟩
 ·exact hx h1
 ·exact h i y h2 h1
theorem Y5.put {l:List EnV} {key:ByteArray} {x:EnV} (h:Y5 l key) (hx:x.st = 1 → x.key ≠ key):Y5 (Y2 l x) key:=by
 unfold Y2
 cases hp:H0 l x with
 | none=> exact h
 | some u=> obtain ⟨j,_,rfl⟩:=B5Z hp; exact h.set hx
theorem Y5.newE (n:Nat) (key:ByteArray):Y5 (newE n) key:=fun i x hx h1=> by
 unfold Go.Proofs.YtjobgnabneddjaaGreat.newE at hx
 obtain ⟨_,h2⟩:=List.getElem?_eq_some_iff.1 hx
 rw [List.getElem_replicate] at h2
 rw [← h2] at h1; simp [noE] at h1
theorem Y5.tidy {l:List EnV} {key:ByteArray} (h:Y5 l key):Y5 (n8 l) key:=by
 unfold n8
 have:∀ (L:List (Nat × EnV)) (a:List EnV),(∀ p ∈ L,p.2.st = 1 → p.2.key ≠ key) → Y5 a key → Y5 (L.foldl (fun acc p=> Y2 acc p.2) a) key:=by
  intro L
  induction L with
  | nil=> intro a _ h; exact h
  | cons p L ih=> intro a hL ha; rw [List.foldl_cons]; exact ih _ (fun q hq=> hL q (List.mem_cons_of_mem _ hq)) (ha.put (hL p (List.mem_cons_self ..)))
 exact this _ _ (fun p hp h1=> h p.1 p.2 (A47.1 hp).1 h1) (.newE _ _)
theorem Y5.settle {l:List EnV} {key:ByteArray} (h:Y5 l key):Y5 (N1 l) key:=by
 unfold N1; split
 ·exact h.tidy
 ·exact h
theorem C43 {key:ByteArray} {i j:Nat} {x:EnV} (h0:x.st ≠ 0) (h1:¬ (x.st = 1 ∧ x.key = key)) (hij:i ≠ j):∀ L,M5 key L = i → M5 key (L.map (upW j x)) = i:=by
 intro L
 induction L with
 | nil=> intro h; simp [M5] at h <;> omega
 | cons p L ih=>
  intro h
  rw [List.map_cons]
  simp only [M5] at h
  split at h
  ·omega
  ·rename_i c0
   split at h
   ·rename_i c1
    have:p.1 ≠ j:=by omega
    rw [upW,if_neg this]
    simp only [M5]
    rw [if_neg c0,if_pos c1]; exact h
   ·rename_i c1
    by_cases c:p.1 = j
    ·rw [upW,if_pos c]
     simp only [M5]
     rw [if_neg h0,if_neg h1]; exact ih h
    ·rw [upW,if_neg c]
     simp only [M5]
     rw [if_neg c0,if_neg c1]; exact ih h
theorem B6V {l:List EnV} {key:ByteArray} {i j:Nat} {x:EnV} (hj:j < l.length) (h0:x.st ≠ 0) (h1:¬ (x.st = 1 ∧ x.key = key)) (hij:i ≠ j) (h:E4 l key = i):E4 (l.set j x) key = i:=by
 unfold E4 at *
 rw [B5q _ _ _ _ hj]
 exact C43 h0 h1 hij _ h
theorem C4g {l:List EnV} {j:Nat} (hj:j < l.length) (h:Y7 l = true):Y7 (l.set j d8) = true:=by
 rw [A55] at h ⊢
 intro i y hy h1
 rcases getElem?_set_some hy with ⟨_,rfl⟩ | ⟨h2,h3⟩
 ·simp [d8] at h1
 ·exact B6V hj (by simp [d8]) (by simp [d8]) h2 (h i y h3 h1)
theorem B8e {l u:List EnV} {x:EnV} (h1:x.st = 1) (hp:H0 l x = some u) (h:Y7 l = true):Y7 u = true:=by
 rw [A55] at h ⊢
 obtain ⟨j,hj,rfl,hf,hc⟩:=B28 hp h1
 intro i y hy hy1
 rcases getElem?_set_some hy with ⟨rfl,rfl⟩ | ⟨h2,h3⟩
 ·exact hf
 ·have hi:=h i y h3 hy1
  have hk:x.key ≠ y.key:=fun e=> by rw [← e] at hi; omega
  exact B6V hj (by omega) (fun e=> hk e.2) h2 hi
theorem B83 (n:Nat):Y7 (newE n) = true:=by
 rw [A55]
 intro i x hx h1
 unfold newE at hx
 obtain ⟨_,h2⟩:=List.getElem?_eq_some_iff.1 hx
 rw [List.getElem_replicate] at h2
 rw [← h2] at h1; simp [noE] at h1
theorem C37 {a:List EnV} {x:EnV} (h1:x.st = 1) (h:Y7 a = true):Y7 (Y2 a x) = true:=by
 unfold Y2
 cases hp:H0 a x with
 | none=> exact h
 | some u=> exact B8e h1 hp h
theorem C4G (l:List EnV):Y7 (n8 l) = true:=by
 unfold n8
 have:∀ (L:List (Nat × EnV)) (a:List EnV),(∀ p ∈ L,p.2.st = 1) → Y7 a = true → Y7 (L.foldl (fun acc p=> Y2 acc p.2) a) = true:=by
  intro L
  induction L with
  | nil=> intro a _ h; exact h
  | cons p L ih=> intro a hL ha; rw [List.foldl_cons]; exact ih _ (fun q hq=> hL q (List.mem_cons_of_mem _ hq)) (C37 (hL p (List.mem_cons_self ..)) ha)
 exact this _ _ (fun p hp=> (A47.1 hp).2) (B83 _)
theorem B96 {l:List EnV} (h:Y7 l = true):Y7 (N1 l) = true:=by
 unfold N1; split
 ·exact C4G _
 ·exact h
def A4u (x:EnV):Bool:=decide (x.st = 1)
def E2 (l:List EnV):List EnV:=l.filter A4u
def B3J (x:EnV):List EnV:=if x.st = 1 then [x] else []
theorem A9J {l:List EnV} {j:Nat} {y x:EnV} (hy:l[j]? = some y):(B3J y ++ E2 (l.set j x)).Perm (B3J x ++ E2 l):=by
 obtain ⟨hj,e⟩:=List.getElem?_eq_some_iff.1 hy
 have h1:l = l.take j ++ y :: l.drop (j + 1):=by rw [← e]; simp
 have h2:l.set j x = l.take j ++ x :: l.drop (j + 1):=List.set_eq_take_append_cons_drop .. |>.trans (by rw [if_pos hj])
 have f1:∀ z:EnV,E2 (l.take j ++ z :: l.drop (j + 1)) = E2 (l.take j) ++ (B3J z ++ E2 (l.drop (j + 1))):=fun z=> by
  unfold E2; rw [List.filter_append,List.filter_cons]
  simp only [B3J,A4u,decide_eq_true_eq]
  split <;> simp
 have h3:E2 l = E2 (l.take j) ++ (B3J y ++ E2 (l.drop (j + 1))):=by rw [← f1,← h1]
 rw [h2,f1,h3]
 generalize E2 (l.take j) = A
 generalize E2 (l.drop (j + 1)) = B
 have p1:∀ (u v:List EnV),(u ++ (A ++ (v ++ B))).Perm (A ++ (u ++ (v ++ B))):=fun u v=> by
  rw [← List.append_assoc,← List.append_assoc A u]
  exact List.perm_append_comm.append_right _
 refine (p1 _ _).trans (((p1 _ _).trans ?_).symm)
 refine List.Perm.append_left _ ?_
 rw [← List.append_assoc,← List.append_assoc]
 exact List.perm_append_comm.append_right _
theorem C0U (l:List EnV) (i:Nat):(l6 i l).map (·.2) = E2 l:=by
 induction l generalizing i with
 | nil=> rfl
 | cons x l ih=>
  unfold l6 E2
  rw [List.filter_cons]
  simp only [A4u,decide_eq_true_eq]
  split
  ·rw [List.map_cons,ih]; rfl
  ·rw [ih]; rfl
theorem B7f {l:List EnV} (h:Y7 l = true):((E2 l).map (·.key)).Nodup:=by
 rw [A55] at h
 have h2:∀ (i:Nat) (m:List EnV),(∀ (k:Nat) (x:EnV),m[k]? = some x → x.st = 1 → E4 l x.key = (i + k:Nat)) → ((E2 m).map (·.key)).Nodup:=by
  intro i m
  induction m generalizing i with
  | nil=> intro _; simp [E2]
  | cons x m ih=>
   intro hm
   have ih':=ih (i + 1) fun k y hy h1=> by
    have:=hm (k + 1) y (by simpa using hy) h1
    rw [this]; congr 1; omega
   unfold E2 at *
   rw [List.filter_cons]
   simp only [A4u,decide_eq_true_eq] at *
   split
   ·rename_i c
    rw [List.map_cons,List.nodup_cons]
    refine ⟨fun hx=> ?_,ih'⟩
    obtain ⟨y,hy,e⟩:=List.mem_map.1 hx
    obtain ⟨hy1,hy2⟩:=List.mem_filter.1 hy
    obtain ⟨k,hk,e2⟩:=List.getElem_of_mem hy1
    have a:=hm 0 x (by simp) c
    have b:=hm (k + 1) y (by simp [hk,e2]) (by simpa [A4u] using hy2)
    rw [e,a] at b
    omega
   ·exact ih'
 exact h2 0 l fun k x hx h1=> by rw [h k x hx h1]; simp
theorem B9H {l:List EnV} {key:ByteArray}:Y5 l key ↔ ∀ x ∈ E2 l,x.key ≠ key:=by
 unfold Y5 E2 A4u
 constructor
 ·intro h x hx
  obtain ⟨h1,h2⟩:=List.mem_filter.1 hx
  obtain ⟨i,hi,e⟩:=List.getElem_of_mem h1
  exact h i x (by simp [hi,e]) (by simpa using h2)
 ·intro h i x hx h1
  exact h x (List.mem_filter.2 ⟨List.mem_of_getElem? hx,by simpa using h1⟩)
theorem C6S:∀ L,Q4 L < 0 → ∀ p ∈ L,p.2.st = 1:=by
 intro L
 induction L with
 | nil=> intro _ p hp; cases hp
 | cons q L ih=>
  intro h p hp
  simp only [Q4] at h
  split at h
  ·rename_i c
   rcases List.mem_cons.1 hp with rfl | hp
   ·exact c
   ·exact ih h p hp
  ·omega
theorem D1L {l:List EnV} (key:ByteArray) {q:Nat} {y:EnV} (hy:l[q]? = some y):(q,y) ∈ P7 l key:=by
 obtain ⟨hq,e⟩:=List.getElem?_eq_some_iff.1 hy
 unfold P7
 have hl:0 < l.length:=by omega
 have hm:K1 key l.length < l.length:=Nat.mod_lt _ hl
 refine List.mem_map.2 ⟨(q + l.length - K1 key l.length) % l.length,List.mem_range.2 (Nat.mod_lt _ hl),?_⟩
 have:(K1 key l.length + (q + l.length - K1 key l.length) % l.length) % l.length = q:=by
  rw [Nat.add_mod,Nat.mod_mod,← Nat.add_mod,show K1 key l.length + (q + l.length - K1 key l.length) = q + l.length by omega,Nat.add_mod_right,Nat.mod_eq_of_lt hq]
 rw [this]
 simp [List.getD_eq_getElem?_getD,hq,e]
theorem C8N {a:List EnV} {x:EnV} (h1:x.st = 1) (hn:Y5 a x.key) (hl:(E2 a).length < a.length):∃ u,H0 a x = some u ∧ (E2 u).Perm (x :: E2 a):=by
 cases hp:H0 a x with
 | none=>
  exfalso
  unfold H0 at hp
  simp only at hp
  rw [if_pos hn.find] at hp
  have hr:V7 a x.key = Q4 (P7 a x.key):=if_neg (by have:=hn.find; omega)
  by_cases c:V7 a x.key < 0
  ·have h2:=C6S _ (hr ▸ c)
   have h3:E2 a = a:=List.filter_eq_self.2 fun y hy=> by
    obtain ⟨q,hq,e⟩:=List.getElem_of_mem hy
    have:=h2 (q,y) (D1L _ (by simp [hq,e]))
    simpa [A4u] using this
   rw [h3] at hl; omega
  ·rw [if_neg c] at hp; cases hp
 | some u=>
  obtain ⟨j,hj,rfl,hf,hc⟩:=B28 hp h1
  refine ⟨_,rfl,?_⟩
  have hj1:a[j]? = some a[j]:=List.getElem?_eq_getElem hj
  have hs:=A9J (x:=x) hj1
  have hnl:a[j].st ≠ 1:=fun c=> by
   rcases hc with hc | ⟨_,hc⟩
   ·have:=hn.find; omega
   ·have hm:∀ L,Q4 L = (j:Nat) → ∃ y,(j,y) ∈ L ∧ y.st ≠ 1:=by
     intro L
     induction L with
     | nil=> intro h; simp [Q4] at h <;> omega
     | cons p L ih=>
      intro h
      simp only [Q4] at h
      split at h
      ·obtain ⟨y,h1,h2⟩:=ih h; exact ⟨y,List.mem_cons_of_mem _ h1,h2⟩
      ·rename_i c2
       have:p.1 = j:=by omega
       exact ⟨p.2,by rw [← this]; simp,c2⟩
    obtain ⟨y,h2,h3⟩:=hm _ hc
    have h4:=B5x h2
    rw [hj1] at h4
    injection h4 with h4
    exact h3 (by rw [h4] at c; exact c)
  unfold B3J at hs
  rw [if_neg hnl,if_pos h1] at hs
  simpa using hs
theorem A4r (n:Nat):E2 (newE n) = []:=by
 unfold E2 newE
 rw [List.filter_eq_nil_iff]
 intro x hx
 rw [(List.mem_replicate.1 hx).2]; simp [A4u,noE]
theorem C0J {l:List EnV} (h:Y7 l = true) (hl:l.length ≤ 64):(E2 (n8 l)).Perm (E2 l):=by
 have hmain:∀ (L:List (Nat × EnV)) (a:List EnV),(∀ p ∈ L,p.2.st = 1) → ((E2 a ++ L.map (·.2)).map (·.key)).Nodup → (E2 a).length + L.length ≤ a.length →
   (E2 (L.foldl (fun acc p=> Y2 acc p.2) a)).Perm (E2 a ++ L.map (·.2)):=by
  intro L
  induction L with
  | nil=> intro a _ _ _; simp
  | cons p L ih=>
   intro a hL hn hlen
   rw [List.foldl_cons]
   simp only [List.length_cons] at hlen
   have hk:Y5 a p.2.key:=B9H.2 fun x hx e=> by
    rw [List.map_append,List.nodup_append] at hn
    exact hn.2.2 _ (List.mem_map_of_mem hx) p.2.key (by simp) e
   obtain ⟨u,hu,hp⟩:=C8N (hL p (List.mem_cons_self ..)) hk (by omega)
   have e:Y2 a p.2 = u:=by simp [Y2,hu]
   rw [e]
   have hlu:=B08 hu
   have hpl:=hp.length_eq
   have hperm:(E2 u ++ L.map (·.2)).Perm (E2 a ++ (p :: L).map (·.2)):=by
    refine (hp.append_right _).trans ?_
    rw [List.map_cons]
    exact (List.perm_middle (a:=p.2) (l₁:=E2 a) (l₂:=L.map (·.2))).symm
   refine (ih u (fun q hq=> hL q (List.mem_cons_of_mem _ hq)) ?_ ?_).trans hperm
   ·exact ((hperm.map _).nodup_iff).2 hn
   ·rw [hpl,List.length_cons,hlu]; omega
 unfold n8
 have hm:(Q6 l).map (·.2) = E2 l:=C0U l 0
 have h1:=hmain (Q6 l) (newE l.length) (fun p hp=> (A47.1 hp).2) (by rw [A4r,hm]; exact B7f h)
  (by
   rw [A4r,A7D]
   have:(Q6 l).length = (E2 l).length:=by rw [← hm]; simp
   have h2:(E2 l).length ≤ l.length:=List.length_filter_le ..
   simp only [List.length_nil]; omega)
 rw [A4r,hm] at h1
 exact h1
theorem B8C {l:List EnV} (h:Y7 l = true) (hl:l.length ≤ 64):(E2 (N1 l)).Perm (E2 l):=by
 unfold N1; split
 ·exact C0J h hl
 ·exact .refl _
theorem C47 {l:List EnV} (hl:l.length ≤ 64):(N1 l).length = l.length:=by
 unfold N1; split
 ·unfold n8; rw [B5s,A7D]; omega
 ·rfl
theorem A4L {κ:Bool} {S:List Nat} {w0:World} {H:List Res} {K0:WP} {t:TypeId} {n:Nat} {z:Value} [h:TG t n z] {b o:Nat} {c:Array Value} {T:TypeId} {f:Nat × Nat} {xs:Array Value} {l:List Rd} (hm:Res.pt b (.cells c T f) ∈ H) (hl:W3 c.toList o n = some xs.toList) :
  TW κ S w0 H (watch PR ((none,Instr.loadAt t (.pointer (some ⟨b,o,none⟩)),.agg xs) :: l) K0) = TW κ S w0 H (watch PR l K0):=by
 obtain ⟨_,_,h,hd⟩:=h.ti
 refine B4G fun w hw=> ?_
 have hr:=A08 hl (P3.bl (hw.pt hm))
 have h2:=A0s hr
 have:=A2x h hd h2.1 h2.2
 simpa using this
theorem C6C {κ:Bool} {S:List Nat} {w0:World} {H:List Res} {K0:WP} {t:TypeId} {n:Nat} {z:Value} [h:TG t n z] {b o:Nat} {c xs:Array Value} {T:TypeId} {f:Nat × Nat} {l:List Rd} {x y:Bool} (hm:Res.pt b (.cells c T f) ∈ H) (hl:W3 c.toList o n = some xs.toList) :
  TW κ S w0 H (watch PR ((some (.bool x,y),Instr.loadAt t (.pointer (some ⟨b,o,none⟩)),.agg xs) :: l) K0) = TW κ S w0 H (watch PR l K0):=by
 obtain ⟨_,_,h,hd⟩:=h.ti
 refine A4z fun _ w hw=> ?_
 have hr:=A08 hl (P3.bl (hw.pt hm)); have h2:=A0s hr
 have:=A2x h hd h2.1 h2.2
 simpa using this
theorem P3.sub {w:World} {b o:Nat} {l:List Value} (h:P3 w b o l) (j n:Nat) (hn:j + n ≤ l.length):v8 w b (o + j) n = some ((l.drop j).take n):=by
 have hl:((l.drop j).take n).length = n:=by simp; omega
 have h1:P3 w b (o + j) ((l.drop j).take n):=fun q hq=> by
  rw [hl] at hq
  rw [Nat.add_assoc,h (j + q) (by omega),List.getElem?_take_of_lt hq,List.getElem?_drop]
 have:=A6B h1
 rwa [hl] at this
def B6G (ts:List (Value × List EnV)):List Nat:=ts.flatMap fun t=> N5 t.1
def B7c (ts:List (Value × List EnV)) (w:World):Prop := ∀ t ∈ ts,U4 w 218 4 t.1 t.2.length (t.2.flatMap F1)
def M9 (ts:List (Value × List EnV)):Res:=.ab (B6G ts) (B7c ts) fun w w' hk h t ht=>
 Res.stable (r:=H6 t.1 t.2) (fun b hb=> hk b (by rw [B6G,List.mem_flatMap]; exact ⟨t,ht,hb⟩)) (h t ht)
section
variable {κ:Bool} {S:List Nat} {w0 w:World} {H Hk Hc:List Res} {K0:WP} {ts:List (Value × List EnV)}
theorem A14 (hw:LW κ S w0 H w) (hm:M9 ts ∈ H) {t:Value × List EnV} (ht:t ∈ ts):F5 w t.1 t.2.length (t.2.flatMap F1):=U4.rd ((hw.hold _ hm:B7c ts w) t ht)
theorem A6q {r:Res} (hp:Part Hc H Hk) (hh:∀ w,(∀ s ∈ Hc,s.holds w) → r.holds w) (hf:∀ b ∈ r.foot,b ∈ C3 Hc) (h:TW κ S w0 (r :: Hk) K0):TW κ S w0 H K0:=fun w hw=> by
 have hw2:=hw.perm hp.perm
 refine h w ⟨hw2.ks,?_,?_,?_⟩
 ·intro s hs
  rcases List.mem_cons.1 hs with rfl | hs
  ·exact hh w fun s hs=> hw2.hold s (List.mem_append_left _ hs)
  ·exact hw2.hold s (List.mem_append_right _ hs)
 ·intro s hs b hb
  rcases List.mem_cons.1 hs with rfl | hs
  ·obtain ⟨q,hq,hbq⟩:=T8.1 (hf b hb)
   exact hw2.own q (List.mem_append_left _ hq) b hbq
  ·exact hw2.own s (List.mem_append_right _ hs) b hb
 ·have hd:=List.pairwise_append.1 hw2.dis
  refine List.pairwise_cons.2 ⟨fun s hs b hb=> ?_,hd.2.1⟩
  obtain ⟨q,hq,hbq⟩:=T8.1 (hf b hb)
  exact hd.2.2 q hq s hs b hbq
theorem C1n (h:TW κ S w0 (M9 [] :: H) K0):TW κ S w0 H K0 :=
 A6q (r:=M9 []) (Hc := []) Part.nil (fun w _=> (fun t ht=> (by cases ht):B7c [] w)) (fun b hb=> (by cases (hb:b ∈ B6G []))) h
theorem V3 {r:Value} {l:List EnV} (hp:Part [H6 r l,M9 ts] H Hk) (h:TW κ S w0 (M9 (ts ++ [(r,l)]) :: Hk) K0):TW κ S w0 H K0:=by
 refine A6q (r:=M9 (ts ++ [(r,l)])) hp (fun w hh=> (fun t ht=> ?_:B7c (ts ++ [(r,l)]) w)) (fun b hb=> ?_) h
 ·rcases List.mem_append.1 ht with ht | ht
  ·exact (hh _ (List.mem_cons_of_mem _ (List.mem_cons_self ..)):B7c ts w) t ht
  ·obtain rfl:t = (r,l):=by simpa using ht
   exact hh (H6 r l) (List.mem_cons_self ..)
 ·have hb':b ∈ B6G (ts ++ [(r,l)]):=hb
  rw [B6G,List.mem_flatMap] at hb'
  obtain ⟨t,ht,hbt⟩:=hb'
  rcases List.mem_append.1 ht with ht | ht
  ·exact T8.2 ⟨M9 ts,by simp,by show b ∈ B6G ts; rw [B6G,List.mem_flatMap]; exact ⟨t,ht,hbt⟩⟩
  ·obtain rfl:t = (r,l):=by simpa using ht
   exact T8.2 ⟨H6 r l,by simp,hbt⟩
end
abbrev ShV:=(Value × List EnV) × Nat
def D4a (t:ShV):List Value := [t.1.1,.int .i64 (t.2:Nat)]
structure MoH where
 b:Nat
 pv:Value
 sv:Value
 c:CfgV
 pool:List F8
 ts:List ShV
def D2N (m:MoH):List Res := [.pt m.b (.cells #[.int .i64 m.c.wk,.int .i64 m.c.sh,.int .i64 m.c.cp,.int .i64 m.c.idle,.int .i64 m.c.sl,m.pv,m.sv] 210),
 .own 155 2 m.pv m.pool.length (m.pool.flatMap H5),.own 214 2 m.sv m.ts.length (m.ts.flatMap D4a),M9 (m.ts.map (·.1))]
theorem C4J (l:List F8):(l.flatMap H5).all plain = true:=by
 rw [List.all_eq_true]; intro v hv; rw [List.mem_flatMap] at hv
 obtain ⟨x,_,hx⟩:=hv
 simp only [H5,List.mem_cons,List.not_mem_nil,or_false] at hx
 rcases hx with rfl | rfl <;> rfl
def B9v (c:CfgV):List (List EnV × Nat):=List.replicate c.sh.toNat (newE c.cp.toNat,0)
structure MoS where
 c:CfgV
 pool:List F8
 tabs:List (List EnV × Nat)
def MoH.st (m:MoH):MoS:=⟨m.c,m.pool,m.ts.map fun t=> (t.1.2,t.2)⟩
structure PoolAt (w:World) (m:MoH) (v:Value) (p:List F8):Prop where
 rd:F5 w v p.length (p.flatMap H5)
 off:0 < p.length → ∀ g ∈ N5 v,g ∉ C3 (D2N m)
 len:p.length ≤ 1000
 form:v.cells = #[v] ∧ plain v = true
theorem PoolAt.at {w w':World} {m:MoH} {v:Value} {p:List F8} {κ:Bool} (h:PoolAt w m v p) (hk:KS κ (C3 (D2N m)) w w'):F5 w' v p.length (p.flatMap H5) :=
 h.rd.ks0 (fun e=> by rw [List.length_eq_zero_iff.1 e]; rfl) hk h.off
end Go.Proofs.YtjobgnabneddjaaGreat
namespace Go.Proofs.YtjobgnabneddjaaGreat
open Go
def A2j (k:KeyV):ByteArray:=if U1 k then A2K k else M6
theorem B95 {l:List EnV} {p:List F8} {key:ByteArray} {c:Bool} {now idle:Int} (h:(G1 l p key c now idle).2.2 = false):(G1 l p key c now idle).1 = l:=by
 unfold G1 at h ⊢
 split
 ·rfl
 ·rw [if_neg ‹_›] at h
  split
  ·rw [if_pos ‹_›] at h
   simp only at h
   cases hd:U6 l key with
   | none=> simp [Y3,hd]
   | some u=> rw [hd] at h; cases h
  ·rw [if_neg ‹_›] at h
   cases hp:H0 l (A9W l p key now idle) with
   | none=> rfl
   | some u=> rw [hp] at h; cases h
theorem B8U (s t:ByteArray) (o:Nat):(a7 s o t).size ≤ o + t.size + s.size:=by
 simp only [a7,ByteArray.size_append,ByteArray.size_extract]; omega
theorem B5Q (x:Int):(F3 x 2).size ≤ 2:=by simp
theorem A8k (k:KeyV):(A2j k).size < 2 ^ 60:=by
 unfold A2j
 split
 ·rename_i h
  simp only [U1,decide_eq_true_eq] at h
  have hl:W6 k.v ≤ 16:=by unfold W6; split <;> (try split) <;> omega
  have h1:=B8U (a7 (a7 z38 0 (F3 (k.v * 256 + k.proto) 2 ++ F3 k.fr 2 ++ F3 k.tp 2)) 6 k.src) k.dst 22
  have h2:=B8U (a7 z38 0 (F3 (k.v * 256 + k.proto) 2 ++ F3 k.fr 2 ++ F3 k.tp 2)) k.src 6
  have h3:=B8U z38 (F3 (k.v * 256 + k.proto) 2 ++ F3 k.fr 2 ++ F3 k.tp 2) 0
  have h4:=B5Q (k.v * 256 + k.proto)
  have h5:=B5Q k.fr
  have h6:=B5Q k.tp
  have h7:=B1G
  simp only [ByteArray.size_append] at h3
  unfold A2K
  omega
 ·simp
end Go.Proofs.YtjobgnabneddjaaGreat
namespace Go.Proofs.YtjobgnabneddjaaGreat
open Go
theorem B1Y {l:List EnV} {j:Nat} {x:EnV} (h:N4 l) (hx:x.key.size < 2 ^ 60):N4 (l.set j x):=fun y hy=> by
 rcases List.mem_or_eq_of_mem_set hy with h1 | rfl
 ·exact h y h1
 ·exact hx
theorem C0S (n:Nat):N4 (newE n):=fun x hx=> by
 unfold newE at hx
 rw [(List.mem_replicate.1 hx).2]; simp [noE]
theorem C7e {a:List EnV} {x:EnV} (h:N4 a) (hx:x.key.size < 2 ^ 60):N4 (Y2 a x):=by
 unfold Y2
 cases hp:H0 a x with
 | none=> exact h
 | some u=> obtain ⟨j,_,rfl⟩:=B5Z hp; exact B1Y h hx
theorem C63 {l:List EnV} (h:N4 l):N4 (n8 l):=by
 unfold n8
 have:∀ (L:List (Nat × EnV)) (a:List EnV),(∀ p ∈ L,p.2.key.size < 2 ^ 60) → N4 a → N4 (L.foldl (fun acc p=> Y2 acc p.2) a):=by
  intro L
  induction L with
  | nil=> intro a _ h; exact h
  | cons p L ih=> intro a hL ha; rw [List.foldl_cons]; exact ih _ (fun q hq=> hL q (List.mem_cons_of_mem _ hq)) (C7e ha (hL p (List.mem_cons_self ..)))
 exact this _ _ (fun p hp=> h _ (B84 p hp).1) (C0S _)
theorem C2A {l:List EnV} (h:N4 l):N4 (N1 l):=by
 unfold N1; split
 ·exact C63 h
 ·exact h
theorem C0D:d8.key.size < 2 ^ 60:=by simp [d8]
structure TabOk (n:Nat) (l:List EnV):Prop where
 len:l.length = n
 few:n ≤ 64
 keys:N4 l
 right:Y7 l = true
theorem TabOk.new {n:Nat} (h:n ≤ 64):TabOk n (newE n):=⟨by rw [A7D]; omega,h,C0S _,B83 _⟩
theorem TabOk.settle {n:Nat} {l:List EnV} (h:TabOk n l):TabOk n (N1 l):=⟨by rw [C47 (by rw [h.len]; exact h.few),h.len],h.few,C2A h.keys,B96 h.right⟩
theorem TabOk.tomb {n:Nat} {l:List EnV} {j:Nat} (h:TabOk n l) (hj:j < l.length):TabOk n (l.set j d8):=⟨by rw [List.length_set,h.len],h.few,B1Y h.keys C0D,C4g hj h.right⟩
theorem TabOk.put {n:Nat} {l u:List EnV} {x:EnV} (h:TabOk n l) (hx:x.key.size < 2 ^ 60) (h1:x.st = 1) (hp:H0 l x = some u):TabOk n u :=
 ⟨by rw [B08 hp,h.len],h.few,by obtain ⟨j,_,rfl⟩:=B5Z hp; exact B1Y h.keys hx,B8e h1 hp h.right⟩
theorem TabOk.perm {n:Nat} {l:List EnV} (h:TabOk n l):(E2 (N1 l)).Perm (E2 l):=B8C h.right (by rw [h.len]; exact h.few)
theorem A4j {l:List EnV} {key:ByteArray} (h:0 ≤ E4 l key):l[(E4 l key).toNat]? = some (W8 l key) ∧ (W8 l key).st = 1 ∧ (W8 l key).key = key:=by
 obtain ⟨x,h1,h2,h3⟩:=C0j (l:=l) (key:=key) (j:=(E4 l key).toNat) (by omega)
 have e:W8 l key = x:=by unfold W8; rw [List.getD_eq_getElem?_getD,h1]; rfl
 rw [e]; exact ⟨h1,h2,h3⟩
theorem C5s {l u:List EnV} {key:ByteArray} (h:U6 l key = some u):0 ≤ E4 l key ∧ (E4 l key).toNat < l.length ∧ u = l.set (E4 l key).toNat d8 ∧ (W8 l key :: E2 u).Perm (E2 l):=by
 unfold U6 at h
 split at h
 ·cases h
 ·rename_i c
  injection h with h
  subst h
  have h0:0 ≤ E4 l key:=by omega
  obtain ⟨h1,h2,h3⟩:=A4j h0
  have hs:=A9J (x:=d8) h1
  unfold B3J at hs
  rw [if_pos h2,if_neg (by simp [d8])] at hs
  exact ⟨h0,A0m h0,rfl,by simpa using hs⟩
theorem C4K {l u:List EnV} {x:EnV} (h1:x.st = 1) (hp:H0 l x = some u):(0 ≤ E4 l x.key ∧ (W8 l x.key :: E2 u).Perm (x :: E2 l)) ∨ (E4 l x.key < 0 ∧ (E2 u).Perm (x :: E2 l)):=by
 obtain ⟨j,hj,rfl,hf,hc⟩:=B28 hp h1
 have hj1:l[j]? = some l[j]:=List.getElem?_eq_getElem hj
 have hs:=A9J (x:=x) hj1
 unfold B3J at hs
 rw [if_pos h1] at hs
 rcases hc with hc | ⟨hc,hr⟩
 ·left
  have h0:0 ≤ E4 l x.key:=by omega
  obtain ⟨e1,e2,e3⟩:=A4j h0
  have:(E4 l x.key).toNat = j:=by omega
  rw [this,hj1] at e1
  injection e1 with e1
  rw [e1,if_pos e2] at hs
  exact ⟨h0,by simpa using hs⟩
 ·right
  refine ⟨hc,?_⟩
  have hm:∀ L,Q4 L = (j:Nat) → ∃ y,(j,y) ∈ L ∧ y.st ≠ 1:=by
   intro L
   induction L with
   | nil=> intro h; simp [Q4] at h <;> omega
   | cons p L ih=>
    intro h
    simp only [Q4] at h
    split at h
    ·obtain ⟨y,h1,h2⟩:=ih h; exact ⟨y,List.mem_cons_of_mem _ h1,h2⟩
    ·rename_i c2
     have:p.1 = j:=by omega
     exact ⟨p.2,by rw [← this]; simp,c2⟩
  obtain ⟨y,h2,h3⟩:=hm _ hr
  have h4:=B5x h2
  rw [hj1] at h4
  injection h4 with h4
  rw [if_neg (by rw [h4]; exact h3)] at hs
  simpa using hs
structure Decided (l u:List EnV) (key:ByteArray) (made:Bool):Prop where
 up:(E2 u).length ≤ (E2 l).length + 1
 down:(E2 l).length ≤ (E2 u).length + 1
 new:(E2 l).length < (E2 u).length → made = true
 from':∀ x ∈ E2 u,x ∈ E2 l ∨ x.key = key
theorem Decided.refl (l:List EnV) (key:ByteArray) (made:Bool):Decided l l key made:=⟨by omega,by omega,by omega,fun x hx=> Or.inl hx⟩
theorem B7Z {l:List EnV} {p:List F8} {key:ByteArray} {now:Int} (h:E4 l key < 0):(K6 l p key now).2 = false:=by
 unfold K6; rw [if_pos (Or.inl h)]
theorem B1r {n:Nat} {l:List EnV} {p:List F8} {key:ByteArray} {closing:Bool} {now idle:Int} (h:TabOk n l) (hk:key.size < 2 ^ 60) :
  TabOk n (G1 l p key closing now idle).1 ∧ Decided l (G1 l p key closing now idle).1 key (G1 l p key closing now idle).2.1.made:=by
 unfold G1
 split
 ·exact ⟨h,.refl _ _ _⟩
 ·split
  ·unfold Y3
   cases hd:U6 l key with
   | none=> exact ⟨h,.refl _ _ _⟩
   | some u=>
    obtain ⟨h0,hlt,rfl,hp⟩:=C5s hd
    have ht:=h.tomb hlt
    have hp2:=(ht.perm.cons (W8 l key)).trans hp
    have hl:=hp2.length_eq
    simp only [List.length_cons] at hl
    exact ⟨ht.settle,by simp only; omega,by simp only; omega,fun h=> by simp only at h; omega,fun x hx=> Or.inl (hp2.subset (List.mem_cons_of_mem _ hx))⟩
  ·cases hp:H0 l (A9W l p key now idle) with
   | none=> exact ⟨h,.refl _ _ _⟩
   | some u=>
    refine ⟨h.put hk rfl hp,?_⟩
    rcases C4K (x:=A9W l p key now idle) rfl hp with ⟨h0,h1⟩ | ⟨h0,h1⟩
    ·have hl:=h1.length_eq
     simp only [List.length_cons] at hl
     exact ⟨by simp only; omega,by simp only; omega,fun h=> by simp only at h; omega,fun x hx=> by
      rcases List.mem_cons.1 (h1.subset (List.mem_cons_of_mem _ hx)) with rfl | h2
      ·exact Or.inr rfl
      ·exact Or.inl h2⟩
    ·have hl:=h1.length_eq
     simp only [List.length_cons] at hl
     exact ⟨by simp only; omega,by simp only; omega,fun h=> by simp [B7Z (p:=p) (now:=now) (show E4 l key < 0 from h0)],fun x hx=> by
      rcases List.mem_cons.1 (h1.subset hx) with rfl | h2
      ·exact Or.inr rfl
      ·exact Or.inl h2⟩
def B4e (now:Int) (l u:List EnV) (k:Nat):Prop := ∃ r,(r ++ E2 u).Perm (E2 l) ∧ (∀ x ∈ r,D2W x now = true) ∧ r.length = k
theorem B4e.trans {now:Int} {a b c:List EnV} {i j:Nat} (h:B4e now a b i) (h':B4e now b c j):B4e now a c (i + j):=by
 obtain ⟨r,h1,h2,h3⟩:=h
 obtain ⟨s,h4,h5,h6⟩:=h'
 refine ⟨r ++ s,?_,?_,by rw [List.length_append,h3,h6]⟩
 ·rw [List.append_assoc]; exact (h4.append_left r).trans h1
 ·intro x hx
  rcases List.mem_append.1 hx with hx | hx
  ·exact h2 x hx
  ·exact h5 x hx
theorem B4e.zero {now:Int} {l u:List EnV} (h:(E2 u).Perm (E2 l)):B4e now l u 0:=⟨[],h,by simp,rfl⟩
structure Inv (c:CfgV) (s:MoS):Prop where
 cfg:s.c = c
 ok:Q8 c = true
 pool:Q3 s.pool = 0
 sh:(s.tabs.length:Int) = c.sh
 tab:∀ t ∈ s.tabs,TabOk c.cp.toNat t.1
 own:∀ (i:Nat) t,s.tabs[i]? = some t → ∀ x ∈ E2 t.1,V1 x.key c.sh = i
theorem C45 {c:CfgV} (h:Q8 c = true):1 ≤ c.wk ∧ c.wk ≤ 64 ∧ 1 ≤ c.sh ∧ c.sh ≤ 16 ∧ 1 ≤ c.cp ∧ c.cp ≤ 64 ∧ 0 ≤ c.idle ∧ c.idle ≤ 1000000:=by
 simp [Q8,k9] at h; omega
theorem Inv.new {c:CfgV} (h:Q8 c = true):Inv c ⟨c,[],B9v c⟩:=by
 have hb:=C45 h
 refine ⟨rfl,h,rfl,by simp [B9v]; omega,fun t ht=> ?_,fun i t ht x hx=> ?_⟩
 ·rw [B9v] at ht
  rw [(List.mem_replicate.1 ht).2]
  exact TabOk.new (by omega)
 ·have ht:=List.mem_of_getElem? ht
  rw [B9v] at ht
  rw [(List.mem_replicate.1 ht).2,A4r] at hx
  cases hx
theorem Inv.set {c:CfgV} {s:MoS} (h:Inv c s) {i:Nat} {t u:List EnV × Nat} (ht:s.tabs[i]? = some t) (hu:TabOk c.cp.toNat u.1) (hf:∀ x ∈ E2 u.1,x ∈ E2 t.1 ∨ V1 x.key c.sh = i):Inv c { s with tabs:=s.tabs.set i u }:=by
 refine ⟨h.cfg,h.ok,h.pool,by rw [List.length_set]; exact h.sh,fun v hv=> ?_,fun j v hv x hx=> ?_⟩
 ·rcases List.mem_or_eq_of_mem_set hv with h1 | rfl
  ·exact h.tab v h1
  ·exact hu
 ·rcases getElem?_set_some hv with ⟨rfl,rfl⟩ | ⟨_,h2⟩
  ·rcases hf x hx with h1 | h1
   ·exact h.own j t ht x h1
   ·exact h1
  ·exact h.own j v h2 x hx
theorem Inv.at {c:CfgV} {s:MoS} (h:Inv c s) {i:Nat} (hi:i < c.sh.toNat):s.tabs[i]? = some (s.tabs.getD i ([],0)):=getD_some _ (by have:=h.sh; omega)
theorem C7w {α:Type} {l:List α} {i at':Nat} {x y:α} (hy:l[i]? = some y):(l.set at' x).take (i + 1) = (l.set at' x).take i ++ [if i = at' then x else y]:=by
 have hi:=(List.getElem?_eq_some_iff.1 hy).1
 rw [List.take_add_one]
 by_cases c:i = at'
 ·subst c; rw [List.getElem?_set_self hi]; simp
 ·rw [List.getElem?_set_ne (Ne.symm c),hy]; simp [c]
theorem B8p (w:World) (v:Value) (l:List EnV) (at':Nat) (x:EnV) (hn:l.length ≤ 1000000) (hv:F5 w v l.length (l.flatMap F1)) :
  Fn PR B8 246 #[v,.int .i64 (at':Int),.agg #[.int .i64 x.st,.string x.key,.int .i64 x.bk,.int .i64 x.dl]] w (Rn [] w (fun r u=> u = r) fun r=> [H6 r (l.set at' x)]):=by
 refine A9P (TW.go (κ:=false) (S := []) ?_)
 unfold A10
 obtain ⟨a,c,rfl,hr⟩:=hv.form
 (have z:=trivial;repeat((first|clear z|with_reducible first|apply A3|refine A4 fun _=>?_|refine A5 fun _=>?_);try simp(disch:=solve|omega|assumption|repeat(first|exact A1|exact uH|apply A2|apply uT)|(simp;try omega)|fail)[]))
 rename_i bx
 refine l7 218 4 ?_
 refine P5 l.length (fun i (y:Option Addr × Nat)=> .slice y.1 i y.2) (fun i y=> [.own 218 4 (.slice y.1 i y.2) i (((l.set at' x).take i).flatMap F1),.pt bx (.cells #[.int .i64 x.st,.string x.key,.int .i64 x.bk,.int .i64 x.dl] 218)]) (fun i y=> True) (none,0) trivial ?_ (by simp)
 rintro i ⟨ya,yc⟩ hi _ L hL
 by_cases hlt:i < l.length
 ·have hx:l[i]? = some l[i]:=List.getElem?_eq_getElem hlt
  obtain ⟨b,o,rfl,hrow⟩:=hr (by omega)
  have h1:=hrow.at (f:=F1) (k:=4) (fun _=> rfl) hx
  rw [F1] at h1
  have hst:=C7w (at':=at') (x:=x) hx
  by_cases c1:i = at'
  ·rw [if_pos c1] at hst
   subst c1
   (have zz:=trivial;repeat((first|clear zz|with_reducible first|refine A3 ?_|refine A4 fun _=>?_|refine A5 fun _=>?_|refine D5 fun _=>?_|refine E0 (hK:=fun _=>?_)|refine D6 (hK:=fun _=>?_)|refine D4 (hK:=fun _=>?_)|refine D9 (hK:=fun _=>?_)|refine D7 (hK:=fun _=>?_));try simp(disch:=first|omega|assumption|((repeat(first|exact A1|exact uH|apply A2|apply uT));first|done|fail)|(simp;first|done|omega|fail))[hlt]))
   refine r9 (e:=218) (k:=4) (q:=i) (r:=1) (xs:=((l.set i x).take i).flatMap F1) (news:=F1 x) (by (repeat constructor)) (M0.own (by (repeat constructor))) (by decide) rfl (by simp [F1]) (by simp only [maxLen]; omega) (by omega) fun a' c' => ?_
   (have z:=trivial;repeat((first|clear z|with_reducible first|apply A3|refine A4 fun _=>?_|refine A5 fun _=>?_);try simp(disch:=solve|omega|assumption|repeat(first|exact A1|exact uH|apply A2|apply uT)|(simp;try omega)|fail)[]))
   have h2:=hL hlt (a',c') trivial
   rw [hst,List.flatMap_append,show [x].flatMap F1 = F1 x by simp] at h2
   exact Sels.tw (by (repeat' constructor)) h2
  ·rw [if_neg c1] at hst
   have c1':¬ (i:Int) = (at':Int):=by omega
   (have zz:=trivial;repeat((first|clear zz|with_reducible first|refine A3 ?_|refine A4 fun _=>?_|refine A5 fun _=>?_|refine D5 fun _=>?_|refine E0 (hK:=fun _=>?_)|refine D6 (hK:=fun _=>?_)|refine D4 (hK:=fun _=>?_)|refine D9 (hK:=fun _=>?_)|refine D7 (hK:=fun _=>?_));try simp(disch:=first|omega|assumption|((repeat(first|exact A1|exact uH|apply A2|apply uT));first|done|fail)|(simp;first|done|omega|fail))[hlt,c1,c1',h1]))
   refine r9 (e:=218) (k:=4) (q:=i) (r:=1) (xs:=((l.set at' x).take i).flatMap F1) (news:=F1 l[i]) (by (repeat constructor)) (M0.own (by (repeat constructor))) (by decide) rfl (by simp [F1]) (by simp only [maxLen]; omega) (by omega) fun a' c' => ?_
   (have z:=trivial;repeat((first|clear z|with_reducible first|apply A3|refine A4 fun _=>?_|refine A5 fun _=>?_);try simp(disch:=solve|omega|assumption|repeat(first|exact A1|exact uH|apply A2|apply uT)|(simp;try omega)|fail)[]))
   have h2:=hL hlt (a',c') trivial
   rw [hst,List.flatMap_append,show [l[i]].flatMap F1 = F1 l[i] by simp] at h2
   exact Sels.tw (by (repeat' constructor)) h2
 ·obtain rfl:i = l.length:=by omega
  (have z:=trivial;repeat((first|clear z|with_reducible first|apply A3|refine A4 fun _=>?_|refine A5 fun _=>?_);try simp(disch:=solve|omega|assumption|repeat(first|exact A1|exact uH|apply A2|apply uT)|(simp;try omega)|fail)[]))
  refine B1 (.slice ya l.length yc) rfl ?_
  rw [List.take_of_length_le (by simp)]
  simp only [H6,List.length_set]
  (repeat' constructor)
theorem B5T (w:World) (v:Value) (l:List EnV) (key:ByteArray) (bk dl:Int) (hk:key.size < 2 ^ 60) (hn:l.length ≤ 1000000) (hv:F5 w v l.length (l.flatMap F1)) :
  Fn PR B8 227 #[v,.string key,.int .i64 bk,.int .i64 dl] w (Rn [] w (fun r u=> u = .tuple #[if (H0 l ⟨1,key,bk,dl⟩).isSome then r else v,.int .i64 (if (H0 l ⟨1,key,bk,dl⟩).isSome then 0 else 12)]) fun r=> if (H0 l ⟨1,key,bk,dl⟩).isSome then [H6 r ((H0 l ⟨1,key,bk,dl⟩).getD l)] else []):=by
 refine A9q (TW.go (κ:=false) (S := []) ?_)
 unfold A21
 have hwith:∀ (q:Nat) (K:Value → WP),H0 l ⟨1,key,bk,dl⟩ = some (l.set q ⟨1,key,bk,dl⟩) → (∀ r,TW false [] w [H6 r (l.set q ⟨1,key,bk,dl⟩)] (K r)) → TW false [] w [] (B3 PR B8 246 [v,.int .i64 (q:Int),.agg #[.int .i64 1,.string key,.int .i64 bk,.int .i64 dl]] K):=fun q K _ hK=> by
  refine H3 A1c (fun w' hw' => B8p w' v l q ⟨1,key,bk,dl⟩ hn (hv.ks hw'.ks (by simp))) ?_
  intro _ r hr
  subst hr
  exact hK r
 refine B7 Y6 (fun w' hw' => A8E w' _ l key hk hn (hv.ks hw'.ks (by simp))) ?_
 by_cases c1:E4 l key < 0
 ·(have z:=trivial;repeat((first|clear z|with_reducible first|apply A3|refine A4 fun _=>?_|refine A5 fun _=>?_);try simp(disch:=solve|omega|assumption|repeat(first|exact A1|exact uH|apply A2|apply uT)|(simp;try omega)|fail)[c1]))
  refine B7 A7Y (fun w' hw' => C5c w' _ l key hk hn (hv.ks hw'.ks (by simp))) ?_
  by_cases c2:V7 l key < 0
  ·have e:H0 l ⟨1,key,bk,dl⟩ = none:=by unfold H0; simp only; rw [if_pos c1,if_pos c2]
   (have z:=trivial;repeat((first|clear z|with_reducible first|apply A3|refine A4 fun _=>?_|refine A5 fun _=>?_);try simp(disch:=solve|omega|assumption|repeat(first|exact A1|exact uH|apply A2|apply uT)|(simp;try omega)|fail)[c2]))
   rw [e]
   exact B1 v (by simp) (by simpa using Sels.nil)
  ·have e:H0 l ⟨1,key,bk,dl⟩ = some (l.set (V7 l key).toNat ⟨1,key,bk,dl⟩):=by unfold H0; simp only; rw [if_pos c1,if_neg c2]
   (have z:=trivial;repeat((first|clear z|with_reducible first|apply A3|refine A4 fun _=>?_|refine A5 fun _=>?_);try simp(disch:=solve|omega|assumption|repeat(first|exact A1|exact uH|apply A2|apply uT)|(simp;try omega)|fail)[c2]))
   rw [show V7 l key = ((V7 l key).toNat:Int) by omega]
   refine hwith _ _ e fun r=> ?_
   (have z:=trivial;repeat((first|clear z|with_reducible first|apply A3|refine A4 fun _=>?_|refine A5 fun _=>?_);try simp(disch:=solve|omega|assumption|repeat(first|exact A1|exact uH|apply A2|apply uT)|(simp;try omega)|fail)[]))
   rw [e]
   exact B1 r (by simp) (by simpa using Sels.cons Sel.here Sels.nil)
 ·have e:H0 l ⟨1,key,bk,dl⟩ = some (l.set (E4 l key).toNat ⟨1,key,bk,dl⟩):=by unfold H0; simp only; rw [if_neg c1,if_neg c1]
  (have z:=trivial;repeat((first|clear z|with_reducible first|apply A3|refine A4 fun _=>?_|refine A5 fun _=>?_);try simp(disch:=solve|omega|assumption|repeat(first|exact A1|exact uH|apply A2|apply uT)|(simp;try omega)|fail)[c1]))
  rw [show E4 l key = ((E4 l key).toNat:Int) by omega]
  refine hwith _ _ e fun r=> ?_
  (have z:=trivial;repeat((first|clear z|with_reducible first|apply A3|refine A4 fun _=>?_|refine A5 fun _=>?_);try simp(disch:=solve|omega|assumption|repeat(first|exact A1|exact uH|apply A2|apply uT)|(simp;try omega)|fail)[]))
  rw [e]
  exact B1 r (by simp) (by simpa using Sels.cons Sel.here Sels.nil)
theorem C6B (w:World) (v:Value) (l:List EnV) (at':Nat) (hn:l.length ≤ 1000000) (hv:F5 w v l.length (l.flatMap F1)) :
  Fn PR B8 208 #[v,.int .i64 (at':Int)] w (Rn [] w (fun r u=> u = r) fun r=> [H6 r (l.set at' d8)]):=by
 refine A9A (TW.go (κ:=false) (S := []) ?_)
 unfold A2Y
 (have z:=trivial;repeat((first|clear z|with_reducible first|apply A3|refine A4 fun _=>?_|refine A5 fun _=>?_);try simp(disch:=solve|omega|assumption|repeat(first|exact A1|exact uH|apply A2|apply uT)|(simp;try omega)|fail)[]))
 refine H3 A1c (fun w' hw' => B8p w' v l at' d8 hn (hv.ks hw'.ks (by simp))) ?_
 intro _ r hr
 subst hr
 exact B1 r rfl (by (repeat' constructor))
theorem C0w (w:World) (n:Nat) (hn:n ≤ 1000000):Fn PR B8 90 #[.int .i64 (n:Int)] w (Rn [] w (fun r u=> u = r) fun r=> [H6 r (newE n)]):=by
 refine A9x (TW.go (κ:=false) (S := []) ?_)
 unfold A2p
 have e:max 0 (min (n:Int) 64) = ((min n 64:Nat):Int):=by omega
 (have z:=trivial;repeat((first|clear z|with_reducible first|apply A3|refine A4 fun _=>?_|refine A5 fun _=>?_);try simp(disch:=solve|omega|assumption|repeat(first|exact A1|exact uH|apply A2|apply uT)|(simp;try omega)|fail)[]))
 rw [e]
 refine A1m (by omega) (by omega) (by omega) (by omega) fun b=> ?_
 rw [Int.toNat_natCast,D0A]
 refine B1 _ rfl ?_
 simp only [H6,newE,List.length_replicate]
 (repeat' constructor)
def z7 (l:List EnV) (i:Nat):List EnV:=(Q6 (l.take i)).foldl (fun acc p=> Y2 acc p.2) (newE l.length)
theorem C4e {l:List EnV} {i:Nat} {x:EnV} (hx:l[i]? = some x):z7 l (i + 1) = if x.st = 1 then Y2 (z7 l i) x else z7 l i:=by
 unfold z7
 rw [B6H hx,List.foldl_append]
 split <;> rfl
theorem C5Q (l:List EnV) (i:Nat):(z7 l i).length = min l.length 64:=by unfold z7; rw [B5s,A7D]
theorem C6e (w:World) (v:Value) (l:List EnV) (hks:N4 l) (hn:l.length ≤ 1000000) (hv:F5 w v l.length (l.flatMap F1)) :
  Fn PR B8 247 #[v] w (Rn [] w (fun r u=> u = r) fun r=> [H6 r (n8 l)]):=by
 refine A9F (TW.go (κ:=false) (S := []) ?_)
 unfold A2E
 obtain ⟨a,c,rfl,hr⟩:=hv.form
 (have z:=trivial;repeat((first|clear z|with_reducible first|apply A3|refine A4 fun _=>?_|refine A5 fun _=>?_);try simp(disch:=solve|omega|assumption|repeat(first|exact A1|exact uH|apply A2|apply uT)|(simp;try omega)|fail)[]))
 refine H3 A11 (fun w' _=> C0w w' l.length hn) ?_
 intro _ r0 hr0
 subst hr0
 (have z:=trivial;repeat((first|clear z|with_reducible first|apply A3|refine A4 fun _=>?_|refine A5 fun _=>?_);try simp(disch:=solve|omega|assumption|repeat(first|exact A1|exact uH|apply A2|apply uT)|(simp;try omega)|fail)[]))
 refine P5 l.length (fun i (r:Value)=> r) (fun i r=> [H6 r (z7 l i)]) (fun i r=> True) r0 trivial ?_ (by simp [z7,Q6,l6])
 rintro i r hi _ L hL
 by_cases hlt:i < l.length
 ·have hx:l[i]? = some l[i]:=List.getElem?_eq_getElem hlt
  obtain ⟨b,o,rfl,hrow⟩:=hr (by omega)
  have h0:=hrow.cellAt (f:=F1) (k:=4) (j:=0) (fun _=> rfl) hx rfl
  have h1:=hrow.cellAt (f:=F1) (k:=4) (j:=1) (fun _=> rfl) hx rfl
  have h2:=hrow.cellAt (f:=F1) (k:=4) (j:=2) (fun _=> rfl) hx rfl
  have h3:=hrow.cellAt (f:=F1) (k:=4) (j:=3) (fun _=> rfl) hx rfl
  have hst:=C4e hx
  have hkx:l[i].key.size < 2 ^ 60:=hks _ (List.getElem_mem hlt)
  have hlen:=C5Q l i
  by_cases c1:l[i].st = 1
  ·rw [if_pos c1] at hst
   (have z:=trivial;repeat((first|clear z|with_reducible first|apply A3|refine A4 fun _=>?_|refine A5 fun _=>?_);try simp(disch:=solve|omega|assumption|repeat(first|exact A1|exact uH|apply A2|apply uT)|(simp;try omega)|fail)[hlt,h0,h1,h2,h3,c1]))
   refine H3 q8 (fun w' hw' => B5T w' r (z7 l i) l[i].key l[i].bk l[i].dl hkx (by omega) (M0.own (by (repeat constructor)) w' hw')) ?_
   have hxe:(⟨1,l[i].key,l[i].bk,l[i].dl⟩:EnV) = l[i]:=by cases hl:l[i]; rw [hl] at c1; simp only at c1; subst c1; rfl
   rintro r2 _ rfl
   rw [hxe]
   cases hp:H0 (z7 l i) l[i] with
   | none=>
    have e2:Y2 (z7 l i) l[i] = z7 l i:=by unfold Y2; rw [hp]; rfl
    (have z:=trivial;repeat((first|clear z|with_reducible first|apply A3|refine A4 fun _=>?_|refine A5 fun _=>?_);try simp(disch:=solve|omega|assumption|repeat(first|exact A1|exact uH|apply A2|apply uT)|(simp;try omega)|fail)[]))
    have h:=hL hlt r trivial
    rw [hst,e2] at h
    exact Sels.tw (by (repeat' constructor)) h
   | some u=>
    have e2:Y2 (z7 l i) l[i] = u:=by unfold Y2; rw [hp]; rfl
    (have z:=trivial;repeat((first|clear z|with_reducible first|apply A3|refine A4 fun _=>?_|refine A5 fun _=>?_);try simp(disch:=solve|omega|assumption|repeat(first|exact A1|exact uH|apply A2|apply uT)|(simp;try omega)|fail)[]))
    have h:=hL hlt r2 trivial
    rw [hst,e2] at h
    exact Sels.tw (by (repeat' constructor)) h
  ·rw [if_neg c1] at hst
   (have z:=trivial;repeat((first|clear z|with_reducible first|apply A3|refine A4 fun _=>?_|refine A5 fun _=>?_);try simp(disch:=solve|omega|assumption|repeat(first|exact A1|exact uH|apply A2|apply uT)|(simp;try omega)|fail)[hlt,h0,c1]))
   have h:=hL hlt r trivial
   rw [hst] at h
   exact Sels.tw (by (repeat' constructor)) h
 ·obtain rfl:i = l.length:=by omega
  have e:z7 l l.length = n8 l:=by unfold z7 n8; rw [List.take_length]
  (have z:=trivial;repeat((first|clear z|with_reducible first|apply A3|refine A4 fun _=>?_|refine A5 fun _=>?_);try simp(disch:=solve|omega|assumption|repeat(first|exact A1|exact uH|apply A2|apply uT)|(simp;try omega)|fail)[]))
  rw [e]
  exact B1 r rfl (by (repeat' constructor))
theorem C2Z (w:World) (v:Value) (l:List EnV) (hks:N4 l) (hn:l.length ≤ 1000000) (hv:F5 w v l.length (l.flatMap F1)) :
  Fn PR B8 209 #[v] w (Rn [] w (fun r u=> u = if l.length < 2 * S4 l 2 then r else v) fun r=> if l.length < 2 * S4 l 2 then [H6 r (N1 l)] else []):=by
 refine A6p (TW.go (κ:=false) (S := []) ?_)
 unfold A0g
 obtain ⟨a,c,rfl,hr⟩:=hv.form
 refine B7 A62 (fun w' hw' => C3r w' _ l 2 hn (hv.ks hw'.ks (by simp))) ?_
 have hle:S4 l 2 ≤ l.length:=List.countP_le_length
 have hw2:IntKind.i64.wrap (2 * ((S4 l 2:Nat):Int)) = 2 * ((S4 l 2:Nat):Int):=N3 (by omega) (by omega)
 by_cases c1:l.length < 2 * S4 l 2
 ·have c1':(l.length:Int) < 2 * ((S4 l 2:Nat):Int):=by omega
  have e:N1 l = n8 l:=by unfold N1; rw [if_pos c1]
  (have z:=trivial;repeat((first|clear z|with_reducible first|apply A3|refine A4 fun _=>?_|refine A5 fun _=>?_);try simp(disch:=solve|omega|assumption|repeat(first|exact A1|exact uH|apply A2|apply uT)|(simp;try omega)|fail)[hw2,c1']))
  refine H3 A7E (fun w' hw' => C6e w' _ l hks hn (hv.ks hw'.ks (by simp))) ?_
  intro _ r hr
  subst hr
  refine B1 r (by simp [c1]) ?_
  rw [if_pos c1,e]
  (repeat' constructor)
 ·have c1':¬ (l.length:Int) < 2 * ((S4 l 2:Nat):Int):=by omega
  (have z:=trivial;repeat((first|clear z|with_reducible first|apply A3|refine A4 fun _=>?_|refine A5 fun _=>?_);try simp(disch:=solve|omega|assumption|repeat(first|exact A1|exact uH|apply A2|apply uT)|(simp;try omega)|fail)[hw2,c1']))
  refine B1 .nilIface (by simp [c1]) ?_
  rw [if_neg c1]
  exact Sels.nil
theorem C4A {w:World} {H:List Res} {K:Value → WP} {r:Value} {l:List EnV} (hks:N4 l) (hn:l.length ≤ 1000000) (hK:∀ r,TW false [] w (H6 r (N1 l) :: H) (K r)) :
  TW false [] w (H6 r l :: H) (B3 PR B8 209 [r] K):=by
 refine H3 A5z (fun w' hw' => C2Z w' r l hks hn (M0.own A1 w' hw')) ?_
 rintro r2 _ rfl
 by_cases c1:l.length < 2 * S4 l 2
 ·rw [if_pos c1,if_pos c1]
  exact TW.sub (hK r2) (List.Sublist.cons_cons _ (List.sublist_cons_self ..))
 ·rw [if_neg c1,if_neg c1]
  have e:N1 l = l:=by unfold N1; rw [if_neg c1]
  have:=hK r
  rw [e] at this
  exact this
theorem C2L (w:World) (v:Value) (l:List EnV) (key:ByteArray) (hk:key.size < 2 ^ 60) (hks:N4 l) (hn:l.length ≤ 1000000) (hv:F5 w v l.length (l.flatMap F1)) :
  Fn PR B8 226 #[v,.string key] w (Rn [] w (fun r u=> u = .tuple #[if (U6 l key).isSome then r else v,.bool (U6 l key).isSome]) fun r=> if (U6 l key).isSome then [H6 r (Y3 l key)] else []):=by
 refine A6l (TW.go (κ:=false) (S := []) ?_)
 unfold A0p
 refine B7 Y6 (fun w' hw' => A8E w' _ l key hk hn (hv.ks hw'.ks (by simp))) ?_
 by_cases c1:E4 l key < 0
 ·have e:U6 l key = none:=by unfold U6; rw [if_pos c1]
  (have z:=trivial;repeat((first|clear z|with_reducible first|apply A3|refine A4 fun _=>?_|refine A5 fun _=>?_);try simp(disch:=solve|omega|assumption|repeat(first|exact A1|exact uH|apply A2|apply uT)|(simp;try omega)|fail)[c1]))
  exact B1 .nilIface (by simp [e]) (by rw [e]; exact Sels.nil)
 ·have e:U6 l key = some (l.set (E4 l key).toNat d8):=by unfold U6; rw [if_neg c1]
  have e2:Y3 l key = N1 (l.set (E4 l key).toNat d8):=by unfold Y3; rw [e]
  (have z:=trivial;repeat((first|clear z|with_reducible first|apply A3|refine A4 fun _=>?_|refine A5 fun _=>?_);try simp(disch:=solve|omega|assumption|repeat(first|exact A1|exact uH|apply A2|apply uT)|(simp;try omega)|fail)[c1]))
  have hq:E4 l key = ((E4 l key).toNat:Int):=by omega
  rw [hq]
  refine H3 A7W (fun w' hw' => C6B w' v l (E4 l key).toNat hn (hv.ks hw'.ks (by simp))) ?_
  intro _ r hr
  subst hr
  refine C4A (B1Y hks C0D) (by simpa using hn) fun r2=> ?_
  refine B1 r2 (by simp [e]) ?_
  simp only [e,Option.isSome_some,if_true,e2]
  (repeat' constructor)
section
open Instr
variable {X:Nat → Prop} {t0 t1 t2 t3 t4 t5 t6 t7:Value} {R:Value → WP} {w:World}
def A2P (X:Nat → Prop) (a b:Value) (R:Value → WP):WP :=
 jn (n:=1) (fun c=>
 jn (n:=2) (fun d e=>
 R (.bool true)) fun J1=>
 lp (n:=2) (fun L2 f g=>
 jn (n:=0) (
 jn (n:=1) (fun h=>
 A0 PR (binOp .add 3 g (.int .i64 1)) fun i=>
 L2 h i) fun J3=>
 drw <|
 A0 PR (indexAt 37 a g) fun j=>
 A6 PR (loadAt 3 j) fun k=>
 A0 PR (indexAt 37 b g) fun l=>
 A6 PR (loadAt 3 l) fun m=>
 A0 PR (binOp .neq 3 k m) fun o=>
 C0 o (
 R (.bool false)) (
 J3 f)) fun J4=>
 A0 PR (A8 .len #[37] 0 [a]) fun p=>
 A0 PR (binOp .lss 3 g p) fun q=>
 C0 q (
 J4) (
 J1 f g)) c (.int .i64 0)) fun J5=>
 A0 PR (A8 .len #[37] 0 [a]) fun r=>
 A0 PR (A8 .len #[37] 0 [b]) fun s=>
 A0 PR (binOp .neq 3 r s) fun t=>
 C0 t (
 R (.bool false)) (
 J5 (.bool false))
theorem A7e:B0 PR 117:=A7 Tryz.func117 (by kernel_rfl) rfl
theorem A8q (h:A2P X t0 t1 R w):Fn PR X 117 #[t0,t1] w R:=C4 (args := [t0,t1]) mixed Tryz.func117 (by kernel_rfl) h
def A1f (X:Nat → Prop) (a:Value) (R:Value → WP):WP :=
 jn (n:=1) (fun b=>
 jn (n:=2) (fun c d=>
 R (.int .i64 0)) fun J1=>
 lp (n:=2) (fun L2 e f=>
 jn (n:=0) (
 jn (n:=1) (fun g=>
 A0 PR (binOp .add 3 f (.int .i64 1)) fun h=>
 L2 g h) fun J3=>
 A0 PR (indexAt 58 a f) fun i=>
 A6 PR (loadAt 155 i) fun j=>
 B5 PR X (alloc 155 true (.tuple #[])) fun k=>
 C1 PR X (storeAt 155 k j) <|
 A0 PR (fieldAt 155 k 0) fun l=>
 A6 PR (loadAt 3 l) fun m=>
 A0 PR (binOp .lss 3 m (.int .i64 1)) fun o=>
 gj o false (fun J=> A0 PR (fieldAt 155 k 0) J) fun p=>
 gj o false (fun J=> A6 PR (loadAt 3 p) J) fun q=>
 gj o false (fun J=> A0 PR (binOp .gtr 3 q (.int .i64 65535)) J) fun r=>
 A0 PR (do pure (if ← asBool o then (.bool true) else r)) fun s=>
 gj s false (fun J=> A0 PR (fieldAt 155 k 1) J) fun t=>
 gj s false (fun J=> A6 PR (loadAt 3 t) J) fun u=>
 gj s false (fun J=> A0 PR (binOp .lss 3 u (.int .i64 1)) J) fun v=>
 A0 PR (do pure (if ← asBool s then (.bool true) else v)) fun w=>
 gj w false (fun J=> A0 PR (fieldAt 155 k 1) J) fun x=>
 gj w false (fun J=> A6 PR (loadAt 3 x) J) fun y=>
 gj w false (fun J=> A0 PR (binOp .gtr 3 y (.int .i64 16)) J) fun z=>
 A0 PR (do pure (if ← asBool w then (.bool true) else z)) fun aa=>
 gj aa false (fun J=> J a) fun ab=>
 gj aa false (fun J=> A0 PR (fieldAt 155 k 0) J) fun ac=>
 gj aa false (fun J=> A6 PR (loadAt 3 ac) J) fun ad=>
 gj aa false (fun J=> B3 PR X 202 [ab,ad] J) fun ae=>
 gj aa false (fun J=> J f) fun af=>
 gj aa false (fun J=> A0 PR (binOp .neq 3 ae af) J) fun ag=>
 A0 PR (do pure (if ← asBool aa then (.bool true) else ag)) fun ah=>
 C0 ah (
 R (.int .i64 10)) (
 J3 e)) fun J4=>
 A0 PR (A8 .len #[58] 0 [a]) fun ai=>
 A0 PR (binOp .lss 3 f ai) fun aj=>
 C0 aj (
 J4) (
 J1 e f)) b (.int .i64 0)) fun J5=>
 A0 PR (A8 .len #[58] 0 [a]) fun ak=>
 A0 PR (binOp .gtr 3 ak (.int .i64 32)) fun al=>
 C0 al (
 R (.int .i64 10)) (
 J5 (.int .i64 0))
theorem A6e:B0 PR 153:=A7 Tryz.func153 (by kernel_rfl) rfl
theorem A7P (h:A1f X t0 R w):Fn PR X 153 #[t0] w R:=C4 (args := [t0]) mixed Tryz.func153 (by kernel_rfl) h
def A1z (X:Nat → Prop) (a b:Value) (R:Value → WP):WP :=
 jn (n:=2) (fun c d=>
 R (.int .i64 (-1))) fun J1=>
 lp (n:=2) (fun L2 e f=>
 jn (n:=0) (
 jn (n:=1) (fun g=>
 A0 PR (binOp .add 3 f (.int .i64 1)) fun h=>
 L2 g h) fun J3=>
 A0 PR (indexAt 58 a f) fun i=>
 A0 PR (fieldAt 155 i 0) fun j=>
 A6 PR (loadAt 3 j) fun k=>
 A0 PR (binOp .eql 3 k b) fun l=>
 C0 l (
 R f) (
 J3 e)) fun J4=>
 A0 PR (A8 .len #[58] 0 [a]) fun m=>
 A0 PR (binOp .lss 3 f m) fun o=>
 C0 o (
 J4) (
 J1 e f)) (.int .i64 0) (.int .i64 0)
theorem A1M:B0 PR 202:=A7 Tryz.func202 (by kernel_rfl) rfl
theorem A9H (h:A1z X t0 t1 R w):Fn PR X 202 #[t0,t1] w R:=C4 (args := [t0,t1]) mixed Tryz.func202 (by kernel_rfl) h
def A3Z (X:Nat → Prop) (a:Value) (R:Value → WP):WP :=
 jn (n:=2) (fun b c=>
 B3 PR X 283 [b] fun d=>
 R d) fun J1=>
 lp (n:=2) (fun L2 e f=>
 jn (n:=0) (
 jn (n:=2) (fun g h=>
 A0 PR (binOp .add 3 f (.int .i64 1)) fun i=>
 L2 g i) fun J3=>
 lp (n:=2) (fun L4 j k=>
 jn (n:=0) (
 jn (n:=1) (fun l=>
 A0 PR (binOp .add 3 k (.int .i64 1)) fun m=>
 L4 l m) fun J5=>
 drw <|
 A0 PR (indexAt 58 a f) fun o=>
 A0 PR (fieldAt 155 o 0) fun p=>
 A6 PR (loadAt 3 p) fun q=>
 A0 PR (indexAt 58 a f) fun r=>
 A0 PR (fieldAt 155 r 0) fun s=>
 A6 PR (loadAt 3 s) fun t=>
 B3 PR X 282 [q,k] fun u=>
 watch PR [(none,(loadAt 3 s),t)] <|
 A0 PR (build 290 #[(0,u),(1,t)]) fun v=>
 B5 PR X (buildSlice 193 1 #[(0,v)]) fun w=>
 B5 PR X (A8 .append #[193,193] 193 [j,w]) fun x=>
 J5 x) fun J6=>
 A0 PR (indexAt 58 a f) fun y=>
 A0 PR (fieldAt 155 y 1) fun z=>
 A6 PR (loadAt 3 z) fun aa=>
 A0 PR (A8 .min #[3,3] 0 [aa,(.int .i64 16)]) fun ab=>
 A0 PR (A8 .max #[3,3] 0 [(.int .i64 0),ab]) fun ac=>
 A0 PR (binOp .mul 3 (.int .i64 8) ac) fun ad=>
 A0 PR (binOp .lss 3 k ad) fun ae=>
 C0 ae (
 J6) (
 J3 j k)) e (.int .i64 0)) fun J7=>
 A0 PR (A8 .len #[58] 0 [a]) fun af=>
 A0 PR (binOp .lss 3 f af) fun ag=>
 C0 ag (
 J7) (
 J1 e f)) (.slice none 0 0) (.int .i64 0)
theorem B0V:B0 PR 260:=A7 Tryz.func260 (by kernel_rfl) rfl
theorem B1S (h:A3Z X t0 R w):Fn PR X 260 #[t0] w R:=C4 (args := [t0]) mixed Tryz.func260 (by kernel_rfl) h
def A1y (X:Nat → Prop) (a b:Value) (R:Value → WP):WP :=
 A0 PR (convert 3 89 a) fun c=>
 B3 PR X 256 [c,(.int .i64 4)] fun d=>
 A0 PR (convert 3 89 b) fun e=>
 B3 PR X 256 [e,(.int .i64 2)] fun f=>
 A0 PR (binOp .add 9 d f) fun g=>
 A0 PR (binOp .add 9 g (.string (ByteArray.mk #[0,0,0,0]))) fun h=>
 B3 PR X 225 [h] fun i=>
 R i
theorem A7H:B0 PR 282:=A7 Tryz.func282 (by kernel_rfl) rfl
theorem A9Y (h:A1y X t0 t1 R w):Fn PR X 282 #[t0,t1] w R:=C4 (args := [t0,t1]) mixed Tryz.func282 (by kernel_rfl) h
def q9 (X:Nat → Prop) (a:Value) (R:Value → WP):WP :=
 jn (n:=1) (fun b=>
 A0 PR (A8 .len #[193] 0 [a]) fun c=>
 A0 PR (binOp .quo 3 c (.int .i64 2)) fun d=>
 drw <|
 A0 PR (sliceAt 193 a none (some d) none) fun e=>
 A0 PR (sliceAt 193 a (some d) none none) fun f=>
 B3 PR X 283 [e] fun g=>
 B3 PR X 283 [f] fun h=>
 B3 PR X 294 [g,h] fun i=>
 R i) fun J1=>
 A0 PR (A8 .len #[193] 0 [a]) fun j=>
 A0 PR (binOp .lss 3 j (.int .i64 2)) fun k=>
 C0 k (
 R a) (
 J1 (.slice none 0 0))
theorem A1e:B0 PR 283:=A7 Tryz.func283 (by kernel_rfl) rfl
theorem A2H (h:q9 X t0 R w):Fn PR X 283 #[t0] w R:=C4 (args := [t0]) mixed Tryz.func283 (by kernel_rfl) h
def A1L (X:Nat → Prop) (a b:Value) (R:Value → WP):WP :=
 jn (n:=3) (fun c d e=>
 R d) fun J1=>
 lp (n:=3) (fun L2 f g h=>
 jn (n:=0) (
 drw <|
 A0 PR (A8 .len #[193] 0 [b]) fun i=>
 A0 PR (binOp .geq 3 h i) fun j=>
 gj j false (fun J=> J f) fun k=>
 gj j false (fun J=> J a) fun l=>
 gj j false (fun J=> A0 PR (A8 .len #[193] 0 [l]) J) fun m=>
 gj j false (fun J=> A0 PR (binOp .lss 3 k m) J) fun o=>
 gj j false (fun J=> J o) fun p=>
 gj p true (fun J=> J b) fun q=>
 gj p true (fun J=> J h) fun r=>
 gj p true (fun J=> A0 PR (indexAt 193 q r) J) fun s=>
 gj p true (fun J=> A6 PR (loadAt 290 s) J) fun t=>
 gj p true (fun J=> J a) fun u=>
 gj p true (fun J=> J f) fun v=>
 gj p true (fun J=> A0 PR (indexAt 193 u v) J) fun w=>
 gj p true (fun J=> A6 PR (loadAt 290 w) J) fun x=>
 gj p true (fun J=> B3 PR X 297 [t,x] J) fun y=>
 gj p true (fun J=> A0 PR (Op.unary .not y) J) fun z=>
 gj j false (fun J=> A0 PR (do pure (if ← asBool p then z else (.bool false))) J) fun aa=>
 A0 PR (do pure (if ← asBool j then (.bool true) else aa)) fun ab=>
 C0 ab (
 A0 PR (indexAt 193 a f) fun ac=>
 A6 PR (loadAt 290 ac) fun ad=>
 B5 PR X (buildSlice 193 1 #[(0,ad)]) fun ae=>
 B5 PR X (A8 .append #[193,193] 193 [g,ae]) fun af=>
 A0 PR (binOp .add 3 f (.int .i64 1)) fun ag=>
 L2 ag af h) (
 A0 PR (indexAt 193 b h) fun ah=>
 A6 PR (loadAt 290 ah) fun ai=>
 B5 PR X (buildSlice 193 1 #[(0,ai)]) fun aj=>
 B5 PR X (A8 .append #[193,193] 193 [g,aj]) fun ak=>
 A0 PR (binOp .add 3 h (.int .i64 1)) fun al=>
 L2 f ak al)) fun J3=>
 A0 PR (A8 .len #[193] 0 [a]) fun am=>
 A0 PR (binOp .lss 3 f am) fun an=>
 gj an false (fun J=> J h) fun ao=>
 gj an false (fun J=> J b) fun ap=>
 gj an false (fun J=> A0 PR (A8 .len #[193] 0 [ap]) J) fun aq=>
 gj an false (fun J=> A0 PR (binOp .lss 3 ao aq) J) fun ar=>
 A0 PR (do pure (if ← asBool an then (.bool true) else ar)) fun au=>
 C0 au (
 J3) (
 J1 f g h)) (.int .i64 0) (.slice none 0 0) (.int .i64 0)
theorem A6S:B0 PR 294:=A7 Tryz.func294 (by kernel_rfl) rfl
theorem A7q (h:A1L X t0 t1 R w):Fn PR X 294 #[t0,t1] w R:=C4 (args := [t0,t1]) mixed Tryz.func294 (by kernel_rfl) h
def A2Z (X:Nat → Prop) (a b:Value) (R:Value → WP):WP :=
 B5 PR X (box 290 a) fun c=>
 B5 PR X (box 290 b) fun d=>
 A0 PR (fieldAt 290 c 0) fun e=>
 A6 PR (loadAt 89 e) fun f=>
 A0 PR (fieldAt 290 d 0) fun g=>
 A6 PR (loadAt 89 g) fun h=>
 A0 PR (binOp .lss 89 f h) fun i=>
 gj i false (fun J=> A0 PR (fieldAt 290 c 0) J) fun j=>
 gj i false (fun J=> A6 PR (loadAt 89 j) J) fun k=>
 gj i false (fun J=> A0 PR (fieldAt 290 d 0) J) fun l=>
 gj i false (fun J=> A6 PR (loadAt 89 l) J) fun m=>
 gj i false (fun J=> A0 PR (binOp .eql 89 k m) J) fun n=>
 gj i false (fun J=> J n) fun o=>
 gj o true (fun J=> A0 PR (fieldAt 290 c 1) J) fun p=>
 gj o true (fun J=> A6 PR (loadAt 3 p) J) fun q=>
 gj o true (fun J=> A0 PR (fieldAt 290 d 1) J) fun r=>
 gj o true (fun J=> A6 PR (loadAt 3 r) J) fun s=>
 gj o true (fun J=> A0 PR (binOp .lss 3 q s) J) fun t=>
 gj i false (fun J=> A0 PR (do pure (if ← asBool o then t else (.bool false))) J) fun u=>
 A0 PR (do pure (if ← asBool i then (.bool true) else u)) fun v=>
 R v
theorem A7j:B0 PR 297:=A7 Tryz.func297 (by kernel_rfl) rfl
theorem A9G (h:A2Z X t0 t1 R w):Fn PR X 297 #[t0,t1] w R:=C4 (args := [t0,t1]) mixed Tryz.func297 (by kernel_rfl) h
def A2C (X:Nat → Prop) (a b:Value) (R:Value → WP):WP :=
 B3 PR X 260 [a] fun c=>
 B3 PR X 259 [c,b] fun d=>
 R d
theorem A7z:B0 PR 224:=A7 Tryz.func224 (by kernel_rfl) rfl
theorem A9g (h:A2C X t0 t1 R w):Fn PR X 224 #[t0,t1] w R:=C4 (args := [t0,t1]) mixed Tryz.func224 (by kernel_rfl) h
def A1s (X:Nat → Prop) (a b:Value) (R:Value → WP):WP :=
 jn (n:=2) (fun c d=>
 jn (n:=1) (fun e=>
 A0 PR (indexAt 193 a (.int .i64 0)) fun f=>
 A0 PR (fieldAt 290 f 1) fun g=>
 A6 PR (loadAt 3 g) fun h=>
 R h) fun J1=>
 A0 PR (A8 .len #[193] 0 [a]) fun i=>
 A0 PR (binOp .eql 3 i (.int .i64 0)) fun j=>
 C0 j (
 R (.int .i64 (-1))) (
 J1 c)) fun J2=>
 lp (n:=2) (fun L3 k l=>
 jn (n:=0) (
 jn (n:=1) (fun m=>
 A0 PR (binOp .add 3 l (.int .i64 1)) fun o=>
 L3 m o) fun J4=>
 A0 PR (indexAt 193 a l) fun p=>
 A0 PR (fieldAt 290 p 0) fun q=>
 A6 PR (loadAt 89 q) fun r=>
 A0 PR (binOp .geq 89 r b) fun s=>
 C0 s (
 A0 PR (indexAt 193 a l) fun t=>
 A0 PR (fieldAt 290 t 1) fun u=>
 A6 PR (loadAt 3 u) fun v=>
 R v) (
 J4 k)) fun J5=>
 A0 PR (A8 .len #[193] 0 [a]) fun w=>
 A0 PR (binOp .lss 3 l w) fun x=>
 C0 x (
 J5) (
 J2 k l)) (.int .i64 0) (.int .i64 0)
theorem A7y:B0 PR 259:=A7 Tryz.func259 (by kernel_rfl) rfl
theorem A89 (h:A1s X t0 t1 R w):Fn PR X 259 #[t0,t1] w R:=C4 (args := [t0,t1]) mixed Tryz.func259 (by kernel_rfl) h
def A3A (X:Nat → Prop) (a b:Value) (R:Value → WP):WP :=
 jn (n:=1) (fun c=>
 jn (n:=3) (fun d e f=>
 R d) fun J1=>
 lp (n:=3) (fun L2 g h i=>
 jn (n:=0) (
 jn (n:=2) (fun j k=>
 A0 PR (binOp .add 3 i (.int .i64 1)) fun l=>
 L2 j k l) fun J3=>
 A0 PR (binOp .rem 89 h (.int .u64 256)) fun m=>
 A0 PR (convert 89 5 m) fun o=>
 B5 PR X (buildSlice 301 1 #[(0,o)]) fun p=>
 A6 PR (convert 301 9 p) fun q=>
 A0 PR (binOp .add 9 q g) fun r=>
 A0 PR (binOp .quo 89 h (.int .u64 256)) fun s=>
 J3 r s) fun J4=>
 A0 PR (binOp .lss 3 i b) fun t=>
 C0 t (
 J4) (
 J1 g h i)) (.string (ByteArray.mk #[])) a (.int .i64 0)) fun J5=>
 A0 PR (binOp .lss 3 b (.int .i64 1)) fun u=>
 gj u false (fun J=> J b) fun v=>
 gj u false (fun J=> A0 PR (binOp .gtr 3 v (.int .i64 8)) J) fun w=>
 A0 PR (do pure (if ← asBool u then (.bool true) else w)) fun x=>
 C0 x (
 R (.string (ByteArray.mk #[]))) (
 J5 (.string (ByteArray.mk #[])))
theorem P9:B0 PR 256:=A7 Tryz.func256 (by kernel_rfl) rfl
theorem B0c (h:A3A X t0 t1 R w):Fn PR X 256 #[t0,t1] w R:=C4 (args := [t0,t1]) mixed Tryz.func256 (by kernel_rfl) h
def A25 (X:Nat → Prop) (a b c:Value) (R:Value → WP):WP :=
 jn (n:=2) (fun d e=>
 jn (n:=2) (fun f g=>
 R (.tuple #[f,(.bool true)])) fun J1=>
 lp (n:=2) (fun L2 h i=>
 jn (n:=0) (
 jn (n:=1) (fun j=>
 A0 PR (binOp .add 3 i (.int .i64 1)) fun k=>
 L2 j k) fun J3=>
 A0 PR (binOp .mul 89 h (.int .u64 256)) fun l=>
 A0 PR (binOp .add 3 b i) fun m=>
 A0 PR (index 9 a m) fun o=>
 A0 PR (convert 5 89 o) fun p=>
 A0 PR (binOp .add 89 l p) fun q=>
 J3 q) fun J4=>
 A0 PR (binOp .lss 3 i c) fun r=>
 C0 r (
 J4) (
 J1 h i)) (.int .u64 0) (.int .i64 0)) fun J5=>
 A0 PR (binOp .lss 3 c (.int .i64 1)) fun s=>
 gj s false (fun J=> J c) fun t=>
 gj s false (fun J=> A0 PR (binOp .gtr 3 t (.int .i64 8)) J) fun u=>
 A0 PR (do pure (if ← asBool s then (.bool true) else u)) fun v=>
 gj v false (fun J=> J b) fun w=>
 gj v false (fun J=> A0 PR (binOp .lss 3 w (.int .i64 0)) J) fun x=>
 A0 PR (do pure (if ← asBool v then (.bool true) else x)) fun y=>
 gj y false (fun J=> J b) fun z=>
 gj y false (fun J=> J a) fun aa=>
 gj y false (fun J=> A0 PR (A8 .len #[9] 0 [aa]) J) fun ab=>
 gj y false (fun J=> A0 PR (binOp .gtr 3 z ab) J) fun ac=>
 A0 PR (do pure (if ← asBool y then (.bool true) else ac)) fun ad=>
 gj ad false (fun J=> J a) fun ae=>
 gj ad false (fun J=> A0 PR (A8 .len #[9] 0 [ae]) J) fun af=>
 gj ad false (fun J=> J b) fun ag=>
 gj ad false (fun J=> A0 PR (binOp .sub 3 af ag) J) fun ah=>
 gj ad false (fun J=> J c) fun ai=>
 gj ad false (fun J=> A0 PR (binOp .lss 3 ah ai) J) fun aj=>
 A0 PR (do pure (if ← asBool ad then (.bool true) else aj)) fun ak=>
 C0 ak (
 R (.tuple #[(.int .u64 0),(.bool false)])) (
 J5 (.int .u64 0) (.bool false))
theorem A9K:B0 PR 293:=A7 Tryz.func293 (by kernel_rfl) rfl
theorem A9s (h:A25 X t0 t1 t2 R w):Fn PR X 293 #[t0,t1,t2] w R:=C4 (args := [t0,t1,t2]) mixed Tryz.func293 (by kernel_rfl) h
end
theorem C17 (a b:List Int):V2 a ++ V2 b = V2 (a ++ b):=by
 apply ByteArray.ext
 apply Array.toList_inj.1
 rw [ByteArray.data_append,Array.toList_append,A3b,A3b,A3b,List.map_append]
def A2c (v n i:Nat):List Int:=(List.range' (n - i) i).map (A8M v n)
theorem C3s {v n i:Nat} (h:i < n):A2c v n (i + 1) = A8M v n (n - 1 - i) :: A2c v n i:=by
 unfold A2c
 rw [List.range'_succ,List.map_cons,show n - (i + 1) = n - 1 - i by omega,show n - 1 - i + 1 = n - i by omega]
theorem C6a {v n i:Nat} (hn:n ≤ 8) (h:i < n):A8M v n (n - 1 - i) = ((v / 256 ^ i % 256:Nat):Int):=by
 unfold A8M
 have e1:(8 * ((n:Int) - 1 - ((n - 1 - i:Nat):Int))).toNat = 8 * i:=by omega
 rw [e1,show min (8 * i) IntKind.u64.bits = 8 * i from Nat.min_eq_left (by show 8 * i ≤ 64; omega)]
 rw [show ((2:Int) ^ (8 * i)) = ((256 ^ i:Nat):Int) by rw [Int.pow_mul,Int.natCast_pow]; rfl,
  show (v:Int).fdiv ((256 ^ i:Nat):Int) = ((v / 256 ^ i:Nat):Int) by rw [Int.fdiv_eq_ediv_of_nonneg _ (Int.natCast_nonneg _)]; rfl]
 generalize v / 256 ^ i = q
 simp only [IntKind.wrap,IntKind.bits,IntKind.signed]
 simp
theorem B8H (w:World) (v:Nat) (n:Int) (hv:v < 2 ^ 64):Fn PR B8 256 #[.int .u64 (v:Int),.int .i64 n] w (fun u w' => u = .string (F3 v n) ∧ C7 [] w w'):=by
 refine Fn.pure (B0c (TW.go (κ:=false) (S := []) ?_))
 unfold A3A
 by_cases hok:1 ≤ n ∧ n ≤ 8
 case neg=>
  have hv:F3 v n = ByteArray.mk #[]:=if_neg hok
  rw [hv]
  by_cases h1:n < 1
  ·(have z:=trivial;repeat((first|clear z|with_reducible first|apply A3|refine A4 fun _=>?_|refine A5 fun _=>?_);try simp(disch:=solve|omega|assumption|repeat(first|exact A1|exact uH|apply A2|apply uT)|(simp;try omega)|fail)[h1])); exact A9 rfl
  ·have h2:8 < n:=by omega
   (have z:=trivial;repeat((first|clear z|with_reducible first|apply A3|refine A4 fun _=>?_|refine A5 fun _=>?_);try simp(disch:=solve|omega|assumption|repeat(first|exact A1|exact uH|apply A2|apply uT)|(simp;try omega)|fail)[h1,h2])); exact A9 rfl
 have hvv:F3 v n = V2 (A0T v n.toNat n.toNat):=if_pos hok
 rw [hvv]
 obtain ⟨m,rfl⟩:∃ m:Nat,n = m:=⟨n.toNat,by omega⟩
 have h1:¬ (m:Int) < 1:=by omega
 have h2:¬ 8 < (m:Int):=by omega
 (have z:=trivial;repeat((first|clear z|with_reducible first|apply A3|refine A4 fun _=>?_|refine A5 fun _=>?_);try simp(disch:=solve|omega|assumption|repeat(first|exact A1|exact uH|apply A2|apply uT)|(simp;try omega)|fail)[h1,h2]))
 refine C54 m (fun i (_:Unit)=> .string (V2 (A2c v m i))) (fun i _=> .int .u64 ((v / 256 ^ i:Nat):Int)) (fun _ _=> []) (fun _ _=> True) () trivial ?_ (by simp) (by simp [A2c]; rfl) (by simp)
 rintro i _ hi _ L hL
 by_cases hlt:i < m
 ·have hlt':(i:Int) < (m:Int):=by omega
  have hb:=C6a (v:=v) (n:=m) (by omega) hlt
  have hq:v / 256 ^ i ≤ v:=Nat.div_le_self _ _
  have hn:=C3s (v:=v) hlt
  have hpw:v / 256 ^ (i + 1) = v / 256 ^ i / 256:=by rw [Nat.pow_succ,Nat.div_div_eq_div_mul]
  rw [hpw,hn] at hL
  rw [hb] at hL
  generalize v / 256 ^ i = q at *
  have e1:((q:Nat):Int).tmod 256 = ((q % 256:Nat):Int):=by rw [Int.tmod_eq_emod_of_nonneg (by omega)]; omega
  have e2:((q:Nat):Int).tdiv 256 = ((q / 256:Nat):Int):=by rw [Int.tdiv_eq_ediv_of_nonneg (by omega)]; omega
  (have zz:=trivial;repeat((first|clear zz|with_reducible first|refine A3 ?_|refine A4 fun _=>?_|refine A5 fun _=>?_|refine D5 fun _=>?_|refine E0 (hK:=fun _=>?_)|refine D6 (hK:=fun _=>?_)|refine D4 (hK:=fun _=>?_)|refine D9 (hK:=fun _=>?_)|refine D7 (hK:=fun _=>?_));try simp(disch:=first|omega|assumption|((repeat(first|exact A1|exact uH|apply A2|apply uT));first|done|fail)|(simp;first|done|omega|fail))[hlt',e1,e2,U7,Z9]))
  rename_i g
  refine C09 (v:=.string (V2 [(q:Int) % 256])) ?_ fun w' hw' => @B5C _ w' g 0 1 [(q:Int) % 256] (hw'.ownr (e:=5) (k:=1) (q:=1) (c:=1) (xs := [.int .u8 ((q:Int) % 256)]) A1)
  have e3:((q % 256:Nat):Int) = (q:Int) % 256:=by omega
  have e4:((q / 256:Nat):Int) = (q:Int) / 256:=by omega
  have h:=hL hlt () trivial
  rw [e3,show V2 ((q:Int) % 256 :: A2c v m i) = V2 [(q:Int) % 256] ++ V2 (A2c v m i) by rw [C17]; rfl] at h
  have e5:IntKind.u64.wrap ((q:Int).tdiv 256) = (q:Int) / 256:=by rw [e2,A09 (by omega) (by omega),e4]
  rw [e4] at h
  have htl:(A2c v m i).length = i:=by simp [A2c]
  have hsz:(V2 [(q:Int) % 256]).size + (V2 (A2c v m i)).size ≤ maxLen:=by rw [B4A,B4A,htl]; simp only [List.length_singleton,maxLen]; omega
  (have z:=trivial;repeat((first|clear z|with_reducible first|apply A3|refine A4 fun _=>?_|refine A5 fun _=>?_);try simp(disch:=solve|omega|assumption|repeat(first|exact A1|exact uH|apply A2|apply uT)|(simp;try omega)|fail)[hlt',S1 hsz,Z9,e5]))
  exact Sels.tw Sels.nil h
 ·obtain rfl:i = m:=by omega
  have e:A2c v i i = A0T v i i:=by
   unfold A2c A0T
   rw [Nat.sub_self,← List.range_eq_range']
   refine List.map_congr_left fun j hj=> ?_
   rw [if_pos (List.mem_range.1 hj)]
  (have z:=trivial;repeat((first|clear z|with_reducible first|apply A3|refine A4 fun _=>?_|refine A5 fun _=>?_);try simp(disch:=solve|omega|assumption|repeat(first|exact A1|exact uH|apply A2|apply uT)|(simp;try omega)|fail)[]))
  rw [e]
  exact A9 (by simp)
section
variable {κ:Bool} {X:Nat → Prop} {S:List Nat} {w0:World} {H H' Hk:List Res} {K:Value → WP} {K0:WP}
theorem D5Q {e:TypeId} {k n c:Nat} {a:Option Addr} {xs:List Value} (hm:Res.own e k (.slice a n c) n xs ∈ H) (h:n ≤ c → TW κ S w0 H K0):TW κ S w0 H K0:=fun w hw=> by
 refine h ?_ w hw
 rcases (hw.hold _ hm).2 with ⟨h1,h2⟩ | ⟨g,cap,cur,h1,_,h3,_⟩
 ·omega
 ·cases h1; exact h3
end
theorem C1z {a b:ByteArray} {i:Nat} (h:i < a.size):C9 (a ++ b) i = C9 a i:=by
 unfold C9
 rw [ByteArray.data_append]
 simp only [Array.getD_eq_getD_getElem?]
 rw [Array.getElem?_append_left (by exact h)]
theorem C1S {a b:ByteArray} {i:Nat}:C9 (a ++ b) (a.size + i) = C9 b i:=by
 unfold C9
 rw [ByteArray.data_append]
 simp only [Array.getD_eq_getD_getElem?]
 rw [Array.getElem?_append_right (by show a.size ≤ a.size + i; omega)]
 have:a.size + i - a.data.size = i:=by show a.size + i - a.size = i; omega
 rw [this]
theorem C5p (h:Nat) (a b:ByteArray):∀ i,i ≤ a.size → A1n h (a ++ b) i = A1n h a i:=by
 intro i
 induction i with
 | zero=> intro _; rfl
 | succ i ih=> intro hi; simp only [A1n]; rw [ih (by omega),C1z (by omega)]
theorem C3a (h:Nat) (a b:ByteArray):∀ i,A1n h (a ++ b) (a.size + i) = A1n (A1n h a a.size) b i:=by
 intro i
 induction i with
 | zero=> exact C5p h a b _ (Nat.le_refl _)
 | succ i ih=>
  show A6E (A1n h (a ++ b) (a.size + i)) (C9 (a ++ b) (a.size + i)) = A6E (A1n (A1n h a a.size) b i) (C9 b i)
  rw [ih,C1S]
theorem B5V (h:Nat) (a b:ByteArray):B1C h (a ++ b) = B1C (B1C h a) b:=by
 unfold B1C
 rw [ByteArray.size_append]
 exact C3a h a b _
theorem C62 (w:World) (id:Int) (n:Nat) (hn:n < 2 ^ 60):Fn PR B8 282 #[.int .i64 id,.int .i64 (n:Int)] w (fun v w' => v = .int .u64 (A54 id n:Nat) ∧ C7 [] w w'):=by
 refine Fn.pure (A9Y (TW.go (κ:=false) (S := []) ?_))
 unfold A1y
 obtain ⟨q,hq⟩:∃ q:Nat,IntKind.u64.wrap id = q:=⟨(IntKind.u64.wrap id).toNat,by simp only [IntKind.wrap,IntKind.bits,IntKind.signed]; simp; omega⟩
 have hql:q < 2 ^ 64:=by
  have:IntKind.u64.wrap id < 2 ^ 64:=by simp only [IntKind.wrap,IntKind.bits,IntKind.signed]; simp; omega
  omega
 (have z:=trivial;repeat((first|clear z|with_reducible first|apply A3|refine A4 fun _=>?_|refine A5 fun _=>?_);try simp(disch:=solve|omega|assumption|repeat(first|exact A1|exact uH|apply A2|apply uT)|(simp;try omega)|fail)[hq]))
 refine B7 P9 (fun w' hw' => B8H w' q 4 hql) ?_
 (have z:=trivial;repeat((first|clear z|with_reducible first|apply A3|refine A4 fun _=>?_|refine A5 fun _=>?_);try simp(disch:=solve|omega|assumption|repeat(first|exact A1|exact uH|apply A2|apply uT)|(simp;try omega)|fail)[]))
 refine B7 P9 (fun w' hw' => B8H w' n 2 (by omega)) ?_
 (have z:=trivial;repeat((first|clear z|with_reducible first|apply A3|refine A4 fun _=>?_|refine A5 fun _=>?_);try simp(disch:=solve|omega|assumption|repeat(first|exact A1|exact uH|apply A2|apply uT)|(simp;try omega)|fail)[S1]))
 refine B7 Z0 (fun w' _=> B4K w' _ (by simp)) ?_
 refine A9 ?_
 unfold A54 S5
 rw [hq,B5V,B5V,B5V]
 rfl
theorem C7H (w:World) (x y:Nat × Int):Fn PR B8 297 #[.agg #[.int .u64 (x.1:Nat),.int .i64 x.2],.agg #[.int .u64 (y.1:Nat),.int .i64 y.2]] w (fun r w' => r = .bool (!U3 y x) ∧ C7 [] w w'):=by
 refine Fn.pure (A9G (TW.go (κ:=false) (S := []) ?_))
 unfold A2Z
 by_cases c1:x.1 < y.1
 ·have c1':(x.1:Int) < (y.1:Int):=by omega
  have e:U3 y x = false:=by unfold U3; rw [decide_eq_false_iff_not]; omega
  (have z:=trivial;repeat((first|clear z|with_reducible first|apply A3|refine A4 fun _=>?_|refine A5 fun _=>?_);try simp(disch:=solve|omega|assumption|repeat(first|exact A1|exact uH|apply A2|apply uT)|(simp;try omega)|fail)[c1,c1']))
  exact A9 (by rw [e]; rfl)
 have c1':¬ (x.1:Int) < (y.1:Int):=by omega
 by_cases c2:x.1 = y.1
 ·by_cases c3:x.2 < y.2
  ·have e:U3 y x = false:=by unfold U3; rw [decide_eq_false_iff_not]; omega
   (have z:=trivial;repeat((first|clear z|with_reducible first|apply A3|refine A4 fun _=>?_|refine A5 fun _=>?_);try simp(disch:=solve|omega|assumption|repeat(first|exact A1|exact uH|apply A2|apply uT)|(simp;try omega)|fail)[c1,c1',c2,c3]))
   exact A9 (by rw [e]; rfl)
  ·have e:U3 y x = true:=by unfold U3; rw [decide_eq_true_eq]; omega
   (have z:=trivial;repeat((first|clear z|with_reducible first|apply A3|refine A4 fun _=>?_|refine A5 fun _=>?_);try simp(disch:=solve|omega|assumption|repeat(first|exact A1|exact uH|apply A2|apply uT)|(simp;try omega)|fail)[c1,c1',c2,c3]))
   exact A9 (by rw [e]; rfl)
 ·have c2':¬ (x.1:Int) = (y.1:Int):=by omega
  have e:U3 y x = true:=by unfold U3; rw [decide_eq_true_eq]; omega
  (have z:=trivial;repeat((first|clear z|with_reducible first|apply A3|refine A4 fun _=>?_|refine A5 fun _=>?_);try simp(disch:=solve|omega|assumption|repeat(first|exact A1|exact uH|apply A2|apply uT)|(simp;try omega)|fail)[c1,c1',c2,c2']))
  exact A9 (by rw [e]; rfl)
abbrev A4d (v:Value) (l:List (Nat × Int)):Res:=.own 290 2 v l.length (l.flatMap F7)
theorem M0.mono {κ:Bool} {S:List Nat} {w0:World} {H H':List Res} {v:Value} {n:Nat} {xs:List Value} (h:M0 κ S w0 H v n xs) (hs:H.Sublist H'):M0 κ S w0 H' v n xs:=fun w hw=> h w (hw.sub hs)
theorem C2p {a b:List (Nat × Int)} {i k:Nat} {x:Nat × Int} (hx:a[i]? = some x) (h:b.length ≤ k ∨ ∃ y,b[k]? = some y ∧ U3 x y = true):(a.drop i).merge (b.drop k) U3 = x :: (a.drop (i + 1)).merge (b.drop k) U3:=by
 obtain ⟨hi,e⟩:=List.getElem?_eq_some_iff.1 hx
 rw [List.drop_eq_getElem_cons hi,e]
 rcases h with h | ⟨y,hy,hle⟩
 ·rw [List.drop_of_length_le h]; simp
 ·obtain ⟨hk,e2⟩:=List.getElem?_eq_some_iff.1 hy
  rw [List.drop_eq_getElem_cons hk,e2,List.cons_merge_cons,if_pos hle]
theorem C14 {a b:List (Nat × Int)} {i k:Nat} {y:Nat × Int} (hy:b[k]? = some y) (h:a.length ≤ i ∨ ∃ x,a[i]? = some x ∧ ¬ U3 x y = true):(a.drop i).merge (b.drop k) U3 = y :: (a.drop i).merge (b.drop (k + 1)) U3:=by
 obtain ⟨hk,e⟩:=List.getElem?_eq_some_iff.1 hy
 rw [List.drop_eq_getElem_cons hk,e]
 rcases h with h | ⟨x,hx,hle⟩
 ·rw [List.drop_of_length_le h]; simp
 ·obtain ⟨hi,e2⟩:=List.getElem?_eq_some_iff.1 hx
  rw [List.drop_eq_getElem_cons hi,e2,List.cons_merge_cons,if_neg hle]
theorem C5J (w:World) (u v:Value) (a b:List (Nat × Int)) (ha:a.length ≤ 1000000) (hb:b.length ≤ 1000000) (hu:F5 w u a.length (a.flatMap F7)) (hv:F5 w v b.length (b.flatMap F7)) :
  Fn PR B8 294 #[u,v] w (Rn [] w (fun r x=> x = r) fun r=> [A4d r (a.merge b U3)]):=by
 refine A7q (TW.go (κ:=false) (S := []) ?_)
 unfold A1L
 obtain ⟨ua,uc,rfl,hur⟩:=hu.form
 obtain ⟨va,vc,rfl,hvr⟩:=hv.form
 have hel:∀ x:Nat × Int,(F7 x).length = 2:=fun _=> rfl
 have hml:(a.merge b U3).length = a.length + b.length:=List.length_merge ..
 (have z:=trivial;repeat((first|clear z|with_reducible first|apply A3|refine A4 fun _=>?_|refine A5 fun _=>?_);try simp(disch:=solve|omega|assumption|repeat(first|exact A1|exact uH|apply A2|apply uT)|(simp;try omega)|fail)[]))
 refine l7 290 2 ?_
 refine D0L (α:=Nat × Nat × List (Nat × Int) × Value) (fun s=> [A4d s.2.2.2 s.2.2.1]) (fun s=> s.1 ≤ a.length ∧ s.2.1 ≤ b.length ∧ s.2.2.1.length = s.1 + s.2.1 ∧ s.2.2.1 ++ (a.drop s.1).merge (b.drop s.2.1) U3 = a.merge b U3) (fun s=> a.length + b.length - (s.1 + s.2.1)) (0,0,[],.slice none 0 0)
  (fun s=> .int .i64 (s.1:Nat)) (fun s=> s.2.2.2) (fun s=> .int .i64 (s.2.1:Nat)) ⟨by simp,by simp,rfl,by simp⟩ ?_
 rintro ⟨i,k,out,r⟩ ⟨h1,h2,h3,h4⟩ L hL
 simp only at h1 h2 h3 h4 hL ⊢
 have hwi:IntKind.i64.wrap ((i:Int) + 1) = (i:Int) + 1:=N3 (by omega) (by omega)
 have hwk:IntKind.i64.wrap ((k:Int) + 1) = (k:Int) + 1:=N3 (by omega) (by omega)
 refine U8 (by (repeat constructor)) fun ra rc hr=> ?_
 subst hr
 have pushA:∀ x,a[i]? = some x → (b.length ≤ k ∨ ∃ y,b[k]? = some y ∧ U3 x y = true) → ∀ a' c',TW false [] w [A4d (.slice a' (out.length + 1) c') (out ++ [x])] (L (.int .i64 ((i + 1:Nat):Int)) (.slice a' (out.length + 1) c') (.int .i64 (k:Nat))):=fun x hx hc a' c' => by
  have hi:=(List.getElem?_eq_some_iff.1 hx).1
  have:=hL (i + 1,k,out ++ [x],.slice a' (out.length + 1) c') ⟨by simp only; omega,h2,by simp only [List.length_append,List.length_singleton]; omega,by simp only; rw [List.append_assoc,List.singleton_append,← C2p hx hc,h4]⟩ (by simp only; omega)
  exact this
 have pushB:∀ y,b[k]? = some y → (a.length ≤ i ∨ ∃ x,a[i]? = some x ∧ ¬ U3 x y = true) → ∀ a' c',TW false [] w [A4d (.slice a' (out.length + 1) c') (out ++ [y])] (L (.int .i64 (i:Nat)) (.slice a' (out.length + 1) c') (.int .i64 ((k + 1:Nat):Int))):=fun y hy hc a' c' => by
  have hk:=(List.getElem?_eq_some_iff.1 hy).1
  have:=hL (i,k + 1,out ++ [y],.slice a' (out.length + 1) c') ⟨h1,by simp only; omega,by simp only [List.length_append,List.length_singleton]; omega,by simp only; rw [List.append_assoc,List.singleton_append,← C14 hy hc,h4]⟩ (by simp only; omega)
  exact this
 have doA:∀ (g:Nat) (x:Nat × Int) (K:Value → WP),(∀ a' c',TW false [] w [A4d (.slice a' (out.length + 1) c') (out ++ [x])] (K (.slice a' (out.length + 1) c'))) → TW false [] w [.own 290 2 (.slice (some ⟨g,0,none⟩) 1 1) 1 (F7 x),A4d (.slice ra out.length rc) out]
   (B5 PR B8 (A8 .append #[193,193] 193 [.slice ra out.length rc,.slice (some ⟨g,0,none⟩) 1 1]) K):=fun g x K hK=> by
  refine r9 (e:=290) (k:=2) (q:=out.length) (r:=1) (xs:=out.flatMap F7) (news:=F7 x) (by (repeat constructor)) (M0.own (by (repeat constructor))) (by decide) rfl (by simp [F7]) (by simp only [maxLen]; omega) (by omega) fun a' c' => ?_
  have h:=hK a' c'
  simp only [A4d,List.length_append,List.length_singleton,List.flatMap_append,show [x].flatMap F7 = F7 x by simp] at h
  exact Sels.tw (by (repeat' constructor)) h
 by_cases ci:i < a.length
 ·have hx:=List.getElem?_eq_getElem ci
  obtain ⟨ub,uo,rfl,hurow⟩:=hur (by omega)
  have hra:=hurow.at (f:=F7) (k:=2) hel hx
  by_cases ck:k < b.length
  ·have hy:=List.getElem?_eq_getElem ck
   obtain ⟨vb,vo,rfl,hvrow⟩:=hvr (by omega)
   have hrb:=hvrow.at (f:=F7) (k:=2) hel hy
   generalize a[i] = x at *
   generalize b[k] = y at *
   rw [F7] at hra hrb
   have ck':¬ (b.length:Int) ≤ (k:Int):=by omega
   have ckN:¬ b.length ≤ k:=by omega
   have ci':(i:Int) < (a.length:Int):=by omega
   (have z:=trivial;repeat((first|clear z|with_reducible first|apply A3|refine A4 fun _=>?_|refine A5 fun _=>?_);try simp(disch:=solve|omega|assumption|repeat(first|exact A1|exact uH|apply A2|apply uT)|(simp;try omega)|fail)[ci,ci',ck,ck',ckN,hra,hrb]))
   refine B7 A7j (fun w' _=> C7H w' y x) ?_
   cases hle:U3 x y with
   | true=>
    (have zz:=trivial;repeat((first|clear zz|with_reducible first|refine A3 ?_|refine A4 fun _=>?_|refine A5 fun _=>?_|refine D5 fun _=>?_|refine E0 (hK:=fun _=>?_)|refine D6 (hK:=fun _=>?_)|refine D4 (hK:=fun _=>?_)|refine D9 (hK:=fun _=>?_)|refine D7 (hK:=fun _=>?_));try simp(disch:=first|omega|assumption|((repeat(first|exact A1|exact uH|apply A2|apply uT));first|done|fail)|(simp;first|done|omega|fail))[ci,ci',ck,ck',ckN,hra]))
    refine doA _ x _ fun a' c' => ?_
    (have z:=trivial;repeat((first|clear z|with_reducible first|apply A3|refine A4 fun _=>?_|refine A5 fun _=>?_);try simp(disch:=solve|omega|assumption|repeat(first|exact A1|exact uH|apply A2|apply uT)|(simp;try omega)|fail)[hwi]))
    exact pushA x hx (Or.inr ⟨y,hy,hle⟩) a' c'
   | false=>
    (have zz:=trivial;repeat((first|clear zz|with_reducible first|refine A3 ?_|refine A4 fun _=>?_|refine A5 fun _=>?_|refine D5 fun _=>?_|refine E0 (hK:=fun _=>?_)|refine D6 (hK:=fun _=>?_)|refine D4 (hK:=fun _=>?_)|refine D9 (hK:=fun _=>?_)|refine D7 (hK:=fun _=>?_));try simp(disch:=first|omega|assumption|((repeat(first|exact A1|exact uH|apply A2|apply uT));first|done|fail)|(simp;first|done|omega|fail))[ci,ci',ck,ck',ckN,hrb]))
    refine doA _ y _ fun a' c' => ?_
    (have z:=trivial;repeat((first|clear z|with_reducible first|apply A3|refine A4 fun _=>?_|refine A5 fun _=>?_);try simp(disch:=solve|omega|assumption|repeat(first|exact A1|exact uH|apply A2|apply uT)|(simp;try omega)|fail)[hwk]))
    exact pushB y hy (Or.inr ⟨x,hx,by rw [hle]; simp⟩) a' c'
  ·generalize a[i] = x at *
   rw [F7] at hra
   have ck':(b.length:Int) ≤ (k:Int):=by omega
   have ckN:b.length ≤ k:=by omega
   have ci':(i:Int) < (a.length:Int):=by omega
   (have zz:=trivial;repeat((first|clear zz|with_reducible first|refine A3 ?_|refine A4 fun _=>?_|refine A5 fun _=>?_|refine D5 fun _=>?_|refine E0 (hK:=fun _=>?_)|refine D6 (hK:=fun _=>?_)|refine D4 (hK:=fun _=>?_)|refine D9 (hK:=fun _=>?_)|refine D7 (hK:=fun _=>?_));try simp(disch:=first|omega|assumption|((repeat(first|exact A1|exact uH|apply A2|apply uT));first|done|fail)|(simp;first|done|omega|fail))[ci,ci',ck,ck',ckN,hra]))
   refine doA _ x _ fun a' c' => ?_
   (have z:=trivial;repeat((first|clear z|with_reducible first|apply A3|refine A4 fun _=>?_|refine A5 fun _=>?_);try simp(disch:=solve|omega|assumption|repeat(first|exact A1|exact uH|apply A2|apply uT)|(simp;try omega)|fail)[hwi]))
   exact pushA x hx (Or.inl (by omega)) a' c'
 ·by_cases ck:k < b.length
  ·have hy:=List.getElem?_eq_getElem ck
   obtain ⟨vb,vo,rfl,hvrow⟩:=hvr (by omega)
   have hrb:=hvrow.at (f:=F7) (k:=2) hel hy
   generalize b[k] = y at *
   rw [F7] at hrb
   have ck':¬ (b.length:Int) ≤ (k:Int):=by omega
   have ci':¬ (i:Int) < (a.length:Int):=by omega
   have ck2:(k:Int) < (b.length:Int):=by omega
   have ckN:¬ b.length ≤ k:=by omega
   (have zz:=trivial;repeat((first|clear zz|with_reducible first|refine A3 ?_|refine A4 fun _=>?_|refine A5 fun _=>?_|refine D5 fun _=>?_|refine E0 (hK:=fun _=>?_)|refine D6 (hK:=fun _=>?_)|refine D4 (hK:=fun _=>?_)|refine D9 (hK:=fun _=>?_)|refine D7 (hK:=fun _=>?_));try simp(disch:=first|omega|assumption|((repeat(first|exact A1|exact uH|apply A2|apply uT));first|done|fail)|(simp;first|done|omega|fail))[ci,ci',ck,ck',ckN,ck2,hrb]))
   refine doA _ y _ fun a' c' => ?_
   (have z:=trivial;repeat((first|clear z|with_reducible first|apply A3|refine A4 fun _=>?_|refine A5 fun _=>?_);try simp(disch:=solve|omega|assumption|repeat(first|exact A1|exact uH|apply A2|apply uT)|(simp;try omega)|fail)[hwk]))
   exact pushB y hy (Or.inl (by omega)) a' c'
  ·have ci':¬ (i:Int) < (a.length:Int):=by omega
   have ck2:¬ (k:Int) < (b.length:Int):=by omega
   have he:out = a.merge b U3:=by
    rw [← h4,List.drop_of_length_le (by omega),List.drop_of_length_le (by omega)]; simp
   (have z:=trivial;repeat((first|clear z|with_reducible first|apply A3|refine A4 fun _=>?_|refine A5 fun _=>?_);try simp(disch:=solve|omega|assumption|repeat(first|exact A1|exact uH|apply A2|apply uT)|(simp;try omega)|fail)[ci,ci',ck,ck2]))
   rw [← he]
   exact B1 _ rfl (by (repeat' constructor))
theorem B8j (x y z:Nat × Int) (h1:U3 x y = true) (h2:U3 y z = true):U3 x z = true:=by unfold U3 at *; rw [decide_eq_true_eq] at *; omega
theorem B86 (x y:Nat × Int):(U3 x y || U3 y x) = true:=by
 unfold U3; rw [Bool.or_eq_true,decide_eq_true_eq,decide_eq_true_eq]; omega
theorem C7y (x y:Nat × Int) (h1:U3 x y = true) (h2:U3 y x = true):x = y:=by
 unfold U3 at *; rw [decide_eq_true_eq] at *
 exact Prod.ext (by omega) (by omega)
theorem A3S (l:List (Nat × Int)):(L9 l).Pairwise fun a b=> U3 a b = true:=List.pairwise_mergeSort B8j B86 l
theorem B0z (l:List (Nat × Int)):(L9 l).Perm l:=List.mergeSort_perm l U3
theorem C2J (l m:List (Nat × Int)):(L9 l).merge (L9 m) U3 = L9 (l ++ m):=by
 refine List.Perm.eq_of_pairwise (fun a b _ _ h1 h2=> C7y a b h1 h2) (List.pairwise_merge B8j B86 _ _ (A3S l) (A3S m)) (A3S _) ?_
 exact (List.merge_perm_append U3).trans (((B0z l).append (B0z m)).trans (B0z _).symm)
theorem B5M {l:List (Nat × Int)} (h:l.length < 2):L9 l = l:=by
 match l,h with
 | [],_=> simp [L9]
 | [a],_=> simp [L9]
theorem C6J {w:World} {b o:Nat} {xs ys:List Value} (h:P3 w b o (xs ++ ys)):P3 w b o xs ∧ P3 w b (o + xs.length) ys:=by
 refine ⟨fun i hi=> ?_,fun i hi=> ?_⟩
 ·rw [h i (by simp; omega),List.getElem?_append_left hi]
 ·rw [Nat.add_assoc,h (xs.length + i) (by simp; omega),List.getElem?_append_right (by omega)]; congr 1; omega
def RdC (w:World) (v:Value) (l:List (Nat × Int)):Prop:=F5 w v l.length (l.flatMap F7) ∧ ∃ a c,v = .slice a l.length c ∧ l.length ≤ c
theorem RdC.ks {w w':World} {v:Value} {l:List (Nat × Int)} (h:RdC w v l) (hk:KS false [] w w'):RdC w' v l:=⟨h.1.ks hk (by simp),h.2⟩
theorem C6F {w:World} {H:List Res} {K:Value → WP} {v:Value} {l:List (Nat × Int)}
  (hf:∀ w',LW false [] w H w' → Fn PR B8 283 #[v] w' (Rn [] w' (fun r u=> u = if l.length < 2 then v else r) fun r=> if l.length < 2 then [] else [A4d r (L9 l)]))
  (hv:∀ w',LW false [] w H w' → F5 w' v l.length (l.flatMap F7)) (hK:∀ u H',H.Sublist H' → M0 false [] w H' u (L9 l).length ((L9 l).flatMap F7) → TW false [] w H' (K u)):TW false [] w H (B3 PR B8 283 [v] K):=by
 refine H3 A1e (fun w' hw' => hf w' hw') ?_
 rintro r _ rfl
 by_cases c:l.length < 2
 ·rw [if_pos c,if_pos c]
  exact hK v H (List.Sublist.refl _) (by rw [B5M c]; exact hv)
 ·rw [if_neg c,if_neg c]
  exact hK r _ (List.sublist_append_right _ _) (M0.own A1)
theorem C6s:∀ (n:Nat) (w:World) (v:Value) (l:List (Nat × Int)),l.length ≤ n → n ≤ 1000000 → RdC w v l →
  Fn PR B8 283 #[v] w (Rn [] w (fun r u=> u = if l.length < 2 then v else r) fun r=> if l.length < 2 then [] else [A4d r (L9 l)]):=by
 intro n
 induction n with
 | zero=>
  intro w v l hl hn hv
  obtain ⟨h1,a,c,rfl,hc⟩:=hv
  refine A2H (TW.go (κ:=false) (S := []) ?_)
  unfold q9
  have c1:(l.length:Int) < 2:=by omega
  have c1n:l.length < 2:=by omega
  (have z:=trivial;repeat((first|clear z|with_reducible first|apply A3|refine A4 fun _=>?_|refine A5 fun _=>?_);try simp(disch:=solve|omega|assumption|repeat(first|exact A1|exact uH|apply A2|apply uT)|(simp;try omega)|fail)[c1,c1n]))
  exact B1 .nilIface (by simp [c1n]) Sels.nil
 | succ n ih=>
  intro w v l hl hn hv
  obtain ⟨h1,a,c,rfl,hc⟩:=hv
  refine A2H (TW.go (κ:=false) (S := []) ?_)
  unfold q9
  by_cases c1n:l.length < 2
  ·have c1:(l.length:Int) < 2:=by omega
   (have z:=trivial;repeat((first|clear z|with_reducible first|apply A3|refine A4 fun _=>?_|refine A5 fun _=>?_);try simp(disch:=solve|omega|assumption|repeat(first|exact A1|exact uH|apply A2|apply uT)|(simp;try omega)|fail)[c1,c1n]))
   exact B1 .nilIface (by simp [c1n]) Sels.nil
  have c1:¬ (l.length:Int) < 2:=by omega
  obtain ⟨h,hh⟩:∃ h,h = l.length / 2:=⟨_,rfl⟩
  have e1:IntKind.i64.wrap ((l.length:Int).tdiv 2) = (h:Nat):=by rw [Int.tdiv_eq_ediv_of_nonneg (by omega),N3 (by omega) (by omega)]; omega
  have hrow:=h1.form
  obtain ⟨a',c',hve,hr⟩:=hrow
  cases hve
  obtain ⟨b,o,rfl,hrow⟩:=hr (by omega)
  have hlt:(l.take h).length = h:=by rw [List.length_take]; omega
  have hld:(l.drop h).length = l.length - h:=by rw [List.length_drop]
  have hsp:l.flatMap F7 = (l.take h).flatMap F7 ++ (l.drop h).flatMap F7:=by rw [← List.flatMap_append,List.take_append_drop]
  rw [hsp] at hrow
  obtain ⟨r1,r2⟩:=C6J hrow
  have hl1:((l.take h).flatMap F7).length = h * 2:=by rw [T2 (k:=2) fun _=> rfl,hlt]
  rw [hl1] at r2
  have rd1:RdC w (.slice (some ⟨b,o,none⟩) h c) (l.take h):=⟨Or.inr ⟨b,o,c,by rw [hlt],r1⟩,some ⟨b,o,none⟩,c,by rw [hlt],by omega⟩
  have rd2:RdC w (.slice (some ⟨b,o + h * 2,none⟩) (l.length - h) (c - h)) (l.drop h):=⟨Or.inr ⟨b,o + h * 2,c - h,by rw [hld],r2⟩,some ⟨b,o + h * 2,none⟩,c - h,by rw [hld],by omega⟩
  have e2:¬ c = h:=by omega
  have e3:¬ c = 0:=by omega
  have e4:(h:Int) ≤ (c:Int):=by omega
  have e5:(h:Int) ≤ (l.length:Int):=by omega
  have e6:((l.length:Int) / 2).toNat = h:=by omega
  have e7:slc (some ⟨b,o,none⟩) h l.length c 2 = .slice (some ⟨b,o + h * 2,none⟩) (l.length - h) (c - h):=by simp [slc,e2,c9]
  have e8:slc (some ⟨b,o,none⟩) 0 h c 2 = .slice (some ⟨b,o,none⟩) h c:=by simp [slc,e3,c9]
  (have z:=trivial;repeat((first|clear z|with_reducible first|apply A3|refine A4 fun _=>?_|refine A5 fun _=>?_);try simp(disch:=solve|omega|assumption|repeat(first|exact A1|exact uH|apply A2|apply uT)|(simp;try omega)|fail)[c1,Z9]))
  simp only [e6,e7,e8]
  refine C6F (l:=l.take h) (fun w' hw' => ih w' _ _ (by rw [hlt]; omega) (by omega) (rd1.ks hw'.ks)) (fun w' hw' => (rd1.ks hw'.ks).1) fun u1 H1 hs1 hu1=> ?_
  refine C6F (l:=l.drop h) (fun w' hw' => ih w' _ _ (by rw [hld]; omega) (by omega) (rd2.ks hw'.ks)) (fun w' hw' => (rd2.ks hw'.ks).1) fun u2 H2 hs2 hu2=> ?_
  refine H3 A6S (fun w' hw' => C5J w' u1 u2 (L9 (l.take h)) (L9 (l.drop h)) (by rw [j1]; omega) (by rw [j1]; omega) (hu1.mono hs2 w' hw') (hu2 w' hw')) ?_
  intro _ r hr
  subst hr
  rw [C2J,List.take_append_drop]
  refine B1 r (by simp [c1n]) ?_
  simp only [c1n,if_false]
  exact Sels.cons Sel.here Sels.nil
theorem C6l {p:List F8} {i:Nat} {b:F8} (h:p[i]? = some b):G9 (p.take (i + 1)) = G9 (p.take i) ++ A02 b:=by
 unfold G9; rw [List.take_add_one,h]; simp [List.flatMap_append]
theorem C69 {b:F8} {j:Nat} (h:j < x3 b):(A02 b).take (j + 1) = (A02 b).take j ++ [(A54 b.1 j,b.1)]:=by
 unfold A02
 rw [List.take_add_one,List.getElem?_map,List.getElem?_range h]; rfl
theorem C2v (b:F8):x3 b ≤ 128:=by unfold x3; omega
theorem B57 (b:F8):(A02 b).length = x3 b:=by simp [A02]
theorem B5p (p:List F8):(G9 p).length ≤ p.length * 128:=by
 induction p with
 | nil=> simp [G9]
 | cons b p ih=>
  unfold G9 at *
  have:=C2v b
  rw [List.flatMap_cons,List.length_append,B57,List.length_cons]; omega
theorem D1T (w:World) (v:Value) (p:List F8) (hn:p.length ≤ 1000) (hv:F5 w v p.length (p.flatMap H5)) :
  Fn PR B8 260 #[v] w (Rn [] w (fun r u=> u = r) fun r=> [A4d r (L9 (G9 p))]):=by
 refine B1S (TW.go (κ:=false) (S := []) ?_)
 unfold A3Z
 obtain ⟨a,c,rfl,hr⟩:=hv.form
 (have z:=trivial;repeat((first|clear z|with_reducible first|apply A3|refine A4 fun _=>?_|refine A5 fun _=>?_);try simp(disch:=solve|omega|assumption|repeat(first|exact A1|exact uH|apply A2|apply uT)|(simp;try omega)|fail)[]))
 refine l7 290 2 ?_
 refine P5 p.length (fun i (r:Value)=> r) (fun i r=> [A4d r (G9 (p.take i))]) (fun i r=> True) (.slice none 0 0) trivial ?_ (by simp [G9])
 rintro i r hi _ L hL
 by_cases hlt:i < p.length
 ·have hx:p[i]? = some p[i]:=List.getElem?_eq_getElem hlt
  obtain ⟨b,o,rfl,hrow⟩:=hr (by omega)
  have h1:=hrow.cellAt (f:=H5) (k:=2) (j:=0) (fun _=> rfl) hx rfl
  have h2:=hrow.cellAt (f:=H5) (k:=2) (j:=1) (fun _=> rfl) hx rfl
  have hnx:=C6l hx
  have hle:=B5p (p.take i)
  rw [List.length_take] at hle
  rw [hnx] at hL
  generalize p[i] = y at *
  have hwl:=C2v y
  have e1:IntKind.i64.wrap (8 * max 0 (min y.2 16)) = (x3 y:Int):=by unfold x3; rw [N3 (by omega) (by omega)]; omega
  (have z:=trivial;repeat((first|clear z|with_reducible first|apply A3|refine A4 fun _=>?_|refine A5 fun _=>?_);try simp(disch:=solve|omega|assumption|repeat(first|exact A1|exact uH|apply A2|apply uT)|(simp;try omega)|fail)[hlt]))
  refine P5 (x3 y) (fun j (r:Value)=> r) (fun j r=> [A4d r (G9 (p.take i) ++ (A02 y).take j)]) (fun j r=> True) r trivial ?_ (by simp)
  rintro j r2 hj _ L2 hL2
  by_cases hjl:j < x3 y
  ·have hjl':(j:Int) < (x3 y:Int):=by omega
   have hbn:=C69 hjl
   have hlj:((A02 y).take j).length = j:=by rw [List.length_take,B57]; omega
   rw [hbn,← List.append_assoc] at hL2
   refine U8 (by (repeat constructor)) fun ra rc hra=> ?_
   subst hra
   generalize hacc:G9 (p.take i) ++ (A02 y).take j = acc at *
   have hal:acc.length ≤ 200000:=by rw [← hacc,List.length_append,hlj]; omega
   (have z:=trivial;repeat((first|clear z|with_reducible first|apply A3|refine A4 fun _=>?_|refine A5 fun _=>?_);try simp(disch:=solve|omega|assumption|repeat(first|exact A1|exact uH|apply A2|apply uT)|(simp;try omega)|fail)[hlt,h1,h2,e1,hjl']))
   refine B7 A7H (fun w' _=> C62 w' y.1 j (by omega)) ?_
   (have zz:=trivial;repeat((first|clear zz|with_reducible first|refine A3 ?_|refine A4 fun _=>?_|refine A5 fun _=>?_|refine D5 fun _=>?_|refine E0 (hK:=fun _=>?_)|refine D6 (hK:=fun _=>?_)|refine D4 (hK:=fun _=>?_)|refine D9 (hK:=fun _=>?_)|refine D7 (hK:=fun _=>?_));try simp(disch:=first|omega|assumption|((repeat(first|exact A1|exact uH|apply A2|apply uT));first|done|fail)|(simp;first|done|omega|fail))[hlt,h1,h2]))
   refine r9 (e:=290) (k:=2) (q:=acc.length) (r:=1) (xs:=acc.flatMap F7) (news:=F7 (A54 y.1 j,y.1)) (by (repeat constructor)) (M0.own (by (repeat constructor))) (by decide) rfl (by simp [F7]) (by simp only [maxLen]; omega) (by omega) fun a' c' => ?_
   (have z:=trivial;repeat((first|clear z|with_reducible first|apply A3|refine A4 fun _=>?_|refine A5 fun _=>?_);try simp(disch:=solve|omega|assumption|repeat(first|exact A1|exact uH|apply A2|apply uT)|(simp;try omega)|fail)[]))
   have h:=hL2 hjl (.slice a' (acc.length + 1) c') trivial
   simp only [A4d,List.length_append,List.length_singleton,List.flatMap_append,show [(A54 y.1 j,y.1)].flatMap F7 = F7 (A54 y.1 j,y.1) by simp] at h
   exact Sels.tw (by (repeat' constructor)) h
  ·obtain rfl:j = x3 y:=by omega
   have hjl':¬ ((x3 y:Nat):Int) < (x3 y:Int):=by omega
   have htk:(A02 y).take (x3 y) = A02 y:=List.take_of_length_le (by rw [B57]; omega)
   rw [htk]
   (have z:=trivial;repeat((first|clear z|with_reducible first|apply A3|refine A4 fun _=>?_|refine A5 fun _=>?_);try simp(disch:=solve|omega|assumption|repeat(first|exact A1|exact uH|apply A2|apply uT)|(simp;try omega)|fail)[hlt,h1,h2,e1,hjl']))
   exact Sels.tw (by (repeat' constructor)) (hL hlt r2 trivial)
 ·obtain rfl:i = p.length:=by omega
  rw [List.take_length]
  have hle:=B5p p
  refine U8 (by (repeat constructor)) fun ra rc hra=> ?_
  subst hra
  refine D5Q (by (repeat constructor)) fun hcap=> ?_
  (have z:=trivial;repeat((first|clear z|with_reducible first|apply A3|refine A4 fun _=>?_|refine A5 fun _=>?_);try simp(disch:=solve|omega|assumption|repeat(first|exact A1|exact uH|apply A2|apply uT)|(simp;try omega)|fail)[]))
  refine H3 A1e (fun w' hw' => C6s (G9 p).length w' _ (G9 p) (Nat.le_refl _) (by omega) ⟨M0.own A1 w' hw',_,_,rfl,hcap⟩) ?_
  rintro r2 _ rfl
  by_cases c1:(G9 p).length < 2
  ·simp only [c1,if_true]
   rw [B5M c1]
   exact B1 _ rfl (Sels.cons Sel.here Sels.nil)
  ·simp only [c1,if_false]
   exact B1 r2 rfl (Sels.cons Sel.here Sels.nil)
theorem B2J {f:Nat → Bool} {i j r:Nat} (h0:i ≤ r) (h1:r ≤ j) (h2:∀ q,i ≤ q → q < r → f q = false) (h3:∀ q,r ≤ q → q < j → f q = true):M3 f i j = r:=by
 induction i,j using M3.induct f with
 | case1 i j hij hf ih=>
  rw [M3,if_pos hij,if_pos hf]
  have:r ≤ (i + j) / 2:=by
   apply Classical.byContradiction
   intro hc
   have:=h2 ((i + j) / 2) (by omega) (by omega)
   rw [hf] at this; cases this
  exact ih h0 this h2 fun q hq hq2=> h3 q hq (by omega)
 | case2 i j hij hf ih=>
  rw [M3,if_pos hij,if_neg hf]
  have:(i + j) / 2 < r:=by
   apply Classical.byContradiction
   intro hc
   exact hf (h3 ((i + j) / 2) (by omega) (by omega))
  exact ih (by omega) h1 (fun q hq hq2=> h2 q (by omega) hq2) h3
 | case3 i j hij=> rw [M3,if_neg hij]; omega
theorem B85 {l:List (Nat × Int)} {h q:Nat} (hq:q < l.length):geP l h q = false ↔ l[q].1 < h:=by
 unfold geP
 rw [decide_eq_false_iff_not,List.getD_eq_getElem?_getD,List.getElem?_eq_getElem hq]
 simp
theorem C8w {l:List (Nat × Int)} {h q:Nat} (hq:q < l.length):geP l h q = true ↔ h ≤ l[q].1:=by
 unfold geP
 rw [decide_eq_true_eq,List.getD_eq_getElem?_getD,List.getElem?_eq_getElem hq]
 simp
theorem C81 {l:List (Nat × Int)} {h i:Nat} (hs:l.Pairwise fun a b=> U3 a b = true) (hi:i < l.length) (hh:h ≤ l[i].1) (hp:∀ j (hj:j < i),(l[j]'(by omega)).1 < h):A3j l h = l[i].2:=by
 have e:M3 (geP l h) 0 l.length = i:=by
  refine B2J (by omega) (by omega) (fun q _ hq=> (B85 (by omega)).2 (hp q hq)) fun q hq hql=> (C8w hql).2 ?_
  by_cases c:i = q
  ·subst c; exact hh
  ·have:=List.pairwise_iff_getElem.1 hs i q hi hql (by omega)
   unfold U3 at this
   rw [decide_eq_true_eq] at this
   omega
 unfold A3j
 rw [if_neg (by omega),e,Nat.mod_eq_of_lt hi,List.getD_eq_getElem?_getD,List.getElem?_eq_getElem hi]; rfl
theorem C3x {l:List (Nat × Int)} {h:Nat} (h0:0 < l.length) (hp:∀ j (hj:j < l.length),l[j].1 < h):A3j l h = l[0].2:=by
 have e:M3 (geP l h) 0 l.length = l.length:=B2J (by omega) (Nat.le_refl _) (fun q _ hq=> (B85 hq).2 (hp q hq)) fun q hq hql=> by omega
 unfold A3j
 rw [if_neg (by omega),e,Nat.mod_self,List.getD_eq_getElem?_getD,List.getElem?_eq_getElem h0]; rfl
theorem C5x (w:World) (v:Value) (l:List (Nat × Int)) (h:Nat) (hs:l.Pairwise fun a b=> U3 a b = true) (hn:l.length ≤ 1000000) (hv:F5 w v l.length (l.flatMap F7)) :
  Fn PR B8 259 #[v,.int .u64 (h:Int)] w (fun r w' => r = .int .i64 (A3j l h) ∧ C7 [] w w'):=by
 refine Fn.pure (A89 (TW.go (κ:=false) (S := []) ?_))
 unfold A1s
 obtain ⟨a,c,rfl,hr⟩:=hv.form
 (have z:=trivial;repeat((first|clear z|with_reducible first|apply A3|refine A4 fun _=>?_|refine A5 fun _=>?_);try simp(disch:=solve|omega|assumption|repeat(first|exact A1|exact uH|apply A2|apply uT)|(simp;try omega)|fail)[]))
 refine P5 (α:=Unit) l.length (fun _ _=> .int .i64 0) (fun _ _=> []) (fun i _=> ∀ j (hj:j < l.length),j < i → l[j].1 < h) () (by intros; omega) ?_
 rintro i _ hi hpre L hL
 by_cases hlt:i < l.length
 ·have hx:l[i]? = some l[i]:=List.getElem?_eq_getElem hlt
  obtain ⟨b,o,rfl,hrow⟩:=hr (by omega)
  have h1:=hrow.cellAt (f:=F7) (k:=2) (j:=0) (fun _=> rfl) hx rfl
  have h2:=hrow.cellAt (f:=F7) (k:=2) (j:=1) (fun _=> rfl) hx rfl
  by_cases c1:h ≤ l[i].1
  ·have c1':(h:Int) ≤ (l[i].1:Int):=by omega
   (have z:=trivial;repeat((first|clear z|with_reducible first|apply A3|refine A4 fun _=>?_|refine A5 fun _=>?_);try simp(disch:=solve|omega|assumption|repeat(first|exact A1|exact uH|apply A2|apply uT)|(simp;try omega)|fail)[hlt,h1,h2,c1,c1']))
   exact A9 (by rw [C81 hs hlt c1 fun j hj=> hpre j (by omega) hj])
  ·have c1':¬ (h:Int) ≤ (l[i].1:Int):=by omega
   (have z:=trivial;repeat((first|clear z|with_reducible first|apply A3|refine A4 fun _=>?_|refine A5 fun _=>?_);try simp(disch:=solve|omega|assumption|repeat(first|exact A1|exact uH|apply A2|apply uT)|(simp;try omega)|fail)[hlt,h1,h2,c1,c1']))
   refine hL hlt () fun j hj hji=> ?_
   by_cases e:j = i
   ·subst e; omega
   ·exact hpre j hj (by omega)
 ·obtain rfl:i = l.length:=by omega
  by_cases h0:l.length = 0
  ·(have z:=trivial;repeat((first|clear z|with_reducible first|apply A3|refine A4 fun _=>?_|refine A5 fun _=>?_);try simp(disch:=solve|omega|assumption|repeat(first|exact A1|exact uH|apply A2|apply uT)|(simp;try omega)|fail)[h0]))
   exact A9 (by unfold A3j; rw [if_pos h0])
  ·have hx:l[0]? = some (l[0]'(by omega)):=List.getElem?_eq_getElem (by omega)
   obtain ⟨b,o,rfl,hrow⟩:=hr (by omega)
   have h2:=hrow.cellAt (f:=F7) (k:=2) (j:=1) (fun _=> rfl) hx rfl
   simp only [Nat.zero_mul,Nat.add_zero] at h2
   have h0':(0:Int) < (l.length:Int):=by omega
   have h0'':¬ (l.length:Int) = 0:=by omega
   (have z:=trivial;repeat((first|clear z|with_reducible first|apply A3|refine A4 fun _=>?_|refine A5 fun _=>?_);try simp(disch:=solve|omega|assumption|repeat(first|exact A1|exact uH|apply A2|apply uT)|(simp;try omega)|fail)[h0,h0',h0'',h2]))
   exact A9 (by rw [C3x (by omega) fun j hj=> hpre j hj hj])
theorem C7c (w:World) (v:Value) (p:List F8) (h:Nat) (hn:p.length ≤ 1000) (hv:F5 w v p.length (p.flatMap H5)) :
  Fn PR B8 224 #[v,.int .u64 (h:Int)] w (fun r w' => r = .int .i64 (B1L p h) ∧ C7 [] w w'):=by
 refine Fn.pure (A9g (TW.go (κ:=false) (S := []) ?_))
 unfold A2C
 refine H3 B0V (fun w' hw' => D1T w' v p hn (hv.ks hw'.ks (by simp))) ?_
 intro _ r hr
 subst hr
 have hle:=B5p p
 (have z:=trivial;repeat((first|clear z|with_reducible first|apply A3|refine A4 fun _=>?_|refine A5 fun _=>?_);try simp(disch:=solve|omega|assumption|repeat(first|exact A1|exact uH|apply A2|apply uT)|(simp;try omega)|fail)[]))
 refine B7 A7y (fun w' hw' => C5x w' r (L9 (G9 p)) h (A3S _) (by rw [j1]; omega) (M0.own A1 w' hw')) ?_
 exact A9 rfl
theorem C3b {l:List EnV} {p:List F8} {key:ByteArray} {now:Int} (h:(K6 l p key now).2 = true):0 ≤ E4 l key ∧ now ≤ (W8 l key).dl ∧ 0 ≤ Q5 p (W8 l key).bk ∧ (K6 l p key now).1 = (W8 l key).bk:=by
 unfold K6 at *
 split at h
 ·cases h
 ·rename_i c
  rw [if_neg c]
  refine ⟨by omega,by omega,by omega,rfl⟩
theorem C0B (l:List EnV) (p:List F8) (key:ByteArray) (closing:Bool) (now idle:Int) :
  ((K6 l p key now).2 = false ∧ p = [] ∧ G1 l p key closing now idle = (l,⟨11,0,false,0⟩,false)) ∨
  (¬ ((K6 l p key now).2 = false ∧ p = []) ∧ closing = true ∧ G1 l p key closing now idle = (Y3 l key,⟨0,e9 l p key now,false,0⟩,(U6 l key).isSome)) ∨
  (¬ ((K6 l p key now).2 = false ∧ p = []) ∧ closing = false ∧ E4 l key < 0 ∧ G1 l p key closing now idle = (l,⟨12,0,false,0⟩,false)) ∨
  (¬ ((K6 l p key now).2 = false ∧ p = []) ∧ closing = false ∧ ∃ u,H0 l (A9W l p key now idle) = some u ∧ G1 l p key closing now idle = (u,⟨0,e9 l p key now,!(K6 l p key now).2,0⟩,true)):=by
 unfold G1
 by_cases h:(K6 l p key now).2 = false ∧ p = []
 ·left; exact ⟨h.1,h.2,if_pos h⟩
 right
 rw [if_neg h]
 cases closing with
 | true=> left; exact ⟨h,rfl,rfl⟩
 | false=>
  right
  cases hp:H0 l (A9W l p key now idle) with
  | none=> left; exact ⟨h,rfl,C5N hp,rfl⟩
  | some u=> right; exact ⟨h,rfl,u,rfl,rfl⟩
theorem B8w (w:World) (v:Value) (l:List F8) (id:Int) (hn:l.length ≤ 1000000) (hv:F5 w v l.length (l.flatMap H5)) :
  Fn PR B8 202 #[v,.int .i64 id] w (fun r w' => r = .int .i64 (Q5 l id) ∧ C7 [] w w'):=by
 refine Fn.pure (A9H (TW.go (κ:=false) (S := []) ?_))
 unfold A1z
 obtain ⟨a,c,rfl,hr⟩:=hv.form
 (have z:=trivial;repeat((first|clear z|with_reducible first|apply A3|refine A4 fun _=>?_|refine A5 fun _=>?_);try simp(disch:=solve|omega|assumption|repeat(first|exact A1|exact uH|apply A2|apply uT)|(simp;try omega)|fail)[]))
 refine P5 (α:=Unit) l.length (fun _ _=> .int .i64 0) (fun _ _=> []) (fun i _=> ∀ j y,j < i → l[j]? = some y → decide (y.1 = id) = false) () (by intro j _ hj; omega) ?_
 rintro i _ hi hpre L hL
 by_cases hlt:i < l.length
 ·obtain ⟨b,o,rfl,hrow⟩:=hr (by omega)
  have hx:l[i]? = some l[i]:=List.getElem?_eq_getElem hlt
  have h1:=hrow.cellAt (f:=H5) (k:=2) (j:=0) (fun _=> rfl) hx rfl
  by_cases c1:l[i].1 = id
  ·(have z:=trivial;repeat((first|clear z|with_reducible first|apply A3|refine A4 fun _=>?_|refine A5 fun _=>?_);try simp(disch:=solve|omega|assumption|repeat(first|exact A1|exact uH|apply A2|apply uT)|(simp;try omega)|fail)[hlt,h1,c1]))
   exact A9 (by rw [Q5,A71 hx (by simpa using c1) hpre])
  ·(have z:=trivial;repeat((first|clear z|with_reducible first|apply A3|refine A4 fun _=>?_|refine A5 fun _=>?_);try simp(disch:=solve|omega|assumption|repeat(first|exact A1|exact uH|apply A2|apply uT)|(simp;try omega)|fail)[hlt,h1,c1]))
   refine hL hlt () fun j y hj hy=> ?_
   by_cases hji:j = i
   ·subst hji; rw [hx] at hy; cases hy; simpa using c1
   ·exact hpre j y (by omega) hy
 ·obtain rfl:i = l.length:=by omega
  (have z:=trivial;repeat((first|clear z|with_reducible first|apply A3|refine A4 fun _=>?_|refine A5 fun _=>?_);try simp(disch:=solve|omega|assumption|repeat(first|exact A1|exact uH|apply A2|apply uT)|(simp;try omega)|fail)[]))
  exact A9 (by rw [Q5,B4D fun j y hy=> hpre j y (List.getElem?_eq_some_iff.1 hy).1 hy])
theorem C49 (w:World) (key:ByteArray) (n:Int) (hk:key.size < 2 ^ 60) (hn:n < 2 ^ 63):Fn PR B8 221 #[.string key,.int .i64 n] w (fun v w' => v = .int .i64 (V1 key n:Nat) ∧ C7 [] w w'):=by
 refine Fn.pure (A7g (TW.go (κ:=false) (S := []) ?_))
 unfold A1J
 by_cases c1:n < 1
 ·(have z:=trivial;repeat((first|clear z|with_reducible first|apply A3|refine A4 fun _=>?_|refine A5 fun _=>?_);try simp(disch:=solve|omega|assumption|repeat(first|exact A1|exact uH|apply A2|apply uT)|(simp;try omega)|fail)[c1]))
  exact A9 (by simp [V1,c1])
 (have z:=trivial;repeat((first|clear z|with_reducible first|apply A3|refine A4 fun _=>?_|refine A5 fun _=>?_);try simp(disch:=solve|omega|assumption|repeat(first|exact A1|exact uH|apply A2|apply uT)|(simp;try omega)|fail)[c1]))
 refine B7 Z0 (fun w' _=> B4K w' key hk) ?_
 obtain ⟨m,rfl⟩:∃ m:Nat,n = m:=⟨n.toNat,by omega⟩
 have hl:=B0Q key
 have hm:S5 key / 4294967296 % m < m:=Nat.mod_lt _ (by omega)
 have e0:((S5 key:Nat):Int).tdiv 4294967296 = (S5 key / 4294967296:Nat):=by rw [Int.tdiv_eq_ediv_of_nonneg (by omega)]; omega
 have e1:((S5 key / 4294967296:Nat):Int).tmod m = (S5 key / 4294967296 % m:Nat):=by rw [Int.tmod_eq_emod_of_nonneg (by omega),Int.natCast_emod]
 have e2:V1 key m = S5 key / 4294967296 % m:=by simp only [V1,if_neg c1,Int.toNat_natCast]
 have hnz:¬ (m:Int) = 0:=by omega
 rw [e2]
 (have z:=trivial;repeat((first|clear z|with_reducible first|apply A3|refine A4 fun _=>?_|refine A5 fun _=>?_);try simp(disch:=solve|omega|assumption|repeat(first|exact A1|exact uH|apply A2|apply uT)|(simp;try omega)|fail)[hnz,e0,Z9,U7]))
 have e3:(((S5 key:Nat):Int) / 4294967296).tmod m = (S5 key / 4294967296 % m:Nat):=by rw [← e1]; congr 1
 rw [e3,N3 (n:=((S5 key / 4294967296 % m:Nat):Int)) (by omega) (by omega)]
 exact A9 (by simp)
abbrev B7J (w:World) (v:Value) (l:List EnV) (p:List F8) (key:ByteArray) (closing:Bool) (now idle:Int):Value → WP :=
 Rn [] w (fun r x=> x = .tuple #[if (G1 l p key closing now idle).2.2 then r else v,(G1 l p key closing now idle).2.1.val]) fun r=> if (G1 l p key closing now idle).2.2 then [H6 r (G1 l p key closing now idle).1] else []
theorem B9b (w:World) (v u:Value) (l:List EnV) (p:List F8) (key:ByteArray) (closing:Bool) (now idle:Int) (ba:Nat) (kn:Bool) (hkn:(K6 l p key now).2 = kn) (hk:key.size < 2 ^ 60) (hks:N4 l) (hn:l.length ≤ 1000000) (hp:p.length ≤ 1000) (hv:F5 w v l.length (l.flatMap F1)) (hu:F5 w u p.length (p.flatMap H5)) (R:Value → WP) (hR:R = B7J w v l p key closing now idle) :
  TW false [] w [.pt ba (.cells #[.int .i64 0,.int .i64 0,.bool false,.int .i64 0] 55)] (
  B3 PR B8 225 [(.string key)] fun t49=>
  B3 PR B8 224 [u,t49] fun t50=>
  jn (n:=2) (fun t16 t12=>
  jn (n:=1) (fun t12_1=>
  A0 PR (binOp .add 3 (.int .i64 now) (.int .i64 idle)) fun t78=>
  B3 PR B8 227 [v,(.string key),t16,t78] fun t79=>
  A0 PR (Instr.extract t79 0) fun t80=>
  A0 PR (Instr.extract t79 1) fun t81=>
  jn (n:=1) (fun t12_2=>
  A0 PR (Op.unary .not (.bool kn)) fun t90=>
  A0 PR (Instr.build 55 #[(1,t16),(2,t90)]) fun t91=>
  C1 PR B8 (Instr.storeAt 55 (.pointer (some ⟨ba,0,none⟩)) t91) <|
  A6 PR (E1 [.v t80,.c 55 (.pointer (some ⟨ba,0,none⟩))]) R) fun J1=>
  A0 PR (binOp .neq 27 t81 (.int .i64 0)) fun t83=>
  C0 t83 (
  A0 PR (Instr.build 55 #[(0,t81)]) fun t86=>
  C1 PR B8 (Instr.storeAt 55 (.pointer (some ⟨ba,0,none⟩)) t86) <|
  A6 PR (E1 [.v v,.c 55 (.pointer (some ⟨ba,0,none⟩))]) R) (
  J1 t12_1)) fun J2=>
  C0 (.bool closing) (
  B3 PR B8 226 [v,(.string key)] fun t66=>
  A0 PR (Instr.extract t66 0) fun t67=>
  A0 PR (Instr.extract t66 1) fun t68=>
  A0 PR (Instr.build 55 #[(1,t16)]) fun t71=>
  C1 PR B8 (Instr.storeAt 55 (.pointer (some ⟨ba,0,none⟩)) t71) <|
  A6 PR (E1 [.v t67,.c 55 (.pointer (some ⟨ba,0,none⟩))]) R) (
  J2 t12)) fun J3=>
  C0 (.bool kn) (
  A0 PR (Instr.indexAt 84 v (.int .i64 (E4 l key))) fun t54=>
  A0 PR (Instr.fieldAt 218 t54 2) fun t55=>
  A6 PR (Instr.loadAt 3 t55) fun t56=>
  J3 t56 (.slice none 0 0)) (
  A0 PR (A8 .len #[58] 0 [u]) fun t58=>
  A0 PR (binOp .eql 3 t58 (.int .i64 0)) fun t59=>
  C0 t59 (
  A0 PR (Instr.build 55 #[(0,(.int .i64 11))]) fun t61=>
  C1 PR B8 (Instr.storeAt 55 (.pointer (some ⟨ba,0,none⟩)) t61) <|
  A6 PR (E1 [.v v,.c 55 (.pointer (some ⟨ba,0,none⟩))]) R) (
  J3 t50 (.slice none 0 0)))):=by
 subst hR
 obtain ⟨a,c,rfl,hr⟩:=hv.form
 obtain ⟨pa,pc,rfl,_⟩:=hu.form
 refine B7 Z0 (fun w' _=> B4K w' key hk) ?_
 refine B7 A7z (fun w' hw' => C7c w' _ p _ hp (hu.ks hw'.ks (by simp))) ?_
 by_cases hne:(K6 l p key now).2 = false ∧ p = []
 ·obtain ⟨h1,hp0⟩:=hne
  have hd:G1 l p key closing now idle = (l,⟨11,0,false,0⟩,false):=by unfold G1; rw [if_pos ⟨h1,hp0⟩]
  rw [h1] at hkn
  subst hkn hp0
  simp only [B7J,hd]
  (have z:=trivial;repeat((first|clear z|with_reducible first|apply A3|refine A4 fun _=>?_|refine A5 fun _=>?_);try simp(disch:=solve|omega|assumption|repeat(first|exact A1|exact uH|apply A2|apply uT)|(simp;try omega)|fail)[]))
  exact B1 .nilIface (by simp [AnsV.val]) Sels.nil
 refine D4G (Hj := [.pt ba (.cells #[.int .i64 0,.int .i64 0,.bool false,.int .i64 0] 55)]) (.int .i64 (e9 l p key now)) (.slice none 0 0) ?_ ?_
 case refine_2=>
  intro J hJ
  cases kn with
  | true=>
   obtain ⟨k1,k2,k3,k4⟩:=C3b hkn
   have e:e9 l p key now = (W8 l key).bk:=by unfold e9; rw [hkn,if_pos rfl,k4]
   have hlt:=A0m k1
   obtain ⟨b,o,rfl,hrow⟩:=hr (by omega)
   have hx:=(A4j k1).1
   have h3:=hrow.cellAt (f:=F1) (k:=4) (j:=2) (fun _=> rfl) hx rfl
   rw [e] at hJ
   generalize E4 l key = q at *
   obtain ⟨j,rfl⟩:∃ j:Nat,q = j:=⟨q.toNat,by omega⟩
   have hlt':j < l.length:=by omega
   simp only [Int.toNat_natCast] at h3
   (have z:=trivial;repeat((first|clear z|with_reducible first|apply A3|refine A4 fun _=>?_|refine A5 fun _=>?_);try simp(disch:=solve|omega|assumption|repeat(first|exact A1|exact uH|apply A2|apply uT)|(simp;try omega)|fail)[hlt',h3]))
   exact hJ
  | false=>
   have e:e9 l p key now = B1L p (S5 key):=by unfold e9; rw [hkn]; rfl
   have hp0:¬ p = []:=fun h=> hne ⟨hkn,h⟩
   have hp1:¬ (p.length:Int) = 0:=by have:=List.length_pos_iff.2 hp0; omega
   rw [e] at hJ
   (have z:=trivial;repeat((first|clear z|with_reducible first|apply A3|refine A4 fun _=>?_|refine A5 fun _=>?_);try simp(disch:=solve|omega|assumption|repeat(first|exact A1|exact uH|apply A2|apply uT)|(simp;try omega)|fail)[hp0,hp1]))
   exact hJ
 rcases C0B l p key closing now idle with ⟨h1,hp0,hd⟩ | ⟨_,rfl,hd⟩ | ⟨_,rfl,hf0,hd⟩ | ⟨_,rfl,q,hpu,hd⟩
 ·exact absurd ⟨h1,hp0⟩ hne
 ·simp only [B7J,hd]
  (have z:=trivial;repeat((first|clear z|with_reducible first|apply A3|refine A4 fun _=>?_|refine A5 fun _=>?_);try simp(disch:=solve|omega|assumption|repeat(first|exact A1|exact uH|apply A2|apply uT)|(simp;try omega)|fail)[]))
  refine H3 A52 (fun w' hw' => C2L w' _ l key hk hks hn (hv.ks hw'.ks (by simp))) ?_
  rintro r _ rfl
  cases h2:(U6 l key).isSome with
  | true=>
   (have z:=trivial;repeat((first|clear z|with_reducible first|apply A3|refine A4 fun _=>?_|refine A5 fun _=>?_);try simp(disch:=solve|omega|assumption|repeat(first|exact A1|exact uH|apply A2|apply uT)|(simp;try omega)|fail)[]))
   exact B1 r (by simp [AnsV.val]) (by (repeat' constructor))
  | false=>
   (have z:=trivial;repeat((first|clear z|with_reducible first|apply A3|refine A4 fun _=>?_|refine A5 fun _=>?_);try simp(disch:=solve|omega|assumption|repeat(first|exact A1|exact uH|apply A2|apply uT)|(simp;try omega)|fail)[]))
   exact B1 r (by simp [AnsV.val]) Sels.nil
 ·simp only [B7J,hd]
  have hpn:H0 l (A9W l p key now idle) = none:=by
   cases hq:H0 l (A9W l p key now idle) with
   | none=> rfl
   | some u=>
    have:G1 l p key false now idle = (u,⟨0,e9 l p key now,!(K6 l p key now).2,0⟩,true):=by unfold G1; rw [if_neg hne,hq]; rfl
    rw [this] at hd; cases hd
  have hpn':H0 l ⟨1,key,e9 l p key now,IntKind.i64.wrap (now + idle)⟩ = none:=hpn
  (have z:=trivial;repeat((first|clear z|with_reducible first|apply A3|refine A4 fun _=>?_|refine A5 fun _=>?_);try simp(disch:=solve|omega|assumption|repeat(first|exact A1|exact uH|apply A2|apply uT)|(simp;try omega)|fail)[]))
  refine H3 q8 (fun w' hw' => B5T w' _ l key (e9 l p key now) (IntKind.i64.wrap (now + idle)) hk hn (hv.ks hw'.ks (by simp))) ?_
  rintro r _ rfl
  simp only [hpn']
  (have z:=trivial;repeat((first|clear z|with_reducible first|apply A3|refine A4 fun _=>?_|refine A5 fun _=>?_);try simp(disch:=solve|omega|assumption|repeat(first|exact A1|exact uH|apply A2|apply uT)|(simp;try omega)|fail)[]))
  exact B1 r (by simp [AnsV.val]) Sels.nil
 ·simp only [B7J,hd]
  have hpn':H0 l ⟨1,key,e9 l p key now,IntKind.i64.wrap (now + idle)⟩ = some q:=hpu
  (have z:=trivial;repeat((first|clear z|with_reducible first|apply A3|refine A4 fun _=>?_|refine A5 fun _=>?_);try simp(disch:=solve|omega|assumption|repeat(first|exact A1|exact uH|apply A2|apply uT)|(simp;try omega)|fail)[]))
  refine H3 q8 (fun w' hw' => B5T w' _ l key (e9 l p key now) (IntKind.i64.wrap (now + idle)) hk hn (hv.ks hw'.ks (by simp))) ?_
  rintro r _ rfl
  simp only [hpn']
  (have z:=trivial;repeat((first|clear z|with_reducible first|apply A3|refine A4 fun _=>?_|refine A5 fun _=>?_);try simp(disch:=solve|omega|assumption|repeat(first|exact A1|exact uH|apply A2|apply uT)|(simp;try omega)|fail)[]))
  exact B1 r (by simp [AnsV.val,hkn]) (by (repeat' constructor))
theorem C2k (w:World) (v u:Value) (l:List EnV) (p:List F8) (key:ByteArray) (closing:Bool) (now idle:Int) (hk:key.size < 2 ^ 60) (hks:N4 l) (hn:l.length ≤ 1000000) (hp:p.length ≤ 1000) (hv:F5 w v l.length (l.flatMap F1)) (hu:F5 w u p.length (p.flatMap H5)) :
  Fn PR B8 165 #[v,u,.string key,.bool closing,.int .i64 now,.int .i64 idle] w
   (Rn [] w (fun r x=> x = .tuple #[if (G1 l p key closing now idle).2.2 then r else v,(G1 l p key closing now idle).2.1.val]) fun r=> if (G1 l p key closing now idle).2.2 then [H6 r (G1 l p key closing now idle).1] else []):=by
 refine A6w (TW.go (κ:=false) (S := []) ?_)
 unfold A0x
 obtain ⟨a,c,rfl,hr⟩:=hv.form
 obtain ⟨pa,pc,rfl,_⟩:=hu.form
 (have z:=trivial;repeat((first|clear z|with_reducible first|apply A3|refine A4 fun _=>?_|refine A5 fun _=>?_);try simp(disch:=solve|omega|assumption|repeat(first|exact A1|exact uH|apply A2|apply uT)|(simp;try omega)|fail)[]))
 rename_i ba
 refine B7 Y6 (fun w' hw' => A8E w' _ l key hk hn (hv.ks hw'.ks (by simp))) ?_
 have tail:=fun kn hkn=> B9b w (.slice a l.length c) (.slice pa p.length pc) l p key closing now idle ba kn hkn hk hks hn hp hv hu _ rfl
 by_cases c1:E4 l key < 0
 ·have hkn:(K6 l p key now).2 = false:=B7Z c1
  have c1':¬ 0 ≤ E4 l key:=by omega
  (have z:=trivial;repeat((first|clear z|with_reducible first|apply A3|refine A4 fun _=>?_|refine A5 fun _=>?_);try simp(disch:=solve|omega|assumption|repeat(first|exact A1|exact uH|apply A2|apply uT)|(simp;try omega)|fail)[c1,c1']))
  exact tail false hkn
 have k1:0 ≤ E4 l key:=by omega
 have hlt:=A0m k1
 obtain ⟨b,o,rfl,hrow⟩:=hr (by omega)
 have hx:=(A4j k1).1
 have h2:=hrow.cellAt (f:=F1) (k:=4) (j:=2) (fun _=> rfl) hx rfl
 have h3:=hrow.cellAt (f:=F1) (k:=4) (j:=3) (fun _=> rfl) hx rfl
 obtain ⟨j,hj⟩:∃ j:Nat,E4 l key = j:=⟨(E4 l key).toNat,by omega⟩
 rw [hj] at k1 hlt h2 h3
 rw [hj] at tail
 simp only [Int.toNat_natCast] at h2 h3 hlt
 rw [hj]
 have hkv:(K6 l p key now).2 = !(decide ((W8 l key).dl < now) || decide (Q5 p (W8 l key).bk < 0)):=by
  unfold K6
  by_cases d1:(W8 l key).dl < now
  ·rw [if_pos (Or.inr (Or.inl d1))]; simp [d1]
  ·by_cases d2:Q5 p (W8 l key).bk < 0
   ·rw [if_pos (Or.inr (Or.inr d2))]; simp [d2]
   ·rw [if_neg (by omega)]; simp [d1,d2]
 by_cases c2:now ≤ (W8 l key).dl
 ·have d1:¬ (W8 l key).dl < now:=by omega
  (have z:=trivial;repeat((first|clear z|with_reducible first|apply A3|refine A4 fun _=>?_|refine A5 fun _=>?_);try simp(disch:=solve|omega|assumption|repeat(first|exact A1|exact uH|apply A2|apply uT)|(simp;try omega)|fail)[k1,hlt,h2,h3,c2]))
  refine B7 A1M (fun w' hw' => B8w w' _ p _ (by omega) (hu.ks hw'.ks (by simp))) ?_
  by_cases c3:0 ≤ Q5 p (W8 l key).bk
  ·have d2:¬ Q5 p (W8 l key).bk < 0:=by omega
   (have z:=trivial;repeat((first|clear z|with_reducible first|apply A3|refine A4 fun _=>?_|refine A5 fun _=>?_);try simp(disch:=solve|omega|assumption|repeat(first|exact A1|exact uH|apply A2|apply uT)|(simp;try omega)|fail)[k1,hlt,h2,h3,c2,c3]))
   exact tail true (by rw [hkv]; simp [d1,d2])
  ·have d2:Q5 p (W8 l key).bk < 0:=by omega
   (have z:=trivial;repeat((first|clear z|with_reducible first|apply A3|refine A4 fun _=>?_|refine A5 fun _=>?_);try simp(disch:=solve|omega|assumption|repeat(first|exact A1|exact uH|apply A2|apply uT)|(simp;try omega)|fail)[k1,hlt,h2,h3,c2,c3]))
   exact tail false (by rw [hkv]; simp [d2])
 ·have d1:(W8 l key).dl < now:=by omega
  (have z:=trivial;repeat((first|clear z|with_reducible first|apply A3|refine A4 fun _=>?_|refine A5 fun _=>?_);try simp(disch:=solve|omega|assumption|repeat(first|exact A1|exact uH|apply A2|apply uT)|(simp;try omega)|fail)[k1,hlt,h2,h3,c2]))
  exact tail false (by rw [hkv]; simp [d1])
section
open Instr
variable {X:Nat → Prop} {t0 t1 t2 t3 t4 t5 t6 t7:Value} {R:Value → WP} {w:World}
def A1j (X:Nat → Prop) (a:Value) (R:Value → WP):WP :=
 B5 PR X (alloc 47 true (.tuple #[])) fun b=>
 jn (n:=1) (fun d=>
 B3 PR X 253 [a] fun e=>
 B5 PR X (alloc 384 true (.tuple #[])) fun f=>
 C1 PR X (storeAt 384 f e) <|
 jn (n:=1) (fun g=>
 A0 PR (fieldAt 384 f 3) fun h=>
 A6 PR (loadAt 3 h) fun i=>
 A0 PR (fieldAt 384 f 2) fun j=>
 A6 PR (loadAt 9 j) fun k=>
 B3 PR X 254 [i,k] fun l=>
 A0 PR (extract l 0) fun m=>
 A0 PR (extract l 1) fun o=>
 B5 PR X (alloc 386 true (.tuple #[])) fun p=>
 C1 PR X (storeAt 386 p m) <|
 jn (n:=1) (fun q=>
 drw <|
 A0 PR (index 9 a (.int .i64 0)) fun r=>
 A0 PR (binOp .quo 5 r (.int .u8 16)) fun s=>
 A0 PR (convert 5 3 s) fun t=>
 A0 PR (fieldAt 384 f 0) fun u=>
 A6 PR (loadAt 9 u) fun w=>
 A0 PR (fieldAt 384 f 1) fun x=>
 A6 PR (loadAt 9 x) fun y=>
 A0 PR (fieldAt 386 p 0) fun z=>
 A6 PR (loadAt 3 z) fun aa=>
 A0 PR (fieldAt 386 p 1) fun ab=>
 A6 PR (loadAt 3 ab) fun ac=>
 A0 PR (fieldAt 384 f 3) fun ad=>
 A6 PR (loadAt 3 ad) fun ae=>
 A0 PR (build 45 #[(0,t),(1,w),(2,y),(3,aa),(4,ac),(5,ae)]) fun af=>
 B5 PR X (alloc 45 true (.tuple #[])) fun ag=>
 watch PR [(none,(loadAt 3 ad),ae),(none,(loadAt 3 ab),ac),(none,(loadAt 3 z),aa),(none,(loadAt 9 x),y),(none,(loadAt 9 u),w)] <|
 C1 PR X (storeAt 45 ag af) <|
 A6 PR (loadAt 45 ag) fun ah=>
 A0 PR (fieldAt 386 p 2) fun ai=>
 A6 PR (loadAt 3 ai) fun aj=>
 A0 PR (build 47 #[(0,ah),(1,aj)]) fun ak=>
 C1 PR X (storeAt 47 b ak) <|
 A6 PR (E1 [.c 47 b,.v (.int .i64 0)]) R) fun J1=>
 A0 PR (binOp .neq 27 o (.int .i64 0)) fun al=>
 C0 al (
 A0 PR (build 47 #[]) fun am=>
 C1 PR X (storeAt 47 b am) <|
 A6 PR (E1 [.c 47 b,.v o]) R) (
 J1 g)) fun J2=>
 A0 PR (fieldAt 384 f 4) fun an=>
 A6 PR (loadAt 27 an) fun ao=>
 A0 PR (binOp .neq 27 ao (.int .i64 0)) fun ap=>
 C0 ap (
 drw <|
 A0 PR (build 47 #[]) fun aq=>
 A0 PR (fieldAt 384 f 4) fun ar=>
 A6 PR (loadAt 27 ar) fun au=>
 C1 PR X (storeAt 47 b aq) <|
 watch PR [(none,(loadAt 27 ar),au)] <|
 A6 PR (E1 [.c 47 b,.v au]) R) (
 J2 d)) fun J3=>
 A0 PR (A8 .len #[9] 0 [a]) fun av=>
 A0 PR (binOp .eql 3 av (.int .i64 0)) fun aw=>
 C0 aw (
 A0 PR (build 47 #[]) fun ax=>
 C1 PR X (storeAt 47 b ax) <|
 A6 PR (E1 [.c 47 b,.v (.int .i64 2)]) R) (
 J3 (.int .i64 0))
theorem A6v:B0 PR 219:=A7 Tryz.func219 (by kernel_rfl) rfl
theorem A7F (h:A1j X t0 R w):Fn PR X 219 #[t0] w R:=C4 (args := [t0]) mixed Tryz.func219 (by kernel_rfl) h
def A1U (X:Nat → Prop) (a:Value) (R:Value → WP):WP :=
 B5 PR X (box 45 a) fun b=>
 jn (n:=2) (fun c d=>
 drw <|
 A0 PR (fieldAt 45 b 0) fun e=>
 A6 PR (loadAt 3 e) fun f=>
 A0 PR (convert 3 89 f) fun g=>
 A0 PR (fieldAt 45 b 5) fun h=>
 A6 PR (loadAt 3 h) fun i=>
 A0 PR (convert 3 89 i) fun j=>
 B3 PR X 256 [g,(.int .i64 1)] fun k=>
 watch PR [(none,(loadAt 3 h),i)] <|
 B3 PR X 256 [j,(.int .i64 1)] fun l=>
 A0 PR (binOp .add 9 k l) fun m=>
 drw <|
 A0 PR (fieldAt 45 b 3) fun o=>
 A6 PR (loadAt 3 o) fun p=>
 A0 PR (convert 3 89 p) fun q=>
 A0 PR (fieldAt 45 b 4) fun r=>
 A6 PR (loadAt 3 r) fun s=>
 A0 PR (convert 3 89 s) fun t=>
 B3 PR X 256 [q,(.int .i64 2)] fun u=>
 watch PR [(none,(loadAt 3 r),s)] <|
 B3 PR X 256 [t,(.int .i64 2)] fun v=>
 A0 PR (binOp .add 9 u v) fun w=>
 drw <|
 A0 PR (binOp .add 9 m w) fun x=>
 A0 PR (fieldAt 45 b 1) fun y=>
 A6 PR (loadAt 9 y) fun z=>
 A0 PR (fieldAt 45 b 2) fun aa=>
 A6 PR (loadAt 9 aa) fun ab=>
 B3 PR X 257 [z] fun ac=>
 watch PR [(none,(loadAt 9 aa),ab)] <|
 A0 PR (binOp .add 9 x ac) fun ad=>
 B3 PR X 257 [ab] fun ae=>
 A0 PR (binOp .add 9 ad ae) fun af=>
 R (.tuple #[af,(.bool true)])) fun J1=>
 A6 PR (loadAt 45 b) fun ag=>
 B3 PR X 255 [ag] fun ah=>
 A0 PR (Op.unary .not ah) fun ai=>
 C0 ai (
 R (.tuple #[(.string (ByteArray.mk #[])),(.bool false)])) (
 J1 (.string (ByteArray.mk #[])) (.bool false))
theorem A6Q:B0 PR 220:=A7 Tryz.func220 (by kernel_rfl) rfl
theorem A7L (h:A1U X t0 R w):Fn PR X 220 #[t0] w R:=C4 (args := [t0]) mixed Tryz.func220 (by kernel_rfl) h
def A0f (X:Nat → Prop) (a:Value) (R:Value → WP):WP :=
 B5 PR X (box 47 a) fun b=>
 A0 PR (fieldAt 47 b 0) fun c=>
 A0 PR (fieldAt 45 c 5) fun d=>
 A6 PR (loadAt 3 d) fun e=>
 A0 PR (binOp .eql 3 e (.int .i64 6)) fun f=>
 gj f true (fun J=> A0 PR (fieldAt 47 b 1) J) fun g=>
 gj f true (fun J=> A6 PR (loadAt 3 g) J) fun h=>
 gj f true (fun J=> A0 PR (binOp .and 3 h (.int .i64 1)) J) fun i=>
 gj f true (fun J=> A0 PR (binOp .eql 3 i (.int .i64 1)) J) fun j=>
 gj f true (fun J=> J j) fun k=>
 gj k false (fun J=> A0 PR (fieldAt 47 b 1) J) fun l=>
 gj k false (fun J=> A6 PR (loadAt 3 l) J) fun m=>
 gj k false (fun J=> A0 PR (binOp .and 3 m (.int .i64 4)) J) fun n=>
 gj k false (fun J=> A0 PR (binOp .eql 3 n (.int .i64 4)) J) fun o=>
 gj f true (fun J=> A0 PR (do pure (if ← asBool k then (.bool true) else o)) J) fun p=>
 A0 PR (do pure (if ← asBool f then p else (.bool false))) fun q=>
 R q
theorem A5P:B0 PR 222:=A7 Tryz.func222 (by kernel_rfl) rfl
theorem A5q (h:A0f X t0 R w):Fn PR X 222 #[t0] w R:=C4 (args := [t0]) mixed Tryz.func222 (by kernel_rfl) h
def A2W (X:Nat → Prop) (a:Value) (R:Value → WP):WP :=
 B5 PR X (alloc 384 true (.tuple #[])) fun b=>
 jn (n:=0) (
 jn (n:=0) (
 A0 PR (build 384 #[(4,(.int .i64 3))]) fun d=>
 C1 PR X (storeAt 384 b d) <|
 A6 PR (E1 [.c 384 b]) R) fun J1=>
 A0 PR (index 9 a (.int .i64 0)) fun e=>
 A0 PR (binOp .quo 5 e (.int .u8 16)) fun f=>
 A0 PR (binOp .eql 5 f (.int .u8 6)) fun g=>
 C0 g (
 B3 PR X 280 [a] fun h=>
 A0 PR (extract h 0) fun i=>
 A0 PR (extract h 1) fun j=>
 A0 PR (extract h 2) fun k=>
 B5 PR X (alloc 412 true (.tuple #[])) fun l=>
 C1 PR X (storeAt 412 l i) <|
 A0 PR (fieldAt 412 l 0) fun m=>
 A6 PR (loadAt 9 m) fun o=>
 A0 PR (fieldAt 412 l 1) fun p=>
 A6 PR (loadAt 9 p) fun q=>
 A0 PR (fieldAt 412 l 2) fun r=>
 A6 PR (loadAt 3 r) fun s=>
 A0 PR (build 384 #[(0,o),(1,q),(2,j),(3,s),(4,k)]) fun t=>
 C1 PR X (storeAt 384 b t) <|
 A6 PR (E1 [.c 384 b]) R) (
 J1)) fun J2=>
 A0 PR (index 9 a (.int .i64 0)) fun u=>
 A0 PR (binOp .quo 5 u (.int .u8 16)) fun v=>
 A0 PR (binOp .eql 5 v (.int .u8 4)) fun w=>
 C0 w (
 B3 PR X 279 [a] fun x=>
 A0 PR (extract x 0) fun y=>
 A0 PR (extract x 1) fun z=>
 A0 PR (extract x 2) fun aa=>
 B5 PR X (alloc 409 true (.tuple #[])) fun ab=>
 C1 PR X (storeAt 409 ab y) <|
 A0 PR (fieldAt 409 ab 0) fun ac=>
 A6 PR (loadAt 9 ac) fun ad=>
 A0 PR (fieldAt 409 ab 1) fun ae=>
 A6 PR (loadAt 9 ae) fun af=>
 A0 PR (fieldAt 409 ab 2) fun ag=>
 A6 PR (loadAt 3 ag) fun ah=>
 A0 PR (build 384 #[(0,ad),(1,af),(2,z),(3,ah),(4,aa)]) fun ai=>
 C1 PR X (storeAt 384 b ai) <|
 A6 PR (E1 [.c 384 b]) R) (
 J2)
theorem A7s:B0 PR 253:=A7 Tryz.func253 (by kernel_rfl) rfl
theorem A8u (h:A2W X t0 R w):Fn PR X 253 #[t0] w R:=C4 (args := [t0]) mixed Tryz.func253 (by kernel_rfl) h
def A1g (X:Nat → Prop) (a:Value) (R:Value → WP):WP :=
 B5 PR X (box 45 a) fun b=>
 A0 PR (fieldAt 45 b 0) fun c=>
 A6 PR (loadAt 3 c) fun d=>
 A0 PR (binOp .eql 3 d (.int .i64 4)) fun e=>
 gj e true (fun J=> A0 PR (fieldAt 45 b 1) J) fun f=>
 gj e true (fun J=> A6 PR (loadAt 9 f) J) fun g=>
 gj e true (fun J=> A0 PR (A8 .len #[9] 0 [g]) J) fun h=>
 gj e true (fun J=> A0 PR (binOp .eql 3 h (.int .i64 4)) J) fun i=>
 A0 PR (do pure (if ← asBool e then i else (.bool false))) fun j=>
 gj j true (fun J=> A0 PR (fieldAt 45 b 2) J) fun k=>
 gj j true (fun J=> A6 PR (loadAt 9 k) J) fun l=>
 gj j true (fun J=> A0 PR (A8 .len #[9] 0 [l]) J) fun m=>
 gj j true (fun J=> A0 PR (binOp .eql 3 m (.int .i64 4)) J) fun n=>
 A0 PR (do pure (if ← asBool j then n else (.bool false))) fun o=>
 A0 PR (fieldAt 45 b 0) fun p=>
 A6 PR (loadAt 3 p) fun q=>
 A0 PR (binOp .eql 3 q (.int .i64 6)) fun r=>
 gj r true (fun J=> A0 PR (fieldAt 45 b 1) J) fun s=>
 gj r true (fun J=> A6 PR (loadAt 9 s) J) fun t=>
 gj r true (fun J=> A0 PR (A8 .len #[9] 0 [t]) J) fun u=>
 gj r true (fun J=> A0 PR (binOp .eql 3 u (.int .i64 16)) J) fun v=>
 A0 PR (do pure (if ← asBool r then v else (.bool false))) fun w=>
 gj w true (fun J=> A0 PR (fieldAt 45 b 2) J) fun x=>
 gj w true (fun J=> A6 PR (loadAt 9 x) J) fun y=>
 gj w true (fun J=> A0 PR (A8 .len #[9] 0 [y]) J) fun z=>
 gj w true (fun J=> A0 PR (binOp .eql 3 z (.int .i64 16)) J) fun aa=>
 A0 PR (do pure (if ← asBool w then aa else (.bool false))) fun ab=>
 A0 PR (fieldAt 45 b 3) fun ac=>
 A6 PR (loadAt 3 ac) fun ad=>
 A0 PR (binOp .geq 3 ad (.int .i64 0)) fun ae=>
 gj ae true (fun J=> A0 PR (fieldAt 45 b 3) J) fun af=>
 gj ae true (fun J=> A6 PR (loadAt 3 af) J) fun ag=>
 gj ae true (fun J=> A0 PR (binOp .leq 3 ag (.int .i64 65535)) J) fun ah=>
 A0 PR (do pure (if ← asBool ae then ah else (.bool false))) fun ai=>
 gj ai true (fun J=> A0 PR (fieldAt 45 b 4) J) fun aj=>
 gj ai true (fun J=> A6 PR (loadAt 3 aj) J) fun ak=>
 gj ai true (fun J=> A0 PR (binOp .geq 3 ak (.int .i64 0)) J) fun al=>
 A0 PR (do pure (if ← asBool ai then al else (.bool false))) fun am=>
 gj am true (fun J=> A0 PR (fieldAt 45 b 4) J) fun an=>
 gj am true (fun J=> A6 PR (loadAt 3 an) J) fun ao=>
 gj am true (fun J=> A0 PR (binOp .leq 3 ao (.int .i64 65535)) J) fun ap=>
 A0 PR (do pure (if ← asBool am then ap else (.bool false))) fun aq=>
 gj o false (fun J=> J ab) fun ar=>
 A0 PR (do pure (if ← asBool o then (.bool true) else ar)) fun au=>
 gj au true (fun J=> J aq) fun av=>
 A0 PR (do pure (if ← asBool au then av else (.bool false))) fun aw=>
 gj aw true (fun J=> A0 PR (fieldAt 45 b 5) J) fun ax=>
 gj aw true (fun J=> A6 PR (loadAt 3 ax) J) fun ay=>
 gj aw true (fun J=> A0 PR (binOp .eql 3 ay (.int .i64 6)) J) fun az=>
 gj aw true (fun J=> J az) fun a0=>
 gj a0 false (fun J=> A0 PR (fieldAt 45 b 5) J) fun a1=>
 gj a0 false (fun J=> A6 PR (loadAt 3 a1) J) fun a2=>
 gj a0 false (fun J=> A0 PR (binOp .eql 3 a2 (.int .i64 17)) J) fun a3=>
 gj aw true (fun J=> A0 PR (do pure (if ← asBool a0 then (.bool true) else a3)) J) fun a4=>
 A0 PR (do pure (if ← asBool aw then a4 else (.bool false))) fun a5=>
 R a5
theorem A6F:B0 PR 255:=A7 Tryz.func255 (by kernel_rfl) rfl
theorem A7p (h:A1g X t0 R w):Fn PR X 255 #[t0] w R:=C4 (args := [t0]) mixed Tryz.func255 (by kernel_rfl) h
def A2N (X:Nat → Prop) (a:Value) (R:Value → WP):WP :=
 jn (n:=1) (fun b=>
 R b) fun J1=>
 lp (n:=1) (fun L2 c=>
 jn (n:=0) (
 A0 PR (binOp .add 9 c (.string (ByteArray.mk #[0]))) fun d=>
 L2 d) fun J3=>
 A0 PR (A8 .len #[9] 0 [c]) fun e=>
 A0 PR (binOp .lss 3 e (.int .i64 16)) fun f=>
 C0 f (
 J3) (
 J1 c)) a
theorem A1V:B0 PR 257:=A7 Tryz.func257 (by kernel_rfl) rfl
theorem A9d (h:A2N X t0 R w):Fn PR X 257 #[t0] w R:=C4 (args := [t0]) mixed Tryz.func257 (by kernel_rfl) h
def A1l (X:Nat → Prop) (a:Value) (R:Value → WP):WP :=
 B5 PR X (alloc 412 true (.tuple #[])) fun b=>
 jn (n:=2) (fun d e=>
 jn (n:=2) (fun f g=>
 B3 PR X 281 [a,(.int .i64 4)] fun h=>
 jn (n:=2) (fun i j=>
 drw <|
 A0 PR (sliceAt 9 a (some (.int .i64 8)) (some (.int .i64 24)) none) fun k=>
 A0 PR (sliceAt 9 a (some (.int .i64 24)) (some (.int .i64 40)) none) fun l=>
 A0 PR (index 9 a (.int .i64 6)) fun m=>
 A0 PR (convert 5 3 m) fun o=>
 A0 PR (build 412 #[(0,k),(1,l),(2,o)]) fun p=>
 A0 PR (binOp .add 3 (.int .i64 40) h) fun q=>
 A0 PR (sliceAt 9 a (some (.int .i64 40)) (some q) none) fun r=>
 C1 PR X (storeAt 412 b p) <|
 A6 PR (E1 [.c 412 b,.v r,.v (.int .i64 0)]) R) fun J1=>
 A0 PR (A8 .len #[9] 0 [a]) fun s=>
 A0 PR (binOp .sub 3 s (.int .i64 40)) fun t=>
 A0 PR (binOp .gtr 3 h t) fun u=>
 C0 u (
 A0 PR (build 412 #[]) fun w=>
 C1 PR X (storeAt 412 b w) <|
 A6 PR (E1 [.c 412 b,.v (.string (ByteArray.mk #[])),.v (.int .i64 4)]) R) (
 J1 f g)) fun J2=>
 A0 PR (index 9 a (.int .i64 0)) fun x=>
 A0 PR (binOp .quo 5 x (.int .u8 16)) fun y=>
 A0 PR (binOp .neq 5 y (.int .u8 6)) fun z=>
 C0 z (
 A0 PR (build 412 #[]) fun aa=>
 C1 PR X (storeAt 412 b aa) <|
 A6 PR (E1 [.c 412 b,.v (.string (ByteArray.mk #[])),.v (.int .i64 3)]) R) (
 J2 d e)) fun J3=>
 A0 PR (A8 .len #[9] 0 [a]) fun ab=>
 A0 PR (binOp .lss 3 ab (.int .i64 40)) fun ac=>
 C0 ac (
 A0 PR (build 412 #[]) fun ad=>
 C1 PR X (storeAt 412 b ad) <|
 A6 PR (E1 [.c 412 b,.v (.string (ByteArray.mk #[])),.v (.int .i64 2)]) R) (
 J3 (.string (ByteArray.mk #[])) (.int .i64 0))
theorem A6T:B0 PR 280:=A7 Tryz.func280 (by kernel_rfl) rfl
theorem A7U (h:A1l X t0 R w):Fn PR X 280 #[t0] w R:=C4 (args := [t0]) mixed Tryz.func280 (by kernel_rfl) h
def A1a (X:Nat → Prop) (a b:Value) (R:Value → WP):WP :=
 B5 PR X (alloc 386 true (.tuple #[])) fun d=>
 jn (n:=1) (fun e=>
 jn (n:=1) (fun f=>
 B3 PR X 281 [b,(.int .i64 0)] fun g=>
 B3 PR X 281 [b,(.int .i64 2)] fun h=>
 A0 PR (build 386 #[(0,g),(1,h)]) fun i=>
 B5 PR X (alloc 386 true (.tuple #[])) fun j=>
 C1 PR X (storeAt 386 j i) <|
 jn (n:=1) (fun k=>
 A0 PR (index 9 b (.int .i64 12)) fun l=>
 A0 PR (binOp .quo 5 l (.int .u8 16)) fun m=>
 A0 PR (convert 5 3 m) fun o=>
 A0 PR (binOp .mul 3 o (.int .i64 4)) fun p=>
 jn (n:=1) (fun q=>
 A0 PR (index 9 b (.int .i64 13)) fun r=>
 A0 PR (convert 5 3 r) fun s=>
 A0 PR (fieldAt 386 j 2) fun t=>
 C1 PR X (storeAt 3 t s) <|
 A6 PR (loadAt 386 j) fun u=>
 C1 PR X (storeAt 386 d u) <|
 A6 PR (E1 [.c 386 d,.v (.int .i64 0)]) R) fun J1=>
 A0 PR (binOp .lss 3 p (.int .i64 20)) fun w=>
 gj w false (fun J=> J p) fun x=>
 gj w false (fun J=> J b) fun y=>
 gj w false (fun J=> A0 PR (A8 .len #[9] 0 [y]) J) fun z=>
 gj w false (fun J=> A0 PR (binOp .gtr 3 x z) J) fun aa=>
 A0 PR (do pure (if ← asBool w then (.bool true) else aa)) fun ab=>
 C0 ab (
 A0 PR (build 386 #[]) fun ac=>
 C1 PR X (storeAt 386 d ac) <|
 A6 PR (E1 [.c 386 d,.v (.int .i64 8)]) R) (
 J1 k)) fun J2=>
 A0 PR (binOp .eql 3 a (.int .i64 17)) fun ad=>
 C0 ad (
 B3 PR X 281 [b,(.int .i64 4)] fun ae=>
 jn (n:=1) (fun af=>
 A6 PR (loadAt 386 j) fun ag=>
 C1 PR X (storeAt 386 d ag) <|
 A6 PR (E1 [.c 386 d,.v (.int .i64 0)]) R) fun J3=>
 A0 PR (binOp .lss 3 ae (.int .i64 8)) fun ah=>
 gj ah false (fun J=> J ae) fun ai=>
 gj ah false (fun J=> J b) fun aj=>
 gj ah false (fun J=> A0 PR (A8 .len #[9] 0 [aj]) J) fun ak=>
 gj ah false (fun J=> A0 PR (binOp .gtr 3 ai ak) J) fun al=>
 A0 PR (do pure (if ← asBool ah then (.bool true) else al)) fun am=>
 C0 am (
 A0 PR (build 386 #[]) fun an=>
 C1 PR X (storeAt 386 d an) <|
 A6 PR (E1 [.c 386 d,.v (.int .i64 4)]) R) (
 J3 f)) (
 J2 f)) fun J4=>
 A0 PR (binOp .eql 3 a (.int .i64 6)) fun ao=>
 gj ao true (fun J=> J b) fun ap=>
 gj ao true (fun J=> A0 PR (A8 .len #[9] 0 [ap]) J) fun aq=>
 gj ao true (fun J=> A0 PR (binOp .lss 3 aq (.int .i64 20)) J) fun ar=>
 A0 PR (do pure (if ← asBool ao then ar else (.bool false))) fun au=>
 gj au false (fun J=> J b) fun av=>
 gj au false (fun J=> A0 PR (A8 .len #[9] 0 [av]) J) fun aw=>
 gj au false (fun J=> A0 PR (binOp .lss 3 aw (.int .i64 8)) J) fun ax=>
 A0 PR (do pure (if ← asBool au then (.bool true) else ax)) fun ay=>
 C0 ay (
 A0 PR (build 386 #[]) fun az=>
 C1 PR X (storeAt 386 d az) <|
 A6 PR (E1 [.c 386 d,.v (.int .i64 2)]) R) (
 J4 e)) fun J5=>
 A0 PR (binOp .neq 3 a (.int .i64 6)) fun a0=>
 gj a0 true (fun J=> J a) fun a1=>
 gj a0 true (fun J=> A0 PR (binOp .neq 3 a1 (.int .i64 17)) J) fun a2=>
 A0 PR (do pure (if ← asBool a0 then a2 else (.bool false))) fun a3=>
 C0 a3 (
 A0 PR (build 386 #[]) fun a4=>
 C1 PR X (storeAt 386 d a4) <|
 A6 PR (E1 [.c 386 d,.v (.int .i64 7)]) R) (
 J5 (.int .i64 0))
theorem A6a:B0 PR 254:=A7 Tryz.func254 (by kernel_rfl) rfl
theorem A7Q (h:A1a X t0 t1 R w):Fn PR X 254 #[t0,t1] w R:=C4 (args := [t0,t1]) mixed Tryz.func254 (by kernel_rfl) h
def A12 (X:Nat → Prop) (a:Value) (R:Value → WP):WP :=
 B3 PR X 296 [a] fun b=>
 A0 PR (binOp .eql 3 b (.int .i64 65535)) fun c=>
 R c
theorem A7l:B0 PR 292:=A7 Tryz.func292 (by kernel_rfl) rfl
theorem A84 (h:A12 X t0 R w):Fn PR X 292 #[t0] w R:=C4 (args := [t0]) mixed Tryz.func292 (by kernel_rfl) h
def A2J (X:Nat → Prop) (a:Value) (R:Value → WP):WP :=
 jn (n:=2) (fun b c=>
 R b) fun J1=>
 lp (n:=2) (fun L2 d e=>
 jn (n:=0) (
 jn (n:=1) (fun f=>
 A0 PR (binOp .add 3 e (.int .i64 2)) fun g=>
 L2 f g) fun J3=>
 A0 PR (index 9 a e) fun h=>
 A0 PR (convert 5 3 h) fun i=>
 A0 PR (binOp .mul 3 i (.int .i64 256)) fun j=>
 A0 PR (binOp .add 3 d j) fun k=>
 jn (n:=1) (fun l=>
 A0 PR (binOp .gtr 3 l (.int .i64 65535)) fun m=>
 C0 m (
 A0 PR (binOp .rem 3 l (.int .i64 65536)) fun o=>
 A0 PR (binOp .add 3 o (.int .i64 1)) fun p=>
 J3 p) (
 J3 l)) fun J4=>
 A0 PR (binOp .add 3 e (.int .i64 1)) fun q=>
 A0 PR (A8 .len #[9] 0 [a]) fun r=>
 A0 PR (binOp .lss 3 q r) fun s=>
 C0 s (
 A0 PR (binOp .add 3 e (.int .i64 1)) fun t=>
 A0 PR (index 9 a t) fun u=>
 A0 PR (convert 5 3 u) fun v=>
 A0 PR (binOp .add 3 k v) fun w=>
 J4 w) (
 J4 k)) fun J5=>
 A0 PR (A8 .len #[9] 0 [a]) fun x=>
 A0 PR (binOp .lss 3 e x) fun y=>
 C0 y (
 J5) (
 J1 d e)) (.int .i64 0) (.int .i64 0)
theorem A7w:B0 PR 296:=A7 Tryz.func296 (by kernel_rfl) rfl
theorem A9T (h:A2J X t0 R w):Fn PR X 296 #[t0] w R:=C4 (args := [t0]) mixed Tryz.func296 (by kernel_rfl) h
def A1Y (X:Nat → Prop) (a:Value) (R:Value → WP):WP :=
 B5 PR X (alloc 409 true (.tuple #[])) fun b=>
 jn (n:=2) (fun d e=>
 jn (n:=2) (fun f g=>
 A0 PR (index 9 a (.int .i64 0)) fun h=>
 A0 PR (binOp .rem 5 h (.int .u8 16)) fun i=>
 A0 PR (convert 5 3 i) fun j=>
 A0 PR (binOp .mul 3 j (.int .i64 4)) fun k=>
 B3 PR X 281 [a,(.int .i64 2)] fun l=>
 jn (n:=2) (fun m o=>
 jn (n:=2) (fun p q=>
 jn (n:=2) (fun r s=>
 drw <|
 A0 PR (sliceAt 9 a (some (.int .i64 12)) (some (.int .i64 16)) none) fun t=>
 A0 PR (sliceAt 9 a (some (.int .i64 16)) (some (.int .i64 20)) none) fun u=>
 A0 PR (index 9 a (.int .i64 9)) fun w=>
 A0 PR (convert 5 3 w) fun x=>
 A0 PR (build 409 #[(0,t),(1,u),(2,x)]) fun y=>
 A0 PR (sliceAt 9 a (some k) (some l) none) fun z=>
 C1 PR X (storeAt 409 b y) <|
 A6 PR (E1 [.c 409 b,.v z,.v (.int .i64 0)]) R) fun J1=>
 B3 PR X 281 [a,(.int .i64 6)] fun aa=>
 A0 PR (binOp .rem 3 aa (.int .i64 16384)) fun ab=>
 A0 PR (binOp .neq 3 ab (.int .i64 0)) fun ac=>
 C0 ac (
 A0 PR (build 409 #[]) fun ad=>
 C1 PR X (storeAt 409 b ad) <|
 A6 PR (E1 [.c 409 b,.v (.string (ByteArray.mk #[])),.v (.int .i64 6)]) R) (
 J1 p q)) fun J2=>
 A0 PR (sliceAt 9 a none (some k) none) fun ae=>
 B3 PR X 292 [ae] fun af=>
 A0 PR (Op.unary .not af) fun ag=>
 C0 ag (
 A0 PR (build 409 #[]) fun ah=>
 C1 PR X (storeAt 409 b ah) <|
 A6 PR (E1 [.c 409 b,.v (.string (ByteArray.mk #[])),.v (.int .i64 5)]) R) (
 J2 m o)) fun J3=>
 A0 PR (binOp .lss 3 k (.int .i64 20)) fun ai=>
 gj ai false (fun J=> J k) fun aj=>
 gj ai false (fun J=> J a) fun ak=>
 gj ai false (fun J=> A0 PR (A8 .len #[9] 0 [ak]) J) fun al=>
 gj ai false (fun J=> A0 PR (binOp .gtr 3 aj al) J) fun am=>
 A0 PR (do pure (if ← asBool ai then (.bool true) else am)) fun an=>
 gj an false (fun J=> J l) fun ao=>
 gj an false (fun J=> J k) fun ap=>
 gj an false (fun J=> A0 PR (binOp .lss 3 ao ap) J) fun aq=>
 A0 PR (do pure (if ← asBool an then (.bool true) else aq)) fun ar=>
 gj ar false (fun J=> J l) fun au=>
 gj ar false (fun J=> J a) fun av=>
 gj ar false (fun J=> A0 PR (A8 .len #[9] 0 [av]) J) fun aw=>
 gj ar false (fun J=> A0 PR (binOp .gtr 3 au aw) J) fun ax=>
 A0 PR (do pure (if ← asBool ar then (.bool true) else ax)) fun ay=>
 C0 ay (
 A0 PR (build 409 #[]) fun az=>
 C1 PR X (storeAt 409 b az) <|
 A6 PR (E1 [.c 409 b,.v (.string (ByteArray.mk #[])),.v (.int .i64 4)]) R) (
 J3 f g)) fun J4=>
 A0 PR (index 9 a (.int .i64 0)) fun a0=>
 A0 PR (binOp .quo 5 a0 (.int .u8 16)) fun a1=>
 A0 PR (binOp .neq 5 a1 (.int .u8 4)) fun a2=>
 C0 a2 (
 A0 PR (build 409 #[]) fun a3=>
 C1 PR X (storeAt 409 b a3) <|
 A6 PR (E1 [.c 409 b,.v (.string (ByteArray.mk #[])),.v (.int .i64 3)]) R) (
 J4 d e)) fun J5=>
 A0 PR (A8 .len #[9] 0 [a]) fun a4=>
 A0 PR (binOp .lss 3 a4 (.int .i64 20)) fun a5=>
 C0 a5 (
 A0 PR (build 409 #[]) fun a6=>
 C1 PR X (storeAt 409 b a6) <|
 A6 PR (E1 [.c 409 b,.v (.string (ByteArray.mk #[])),.v (.int .i64 2)]) R) (
 J5 (.string (ByteArray.mk #[])) (.int .i64 0))
theorem A6G:B0 PR 279:=A7 Tryz.func279 (by kernel_rfl) rfl
theorem A7S (h:A1Y X t0 R w):Fn PR X 279 #[t0] w R:=C4 (args := [t0]) mixed Tryz.func279 (by kernel_rfl) h
def A2A (X:Nat → Prop) (a b:Value) (R:Value → WP):WP :=
 B3 PR X 293 [a,b,(.int .i64 2)] fun c=>
 A0 PR (extract c 0) fun d=>
 A0 PR (extract c 1) fun e=>
 A0 PR (convert 89 3 d) fun f=>
 R f
theorem L0:B0 PR 281:=A7 Tryz.func281 (by kernel_rfl) rfl
theorem A9Z (h:A2A X t0 t1 R w):Fn PR X 281 #[t0,t1] w R:=C4 (args := [t0,t1]) mixed Tryz.func281 (by kernel_rfl) h
end
theorem A6m {s:ByteArray} {x:Int} (h0:0 ≤ x) (h1:x.toNat < s.size) (K:Value → WP):A0 PR (Instr.index 9 (.string s) (.int .i64 x)) K = K (.int .u8 (C9 s x.toNat:Nat)):=by
 obtain ⟨b,hb,e⟩:=x9 h1
 rw [← e]; exact c8 h0 hb K
theorem D1f (w:World) (s:ByteArray) (hs:s.size < 2 ^ 62) (a n:Int) :
  Fn PR B8 293 #[.string s,.int .i64 a,.int .i64 n] w (fun v w' => v = .tuple #[.int .u64 (A3V s a n),.bool (x7 s a n)] ∧ C7 [] w w'):=by
 refine Fn.pure (A9s (TW.go (κ:=false) (S := []) ?_))
 unfold A25
 by_cases hok:x7 s a n = true
 case neg=>
  have hv:A3V s a n = 0:=if_neg hok
  have hok':x7 s a n = false:=by simpa using hok
  rw [hv,hok']
  have hc:n < 1 ∨ 8 < n ∨ a < 0 ∨ (s.size:Int) - n < a:=by
   simp only [x7,decide_eq_true_eq] at hok; omega
  by_cases h1:n < 1
  ·(have z:=trivial;repeat((first|clear z|with_reducible first|apply A3|refine A4 fun _=>?_|refine A5 fun _=>?_);try simp(disch:=solve|omega|assumption|repeat(first|exact A1|exact uH|apply A2|apply uT)|(simp;try omega)|fail)[h1])); exact A9 rfl
  by_cases h2:8 < n
  ·(have z:=trivial;repeat((first|clear z|with_reducible first|apply A3|refine A4 fun _=>?_|refine A5 fun _=>?_);try simp(disch:=solve|omega|assumption|repeat(first|exact A1|exact uH|apply A2|apply uT)|(simp;try omega)|fail)[h1,h2])); exact A9 rfl
  by_cases h3:a < 0
  ·(have z:=trivial;repeat((first|clear z|with_reducible first|apply A3|refine A4 fun _=>?_|refine A5 fun _=>?_);try simp(disch:=solve|omega|assumption|repeat(first|exact A1|exact uH|apply A2|apply uT)|(simp;try omega)|fail)[h1,h2,h3])); exact A9 rfl
  by_cases h4:(s.size:Int) < a
  ·(have z:=trivial;repeat((first|clear z|with_reducible first|apply A3|refine A4 fun _=>?_|refine A5 fun _=>?_);try simp(disch:=solve|omega|assumption|repeat(first|exact A1|exact uH|apply A2|apply uT)|(simp;try omega)|fail)[h1,h2,h3,h4])); exact A9 rfl
  have h5:(s.size:Int) - a < n:=by omega
  (have z:=trivial;repeat((first|clear z|with_reducible first|apply A3|refine A4 fun _=>?_|refine A5 fun _=>?_);try simp(disch:=solve|omega|assumption|repeat(first|exact A1|exact uH|apply A2|apply uT)|(simp;try omega)|fail)[h1,h2,h3,h4,h5])); exact A9 rfl
 have hv:A3V s a n = (a6 s a.toNat n.toNat:Nat):=if_pos hok
 rw [hv,hok]
 simp only [x7,decide_eq_true_eq] at hok
 obtain ⟨m,rfl⟩:∃ m:Nat,n = m:=⟨n.toNat,by omega⟩
 obtain ⟨k,rfl⟩:∃ k:Nat,a = k:=⟨a.toNat,by omega⟩
 have h1:¬ (m:Int) < 1:=by omega
 have h2:¬ 8 < (m:Int):=by omega
 have h3:¬ (s.size:Int) < k:=by omega
 have h4:¬ (s.size:Int) - k < m:=by omega
 have h5:¬ (k:Int) < 0:=by omega
 (have z:=trivial;repeat((first|clear z|with_reducible first|apply A3|refine A4 fun _=>?_|refine A5 fun _=>?_);try simp(disch:=solve|omega|assumption|repeat(first|exact A1|exact uH|apply A2|apply uT)|(simp;try omega)|fail)[h1,h2,h3,h4,h5]))
 refine P5 (α:=Unit) m (fun i _=> .int .u64 (a6 s k i:Nat)) (fun _ _=> []) (fun _ _=> True) () trivial ?_
 rintro i _ hi _ L hL
 by_cases hlt:i < m
 ·have hlt':(i:Int) < (m:Int):=by omega
  have hA:a6 s k (i + 1) < 256 ^ (i + 1):=A6M s k (i + 1)
  have h8:256 ^ (i + 1) ≤ 2 ^ 64:=by
   rw [show (2:Nat) ^ 64 = 256 ^ 8 from rfl]
   exact Nat.pow_le_pow_right (by omega) (by omega)
  have e:a6 s k (i + 1) = a6 s k i * 256 + C9 s (k + i):=rfl
  have hx:((k:Int) + i).toNat = k + i:=by omega
  have h:=hL hlt () trivial
  rw [e] at h hA
  have hin:((k:Int) + i).toNat < s.size:=by omega
  have hidx:=fun K=> A6m (s:=s) (x:=(k:Int) + i) (by omega) hin K
  rw [hx] at hidx
  generalize hb:a6 s k i = q at *
  generalize C9 s (k + i) = r at *
  (have z:=trivial;repeat((first|clear z|with_reducible first|apply A3|refine A4 fun _=>?_|refine A5 fun _=>?_);try simp(disch:=solve|omega|assumption|repeat(first|exact A1|exact uH|apply A2|apply uT)|(simp;try omega)|fail)[hlt',hidx]))
  have e2:((q * 256 + r:Nat):Int) = (q:Int) * 256 + r:=by omega
  rw [e2] at h
  exact h
 ·obtain rfl:i = m:=by omega
  (have z:=trivial;repeat((first|clear z|with_reducible first|apply A3|refine A4 fun _=>?_|refine A5 fun _=>?_);try simp(disch:=solve|omega|assumption|repeat(first|exact A1|exact uH|apply A2|apply uT)|(simp;try omega)|fail)[]))
  exact A9 (by simp)
theorem A0l (w:World) (s:ByteArray) (hs:s.size < 2 ^ 40) (x:Int) (a:Nat) (hx:x = a):Fn PR B8 281 #[.string s,.int .i64 x] w (fun v w' => v = .int .i64 (gv s a 2:Nat) ∧ C7 [] w w'):=by
 subst hx
 refine Fn.pure (A9Z (TW.go (κ:=false) (S := []) ?_))
 unfold A2A
 refine B7 A9K (fun w' _=> D1f w' s (by omega) a 2) ?_
 have e:=A58 s a 2 (by omega) (by omega)
 have hl:=l4 s a
 have e':A3V s (a:Int) 2 = (gv s a 2:Nat):=e
 rw [e']
 (have z:=trivial;repeat((first|clear z|with_reducible first|apply A3|refine A4 fun _=>?_|refine A5 fun _=>?_);try simp(disch:=solve|omega|assumption|repeat(first|exact A1|exact uH|apply A2|apply uT)|(simp;try omega)|fail)[]))
 exact A9 rfl
def B3b (s:ByteArray):Nat → Nat
 | 0=> 0
 | i + 1=> let n:=B3b s i + a6 s (2 * i) 2; if 65535 < n then n % 65536 + 1 else n
theorem C1d (s:ByteArray) (i:Nat):B3b s i = fld (A4U s i):=by
 induction i with
 | zero=> rfl
 | succ i ih=>
  have hb:a6 s (2 * i) 2 < 65536:=A6M s (2 * i) 2
  have h1:=B7a (A4U s i)
  simp only [B3b,A4U,ih]
  generalize a6 s (2 * i) 2 = b at *
  generalize A4U s i = n at *
  unfold fld at h1 ⊢
  by_cases h0:n = 0
  ·subst h0; simp only [if_pos,Nat.zero_add] at h1 ⊢; split <;> split <;> omega
  ·have hne:¬ n + b = 0:=by omega
   rw [if_neg h0] at h1 ⊢; rw [if_neg hne]; split <;> omega
theorem C87 (w:World) (s:ByteArray) (hs:s.size < 2 ^ 40):Fn PR B8 296 #[.string s] w (fun v w' => v = .int .i64 (s5 s:Nat) ∧ C7 [] w w'):=by
 refine Fn.pure (A9T (TW.go (κ:=false) (S := []) ?_))
 unfold A2J
 (have z:=trivial;repeat((first|clear z|with_reducible first|apply A3|refine A4 fun _=>?_|refine A5 fun _=>?_);try simp(disch:=solve|omega|assumption|repeat(first|exact A1|exact uH|apply A2|apply uT)|(simp;try omega)|fail)[]))
 refine B91 (fun _:Nat=> []) (· ≤ S3 s) (fun i=> S3 s - i) 0 (fun i=> .int .i64 (B3b s i:Nat)) (fun i=> .int .i64 ((2 * i:Nat):Int)) (Nat.zero_le _) ?_
 intro i hi L hL
 have hm:B3b s i ≤ 65535:=by rw [C1d]; exact B7a _
 by_cases hlt:i < S3 s
 ·have h2:2 * i < s.size:=by unfold S3 at hlt; omega
  have h2':(2 * (i:Int)) < s.size:=by omega
  have hl0:=P6 s (2 * i)
  have hl1:=P6 s (2 * i + 1)
  have h:=hL (i + 1) (by omega) (by omega)
  have eb:a6 s (2 * i) 2 = C9 s (2 * i) * 256 + C9 s (2 * i + 1):=by simp [a6]
  simp only [B3b,eb] at h
  have hx0:=fun K=> A6m (s:=s) (x:=2 * (i:Int)) (by omega) (by omega) K
  rw [show (2 * (i:Int)).toNat = 2 * i by omega] at hx0
  have et:((2 * (i + 1):Nat):Int) = 2 * (i:Int) + 2:=by omega
  rw [et] at h
  by_cases h3:2 * i + 1 < s.size
  ·have h3':2 * (i:Int) + 1 < s.size:=by omega
   have hx1:=fun K=> A6m (s:=s) (x:=2 * (i:Int) + 1) (by omega) (by omega) K
   rw [show (2 * (i:Int) + 1).toNat = 2 * i + 1 by omega] at hx1
   generalize C9 s (2 * i) = p at *
   generalize C9 s (2 * i + 1) = q at *
   generalize B3b s i = r at *
   by_cases h4:65535 < r + (p * 256 + q)
   ·have h4':(65535:Int) < r + p * 256 + q:=by omega
    have e1:((r:Int) + p * 256 + q).tmod 65536 = ((r + (p * 256 + q)) % 65536:Nat):=by rw [Int.tmod_eq_emod_of_nonneg (by omega)]; omega
    rw [if_pos h4] at h
    have e2:(((r + (p * 256 + q)) % 65536 + 1:Nat):Int) = ((r:Int) + p * 256 + q).tmod 65536 + 1:=by rw [e1]; omega
    have h6:((r:Int) + p * 256 + q).tmod 65536 ≤ 65536:=by rw [e1]; omega
    have h7:0 ≤ ((r:Int) + p * 256 + q).tmod 65536:=by rw [e1]; omega
    rw [e2] at h
    have e5:IntKind.i64.wrap (((r:Int) + p * 256 + q).tmod 65536 + 1) = ((r:Int) + p * 256 + q).tmod 65536 + 1:=N3 (by omega) (by omega)
    (have z:=trivial;repeat((first|clear z|with_reducible first|apply A3|refine A4 fun _=>?_|refine A5 fun _=>?_);try simp(disch:=solve|omega|assumption|repeat(first|exact A1|exact uH|apply A2|apply uT)|(simp;try omega)|fail)[h2',h3',hx0,hx1,h4',U7]))
    exact h
   ·have h4':¬ (65535:Int) < r + p * 256 + q:=by omega
    rw [if_neg h4] at h
    (have z:=trivial;repeat((first|clear z|with_reducible first|apply A3|refine A4 fun _=>?_|refine A5 fun _=>?_);try simp(disch:=solve|omega|assumption|repeat(first|exact A1|exact uH|apply A2|apply uT)|(simp;try omega)|fail)[h2',h3',hx0,hx1,h4']))
    rw [show ((r + (p * 256 + q):Nat):Int) = (r:Int) + p * 256 + q by omega] at h
    exact h
  ·have h3':¬ 2 * (i:Int) + 1 < s.size:=by omega
   have e0:C9 s (2 * i + 1) = 0:=by unfold C9; rw [Array.getD_eq_getD_getElem?,Array.getElem?_eq_none (by show s.size ≤ _; omega)]; rfl
   rw [e0] at h
   generalize C9 s (2 * i) = p at *
   generalize B3b s i = r at *
   by_cases h4:65535 < r + (p * 256 + 0)
   ·have h4':(65535:Int) < r + p * 256:=by omega
    have e1:((r:Int) + p * 256).tmod 65536 = ((r + (p * 256 + 0)) % 65536:Nat):=by rw [Int.tmod_eq_emod_of_nonneg (by omega)]; omega
    rw [if_pos h4] at h
    have e2:(((r + (p * 256 + 0)) % 65536 + 1:Nat):Int) = ((r:Int) + p * 256).tmod 65536 + 1:=by rw [e1]; omega
    have h6:((r:Int) + p * 256).tmod 65536 ≤ 65536:=by rw [e1]; omega
    have h7:0 ≤ ((r:Int) + p * 256).tmod 65536:=by rw [e1]; omega
    rw [e2] at h
    have e5:IntKind.i64.wrap (((r:Int) + p * 256).tmod 65536 + 1) = ((r:Int) + p * 256).tmod 65536 + 1:=N3 (by omega) (by omega)
    (have z:=trivial;repeat((first|clear z|with_reducible first|apply A3|refine A4 fun _=>?_|refine A5 fun _=>?_);try simp(disch:=solve|omega|assumption|repeat(first|exact A1|exact uH|apply A2|apply uT)|(simp;try omega)|fail)[h2',h3',hx0,h4',U7]))
    exact h
   ·have h4':¬ (65535:Int) < r + p * 256:=by omega
    rw [if_neg h4] at h
    (have z:=trivial;repeat((first|clear z|with_reducible first|apply A3|refine A4 fun _=>?_|refine A5 fun _=>?_);try simp(disch:=solve|omega|assumption|repeat(first|exact A1|exact uH|apply A2|apply uT)|(simp;try omega)|fail)[h2',h3',hx0,h4']))
    rw [show ((r + (p * 256 + 0):Nat):Int) = (r:Int) + p * 256 by omega] at h
    exact h
 ·obtain rfl:i = S3 s:=by omega
  have h2':¬ (2 * (S3 s:Int)) < s.size:=by unfold S3; omega
  (have z:=trivial;repeat((first|clear z|with_reducible first|apply A3|refine A4 fun _=>?_|refine A5 fun _=>?_);try simp(disch:=solve|omega|assumption|repeat(first|exact A1|exact uH|apply A2|apply uT)|(simp;try omega)|fail)[h2']))
  exact A9 (by rw [C1d]; rfl)
theorem C9k (w:World) (s:ByteArray) (hs:s.size < 2 ^ 40):Fn PR B8 292 #[.string s] w (fun v w' => v = .bool (decide (s5 s = 65535)) ∧ C7 [] w w'):=by
 refine Fn.pure (A84 (TW.go (κ:=false) (S := []) ?_))
 unfold A12
 refine B7 A7w (fun w' _=> C87 w' s hs) ?_
 (have z:=trivial;repeat((first|clear z|with_reducible first|apply A3|refine A4 fun _=>?_|refine A5 fun _=>?_);try simp(disch:=solve|omega|assumption|repeat(first|exact A1|exact uH|apply A2|apply uT)|(simp;try omega)|fail)[]))
 exact A9 (by simp; omega)
theorem T4 {x k:Int} (h:0 ≤ x):x.tdiv k = x / k:=Int.tdiv_eq_ediv_of_nonneg h
theorem y0 {x k:Int} (h:0 ≤ x):x.tmod k = x % k:=Int.tmod_eq_emod_of_nonneg h
theorem C5d (w:World) (s:ByteArray) (hs:s.size < 2 ^ 40):Fn PR B8 279 #[.string s] w (fun v w' => v = (S2 s).val ∧ C7 [] w w'):=by
 refine Fn.pure (A7S (TW.go (κ:=false) (S := []) ?_))
 unfold A1Y
 by_cases c1:s.size < 20
 ·have c1':(s.size:Int) < 20:=by omega
  have hv:S2 s = .err 2:=by simp [S2,A6g,c1]
  rw [hv]
  (have z:=trivial;repeat((first|clear z|with_reducible first|apply A3|refine A4 fun _=>?_|refine A5 fun _=>?_);try simp(disch:=solve|omega|assumption|repeat(first|exact A1|exact uH|apply A2|apply uT)|(simp;try omega)|fail)[c1,c1']))
  exact A9 rfl
 have c1':¬ (s.size:Int) < 20:=by omega
 have hx0:=fun K=> A6m (s:=s) (x:=0) (by omega) (by simp; omega) K
 rw [show (0:Int).toNat = 0 from rfl] at hx0
 have hl0:=P6 s 0
 have hg:gv s 0 1 = C9 s 0:=B0a (by omega)
 have hg9:gv s 9 1 = C9 s 9:=B0a (by omega)
 have hL:M4 s = C9 s 0 % 16 * 4:=by unfold M4; rw [hg]
 by_cases c2:C9 s 0 / 16 = 4
 case neg=>
  have hv:S2 s = .err 3:=by simp [S2,A6g,c1,hg,c2]
  rw [hv]
  have c2':¬ (C9 s 0:Int) / 16 = 4:=by omega
  generalize C9 s 0 = b at *
  (have z:=trivial;repeat((first|clear z|with_reducible first|apply A3|refine A4 fun _=>?_|refine A5 fun _=>?_);try simp(disch:=solve|omega|assumption|repeat(first|exact A1|exact uH|apply A2|apply uT)|(simp;try omega)|fail)[c1,c1',hx0,Z9,T4,c2,c2']))
  exact A9 rfl
 have c2':(C9 s 0:Int) / 16 = 4:=by omega
 (have z:=trivial;repeat((first|clear z|with_reducible first|apply A3|refine A4 fun _=>?_|refine A5 fun _=>?_);try simp(disch:=solve|omega|assumption|repeat(first|exact A1|exact uH|apply A2|apply uT)|(simp;try omega)|fail)[c1,c1',hx0,Z9,T4,U7,y0,c2,c2']))
 refine B7 L0 (fun w' _=> A0l w' s hs 2 2 rfl) ?_
 have hw2:=l4 s 2
 have hw6:=l4 s 6
 have eL:((C9 s 0:Nat):Int) % 16 * 4 = (M4 s:Nat):=by rw [hL]; omega
 have hLl:M4 s < 100:=by omega
 have hE:A6g s = if M4 s < 20 ∨ s.size < M4 s ∨ gv s 2 2 < M4 s ∨ s.size < gv s 2 2 then 4 else if s5 (s.extract 0 (M4 s)) ≠ 65535 then 5 else if gv s 6 2 % 16384 ≠ 0 then 6 else 0:=by
  unfold A6g; rw [if_neg c1,hg,if_neg (by simp [c2])]
 generalize hG:gv s 2 2 = g at *
 generalize hLe:M4 s = m at *
 by_cases c3:m < 20 ∨ s.size < m ∨ g < m ∨ s.size < g
 ·have hv:S2 s = .err 4:=by rw [if_pos c3] at hE; simp [S2,hE]
  rw [hv]
  by_cases d1:m < 20
  ·have d1':(m:Int) < 20:=by omega
   (have z:=trivial;repeat((first|clear z|with_reducible first|apply A3|refine A4 fun _=>?_|refine A5 fun _=>?_);try simp(disch:=solve|omega|assumption|repeat(first|exact A1|exact uH|apply A2|apply uT)|(simp;try omega)|fail)[c1,c1',hx0,Z9,T4,U7,y0,c2,c2',eL,d1,d1']))
   exact A9 rfl
  have d1':¬ (m:Int) < 20:=by omega
  by_cases d2:s.size < m
  ·have d2':(s.size:Int) < m:=by omega
   (have z:=trivial;repeat((first|clear z|with_reducible first|apply A3|refine A4 fun _=>?_|refine A5 fun _=>?_);try simp(disch:=solve|omega|assumption|repeat(first|exact A1|exact uH|apply A2|apply uT)|(simp;try omega)|fail)[c1,c1',hx0,Z9,T4,U7,y0,c2,c2',eL,d1,d1',d2,d2']))
   exact A9 rfl
  have d2':¬ (s.size:Int) < m:=by omega
  by_cases d3:g < m
  ·have d3':(g:Int) < m:=by omega
   (have z:=trivial;repeat((first|clear z|with_reducible first|apply A3|refine A4 fun _=>?_|refine A5 fun _=>?_);try simp(disch:=solve|omega|assumption|repeat(first|exact A1|exact uH|apply A2|apply uT)|(simp;try omega)|fail)[c1,c1',hx0,Z9,T4,U7,y0,c2,c2',eL,d1,d1',d2,d2',d3,d3']))
   exact A9 rfl
  have d3':¬ (g:Int) < m:=by omega
  have d4:s.size < g:=by omega
  have d4':(s.size:Int) < g:=by omega
  (have z:=trivial;repeat((first|clear z|with_reducible first|apply A3|refine A4 fun _=>?_|refine A5 fun _=>?_);try simp(disch:=solve|omega|assumption|repeat(first|exact A1|exact uH|apply A2|apply uT)|(simp;try omega)|fail)[c1,c1',hx0,Z9,T4,U7,y0,c2,c2',eL,d1,d1',d2,d2',d3,d3',d4,d4']))
  exact A9 rfl
 rw [if_neg c3] at hE
 have d1:¬ m < 20:=by omega
 have d1':¬ (m:Int) < 20:=by omega
 have d2:¬ s.size < m:=by omega
 have d2':¬ (s.size:Int) < m:=by omega
 have d3:¬ g < m:=by omega
 have d3':¬ (g:Int) < m:=by omega
 have d4:¬ s.size < g:=by omega
 have d4':¬ (s.size:Int) < g:=by omega
 (have z:=trivial;repeat((first|clear z|with_reducible first|apply A3|refine A4 fun _=>?_|refine A5 fun _=>?_);try simp(disch:=solve|omega|assumption|repeat(first|exact A1|exact uH|apply A2|apply uT)|(simp;try omega)|fail)[c1,c1',hx0,Z9,T4,U7,y0,c2,c2',eL,d1,d1',d2,d2',d3,d3',d4,d4']))
 refine B7 A7l (fun w' _=> C9k w' (s.extract 0 m) (by simp; omega)) ?_
 by_cases c4:s5 (s.extract 0 m) = 65535
 case neg=>
  have hv:S2 s = .err 5:=by rw [if_pos c4] at hE; simp [S2,hE]
  rw [hv]
  (have z:=trivial;repeat((first|clear z|with_reducible first|apply A3|refine A4 fun _=>?_|refine A5 fun _=>?_);try simp(disch:=solve|omega|assumption|repeat(first|exact A1|exact uH|apply A2|apply uT)|(simp;try omega)|fail)[c4]))
  exact A9 rfl
 rw [if_neg (by simp [c4])] at hE
 (have z:=trivial;repeat((first|clear z|with_reducible first|apply A3|refine A4 fun _=>?_|refine A5 fun _=>?_);try simp(disch:=solve|omega|assumption|repeat(first|exact A1|exact uH|apply A2|apply uT)|(simp;try omega)|fail)[c4]))
 refine B7 L0 (fun w' _=> A0l w' s hs 6 6 rfl) ?_
 by_cases c5:gv s 6 2 % 16384 = 0
 case neg=>
  have hv:S2 s = .err 6:=by rw [if_pos c5] at hE; simp [S2,hE]
  rw [hv]
  have c5':¬ (gv s 6 2:Int) % 16384 = 0:=by omega
  generalize gv s 6 2 = z at *
  (have z:=trivial;repeat((first|clear z|with_reducible first|apply A3|refine A4 fun _=>?_|refine A5 fun _=>?_);try simp(disch:=solve|omega|assumption|repeat(first|exact A1|exact uH|apply A2|apply uT)|(simp;try omega)|fail)[U7,y0,c5,c5']))
  exact A9 rfl
 rw [if_neg (by simp [c5])] at hE
 have hv:S2 s = ⟨s.extract 12 16,s.extract 16 20,C9 s 9,s.extract m g,0⟩:=by unfold S2; rw [if_pos hE,hG,hLe,hg9]
 rw [hv]
 have c5':(gv s 6 2:Int) % 16384 = 0:=by omega
 have hx9:=fun K=> A6m (s:=s) (x:=9) (by omega) (by simp; omega) K
 rw [show (9:Int).toNat = 9 from rfl] at hx9
 have hl9:=P6 s 9
 generalize gv s 6 2 = z at *
 (have z:=trivial;repeat((first|clear z|with_reducible first|apply A3|refine A4 fun _=>?_|refine A5 fun _=>?_);try simp(disch:=solve|omega|assumption|repeat(first|exact A1|exact uH|apply A2|apply uT)|(simp;try omega)|fail)[U7,y0,c5,c5',hx9]))
 exact A9 (by simp [HeadV.val,eL])
theorem C5v (w:World) (s:ByteArray) (hs:s.size < 2 ^ 40):Fn PR B8 280 #[.string s] w (fun v w' => v = (T3 s).val ∧ C7 [] w w'):=by
 refine Fn.pure (A7U (TW.go (κ:=false) (S := []) ?_))
 unfold A1l
 by_cases c1:s.size < 40
 ·have c1':(s.size:Int) < 40:=by omega
  have hv:T3 s = .err 2:=by simp [T3,A81,c1]
  rw [hv]
  (have z:=trivial;repeat((first|clear z|with_reducible first|apply A3|refine A4 fun _=>?_|refine A5 fun _=>?_);try simp(disch:=solve|omega|assumption|repeat(first|exact A1|exact uH|apply A2|apply uT)|(simp;try omega)|fail)[c1,c1']))
  exact A9 rfl
 have c1':¬ (s.size:Int) < 40:=by omega
 have hx0:=fun K=> A6m (s:=s) (x:=0) (by omega) (by simp; omega) K
 rw [show (0:Int).toNat = 0 from rfl] at hx0
 have hl0:=P6 s 0
 have hg:gv s 0 1 = C9 s 0:=B0a (by omega)
 have hg6:gv s 6 1 = C9 s 6:=B0a (by omega)
 by_cases c2:C9 s 0 / 16 = 6
 case neg=>
  have hv:T3 s = .err 3:=by simp [T3,A81,c1,hg,c2]
  rw [hv]
  have c2':¬ (C9 s 0:Int) / 16 = 6:=by omega
  generalize C9 s 0 = b at *
  (have z:=trivial;repeat((first|clear z|with_reducible first|apply A3|refine A4 fun _=>?_|refine A5 fun _=>?_);try simp(disch:=solve|omega|assumption|repeat(first|exact A1|exact uH|apply A2|apply uT)|(simp;try omega)|fail)[c1,c1',hx0,Z9,T4,c2,c2']))
  exact A9 rfl
 have c2':(C9 s 0:Int) / 16 = 6:=by omega
 (have z:=trivial;repeat((first|clear z|with_reducible first|apply A3|refine A4 fun _=>?_|refine A5 fun _=>?_);try simp(disch:=solve|omega|assumption|repeat(first|exact A1|exact uH|apply A2|apply uT)|(simp;try omega)|fail)[c1,c1',hx0,Z9,T4,U7,y0,c2,c2']))
 refine B7 L0 (fun w' _=> A0l w' s hs 4 4 rfl) ?_
 have hw4:=l4 s 4
 have hE:A81 s = if s.size - 40 < gv s 4 2 then 4 else 0:=by
  unfold A81; rw [if_neg c1,hg,if_neg (by simp [c2])]
 generalize hG:gv s 4 2 = g at *
 by_cases c3:s.size - 40 < g
 ·have hv:T3 s = .err 4:=by rw [if_pos c3] at hE; simp [T3,hE]
  rw [hv]
  have c3':(s.size:Int) - 40 < g:=by omega
  (have z:=trivial;repeat((first|clear z|with_reducible first|apply A3|refine A4 fun _=>?_|refine A5 fun _=>?_);try simp(disch:=solve|omega|assumption|repeat(first|exact A1|exact uH|apply A2|apply uT)|(simp;try omega)|fail)[c1',c3,c3']))
  exact A9 rfl
 rw [if_neg c3] at hE
 have hv:T3 s = ⟨s.extract 8 24,s.extract 24 40,C9 s 6,s.extract 40 (40 + g),0⟩:=by unfold T3; rw [if_pos hE,hG,hg6]
 rw [hv]
 have c3':¬ (s.size:Int) - 40 < g:=by omega
 have hx6:=fun K=> A6m (s:=s) (x:=6) (by omega) (by simp; omega) K
 rw [show (6:Int).toNat = 6 from rfl] at hx6
 have hl6:=P6 s 6
 have e:(40 + (g:Int)).toNat = 40 + g:=by omega
 (have z:=trivial;repeat((first|clear z|with_reducible first|apply A3|refine A4 fun _=>?_|refine A5 fun _=>?_);try simp(disch:=solve|omega|assumption|repeat(first|exact A1|exact uH|apply A2|apply uT)|(simp;try omega)|fail)[c1',c3,c3',hx6]))
 exact A9 (by simp [HeadV.val,e])
theorem C67 (w:World) (s:ByteArray) (hs:s.size < 2 ^ 40) (n:Int):Fn PR B8 254 #[.int .i64 n,.string s] w (fun v w' => v = M7.val (M7 n s) ∧ C7 [] w w'):=by
 refine Fn.pure (A7Q (TW.go (κ:=false) (S := []) ?_))
 unfold A1a
 by_cases c0:n = 6 ∨ n = 17
 case neg=>
  have c6:¬ n = 6:=by omega
  have c7:¬ n = 17:=by omega
  have hv:M7 n s = (0,0,0,7):=by simp [M7,A0w,c6,c7]
  rw [hv]
  (have z:=trivial;repeat((first|clear z|with_reducible first|apply A3|refine A4 fun _=>?_|refine A5 fun _=>?_);try simp(disch:=solve|omega|assumption|repeat(first|exact A1|exact uH|apply A2|apply uT)|(simp;try omega)|fail)[c6,c7]))
  exact A9 rfl
 have hw0:=l4 s 0
 have hw2:=l4 s 2
 by_cases c6:n = 6
 ·subst c6
  have hp:A0w 6 s = A2l s:=rfl
  by_cases c1:s.size < 20
  ·have c1':(s.size:Int) < 20:=by omega
   have hv:M7 6 s = (0,0,0,2):=by unfold M7; rw [hp]; simp [A2l,c1]
   rw [hv]
   (have z:=trivial;repeat((first|clear z|with_reducible first|apply A3|refine A4 fun _=>?_|refine A5 fun _=>?_);try simp(disch:=solve|omega|assumption|repeat(first|exact A1|exact uH|apply A2|apply uT)|(simp;try omega)|fail)[c1,c1']))
   exact A9 rfl
  have c1':¬ (s.size:Int) < 20:=by omega
  have c2':¬ (s.size:Int) < 8:=by omega
  have hx12:=fun K=> A6m (s:=s) (x:=12) (by omega) (by simp; omega) K
  rw [show (12:Int).toNat = 12 from rfl] at hx12
  have hl12:=P6 s 12
  have hx13:=fun K=> A6m (s:=s) (x:=13) (by omega) (by simp; omega) K
  rw [show (13:Int).toNat = 13 from rfl] at hx13
  have hl13:=P6 s 13
  (have z:=trivial;repeat((first|clear z|with_reducible first|apply A3|refine A4 fun _=>?_|refine A5 fun _=>?_);try simp(disch:=solve|omega|assumption|repeat(first|exact A1|exact uH|apply A2|apply uT)|(simp;try omega)|fail)[c1',c2']))
  refine B7 L0 (fun w' _=> A0l w' s hs 0 0 rfl) ?_
  (have z:=trivial;repeat((first|clear z|with_reducible first|apply A3|refine A4 fun _=>?_|refine A5 fun _=>?_);try simp(disch:=solve|omega|assumption|repeat(first|exact A1|exact uH|apply A2|apply uT)|(simp;try omega)|fail)[]))
  refine B7 L0 (fun w' _=> A0l w' s hs 2 2 rfl) ?_
  have ht:A2l s = if C9 s 12 / 16 * 4 < 20 ∨ s.size < C9 s 12 / 16 * 4 then (0,8) else (C9 s 13,0):=by unfold A2l; rw [if_neg c1]
  have hv0:M7 6 s = if (A2l s).2 ≠ 0 then (0,0,0,(A2l s).2) else (gv s 0 2,gv s 2 2,(A2l s).1,0):=by unfold M7; rw [hp]
  rw [ht] at hv0
  generalize gv s 0 2 = g0 at *
  generalize gv s 2 2 = g2 at *
  generalize C9 s 12 = b at *
  generalize C9 s 13 = f at *
  by_cases c3:b / 16 * 4 < 20
  ·rw [if_pos (Or.inl c3)] at hv0
   rw [hv0]
   have c3':(b:Int) / 16 * 4 < 20:=by omega
   (have z:=trivial;repeat((first|clear z|with_reducible first|apply A3|refine A4 fun _=>?_|refine A5 fun _=>?_);try simp(disch:=solve|omega|assumption|repeat(first|exact A1|exact uH|apply A2|apply uT)|(simp;try omega)|fail)[hx12,Z9,T4,c3,c3']))
   exact A9 rfl
  have c3':¬ (b:Int) / 16 * 4 < 20:=by omega
  by_cases c4:s.size < b / 16 * 4
  ·rw [if_pos (Or.inr c4)] at hv0
   rw [hv0]
   have c4':(s.size:Int) < (b:Int) / 16 * 4:=by omega
   (have z:=trivial;repeat((first|clear z|with_reducible first|apply A3|refine A4 fun _=>?_|refine A5 fun _=>?_);try simp(disch:=solve|omega|assumption|repeat(first|exact A1|exact uH|apply A2|apply uT)|(simp;try omega)|fail)[hx12,Z9,T4,c3,c3',c4,c4']))
   exact A9 rfl
  have c4':¬ (s.size:Int) < (b:Int) / 16 * 4:=by omega
  have c5:¬ (b / 16 * 4 < 20 ∨ s.size < b / 16 * 4):=by omega
  rw [if_neg c5] at hv0
  rw [hv0]
  (have z:=trivial;repeat((first|clear z|with_reducible first|apply A3|refine A4 fun _=>?_|refine A5 fun _=>?_);try simp(disch:=solve|omega|assumption|repeat(first|exact A1|exact uH|apply A2|apply uT)|(simp;try omega)|fail)[hx12,hx13,Z9,T4,c3,c3',c4,c4']))
  exact A9 (by simp [M7.val])
 ·obtain rfl:n = 17:=by omega
  have hp:A0w 17 s = A2f s:=rfl
  by_cases c1:s.size < 8
  ·have c1':(s.size:Int) < 8:=by omega
   have hv:M7 17 s = (0,0,0,2):=by unfold M7; rw [hp]; simp [A2f,c1]
   rw [hv]
   (have z:=trivial;repeat((first|clear z|with_reducible first|apply A3|refine A4 fun _=>?_|refine A5 fun _=>?_);try simp(disch:=solve|omega|assumption|repeat(first|exact A1|exact uH|apply A2|apply uT)|(simp;try omega)|fail)[c1,c1']))
   exact A9 rfl
  have c1':¬ (s.size:Int) < 8:=by omega
  (have z:=trivial;repeat((first|clear z|with_reducible first|apply A3|refine A4 fun _=>?_|refine A5 fun _=>?_);try simp(disch:=solve|omega|assumption|repeat(first|exact A1|exact uH|apply A2|apply uT)|(simp;try omega)|fail)[c1']))
  refine B7 L0 (fun w' _=> A0l w' s hs 0 0 rfl) ?_
  (have z:=trivial;repeat((first|clear z|with_reducible first|apply A3|refine A4 fun _=>?_|refine A5 fun _=>?_);try simp(disch:=solve|omega|assumption|repeat(first|exact A1|exact uH|apply A2|apply uT)|(simp;try omega)|fail)[]))
  refine B7 L0 (fun w' _=> A0l w' s hs 2 2 rfl) ?_
  (have z:=trivial;repeat((first|clear z|with_reducible first|apply A3|refine A4 fun _=>?_|refine A5 fun _=>?_);try simp(disch:=solve|omega|assumption|repeat(first|exact A1|exact uH|apply A2|apply uT)|(simp;try omega)|fail)[]))
  refine B7 L0 (fun w' _=> A0l w' s hs 4 4 rfl) ?_
  have hw4:=l4 s 4
  have ht:A2f s = if gv s 4 2 < 8 ∨ s.size < gv s 4 2 then (0,4) else (0,0):=by unfold A2f; rw [if_neg c1]
  have hv0:M7 17 s = if (A2f s).2 ≠ 0 then (0,0,0,(A2f s).2) else (gv s 0 2,gv s 2 2,(A2f s).1,0):=by unfold M7; rw [hp]
  rw [ht] at hv0
  generalize gv s 0 2 = g0 at *
  generalize gv s 2 2 = g2 at *
  generalize gv s 4 2 = b at *
  by_cases c3:b < 8
  ·rw [if_pos (Or.inl c3)] at hv0
   rw [hv0]
   have c3':(b:Int) < 8:=by omega
   (have z:=trivial;repeat((first|clear z|with_reducible first|apply A3|refine A4 fun _=>?_|refine A5 fun _=>?_);try simp(disch:=solve|omega|assumption|repeat(first|exact A1|exact uH|apply A2|apply uT)|(simp;try omega)|fail)[c3,c3']))
   exact A9 rfl
  have c3':¬ (b:Int) < 8:=by omega
  by_cases c4:s.size < b
  ·rw [if_pos (Or.inr c4)] at hv0
   rw [hv0]
   have c4':(s.size:Int) < (b:Int):=by omega
   (have z:=trivial;repeat((first|clear z|with_reducible first|apply A3|refine A4 fun _=>?_|refine A5 fun _=>?_);try simp(disch:=solve|omega|assumption|repeat(first|exact A1|exact uH|apply A2|apply uT)|(simp;try omega)|fail)[c3,c3',c4,c4']))
   exact A9 rfl
  have c4':¬ (s.size:Int) < (b:Int):=by omega
  have c5:¬ (b < 8 ∨ s.size < b):=by omega
  rw [if_neg c5] at hv0
  rw [hv0]
  (have z:=trivial;repeat((first|clear z|with_reducible first|apply A3|refine A4 fun _=>?_|refine A5 fun _=>?_);try simp(disch:=solve|omega|assumption|repeat(first|exact A1|exact uH|apply A2|apply uT)|(simp;try omega)|fail)[c3,c3',c4,c4']))
  exact A9 (by simp [M7.val])
def C7s (x:KeyV × ByteArray × Nat):Value:=.agg #[.string x.1.src,.string x.1.dst,.string x.2.1,.int .i64 x.1.proto,.int .i64 x.2.2]
theorem C8r (w:World) (s:ByteArray) (hs:s.size < 2 ^ 40) (h0:0 < s.size):Fn PR B8 253 #[.string s] w (fun v w' => v = C7s (P1 s) ∧ C7 [] w w'):=by
 refine Fn.pure (A8u (TW.go (κ:=false) (S := []) ?_))
 unfold A2W
 have hx0:=fun K=> A6m (s:=s) (x:=0) (by omega) (by simp; omega) K
 rw [show (0:Int).toNat = 0 from rfl] at hx0
 have hl0:=P6 s 0
 have hv:P1 s = if C9 s 0 / 16 = 4 then (⟨4,(S2 s).src,(S2 s).dst,0,0,(S2 s).proto⟩,(S2 s).rest,(S2 s).e)
  else if C9 s 0 / 16 = 6 then (⟨6,(T3 s).src,(T3 s).dst,0,0,(T3 s).proto⟩,(T3 s).rest,(T3 s).e) else (noK,M6,3):=by unfold P1; rw [if_neg (by omega)]
 generalize C9 s 0 = b at *
 by_cases c4:b / 16 = 4
 ·rw [hv,if_pos c4]
  have c4':(b:Int) / 16 = 4:=by omega
  (have z:=trivial;repeat((first|clear z|with_reducible first|apply A3|refine A4 fun _=>?_|refine A5 fun _=>?_);try simp(disch:=solve|omega|assumption|repeat(first|exact A1|exact uH|apply A2|apply uT)|(simp;try omega)|fail)[hx0,Z9,T4,c4,c4']))
  refine B7 A6G (fun w' _=> C5d w' s hs) ?_
  (have z:=trivial;repeat((first|clear z|with_reducible first|apply A3|refine A4 fun _=>?_|refine A5 fun _=>?_);try simp(disch:=solve|omega|assumption|repeat(first|exact A1|exact uH|apply A2|apply uT)|(simp;try omega)|fail)[HeadV.val]))
  exact A9 rfl
 have c4':¬ (b:Int) / 16 = 4:=by omega
 by_cases c6:b / 16 = 6
 ·rw [hv,if_neg c4,if_pos c6]
  have c6':(b:Int) / 16 = 6:=by omega
  (have z:=trivial;repeat((first|clear z|with_reducible first|apply A3|refine A4 fun _=>?_|refine A5 fun _=>?_);try simp(disch:=solve|omega|assumption|repeat(first|exact A1|exact uH|apply A2|apply uT)|(simp;try omega)|fail)[hx0,Z9,T4,c4,c4',c6,c6']))
  refine B7 A6T (fun w' _=> C5v w' s hs) ?_
  (have z:=trivial;repeat((first|clear z|with_reducible first|apply A3|refine A4 fun _=>?_|refine A5 fun _=>?_);try simp(disch:=solve|omega|assumption|repeat(first|exact A1|exact uH|apply A2|apply uT)|(simp;try omega)|fail)[HeadV.val]))
  exact A9 rfl
 ·rw [hv,if_neg c4,if_neg c6]
  have c6':¬ (b:Int) / 16 = 6:=by omega
  (have z:=trivial;repeat((first|clear z|with_reducible first|apply A3|refine A4 fun _=>?_|refine A5 fun _=>?_);try simp(disch:=solve|omega|assumption|repeat(first|exact A1|exact uH|apply A2|apply uT)|(simp;try omega)|fail)[hx0,Z9,T4,c4,c4',c6,c6']))
  exact A9 rfl
theorem C79 {s:ByteArray} (h0:0 < s.size) (he:(P1 s).2.2 = 0):(P1 s).1.v = (C9 s 0 / 16:Nat):=by
 unfold P1 at he ⊢
 rw [if_neg (by omega)] at he ⊢
 by_cases c4:C9 s 0 / 16 = 4
 ·rw [if_pos c4,c4]; rfl
 rw [if_neg c4] at he ⊢
 by_cases c6:C9 s 0 / 16 = 6
 ·rw [if_pos c6,c6]; rfl
 ·rw [if_neg c6] at he; simp at he
theorem C66 (w:World) (s:ByteArray) (hs:s.size < 2 ^ 40):Fn PR B8 219 #[.string s] w (fun u w' => u = packet.val (D1 s) ∧ C7 [] w w'):=by
 refine Fn.pure (A7F (TW.go (κ:=false) (S := []) ?_))
 unfold A1j
 by_cases c0:s.size = 0
 ·have c0':(s.size:Int) = 0:=by omega
  have hv:D1 s = (noK,0,2):=by unfold D1 P1; rw [if_pos c0]; rfl
  rw [hv]
  (have z:=trivial;repeat((first|clear z|with_reducible first|apply A3|refine A4 fun _=>?_|refine A5 fun _=>?_);try simp(disch:=solve|omega|assumption|repeat(first|exact A1|exact uH|apply A2|apply uT)|(simp;try omega)|fail)[c0,c0']))
  exact A9 rfl
 have c0':¬ (s.size:Int) = 0:=by omega
 (have z:=trivial;repeat((first|clear z|with_reducible first|apply A3|refine A4 fun _=>?_|refine A5 fun _=>?_);try simp(disch:=solve|omega|assumption|repeat(first|exact A1|exact uH|apply A2|apply uT)|(simp;try omega)|fail)[c0,c0']))
 refine B7 A7s (fun w' _=> C8r w' s hs (by omega)) ?_
 have hr:=C2m s
 by_cases c1:(P1 s).2.2 = 0
 case neg=>
  have hv:D1 s = (noK,0,(P1 s).2.2):=by unfold D1; simp only; rw [if_pos c1]
  rw [hv]
  generalize P1 s = x at *
  obtain ⟨⟨v,src,dst,fr,tp,pr⟩,rest,e⟩:=x
  simp only at c1 hr
  (have z:=trivial;repeat((first|clear z|with_reducible first|apply A3|refine A4 fun _=>?_|refine A5 fun _=>?_);try simp(disch:=solve|omega|assumption|repeat(first|exact A1|exact uH|apply A2|apply uT)|(simp;try omega)|fail)[C7s,c1]))
  exact A9 rfl
 have hx0:=fun K=> A6m (s:=s) (x:=0) (by omega) (by simp; omega) K
 rw [show (0:Int).toNat = 0 from rfl] at hx0
 have hl0:=P6 s 0
 have hvv:=C79 (by omega) c1
 have hv:D1 s = let y:=M7 (P1 s).1.proto (P1 s).2.1; if y.2.2.2 ≠ 0 then (noK,0,y.2.2.2) else ({ (P1 s).1 with fr:=y.1,tp:=y.2.1 },y.2.2.1,0):=by unfold D1; simp only; rw [if_neg (by simp [c1])]
 rw [hv]
 generalize P1 s = x at *
 generalize C9 s 0 = b at *
 obtain ⟨⟨v,src,dst,fr,tp,pr⟩,rest,e⟩:=x
 simp only at c1 hr hvv ⊢
 subst c1 hvv
 (have z:=trivial;repeat((first|clear z|with_reducible first|apply A3|refine A4 fun _=>?_|refine A5 fun _=>?_);try simp(disch:=solve|omega|assumption|repeat(first|exact A1|exact uH|apply A2|apply uT)|(simp;try omega)|fail)[C7s]))
 refine B7 A6a (fun w' _=> C67 w' rest (by omega) pr) ?_
 generalize M7 pr rest = y
 obtain ⟨y1,y2,y3,y4⟩:=y
 by_cases c2:y4 = 0
 case neg=>
  simp only [if_pos c2]
  (have z:=trivial;repeat((first|clear z|with_reducible first|apply A3|refine A4 fun _=>?_|refine A5 fun _=>?_);try simp(disch:=solve|omega|assumption|repeat(first|exact A1|exact uH|apply A2|apply uT)|(simp;try omega)|fail)[M7.val,c2]))
  exact A9 rfl
 ·subst c2
  (have z:=trivial;repeat((first|clear z|with_reducible first|apply A3|refine A4 fun _=>?_|refine A5 fun _=>?_);try simp(disch:=solve|omega|assumption|repeat(first|exact A1|exact uH|apply A2|apply uT)|(simp;try omega)|fail)[M7.val,hx0,Z9,T4]))
  exact A9 (by simp [packet.val,T9])
theorem C6W (q c:Nat) (hc:c < 8):q &&& c = q % 8 &&& c:=by
 have h:(q &&& c) % 2 ^ 3 = q % 2 ^ 3 &&& c % 2 ^ 3:=Nat.and_mod_two_pow
 have h1:q &&& c ≤ c:=Nat.and_le_right
 rw [Nat.mod_eq_of_lt (by omega:q &&& c < 2 ^ 3),Nat.mod_eq_of_lt (by omega:c < 2 ^ 3)] at h
 exact h
theorem C2G (w:World) (k:KeyV) (f:Int):Fn PR B8 222 #[T9 k f] w (fun u w' => u = .bool (x8 k f) ∧ C7 [] w w'):=by
 refine Fn.pure (A5q (TW.go (κ:=false) (S := []) ?_))
 unfold A0f T9 x8
 by_cases c0:k.proto = 6
 case neg=>
  (have z:=trivial;repeat((first|clear z|with_reducible first|apply A3|refine A4 fun _=>?_|refine A5 fun _=>?_);try simp(disch:=solve|omega|assumption|repeat(first|exact A1|exact uH|apply A2|apply uT)|(simp;try omega)|fail)[c0]))
  exact A9 (by simp)
 generalize hq:(f % 2 ^ IntKind.i64.bits).toNat = q
 have w0:∀ c,c < 8 → IntKind.i64.wrap ((q &&& c % 2 ^ IntKind.i64.bits:Nat):Int) = (q % 8 &&& c:Nat):=fun c hc=> by
  rw [show c % 2 ^ IntKind.i64.bits = c from Nat.mod_eq_of_lt (by show c < 2 ^ 64; omega),C6W q c hc]
  have h1:q % 8 &&& c ≤ c:=Nat.and_le_right
  exact N3 (by omega) (by omega)
 have w1:=w0 1 (by omega)
 have w4:=w0 4 (by omega)
 have w5:=w0 5 (by omega)
 have hall:∀ r < 8,((r &&& 1 = 1 ∨ r &&& 4 = 4) ↔ ¬ r &&& 5 = 0):=by decide
 have hr:=hall (q % 8) (by omega)
 rw [w5]
 generalize q % 8 &&& 1 = x1 at *
 generalize q % 8 &&& 4 = x4 at *
 generalize q % 8 &&& 5 = x5 at *
 by_cases d1:x1 = 1
 ·have d1':(x1:Int) = 1:=by omega
  have d5:¬ (x5:Int) = 0:=by have:=hr.1 (Or.inl d1); omega
  (have z:=trivial;repeat((first|clear z|with_reducible first|apply A3|refine A4 fun _=>?_|refine A5 fun _=>?_);try simp(disch:=solve|omega|assumption|repeat(first|exact A1|exact uH|apply A2|apply uT)|(simp;try omega)|fail)[c0,hq,w1,w4,d1,d1',d5]))
  exact A9 (by simp; omega)
 have d1':¬ (x1:Int) = 1:=by omega
 by_cases d4:x4 = 4
 ·have d4':(x4:Int) = 4:=by omega
  have d5:¬ (x5:Int) = 0:=by have:=hr.1 (Or.inr d4); omega
  (have z:=trivial;repeat((first|clear z|with_reducible first|apply A3|refine A4 fun _=>?_|refine A5 fun _=>?_);try simp(disch:=solve|omega|assumption|repeat(first|exact A1|exact uH|apply A2|apply uT)|(simp;try omega)|fail)[c0,hq,w1,w4,d1,d1',d4,d4',d5]))
  exact A9 (by simp; omega)
 have d4':¬ (x4:Int) = 4:=by omega
 have d5:(x5:Int) = 0:=by omega
 (have z:=trivial;repeat((first|clear z|with_reducible first|apply A3|refine A4 fun _=>?_|refine A5 fun _=>?_);try simp(disch:=solve|omega|assumption|repeat(first|exact A1|exact uH|apply A2|apply uT)|(simp;try omega)|fail)[c0,hq,w1,w4,d1,d1',d4,d4',d5]))
 exact A9 (by simp [d5])
theorem C4v (l:List UInt8) (a b:Nat):Lib.repeatL l (a + b) = Lib.repeatL l a ++ Lib.repeatL l b:=by
 induction a with
 | zero=> simp [Lib.repeatL]
 | succ a ih=> rw [Nat.succ_add]; simp only [Lib.repeatL,ih,List.append_assoc]
theorem B5U (a b:Nat):T1 z1 (a + b) = T1 z1 a ++ T1 z1 b:=by
 apply ByteArray.ext
 rw [ByteArray.data_append]
 simp only [T1,C4v]
 simp
theorem C84:T1 z1 1 = ByteArray.mk #[0]:=rfl
theorem C5Z:T1 z1 0 = M6:=rfl
def A8P (s:ByteArray):ByteArray:=s ++ T1 z1 (16 - s.size)
theorem C0P (w:World) (s:ByteArray) (hs:s.size ≤ 16):Fn PR B8 257 #[.string s] w (fun u w' => u = .string (A8P s) ∧ C7 [] w w'):=by
 refine Fn.pure (A9d (TW.go (κ:=false) (S := []) ?_))
 unfold A2N
 (have z:=trivial;repeat((first|clear z|with_reducible first|apply A3|refine A4 fun _=>?_|refine A5 fun _=>?_);try simp(disch:=solve|omega|assumption|repeat(first|exact A1|exact uH|apply A2|apply uT)|(simp;try omega)|fail)[]))
 rw [show (Value.string s) = .string (s ++ T1 z1 0) by rw [C5Z,A0M]]
 refine B9y (fun _:Nat=> []) (· ≤ 16 - s.size) (fun i=> 16 - s.size - i) 0 (fun i=> .string (s ++ T1 z1 i)) (Nat.zero_le _) ?_
 intro i hi L hL
 have hz:=V4 i
 by_cases c1:s.size + i < 16
 ·have c1':(s.size:Int) + i < 16:=by omega
  have h:=hL (i + 1) (by omega) (by omega)
  have hsz:(s ++ T1 z1 i).size + (ByteArray.mk #[0]).size ≤ maxLen:=by
   rw [ByteArray.size_append,hz]; show s.size + i + 1 ≤ maxLen; simp only [maxLen]; omega
  rw [B5U,C84,← ByteArray.append_assoc] at h
  (have z:=trivial;repeat((first|clear z|with_reducible first|apply A3|refine A4 fun _=>?_|refine A5 fun _=>?_);try simp(disch:=solve|omega|assumption|repeat(first|exact A1|exact uH|apply A2|apply uT)|(simp;try omega)|fail)[hz,c1,c1',S1 hsz]))
  exact h
 ·have c1':¬ (s.size:Int) + i < 16:=by omega
  have e:i = 16 - s.size:=by omega
  (have z:=trivial;repeat((first|clear z|with_reducible first|apply A3|refine A4 fun _=>?_|refine A5 fun _=>?_);try simp(disch:=solve|omega|assumption|repeat(first|exact A1|exact uH|apply A2|apply uT)|(simp;try omega)|fail)[hz,c1,c1']))
  exact A9 (by rw [e]; rfl)
theorem B4B (a t:ByteArray) (m:Nat) (h:t.size ≤ m):a7 (a ++ T1 z1 m) a.size t = a ++ t ++ T1 z1 (m - t.size):=by
 have e:T1 z1 m = T1 z1 t.size ++ T1 z1 (m - t.size):=by rw [← B5U]; congr 1; omega
 have hz:=V4 t.size
 have hz2:=V4 (m - t.size)
 rw [e]
 unfold a7
 apply ByteArray.ext
 apply Array.toList_inj.1
 have h1:(T1 z1 t.size).data.toList.length = t.size:=hz
 have h2:(T1 z1 (m - t.size)).data.toList.length = m - t.size:=hz2
 have h3:a.data.toList.length = a.size:=rfl
 simp only [ByteArray.data_append,ByteArray.data_extract,Array.toList_append,Array.toList_extract,ByteArray.size_append]
 rw [hz,hz2]
 generalize T1 z1 t.size = u at *
 generalize T1 z1 (m - t.size) = v at *
 have h4:(a.data ++ (u.data ++ v.data)).toList = a.data.toList ++ (u.data.toList ++ v.data.toList):=by simp
 have h5:t.size + (m - t.size) = m:=by omega
 rw [h4,h5,← h3,List.extract_eq_take_drop,List.extract_eq_take_drop,List.drop_zero,Nat.sub_zero,List.take_left,List.drop_append,List.drop_eq_nil_of_le (by omega),List.nil_append,
  show a.data.toList.length + t.size - a.data.toList.length = u.data.toList.length by rw [h1]; omega,List.drop_left,List.take_of_length_le (by omega)]
theorem C35 (k:KeyV) (hv:k.v = 4 ∨ k.v = 6) (hs:k.src.size = W6 k.v) (hd:k.dst.size = W6 k.v) (hp:k.proto = 6 ∨ k.proto = 17) :
  A2K k = F3 k.v 1 ++ F3 k.proto 1 ++ (F3 k.fr 2 ++ F3 k.tp 2) ++ A8P k.src ++ A8P k.dst:=by
 have h2:F3 (k.v * 256 + k.proto) 2 = F3 k.v 1 ++ F3 k.proto 1:=by
  rcases hv with h | h <;> rcases hp with h' | h' <;> rw [h,h'] <;> rfl
 have hl:W6 k.v ≤ 16:=by rcases hv with h | h <;> rw [h] <;> decide
 unfold A2K A8P
 rw [h2]
 have hH:(F3 k.v 1 ++ F3 k.proto 1 ++ F3 k.fr 2 ++ F3 k.tp 2).size = 6:=by simp
 generalize hx:F3 k.v 1 ++ F3 k.proto 1 ++ F3 k.fr 2 ++ F3 k.tp 2 = x at *
 have e1:a7 z38 0 x = x ++ T1 z1 32:=by
  have:=B4B M6 x 38 (by omega)
  rw [s7,s7,hH] at this; exact this
 have e2:a7 (x ++ T1 z1 32) 6 k.src = x ++ k.src ++ T1 z1 (16 - k.src.size) ++ T1 z1 16:=by
  have:=B4B x k.src 32 (by omega)
  rw [hH] at this; rw [this,ByteArray.append_assoc (c:=T1 z1 16),← B5U]; congr 2; omega
 have e3:(x ++ k.src ++ T1 z1 (16 - k.src.size)).size = 22:=by rw [ByteArray.size_append,ByteArray.size_append,V4]; omega
 have e4:=B4B (x ++ k.src ++ T1 z1 (16 - k.src.size)) k.dst 16 (by omega)
 rw [e3] at e4
 rw [e1,e2,e4,← hx]
 simp only [ByteArray.append_assoc]
theorem D1k {n x y:Int}:(Z5 n x y 0).2 = 0 ↔ (n = 6 ∨ n = 17) ∧ K7 x y = true:=by
 constructor
 ·exact B7p
 ·rintro ⟨h1,h2⟩
  have h3:(A44 n 0).2 = 0:=by rcases h1 with rfl | rfl <;> rfl
  unfold Z5
  rw [if_neg (by omega),if_neg (by rw [h2,h3]; simp)]
theorem C5B (k:KeyV):U1 k = (((decide (k.v = 4 ∧ k.src.size = 4 ∧ k.dst.size = 4) || decide (k.v = 6 ∧ k.src.size = 16 ∧ k.dst.size = 16)) && K7 k.fr k.tp) && decide (k.proto = 6 ∨ k.proto = 17)):=by
 unfold U1
 rw [Bool.eq_iff_iff]
 simp only [decide_eq_true_eq,Bool.and_eq_true,Bool.or_eq_true,D1k]
 unfold W6
 by_cases h4:k.v = 4
 ·rw [if_pos h4,h4]; simp; constructor
  ·rintro ⟨h1,h2,h3,h4⟩; exact ⟨⟨⟨h1,h2⟩,h4⟩,h3⟩
  ·rintro ⟨⟨⟨h1,h2⟩,h4⟩,h3⟩; exact ⟨h1,h2,h3,h4⟩
 rw [if_neg h4]
 by_cases h6:k.v = 6
 ·rw [if_pos h6,h6]; simp; constructor
  ·rintro ⟨h1,h2,h3,h4⟩; exact ⟨⟨⟨h1,h2⟩,h4⟩,h3⟩
  ·rintro ⟨⟨⟨h1,h2⟩,h4⟩,h3⟩; exact ⟨h1,h2,h3,h4⟩
 rw [if_neg h6]; simp [h4,h6]
def B4T (ba:Nat) (t20 t35:Value) (R:Value → WP):WP :=
 A0 PR (Instr.fieldAt 45 (.pointer (some ⟨ba,0,none⟩)) 3) fun t36=>
 A6 PR (Instr.loadAt 3 t36) fun t37=>
 A0 PR (binOp .geq 3 t37 (.int .i64 0)) fun t38=>
 gj t38 true (fun J=> A0 PR (Instr.fieldAt 45 (.pointer (some ⟨ba,0,none⟩)) 3) J) fun t40=>
 gj t38 true (fun J=> A6 PR (Instr.loadAt 3 t40) J) fun t41=>
 gj t38 true (fun J=> A0 PR (binOp .leq 3 t41 (.int .i64 65535)) J) fun t42=>
 A0 PR (do pure (if ← asBool t38 then t42 else (.bool false))) fun t43=>
 gj t43 true (fun J=> A0 PR (Instr.fieldAt 45 (.pointer (some ⟨ba,0,none⟩)) 4) J) fun t45=>
 gj t43 true (fun J=> A6 PR (Instr.loadAt 3 t45) J) fun t46=>
 gj t43 true (fun J=> A0 PR (binOp .geq 3 t46 (.int .i64 0)) J) fun t47=>
 A0 PR (do pure (if ← asBool t43 then t47 else (.bool false))) fun t48=>
 gj t48 true (fun J=> A0 PR (Instr.fieldAt 45 (.pointer (some ⟨ba,0,none⟩)) 4) J) fun t50=>
 gj t48 true (fun J=> A6 PR (Instr.loadAt 3 t50) J) fun t51=>
 gj t48 true (fun J=> A0 PR (binOp .leq 3 t51 (.int .i64 65535)) J) fun t52=>
 A0 PR (do pure (if ← asBool t48 then t52 else (.bool false))) fun t53=>
 gj t20 false (fun J=> J t35) fun t56=>
 A0 PR (do pure (if ← asBool t20 then (.bool true) else t56)) fun t57=>
 gj t57 true (fun J=> J t53) fun t59=>
 A0 PR (do pure (if ← asBool t57 then t59 else (.bool false))) fun t60=>
 gj t60 true (fun J=> A0 PR (Instr.fieldAt 45 (.pointer (some ⟨ba,0,none⟩)) 5) J) fun t62=>
 gj t60 true (fun J=> A6 PR (Instr.loadAt 3 t62) J) fun t63=>
 gj t60 true (fun J=> A0 PR (binOp .eql 3 t63 (.int .i64 6)) J) fun t64=>
 gj t60 true (fun J=> J t64) fun t65=>
 gj t65 false (fun J=> A0 PR (Instr.fieldAt 45 (.pointer (some ⟨ba,0,none⟩)) 5) J) fun t66=>
 gj t65 false (fun J=> A6 PR (Instr.loadAt 3 t66) J) fun t67=>
 gj t65 false (fun J=> A0 PR (binOp .eql 3 t67 (.int .i64 17)) J) fun t68=>
 gj t60 true (fun J=> A0 PR (do pure (if ← asBool t65 then (.bool true) else t68)) J) fun t69=>
 A0 PR (do pure (if ← asBool t60 then t69 else (.bool false))) fun t70=>
 R t70
theorem C2f (w:World) (k:KeyV) (a b:Bool) (ba:Nat) (R:Value → WP) (hR:R = Rv w (fun u=> u = .bool (((a || b) && K7 k.fr k.tp) && decide (k.proto = 6 ∨ k.proto = 17)))) :
  TW false [] w [.pt ba (.cells #[.int .i64 k.v,.string k.src,.string k.dst,.int .i64 k.fr,.int .i64 k.tp,.int .i64 k.proto] 45)] (B4T ba (.bool a) (.bool b) R):=by
 unfold B4T
 subst hR
 by_cases p1:0 ≤ k.fr
 case neg=>
  have hp:K7 k.fr k.tp = false:=by simp [K7]; omega
  rw [hp]
  cases a <;> cases b <;> ((have z:=trivial;repeat((first|clear z|with_reducible first|apply A3|refine A4 fun _=>?_|refine A5 fun _=>?_);try simp(disch:=solve|omega|assumption|repeat(first|exact A1|exact uH|apply A2|apply uT)|(simp;try omega)|fail)[p1])); exact A9 (by simp))
 by_cases p2:k.fr ≤ 65535
 case neg=>
  have hp:K7 k.fr k.tp = false:=by simp [K7]; omega
  rw [hp]
  cases a <;> cases b <;> ((have z:=trivial;repeat((first|clear z|with_reducible first|apply A3|refine A4 fun _=>?_|refine A5 fun _=>?_);try simp(disch:=solve|omega|assumption|repeat(first|exact A1|exact uH|apply A2|apply uT)|(simp;try omega)|fail)[p1,p2])); exact A9 (by simp))
 by_cases p3:0 ≤ k.tp
 case neg=>
  have hp:K7 k.fr k.tp = false:=by simp [K7]; omega
  rw [hp]
  cases a <;> cases b <;> ((have z:=trivial;repeat((first|clear z|with_reducible first|apply A3|refine A4 fun _=>?_|refine A5 fun _=>?_);try simp(disch:=solve|omega|assumption|repeat(first|exact A1|exact uH|apply A2|apply uT)|(simp;try omega)|fail)[p1,p2,p3])); exact A9 (by simp))
 by_cases p4:k.tp ≤ 65535
 case neg=>
  have hp:K7 k.fr k.tp = false:=by simp [K7]; omega
  rw [hp]
  cases a <;> cases b <;> ((have z:=trivial;repeat((first|clear z|with_reducible first|apply A3|refine A4 fun _=>?_|refine A5 fun _=>?_);try simp(disch:=solve|omega|assumption|repeat(first|exact A1|exact uH|apply A2|apply uT)|(simp;try omega)|fail)[p1,p2,p3,p4])); exact A9 (by simp))
 have hp:K7 k.fr k.tp = true:=by simp [K7]; omega
 rw [hp]
 by_cases c6:k.proto = 6
 ·cases a <;> cases b <;> ((have z:=trivial;repeat((first|clear z|with_reducible first|apply A3|refine A4 fun _=>?_|refine A5 fun _=>?_);try simp(disch:=solve|omega|assumption|repeat(first|exact A1|exact uH|apply A2|apply uT)|(simp;try omega)|fail)[p1,p2,p3,p4,c6])); exact A9 (by simp))
 by_cases c7:k.proto = 17
 ·cases a <;> cases b <;> ((have z:=trivial;repeat((first|clear z|with_reducible first|apply A3|refine A4 fun _=>?_|refine A5 fun _=>?_);try simp(disch:=solve|omega|assumption|repeat(first|exact A1|exact uH|apply A2|apply uT)|(simp;try omega)|fail)[p1,p2,p3,p4,c6,c7])); exact A9 (by simp))
 ·cases a <;> cases b <;> ((have z:=trivial;repeat((first|clear z|with_reducible first|apply A3|refine A4 fun _=>?_|refine A5 fun _=>?_);try simp(disch:=solve|omega|assumption|repeat(first|exact A1|exact uH|apply A2|apply uT)|(simp;try omega)|fail)[p1,p2,p3,p4,c6,c7])); exact A9 (by simp [c6,c7]))
theorem C5m (w:World) (k:KeyV):Fn PR B8 255 #[k.val] w (fun u w' => u = .bool (U1 k) ∧ C7 [] w w'):=by
 rw [C5B]
 refine Fn.pure (A7p (TW.go (κ:=false) (S := []) ?_))
 unfold A1g KeyV.val
 refine A4 fun ba=> ?_
 have tail:=fun a b=> C2f w k a b ba _ rfl
 generalize hF:(fun (a b:Bool)=> (Rv w (fun u=> u = Value.bool (((a || b) && K7 k.fr k.tp) && decide (k.proto = 6 ∨ k.proto = 17))))) = F
 replace tail:∀ a b,TW false [] w [.pt ba (.cells #[.int .i64 k.v,.string k.src,.string k.dst,.int .i64 k.fr,.int .i64 k.tp,.int .i64 k.proto] 45)] (B4T ba (.bool a) (.bool b) (F a b)):=by subst hF; exact tail
 have goal:∀ a b,decide (k.v = 4 ∧ k.src.size = 4 ∧ k.dst.size = 4) = a → decide (k.v = 6 ∧ k.src.size = 16 ∧ k.dst.size = 16) = b → ∀ R,R = F a b → TW false [] w [.pt ba (.cells #[.int .i64 k.v,.string k.src,.string k.dst,.int .i64 k.fr,.int .i64 k.tp,.int .i64 k.proto] 45)] (
 A0 PR (Instr.fieldAt 45 (.pointer (some ⟨ba,0,none⟩)) 0) fun t6=>
 A6 PR (Instr.loadAt 3 t6) fun t7=>
 A0 PR (binOp .eql 3 t7 (.int .i64 4)) fun t8=>
 gj t8 true (fun J=> A0 PR (Instr.fieldAt 45 (.pointer (some ⟨ba,0,none⟩)) 1) J) fun t10=>
 gj t8 true (fun J=> A6 PR (Instr.loadAt 9 t10) J) fun t11=>
 gj t8 true (fun J=> A0 PR (A8 .len #[9] 0 [t11]) J) fun t12=>
 gj t8 true (fun J=> A0 PR (binOp .eql 3 t12 (.int .i64 4)) J) fun t13=>
 A0 PR (do pure (if ← asBool t8 then t13 else (.bool false))) fun t14=>
 gj t14 true (fun J=> A0 PR (Instr.fieldAt 45 (.pointer (some ⟨ba,0,none⟩)) 2) J) fun t16=>
 gj t14 true (fun J=> A6 PR (Instr.loadAt 9 t16) J) fun t17=>
 gj t14 true (fun J=> A0 PR (A8 .len #[9] 0 [t17]) J) fun t18=>
 gj t14 true (fun J=> A0 PR (binOp .eql 3 t18 (.int .i64 4)) J) fun t19=>
 A0 PR (do pure (if ← asBool t14 then t19 else (.bool false))) fun t20=>
 A0 PR (Instr.fieldAt 45 (.pointer (some ⟨ba,0,none⟩)) 0) fun t21=>
 A6 PR (Instr.loadAt 3 t21) fun t22=>
 A0 PR (binOp .eql 3 t22 (.int .i64 6)) fun t23=>
 gj t23 true (fun J=> A0 PR (Instr.fieldAt 45 (.pointer (some ⟨ba,0,none⟩)) 1) J) fun t25=>
 gj t23 true (fun J=> A6 PR (Instr.loadAt 9 t25) J) fun t26=>
 gj t23 true (fun J=> A0 PR (A8 .len #[9] 0 [t26]) J) fun t27=>
 gj t23 true (fun J=> A0 PR (binOp .eql 3 t27 (.int .i64 16)) J) fun t28=>
 A0 PR (do pure (if ← asBool t23 then t28 else (.bool false))) fun t29=>
 gj t29 true (fun J=> A0 PR (Instr.fieldAt 45 (.pointer (some ⟨ba,0,none⟩)) 2) J) fun t31=>
 gj t29 true (fun J=> A6 PR (Instr.loadAt 9 t31) J) fun t32=>
 gj t29 true (fun J=> A0 PR (A8 .len #[9] 0 [t32]) J) fun t33=>
 gj t29 true (fun J=> A0 PR (binOp .eql 3 t33 (.int .i64 16)) J) fun t34=>
 A0 PR (do pure (if ← asBool t29 then t34 else (.bool false))) fun t35=>
  B4T ba t20 t35 R):=by
  intro a b h4 h6 R hR
  subst hR
  by_cases v4:k.v = 4
  ·have v6:¬ k.v = 6:=by omega
   obtain rfl:b = false:=by rw [← h6]; simp [v6]
   by_cases s4:k.src.size = 4
   case neg=>
    have s4':¬ (k.src.size:Int) = 4:=by omega
    obtain rfl:a = false:=by rw [← h4]; simp [s4]
    simp(disch:=first|omega|assumption|((repeat(first|exact A1|exact uH|apply A2|apply uT));first|done|fail)|(simp;first|done|omega|fail))[v4,v6,s4,s4']
    rw [← v4]; exact tail false false
   by_cases d4:k.dst.size = 4
   case neg=>
    have d4':¬ (k.dst.size:Int) = 4:=by omega
    obtain rfl:a = false:=by rw [← h4]; simp [d4]
    simp(disch:=first|omega|assumption|((repeat(first|exact A1|exact uH|apply A2|apply uT));first|done|fail)|(simp;first|done|omega|fail))[v4,v6,s4,d4,d4']
    rw [← v4]; exact tail false false
   obtain rfl:a = true:=by rw [← h4]; simp [v4,s4,d4]
   simp(disch:=first|omega|assumption|((repeat(first|exact A1|exact uH|apply A2|apply uT));first|done|fail)|(simp;first|done|omega|fail))[v4,v6,s4,d4]
   rw [← v4]; exact tail true false
  obtain rfl:a = false:=by rw [← h4]; simp [v4]
  by_cases v6:k.v = 6
  ·by_cases s4:k.src.size = 16
   case neg=>
    have s4':¬ (k.src.size:Int) = 16:=by omega
    obtain rfl:b = false:=by rw [← h6]; simp [s4]
    simp(disch:=first|omega|assumption|((repeat(first|exact A1|exact uH|apply A2|apply uT));first|done|fail)|(simp;first|done|omega|fail))[v4,v6,s4,s4']
    rw [← v6]; exact tail false false
   by_cases d4:k.dst.size = 16
   case neg=>
    have d4':¬ (k.dst.size:Int) = 16:=by omega
    obtain rfl:b = false:=by rw [← h6]; simp [d4]
    simp(disch:=first|omega|assumption|((repeat(first|exact A1|exact uH|apply A2|apply uT));first|done|fail)|(simp;first|done|omega|fail))[v4,v6,s4,d4,d4']
    rw [← v6]; exact tail false false
   obtain rfl:b = true:=by rw [← h6]; simp [v6,s4,d4]
   simp(disch:=first|omega|assumption|((repeat(first|exact A1|exact uH|apply A2|apply uT));first|done|fail)|(simp;first|done|omega|fail))[v4,v6,s4,d4]
   rw [← v6]; exact tail false true
  obtain rfl:b = false:=by rw [← h6]; simp [v6]
  simp(disch:=first|omega|assumption|((repeat(first|exact A1|exact uH|apply A2|apply uT));first|done|fail)|(simp;first|done|omega|fail))[v4,v6]
  exact tail false false
 exact goal _ _ rfl rfl _ (by subst hF; rfl)
theorem B1g (w:World) (v n:Int) (h0:0 ≤ v) (h1:v < 2 ^ 64):Fn PR B8 256 #[.int .u64 v,.int .i64 n] w (fun u w' => u = .string (F3 v n) ∧ C7 [] w w'):=by
 obtain ⟨m,rfl⟩:∃ m:Nat,v = m:=⟨v.toNat,by omega⟩
 exact B8H w m n (by omega)
theorem C6A (w:World) (k:KeyV):Fn PR B8 220 #[k.val] w (fun u w' => u = A0z k ∧ C7 [] w w'):=by
 refine Fn.pure (A7L (TW.go (κ:=false) (S := []) ?_))
 unfold A1U KeyV.val
 (have z:=trivial;repeat((first|clear z|with_reducible first|apply A3|refine A4 fun _=>?_|refine A5 fun _=>?_);try simp(disch:=solve|omega|assumption|repeat(first|exact A1|exact uH|apply A2|apply uT)|(simp;try omega)|fail)[]))
 refine B7 A6F (fun w' _=> C5m w' k) ?_
 cases hb:U1 k with
 | false=>
  (have z:=trivial;repeat((first|clear z|with_reducible first|apply A3|refine A4 fun _=>?_|refine A5 fun _=>?_);try simp(disch:=solve|omega|assumption|repeat(first|exact A1|exact uH|apply A2|apply uT)|(simp;try omega)|fail)[]))
  exact A9 (by simp [A0z,hb])
 | true=>
  have hb':=hb
  simp only [U1,decide_eq_true_eq] at hb'
  obtain ⟨b1,b2,b3,b4⟩:=hb'
  obtain ⟨hp,hq⟩:=B7p b4
  simp only [K7,decide_eq_true_eq] at hq
  have hv:k.v = 4 ∨ k.v = 6:=by unfold W6 at b1; split at b1 <;> (try split at b1) <;> omega
  have hval:=C35 k hv b2 b3 hp
  have hl:W6 k.v ≤ 16:=by rcases hv with h | h <;> rw [h] <;> decide
  have hw1:(A8P k.src).size ≤ 16:=by unfold A8P; rw [ByteArray.size_append,V4]; omega
  have hw2:(A8P k.dst).size ≤ 16:=by unfold A8P; rw [ByteArray.size_append,V4]; omega
  (have z:=trivial;repeat((first|clear z|with_reducible first|apply A3|refine A4 fun _=>?_|refine A5 fun _=>?_);try simp(disch:=solve|omega|assumption|repeat(first|exact A1|exact uH|apply A2|apply uT)|(simp;try omega)|fail)[]))
  refine B7 P9 (fun w' _=> B1g w' k.v 1 (by omega) (by omega)) ?_
  (have z:=trivial;repeat((first|clear z|with_reducible first|apply A3|refine A4 fun _=>?_|refine A5 fun _=>?_);try simp(disch:=solve|omega|assumption|repeat(first|exact A1|exact uH|apply A2|apply uT)|(simp;try omega)|fail)[]))
  refine B7 P9 (fun w' _=> B1g w' _ 1 (by omega) (by omega)) ?_
  (have z:=trivial;repeat((first|clear z|with_reducible first|apply A3|refine A4 fun _=>?_|refine A5 fun _=>?_);try simp(disch:=solve|omega|assumption|repeat(first|exact A1|exact uH|apply A2|apply uT)|(simp;try omega)|fail)[S1]))
  refine B7 P9 (fun w' _=> B1g w' _ 2 (by omega) (by omega)) ?_
  (have z:=trivial;repeat((first|clear z|with_reducible first|apply A3|refine A4 fun _=>?_|refine A5 fun _=>?_);try simp(disch:=solve|omega|assumption|repeat(first|exact A1|exact uH|apply A2|apply uT)|(simp;try omega)|fail)[]))
  refine B7 P9 (fun w' _=> B1g w' _ 2 (by omega) (by omega)) ?_
  (have z:=trivial;repeat((first|clear z|with_reducible first|apply A3|refine A4 fun _=>?_|refine A5 fun _=>?_);try simp(disch:=solve|omega|assumption|repeat(first|exact A1|exact uH|apply A2|apply uT)|(simp;try omega)|fail)[S1]))
  refine B7 A1V (fun w' _=> C0P w' _ (by omega)) ?_
  (have z:=trivial;repeat((first|clear z|with_reducible first|apply A3|refine A4 fun _=>?_|refine A5 fun _=>?_);try simp(disch:=solve|omega|assumption|repeat(first|exact A1|exact uH|apply A2|apply uT)|(simp;try omega)|fail)[S1]))
  refine B7 A1V (fun w' _=> C0P w' _ (by omega)) ?_
  (have z:=trivial;repeat((first|clear z|with_reducible first|apply A3|refine A4 fun _=>?_|refine A5 fun _=>?_);try simp(disch:=solve|omega|assumption|repeat(first|exact A1|exact uH|apply A2|apply uT)|(simp;try omega)|fail)[S1]))
  exact A9 (by simp [A0z,hb,hval])
theorem C2S {l:List F8} {i:Nat} {x:F8} (hx:l[i]? = some x) (h:∀ j y,j < i → l[j]? = some y → y.1 ≠ x.1):Q5 l x.1 = (i:Nat):=by
 rw [Q5,A71 hx (by simp) fun j y hj hy=> by simpa using h j y hj hy]
theorem B8g (l:List F8):u4 l = true ↔ ∀ i x,l[i]? = some x → A3W x = true ∧ Q5 l x.1 = (i:Nat):=by
 rw [A5y]
 constructor
 ·rintro ⟨h1,h2⟩ i x hx
  exact ⟨h1 x (List.mem_of_getElem? hx),C2S hx fun j y hj hy=> D0b h2 hj hy hx⟩
 ·intro h
  refine ⟨fun b hb=> ?_,List.pairwise_iff_getElem.2 fun i j hi hj hij e=> ?_⟩
  ·obtain ⟨i,hi⟩:=List.getElem?_of_mem hb
   exact (h i b hi).1
  ·have h1:=(h i _ (List.getElem?_eq_getElem hi)).2
   have h2:=(h j _ (List.getElem?_eq_getElem hj)).2
   rw [e,h2] at h1
   omega
theorem C7j (w:World) (v:Value) (l:List F8) (hn:l.length ≤ 1000000) (hv:F5 w v l.length (l.flatMap H5)) :
  Fn PR B8 153 #[v] w (fun r w' => r = .int .i64 (Q3 l) ∧ C7 [] w w'):=by
 refine Fn.pure (A7P (TW.go (κ:=false) (S := []) ?_))
 unfold A1f
 obtain ⟨a,c,rfl,hr⟩:=hv.form
 by_cases c0:32 < l.length
 ·have c0':(32:Int) < l.length:=by omega
  (have z:=trivial;repeat((first|clear z|with_reducible first|apply A3|refine A4 fun _=>?_|refine A5 fun _=>?_);try simp(disch:=solve|omega|assumption|repeat(first|exact A1|exact uH|apply A2|apply uT)|(simp;try omega)|fail)[c0,c0']))
  exact A9 (by simp [Q3]; omega)
 have c0':¬ (32:Int) < l.length:=by omega
 (have z:=trivial;repeat((first|clear z|with_reducible first|apply A3|refine A4 fun _=>?_|refine A5 fun _=>?_);try simp(disch:=solve|omega|assumption|repeat(first|exact A1|exact uH|apply A2|apply uT)|(simp;try omega)|fail)[c0,c0']))
 refine P5 (α:=Unit) l.length (fun _ _=> .int .i64 0) (fun _ _=> []) (fun i _=> ∀ j x,j < i → l[j]? = some x → A3W x = true ∧ Q5 l x.1 = (j:Nat)) () (by intro j x hj; omega) ?_
 rintro i _ hi hpre L hL
 by_cases hlt:i < l.length
 ·obtain ⟨b,o,rfl,hrow⟩:=hr (by omega)
  have hx:l[i]? = some l[i]:=List.getElem?_eq_getElem hlt
  generalize l[i] = x at hx
  have h1:=hrow.at (f:=H5) (k:=2) (fun _=> rfl) hx
  rw [H5] at h1
  have bad:¬ (A3W x = true ∧ Q5 l x.1 = (i:Nat)) → Q3 l = 10:=fun h=> by
   have:u4 l = false:=by
    rw [← Bool.not_eq_true,B8g]
    exact fun hh=> h (hh i x hx)
   simp [Q3,this]
  by_cases c1:x.1 < 1
  ·rw [bad fun h=> by have:=h.1; simp [A3W] at this; omega]
   (have z:=trivial;repeat((first|clear z|with_reducible first|apply A3|refine A4 fun _=>?_|refine A5 fun _=>?_);try simp(disch:=solve|omega|assumption|repeat(first|exact A1|exact uH|apply A2|apply uT)|(simp;try omega)|fail)[hlt,h1,c1]))
   exact A9 rfl
  by_cases c2:65535 < x.1
  ·rw [bad fun h=> by have:=h.1; simp [A3W] at this; omega]
   (have z:=trivial;repeat((first|clear z|with_reducible first|apply A3|refine A4 fun _=>?_|refine A5 fun _=>?_);try simp(disch:=solve|omega|assumption|repeat(first|exact A1|exact uH|apply A2|apply uT)|(simp;try omega)|fail)[hlt,h1,c1,c2]))
   exact A9 rfl
  by_cases c3:x.2 < 1
  ·rw [bad fun h=> by have:=h.1; simp [A3W] at this; omega]
   (have z:=trivial;repeat((first|clear z|with_reducible first|apply A3|refine A4 fun _=>?_|refine A5 fun _=>?_);try simp(disch:=solve|omega|assumption|repeat(first|exact A1|exact uH|apply A2|apply uT)|(simp;try omega)|fail)[hlt,h1,c1,c2,c3]))
   exact A9 rfl
  by_cases c4:16 < x.2
  ·rw [bad fun h=> by have:=h.1; simp [A3W] at this; omega]
   (have z:=trivial;repeat((first|clear z|with_reducible first|apply A3|refine A4 fun _=>?_|refine A5 fun _=>?_);try simp(disch:=solve|omega|assumption|repeat(first|exact A1|exact uH|apply A2|apply uT)|(simp;try omega)|fail)[hlt,h1,c1,c2,c3,c4]))
   exact A9 rfl
  (have z:=trivial;repeat((first|clear z|with_reducible first|apply A3|refine A4 fun _=>?_|refine A5 fun _=>?_);try simp(disch:=solve|omega|assumption|repeat(first|exact A1|exact uH|apply A2|apply uT)|(simp;try omega)|fail)[hlt,h1,c1,c2,c3,c4]))
  refine B7 A1M (fun w' hw' => B8w w' _ l _ hn (hv.ks hw'.ks (by simp))) ?_
  by_cases c5:Q5 l x.1 = (i:Nat)
  case neg=>
   rw [bad fun h=> c5 h.2]
   (have z:=trivial;repeat((first|clear z|with_reducible first|apply A3|refine A4 fun _=>?_|refine A5 fun _=>?_);try simp(disch:=solve|omega|assumption|repeat(first|exact A1|exact uH|apply A2|apply uT)|(simp;try omega)|fail)[c5]))
   exact A9 rfl
  ·(have z:=trivial;repeat((first|clear z|with_reducible first|apply A3|refine A4 fun _=>?_|refine A5 fun _=>?_);try simp(disch:=solve|omega|assumption|repeat(first|exact A1|exact uH|apply A2|apply uT)|(simp;try omega)|fail)[c5]))
   refine Sels.tw .nil (hL hlt () ?_)
   intro j y hj hy
   by_cases hji:j = i
   ·subst hji
    rw [hx] at hy
    cases hy
    exact ⟨by simp [A3W]; omega,c5⟩
   ·exact hpre j y (by omega) hy
 ·obtain rfl:i = l.length:=by omega
  have hok:u4 l = true:=(B8g l).2 fun j x hx=> hpre j x (List.getElem?_eq_some_iff.1 hx).1 hx
  have hv:Q3 l = 0:=by simp [Q3,hok]; omega
  rw [hv]
  (have z:=trivial;repeat((first|clear z|with_reducible first|apply A3|refine A4 fun _=>?_|refine A5 fun _=>?_);try simp(disch:=solve|omega|assumption|repeat(first|exact A1|exact uH|apply A2|apply uT)|(simp;try omega)|fail)[]))
  exact A9 rfl
end Go.Proofs.YtjobgnabneddjaaGreat
namespace Go.Proofs.YtjobgnabneddjaaGreat
open Go
theorem M0.slice {κ:Bool} {S:List Nat} {w0:World} {H:List Res} {v:Value} {n:Nat} {xs:List Value} {K0:WP} (h:M0 κ S w0 H v n xs) (hK:∀ a c,v = .slice a n c → TW κ S w0 H K0):TW κ S w0 H K0:=fun w hw=> by
 obtain ⟨a,c,e,_⟩:=(h w hw).form
 exact hK a c e w hw
structure RdN (bad:List Nat) (w:World) (v:Value) (n:Nat) (xs:List Value):Prop where
 rd:F5 w v n xs
 off:0 < n → ∀ g ∈ N5 v,g ∉ bad
 nil:n = 0 → xs = []
theorem RdN.ks {κ:Bool} {S bad:List Nat} {w w':World} {v:Value} {n:Nat} {xs:List Value} (h:RdN bad w v n xs) (hk:KS κ S w w') (hs:∀ s ∈ S,s ∈ bad):RdN bad w' v n xs :=
 ⟨h.rd.ks0 h.nil hk fun h0 g hg hgS=> h.off h0 g hg (hs g hgS),h.off,h.nil⟩
theorem RdN.sub {bad bad':List Nat} {w:World} {v:Value} {n:Nat} {xs:List Value} (h:RdN bad w v n xs) (hs:∀ s ∈ bad',s ∈ bad):RdN bad' w v n xs:=⟨h.rd,fun h0 g hg hb=> h.off h0 g hg (hs g hb),h.nil⟩
theorem RdN.open {bad:List Nat} {w:World} {v:Value} {n:Nat} {xs:List Value} (h:RdN bad w v n xs):∃ a c,v = .slice a n c ∧ (0 < n → ∃ b o,a = some ⟨b,o,none⟩ ∧ P3 w b o xs ∧ b ∉ bad):=by
 obtain ⟨a,c,e,hr⟩:=h.rd.form
 refine ⟨a,c,e,fun h0=> ?_⟩
 obtain ⟨b,o,ea,hrow⟩:=hr h0
 refine ⟨b,o,ea,hrow,h.off h0 b ?_⟩
 rw [e,ea]; simp [N5]
section
variable {κ:Bool} {S:List Nat} {w0 w:World} {H Hk:List Res} {K:Value → WP}
theorem Part.skip {x:Res} {Hc:List Res} (h:Part Hc H Hk):Part Hc (x :: H) (x :: Hk):=by
 induction h with
 | nil=> exact Part.nil
 | cons h1 _ ih=> exact Part.cons (Sel.there h1) ih
theorem Inv.tabs {c:CfgV} {m:MoH} (hi:Inv c m.st):∀ t ∈ m.ts,TabOk c.cp.toNat t.1.2:=fun t ht=> hi.tab (t.1.2,t.2) (List.mem_map.2 ⟨t,ht,rfl⟩)
end
def A53 (s:ByteArray) (n:Int):Value :=
 if (D1 s).2.2 ≠ 0 then .agg #[.string M6,.int .i64 0,.bool false,.int .i64 9]
 else .agg #[.string (A2j (D1 s).1),.int .i64 (V1 (A2j (D1 s).1) n:Nat),.bool (x8 (D1 s).1 (D1 s).2.1),.int .i64 0]
theorem C5z (w:World) (s:ByteArray) (n:Int) (hs:s.size < 2 ^ 40) (hn:n < 2 ^ 63):Fn PR B8 163 #[.string s,.int .i64 n] w (fun v w' => v = A53 s n ∧ C7 [] w w'):=by
 refine Fn.pure (A82 (TW.go (κ:=false) (S := []) ?_))
 unfold A2M
 (have z:=trivial;repeat((first|clear z|with_reducible first|apply A3|refine A4 fun _=>?_|refine A5 fun _=>?_);try simp(disch:=solve|omega|assumption|repeat(first|exact A1|exact uH|apply A2|apply uT)|(simp;try omega)|fail)[]))
 refine B7 A6v (fun w' _=> C66 w' s hs) ?_
 have hk:=A8k (D1 s).1
 unfold A53
 by_cases c1:(D1 s).2.2 = 0
 case neg=>
  rw [if_pos c1]
  (have z:=trivial;repeat((first|clear z|with_reducible first|apply A3|refine A4 fun _=>?_|refine A5 fun _=>?_);try simp(disch:=solve|omega|assumption|repeat(first|exact A1|exact uH|apply A2|apply uT)|(simp;try omega)|fail)[packet.val,T9,c1]))
  exact A9 rfl
 rw [if_neg (by simp [c1])]
 (have z:=trivial;repeat((first|clear z|with_reducible first|apply A3|refine A4 fun _=>?_|refine A5 fun _=>?_);try simp(disch:=solve|omega|assumption|repeat(first|exact A1|exact uH|apply A2|apply uT)|(simp;try omega)|fail)[packet.val,T9,c1]))
 refine B7 (u:=A0z (D1 s).1) A6Q (fun w' hw' => C6A w' (D1 s).1) ?_
 (have z:=trivial;repeat((first|clear z|with_reducible first|apply A3|refine A4 fun _=>?_|refine A5 fun _=>?_);try simp(disch:=solve|omega|assumption|repeat(first|exact A1|exact uH|apply A2|apply uT)|(simp;try omega)|fail)[A0z]))
 rw [show (if U1 (D1 s).1 = true then A2K (D1 s).1 else M6) = A2j (D1 s).1 from rfl]
 refine B7 A6d (fun w' hw' => C49 w' _ n hk hn) ?_
 (have z:=trivial;repeat((first|clear z|with_reducible first|apply A3|refine A4 fun _=>?_|refine A5 fun _=>?_);try simp(disch:=solve|omega|assumption|repeat(first|exact A1|exact uH|apply A2|apply uT)|(simp;try omega)|fail)[]))
 rw [A4L (by (repeat constructor)) (by rfl)]
 (have z:=trivial;repeat((first|clear z|with_reducible first|apply A3|refine A4 fun _=>?_|refine A5 fun _=>?_);try simp(disch:=solve|omega|assumption|repeat(first|exact A1|exact uH|apply A2|apply uT)|(simp;try omega)|fail)[]))
 refine B7 (u:=.bool (x8 (D1 s).1 (D1 s).2.1)) A5P (fun w' hw' => C2G w' (D1 s).1 (D1 s).2.1) ?_
 (have z:=trivial;repeat((first|clear z|with_reducible first|apply A3|refine A4 fun _=>?_|refine A5 fun _=>?_);try simp(disch:=solve|omega|assumption|repeat(first|exact A1|exact uH|apply A2|apply uT)|(simp;try omega)|fail)[]))
 exact A9 rfl
structure RmH where
 pv:Value
 tv:Value
 lv:Value
 c:CfgV
 pool:List F8
 ts:List (Value × List EnV)
 pl:List Nat
def RmH.cs (r:RmH):Array Value:=#[.int .i64 r.c.wk,.int .i64 r.c.sh,.int .i64 r.c.cp,.int .i64 r.c.idle,.int .i64 r.c.sl,r.pv,r.tv,r.lv]
def C30 (l:List Nat):List Value:=l.map fun n:Nat=> .int .i64 (n:Int)
def RmH.val (r:RmH):Value:=.agg r.cs
def RmH.st (r:RmH):MoS:=⟨r.c,r.pool,(r.ts.map (·.2)).zip r.pl⟩
section
variable (w:World) (r:RmH) (o:OpV) (v:Value) (now:Int)
end
theorem C3M (n:Nat):(Builtin.zeroCells (Value.int .i64 0).cells n).toList = C30 (List.replicate n 0):=by
 have hz:(Builtin.zeroCells (Value.int .i64 0).cells n).toList.length = n:=by simp [size_zeroCells]
 apply List.ext_getElem (by rw [hz]; simp [C30])
 intro i h1 h2
 simp [Builtin.zeroCells,C30,Nat.mod_one]
section
open Instr
variable {X:Nat → Prop} {t0 t1 t2 t3 t4 t5 t6 t7:Value} {R:Value → WP} {w:World}
def B26 (X:Nat → Prop) (a:Value) (R:Value → WP):WP :=
 B5 PR X (box 23 a) fun b=>
 jn (n:=2) (fun c d=>
 A6 PR (loadAt 23 b) fun e=>
 A0 PR (makeFunc (.func 67) #[] #[b]) fun f=>
 A0 PR (makeFunc (.func 69) #[] #[b]) fun g=>
 A0 PR (makeFunc (.func 72) #[] #[b]) fun h=>
 B5 PR X (buildSlice 228 3 #[(0,f),(1,g),(2,h)]) fun i=>
 B3 PR X 66 [e,i] fun j=>
 R (.tuple #[j,(.int .i64 0)])) fun J1=>
 A6 PR (loadAt 23 b) fun k=>
 B3 PR X 65 [k] fun l=>
 A0 PR (binOp .neq 27 l (.int .i64 0)) fun m=>
 C0 m (
 R (.tuple #[(.pointer none),l])) (
 J1 (.pointer none) (.int .i64 0))
theorem B2Q:B0 PR 16:=A7 Tryz.func16 (by kernel_rfl) rfl
theorem C1J (h:B26 X t0 R w):Fn PR X 16 #[t0] w R:=C4 (args := [t0]) mixed Tryz.func16 (by kernel_rfl) h
def A2q (X:Nat → Prop) (a:Value) (R:Value → WP):WP :=
 jn (n:=2) (fun b c=>
 R b) fun J1=>
 A0 PR (B4 a) fun d=>
 A0 PR (fieldAt 39 d 4) fun e=>
 A6 PR (loadAt 36 e) fun f=>
 A0 PR (A8 .len #[36] 0 [f]) fun g=>
 lp (n:=2) (fun L2 h i=>
 A0 PR (binOp .lss 3 i g) fun j=>
 jn (n:=0) (
 jn (n:=1) (fun k=>
 A0 PR (binOp .add 3 i (.int .i64 1)) fun l=>
 L2 k l) fun J3=>
 A0 PR (B4 a) fun m=>
 A0 PR (fieldAt 39 m 1) fun o=>
 A6 PR (loadAt 33 o) fun p=>
 B3 PR X 37 [p,i] fun q=>
 B5 PR X (buildSlice 37 1 #[(0,q)]) fun r=>
 B5 PR X (A8 .append #[37,37] 37 [h,r]) fun s=>
 J3 s) fun J4=>
 C0 j (
 J4) (
 J1 h i)) (.slice none 0 0) (.int .i64 0)
theorem A9D:B0 PR 56:=A7 Tryz.func56 (by kernel_rfl) rfl
theorem B0n (h:A2q X t0 R w):Fn PR X 56 #[t0] w R:=C4 (args := [t0]) mixed Tryz.func56 (by kernel_rfl) h
def A5E (X:Nat → Prop) (a b:Value) (R:Value → WP):WP :=
 jn (n:=1) (fun c=>
 A0 PR (binOp .add 3 (.int .i64 2) b) fun d=>
 A0 PR (binOp .sub 3 d (.int .i64 1)) fun e=>
 R e) fun J1=>
 A0 PR (binOp .lss 3 b (.int .i64 1)) fun f=>
 gj f false (fun J=> J b) fun g=>
 gj f false (fun J=> J a) fun h=>
 gj f false (fun J=> A0 PR (B4 h) J) fun i=>
 gj f false (fun J=> A0 PR (fieldAt 39 i 0) J) fun j=>
 gj f false (fun J=> A0 PR (fieldAt 23 j 0) J) fun k=>
 gj f false (fun J=> A6 PR (loadAt 3 k) J) fun l=>
 gj f false (fun J=> A0 PR (binOp .gtr 3 g l) J) fun m=>
 A0 PR (do pure (if ← asBool f then (.bool true) else m)) fun o=>
 C0 o (
 R (.int .i64 (-1))) (
 J1 (.int .i64 0))
theorem U0:B0 PR 57:=A7 Tryz.func57 (by kernel_rfl) rfl
theorem B3a (h:A5E X t0 t1 R w):Fn PR X 57 #[t0,t1] w R:=C4 (args := [t0,t1]) mixed Tryz.func57 (by kernel_rfl) h
def B15 (X:Nat → Prop) (a b:Value) (R:Value → WP):WP :=
 B5 PR X (box 23 a) fun c=>
 A6 PR (loadAt 23 c) fun d=>
 A0 PR (build 39 #[(0,d)]) fun e=>
 B5 PR X (box 39 e) fun f=>
 jn (n:=1) (fun g=>
 R f) fun J1=>
 A0 PR (A8 .len #[228] 0 [b]) fun h=>
 lp (n:=1) (fun L2 i=>
 A0 PR (binOp .lss 3 i h) fun j=>
 jn (n:=0) (
 jn (n:=0) (
 A0 PR (binOp .add 3 i (.int .i64 1)) fun k=>
 L2 k) fun J3=>
 A0 PR (indexAt 228 b i) fun l=>
 A6 PR (loadAt 124 l) fun m=>
 N7 PR X m [f] fun o=>
 J3) fun J4=>
 C0 j (
 J4) (
 J1 i)) (.int .i64 0)
theorem B8S:B0 PR 66:=A7 Tryz.func66 (by kernel_rfl) rfl
theorem B9e (h:B15 X t0 t1 R w):Fn PR X 66 #[t0,t1] w R:=C4 (args := [t0,t1]) mixed Tryz.func66 (by kernel_rfl) h
def A8l (X:Nat → Prop) (a b:Value) (R:Value → WP):WP :=
 A0 PR (fieldAt 23 b 0) fun c=>
 A6 PR (loadAt 3 c) fun d=>
 A0 PR (binOp .add 3 (.int .i64 2) d) fun e=>
 A0 PR (fieldAt 23 b 1) fun f=>
 A6 PR (loadAt 3 f) fun g=>
 B3 PR X 68 [e,g] fun h=>
 A0 PR (B4 a) fun i=>
 A0 PR (fieldAt 39 i 1) fun j=>
 C1 PR X (storeAt 33 j h) <|
 R (.tuple #[])
theorem B5b:B0 PR 67:=A7 Tryz.func67 (by kernel_rfl) rfl
theorem B7Q (h:A8l X t0 t1 R w):Fn PR X 67 #[t0,t1] w R:=C4 (args := [t0,t1]) mixed Tryz.func67 (by kernel_rfl) h
def A76 (X:Nat → Prop) (a b:Value) (R:Value → WP):WP :=
 drw <|
 A0 PR (fieldAt 23 b 4) fun c=>
 A6 PR (loadAt 3 c) fun d=>
 A0 PR (fieldAt 23 b 4) fun e=>
 A6 PR (loadAt 3 e) fun f=>
 B3 PR X 70 [d] fun g=>
 watch PR [(none,(loadAt 3 e),f)] <|
 B3 PR X 71 [f] fun h=>
 A0 PR (B4 a) fun i=>
 A0 PR (fieldAt 39 i 2) fun j=>
 C1 PR X (storeAt 34 j g) <|
 A0 PR (B4 a) fun k=>
 A0 PR (fieldAt 39 k 3) fun l=>
 C1 PR X (storeAt 35 l h) <|
 R (.tuple #[])
theorem B5r:B0 PR 69:=A7 Tryz.func69 (by kernel_rfl) rfl
theorem B66 (h:A76 X t0 t1 R w):Fn PR X 69 #[t0,t1] w R:=C4 (args := [t0,t1]) mixed Tryz.func69 (by kernel_rfl) h
def A8W (X:Nat → Prop) (a b:Value) (R:Value → WP):WP :=
 A0 PR (fieldAt 23 b 1) fun c=>
 A6 PR (loadAt 3 c) fun d=>
 lp (n:=1) (fun L1 e=>
 A0 PR (binOp .lss 3 e d) fun f=>
 jn (n:=0) (
 jn (n:=0) (
 A0 PR (binOp .add 3 e (.int .i64 1)) fun g=>
 L1 g) fun J2=>
 drw <|
 A0 PR (B4 a) fun h=>
 A0 PR (fieldAt 39 h 4) fun i=>
 A6 PR (loadAt 36 i) fun j=>
 A0 PR (fieldAt 23 b 2) fun k=>
 A6 PR (loadAt 3 k) fun l=>
 B3 PR X 73 [l] fun m=>
 watch PR [(none,(loadAt 36 i),j)] <|
 B5 PR X (buildSlice 36 1 #[(0,m)]) fun o=>
 watch PR [(none,(loadAt 36 i),j)] <|
 B5 PR X (A8 .append #[36,36] 36 [j,o]) fun p=>
 A0 PR (B4 a) fun q=>
 A0 PR (fieldAt 39 q 4) fun r=>
 C1 PR X (storeAt 36 r p) <|
 A0 PR (B4 a) fun s=>
 A0 PR (fieldAt 39 s 5) fun t=>
 A6 PR (loadAt 37 t) fun u=>
 B5 PR X (buildSlice 37 1 #[(0,(.int .i64 0))]) fun v=>
 B5 PR X (A8 .append #[37,37] 37 [u,v]) fun w=>
 A0 PR (B4 a) fun x=>
 A0 PR (fieldAt 39 x 5) fun y=>
 C1 PR X (storeAt 37 y w) <|
 J2) fun J3=>
 C0 f (
 J3) (
 R (.tuple #[]))) (.int .i64 0)
theorem B59:B0 PR 72:=A7 Tryz.func72 (by kernel_rfl) rfl
theorem B6y (h:A8W X t0 t1 R w):Fn PR X 72 #[t0,t1] w R:=C4 (args := [t0,t1]) mixed Tryz.func72 (by kernel_rfl) h
def A4E (X:Nat → Prop) (a b:Value) (R:Value → WP):WP :=
 A0 PR (binOp .geq 3 b (.int .i64 0)) fun c=>
 gj c true (fun J=> J b) fun d=>
 gj c true (fun J=> A0 PR (binOp .leq 3 d (.int .i64 1000000)) J) fun e=>
 A0 PR (do pure (if ← asBool c then e else (.bool false))) fun f=>
 gj f true (fun J=> J a) fun g=>
 gj f true (fun J=> A0 PR (B4 g) J) fun h=>
 gj f true (fun J=> A0 PR (fieldAt 39 h 6) J) fun i=>
 gj f true (fun J=> A6 PR (loadAt 3 i) J) fun j=>
 gj f true (fun J=> J b) fun k=>
 gj f true (fun J=> A0 PR (binOp .sub 3 (.int .i64 1000000000) k) J) fun l=>
 gj f true (fun J=> A0 PR (binOp .leq 3 j l) J) fun m=>
 A0 PR (do pure (if ← asBool f then m else (.bool false))) fun n=>
 C0 n (
 A0 PR (B4 a) fun o=>
 A0 PR (fieldAt 39 o 6) fun p=>
 A6 PR (loadAt 3 p) fun q=>
 A0 PR (binOp .add 3 q b) fun r=>
 A0 PR (B4 a) fun s=>
 A0 PR (fieldAt 39 s 6) fun t=>
 C1 PR X (storeAt 3 t r) <|
 R (.tuple #[])) (
 R (.tuple #[]))
theorem B0y:B0 PR 100:=A7 Tryz.func100 (by kernel_rfl) rfl
theorem B2u (h:A4E X t0 t1 R w):Fn PR X 100 #[t0,t1] w R:=C4 (args := [t0,t1]) mixed Tryz.func100 (by kernel_rfl) h
def A4J (X:Nat → Prop) (a b c:Value) (R:Value → WP):WP :=
 A0 PR (B4 a) fun d=>
 A0 PR (fieldAt 141 d 2) fun e=>
 A6 PR (loadAt 37 e) fun f=>
 B3 PR X 74 [a,f,b] fun g=>
 A0 PR (binOp .geq 3 c (.int .i64 0)) fun h=>
 gj h true (fun J=> J g) fun i=>
 gj h true (fun J=> J c) fun j=>
 gj h true (fun J=> B3 PR X 75 [i,(.int .i64 (-1)),j] J) fun k=>
 A0 PR (do pure (if ← asBool h then k else (.bool false))) fun l=>
 R l
theorem A3J:B0 PR 19:=A7 Tryz.func19 (by kernel_rfl) rfl
theorem B2v (h:A4J X t0 t1 t2 R w):Fn PR X 19 #[t0,t1,t2] w R:=C4 (args := [t0,t1,t2]) mixed Tryz.func19 (by kernel_rfl) h
def A2v (X:Nat → Prop) (a b c:Value) (R:Value → WP):WP :=
 A0 PR (B4 a) fun d=>
 A0 PR (fieldAt 141 d 2) fun e=>
 A6 PR (loadAt 37 e) fun f=>
 B3 PR X 74 [a,f,b] fun g=>
 A0 PR (binOp .geq 3 c (.int .i64 0)) fun h=>
 gj h true (fun J=> J g) fun i=>
 gj h true (fun J=> J c) fun j=>
 gj h true (fun J=> B3 PR X 75 [i,j,(.int .i64 (-1))] J) fun k=>
 A0 PR (do pure (if ← asBool h then k else (.bool false))) fun l=>
 R l
theorem A1w:B0 PR 25:=A7 Tryz.func25 (by kernel_rfl) rfl
theorem B0M (h:A2v X t0 t1 t2 R w):Fn PR X 25 #[t0,t1,t2] w R:=C4 (args := [t0,t1,t2]) mixed Tryz.func25 (by kernel_rfl) h
def A3d (X:Nat → Prop) (a b c:Value) (R:Value → WP):WP :=
 A0 PR (B4 a) fun d=>
 A0 PR (fieldAt 141 d 1) fun e=>
 A6 PR (loadAt 37 e) fun f=>
 B3 PR X 74 [a,f,b] fun g=>
 A6 PR (H9 .neq 131 (.tmp 14) (.const (.pointer none)) g (.pointer none)) fun h=>
 C0 h (
 A0 PR (B4 g) fun i=>
 C1 PR X (storeAt 3 i c) <|
 R (.tuple #[])) (
 R (.tuple #[]))
theorem u3:B0 PR 31:=A7 Tryz.func31 (by kernel_rfl) rfl
theorem B1T (h:A3d X t0 t1 t2 R w):Fn PR X 31 #[t0,t1,t2] w R:=C4 (args := [t0,t1,t2]) mixed Tryz.func31 (by kernel_rfl) h
def A4G (X:Nat → Prop) (a b:Value) (R:Value → WP):WP :=
 jn (n:=1) (fun c=>
 R (.int .i64 0)) fun J1=>
 A0 PR (B4 a) fun d=>
 A0 PR (fieldAt 141 d 1) fun e=>
 A6 PR (loadAt 37 e) fun f=>
 B3 PR X 74 [a,f,b] fun g=>
 A6 PR (H9 .neq 131 (.tmp 13) (.const (.pointer none)) g (.pointer none)) fun h=>
 C0 h (
 A0 PR (B4 g) fun i=>
 A6 PR (loadAt 3 i) fun j=>
 R j) (
 J1 (.int .i64 0))
theorem W1:B0 PR 35:=A7 Tryz.func35 (by kernel_rfl) rfl
theorem B2f (h:A4G X t0 t1 R w):Fn PR X 35 #[t0,t1] w R:=C4 (args := [t0,t1]) mixed Tryz.func35 (by kernel_rfl) h
def A3u (X:Nat → Prop) (a b:Value) (R:Value → WP):WP :=
 jn (n:=1) (fun c=>
 A0 PR (B4 a) fun d=>
 A0 PR (fieldAt 141 d 2) fun e=>
 A6 PR (loadAt 37 e) fun f=>
 A0 PR (indexAt 37 f b) fun g=>
 A6 PR (loadAt 3 g) fun h=>
 R h) fun J1=>
 A0 PR (binOp .lss 3 b (.int .i64 0)) fun i=>
 gj i false (fun J=> J b) fun j=>
 gj i false (fun J=> J a) fun k=>
 gj i false (fun J=> A0 PR (B4 k) J) fun l=>
 gj i false (fun J=> A0 PR (fieldAt 141 l 2) J) fun m=>
 gj i false (fun J=> A6 PR (loadAt 37 m) J) fun o=>
 gj i false (fun J=> A0 PR (A8 .len #[37] 0 [o]) J) fun p=>
 gj i false (fun J=> A0 PR (binOp .geq 3 j p) J) fun q=>
 A0 PR (do pure (if ← asBool i then (.bool true) else q)) fun r=>
 C0 r (
 R (.int .i64 (-1))) (
 J1 (.int .i64 0))
theorem A2r:B0 PR 37:=A7 Tryz.func37 (by kernel_rfl) rfl
theorem B1U (h:A3u X t0 t1 R w):Fn PR X 37 #[t0,t1] w R:=C4 (args := [t0,t1]) mixed Tryz.func37 (by kernel_rfl) h
def B3G (X:Nat → Prop) (a b:Value) (R:Value → WP):WP :=
 drw <|
 kt (n:=1) (fun c=>
 jn (n:=1) (fun d=>
 R c) fun J1=>
 A0 PR (B4 c) fun e=>
 A0 PR (fieldAt 141 e 2) fun f=>
 A6 PR (loadAt 37 f) fun g=>
 A0 PR (A8 .len #[37] 0 [g]) fun h=>
 lp (n:=1) (fun L2 i=>
 A0 PR (binOp .lss 3 i h) fun j=>
 jn (n:=0) (
 jn (n:=0) (
 A0 PR (binOp .add 3 i (.int .i64 1)) fun k=>
 L2 k) fun J3=>
 A0 PR (B4 c) fun l=>
 A0 PR (fieldAt 141 l 2) fun m=>
 A6 PR (loadAt 37 m) fun o=>
 A0 PR (indexAt 37 o i) fun p=>
 C1 PR X (storeAt 3 p (.int .i64 (-1))) <|
 J3) fun J4=>
 C0 j (
 J4) (
 J1 i)) (.int .i64 0)) fun C5=>
 B3 PR X 128 [a] fun q=>
 both (B5 PR X (makeSlice 37 q q) fun r=>
 B3 PR X 128 [b] fun s=>
 B5 PR X (makeSlice 37 s s) fun t=>
 A0 PR (build 141 #[(1,r),(2,t)]) fun u=>
 B5 PR X (box 141 u) fun v=>
 C5 v) (both (B3 PR X 128 [b] fun w=>
 both (B5 PR X (makeSlice 37 q q) fun x=>
 B5 PR X (makeSlice 37 w w) fun y=>
 A0 PR (build 141 #[(1,x),(2,y)]) fun z=>
 B5 PR X (box 141 z) fun aa=>
 C5 aa) (both (B5 PR X (makeSlice 37 w w) fun ab=>
 B5 PR X (makeSlice 37 q q) fun ac=>
 A0 PR (build 141 #[(1,ac),(2,ab)]) fun ad=>
 B5 PR X (box 141 ad) fun ae=>
 C5 ae) ((fun _=> True)))) ((fun _=> True)))
theorem B9B:B0 PR 68:=A7 Tryz.func68 (by kernel_rfl) rfl
theorem C1Z (h:B3G X t0 t1 R w):Fn PR X 68 #[t0,t1] w R:=C4 (args := [t0,t1]) mixed Tryz.func68 (by kernel_rfl) h
def A36 (X:Nat → Prop) (a b c:Value) (R:Value → WP):WP :=
 jn (n:=1) (fun d=>
 A0 PR (B4 a) fun e=>
 A0 PR (fieldAt 141 e 0) fun f=>
 B3 PR X 129 [f] fun g=>
 A0 PR (indexAt 37 b c) fun h=>
 R h) fun J1=>
 A0 PR (binOp .lss 3 c (.int .i64 0)) fun i=>
 gj i false (fun J=> J c) fun j=>
 gj i false (fun J=> J b) fun k=>
 gj i false (fun J=> A0 PR (A8 .len #[37] 0 [k]) J) fun l=>
 gj i false (fun J=> A0 PR (binOp .geq 3 j l) J) fun m=>
 A0 PR (do pure (if ← asBool i then (.bool true) else m)) fun o=>
 C0 o (
 R (.pointer none)) (
 J1 (.pointer none))
theorem W5:B0 PR 74:=A7 Tryz.func74 (by kernel_rfl) rfl
theorem B2W (h:A36 X t0 t1 t2 R w):Fn PR X 74 #[t0,t1,t2] w R:=C4 (args := [t0,t1,t2]) mixed Tryz.func74 (by kernel_rfl) h
def B2D (X:Nat → Prop) (a b c:Value) (R:Value → WP):WP :=
 jn (n:=1) (fun d=>
 A0 PR (B4 a) fun e=>
 C1 PR X (storeAt 3 e c) <|
 R (.bool true)) fun J1=>
 A6 PR (H9 .eql 131 (.tmp 7) (.const (.pointer none)) a (.pointer none)) fun f=>
 gj f false (fun J=> J a) fun g=>
 gj f false (fun J=> A0 PR (B4 g) J) fun h=>
 gj f false (fun J=> A6 PR (loadAt 3 h) J) fun i=>
 gj f false (fun J=> J b) fun j=>
 gj f false (fun J=> A0 PR (binOp .neq 3 i j) J) fun k=>
 A0 PR (do pure (if ← asBool f then (.bool true) else k)) fun l=>
 C0 l (
 R (.bool false)) (
 J1 (.bool false))
theorem B0r:B0 PR 75:=A7 Tryz.func75 (by kernel_rfl) rfl
theorem B9d (h:B2D X t0 t1 t2 R w):Fn PR X 75 #[t0,t1,t2] w R:=C4 (args := [t0,t1,t2]) mixed Tryz.func75 (by kernel_rfl) h
def A46 (X:Nat → Prop) (a b c:Value) (R:Value → WP):WP :=
 A0 PR (B4 a) fun d=>
 A0 PR (fieldAt 141 d 1) fun e=>
 A6 PR (loadAt 37 e) fun f=>
 B3 PR X 74 [a,f,b] fun g=>
 jn (n:=1) (fun h=>
 A0 PR (B4 g) fun i=>
 A6 PR (loadAt 3 i) fun j=>
 A0 PR (binOp .add 3 j c) fun k=>
 A0 PR (B4 g) fun l=>
 C1 PR X (storeAt 3 l k) <|
 A0 PR (B4 g) fun m=>
 A6 PR (loadAt 3 m) fun o=>
 R o) fun J1=>
 A6 PR (H9 .eql 131 (.tmp 15) (.const (.pointer none)) g (.pointer none)) fun p=>
 C0 p (
 R (.int .i64 0)) (
 J1 (.int .i64 0))
theorem B2a:B0 PR 93:=A7 Tryz.func93 (by kernel_rfl) rfl
theorem B3j (h:A46 X t0 t1 t2 R w):Fn PR X 93 #[t0,t1,t2] w R:=C4 (args := [t0,t1,t2]) mixed Tryz.func93 (by kernel_rfl) h
def A8F (X:Nat → Prop) (a:Value) (R:Value → WP):WP :=
 A0 PR (A8 .max #[3,3] 0 [a,(.int .i64 0)]) fun b=>
 A0 PR (A8 .min #[3,3] 0 [b,(.int .i64 1024)]) fun c=>
 R c
theorem A2e:B0 PR 128:=A7 Tryz.func128 (by kernel_rfl) rfl
theorem B6M (h:A8F X t0 R w):Fn PR X 128 #[t0] w R:=C4 (args := [t0]) mixed Tryz.func128 (by kernel_rfl) h
def A17 (X:Nat → Prop) (a:Value) (R:Value → WP):WP :=
 A0 PR (B4 a) fun b=>
 A0 PR (fieldAt 139 b 0) fun c=>
 B3 PR X 178 [c,(.int .i64 1)] fun d=>
 R (.tuple #[])
theorem A7k:B0 PR 129:=A7 Tryz.func129 (by kernel_rfl) rfl
theorem A8w (h:A17 X t0 R w):Fn PR X 129 #[t0] w R:=C4 (args := [t0]) mixed Tryz.func129 (by kernel_rfl) h
end
end Go.Proofs.YtjobgnabneddjaaGreat
