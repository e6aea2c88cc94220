/- The proof of a given statement, a part of it. No condition but what each lemma says. -/
import Derived.MapKept
import Derived.Test.YtjobgnabneddjaaGreatK10
set_option maxHeartbeats 4000000
set_option linter.unusedVariables false
set_option linter.unusedSimpArgs false
namespace Go.Proofs.YtjobgnabneddjaaGreat
open Go
section
variable {κ:Type} [DecidableEq κ]
def b8 (enc:κ → Value):List (κ × Value) → Nat → List MapEntry
 | [],_=> []
 | p :: l,i=> ⟨enc p.1,p.2,i⟩ :: b8 enc l (i + 1)
def A0Y (enc:κ → Value) (l:List (κ × Value)):Obj:=.map (b8 enc l 0).toArray l.length
def A5N (k:κ):List (κ × Value) → Nat → Option (Nat × Value)
 | [],_=> none
 | p :: l,i=> if k = p.1 then some (i,p.2) else A5N k l (i + 1)
def y6 (k:κ):List (κ × Value) → Option Value
 | []=> none
 | p :: l=> if k = p.1 then some p.2 else y6 k l
def y5 (k:κ) (v:Value):List (κ × Value) → List (κ × Value)
 | []=> [(k,v)]
 | p :: l=> if k = p.1 then (k,v) :: l else p :: y5 k v l
theorem C6c (k k':κ) (v:Value) (l:List (κ × Value)):y6 k' (y5 k v l) = if k' = k then some v else y6 k' l:=by
 induction l with
 | nil=> simp [y5,y6]
 | cons p l ih=>
  simp only [y5]
  by_cases h:k = p.1
  ·rw [if_pos h]; simp only [y6]
   by_cases h':k' = k
   ·rw [if_pos h',if_pos h']
   ·rw [if_neg h',if_neg h',if_neg (by rw [← h]; exact h')]
  ·rw [if_neg h]; simp only [y6,ih]
   by_cases h':k' = p.1
   ·rw [if_pos h',if_pos h',if_neg (by rw [h']; exact fun e=> h e.symm)]
   ·rw [if_neg h',if_neg h']
theorem C7Z (k:κ) (l:List (κ × Value)) (i:Nat):(A5N k l i).map (·.2) = y6 k l:=by
 induction l generalizing i with
 | nil=> rfl
 | cons p l ih=> simp only [A5N,y6]; split <;> simp [ih]
@[simp] theorem D8k {α:Type} (enc:α → Value) (l:List (α × Value)) (i:Nat):(b8 enc l i).length = l.length:=by
 induction l generalizing i with
 | nil=> rfl
 | cons p l ih=> simp [b8,ih]
theorem C10 {α:Type} (enc:α → Value) (l m:List (α × Value)) (i:Nat):b8 enc (l ++ m) i = b8 enc l i ++ b8 enc m (i + l.length):=by
 induction l generalizing i with
 | nil=> simp [b8]
 | cons p l ih=> simp only [List.cons_append,b8,ih,List.length_cons]; congr 3; omega
theorem C7W (k:κ) (v:Value) (l:List (κ × Value)) (j:Nat) (h:A5N k l j = none):y5 k v l = l ++ [(k,v)]:=by
 induction l generalizing j with
 | nil=> rfl
 | cons p l ih=>
  simp only [A5N] at h
  split at h
  ·cases h
  ·rename_i hn; simp only [y5,if_neg hn,List.cons_append,ih _ h]
theorem C9J (enc:κ → Value) (k:κ) (v:Value) (l:List (κ × Value)):∀ (j n:Nat) (u:Value),A5N k l j = some (n,u) → j ≤ n ∧ n < j + l.length ∧ ((b8 enc l j)[n - j]?).map (·.key) = some (enc k) ∧
  b8 enc (y5 k v l) j = (b8 enc l j).modify (n - j) (fun e=> { e with key:=enc k,val:=v }):=by
 induction l with
 | nil=> intro j n u h; cases h
 | cons p l ih=>
  intro j n u h
  simp only [A5N] at h
  split at h
  ·rename_i hk; cases h
   refine ⟨Nat.le_refl _,by simp,by simp [b8,hk],?_⟩
   simp only [y5,if_pos hk,b8,Nat.sub_self,List.modify_zero_cons]
  ·rename_i hn
   obtain ⟨h1,h2,h3,h4⟩:=ih _ _ _ h
   have e:n - j = n - (j + 1) + 1:=by omega
   refine ⟨by omega,by simp only [List.length_cons]; omega,by rw [e]; simpa [b8] using h3,?_⟩
   simp only [y5,if_neg hn,b8,e,List.modify_succ_cons,h4]
structure KeyT (P:Program) (kt:TypeId) (enc:κ → Value):Prop where
 find:∀ k l j w,(Instr.findKey kt (enc k) (b8 enc l j)).run P w = .ok (A5N k l 0) w
 check:∀ k e w,(Instr.checkKey e 10000 kt (enc k)).run P w = .ok () w
 stays:∀ k,Instr.sameBits 10000 (enc k) (enc k) = true
theorem B37 {d:TypeDesc} {enc:κ → Value} (hs:∀ a b,Instr.sameNow d (enc a) (enc b) = some (decide (a = b))) (k:κ) (l:List (κ × Value)):∀ j i,Instr.findNow d (enc k) (b8 enc l j) i = some (A5N k l i):=by
 induction l with
 | nil=> intro j i; rfl
 | cons p l ih=>
  intro j i
  simp only [b8,Instr.findNow,hs,A5N]
  by_cases h:k = p.1
  ·simp [h]
  ·simp [h,ih]
end
theorem KeyT.int {P:Program} {kt:TypeId} {n m:Nat} {z:Value} (h:TI P kt (.int .i64) n m z):KeyT P kt (fun a:Int=> Value.int .i64 a):=by
 refine ⟨fun k l j w=> ?_,fun k e w=> ?_,fun k=> ?_⟩
 ·exact MapKept.run_findKey h.und (B37 (fun a b=> by simp [Instr.sameNow]; exact B7d a b) k l j 0)
 ·exact MapKept.run_checkKey h.und (by trivial) e 9999
 ·simp [Instr.sameBits]
theorem KeyT.string {P:Program} {kt:TypeId} {n m:Nat} {z:Value} (h:TI P kt .string n m z):KeyT P kt Value.string:=by
 refine ⟨fun k l j w=> ?_,fun k e w=> ?_,fun k=> ?_⟩
 ·exact MapKept.run_findKey h.und (B37 (fun a b=> by simp only [Instr.sameNow,C6x]) k l j 0)
 ·exact MapKept.run_checkKey h.und (by trivial) e 9999
 ·simp only [Instr.sameBits,C6x,decide_true]
section
variable {κ:Type} [DecidableEq κ] {enc:κ → Value} {σ:Bool} {P:Program} {X:Nat → Prop} {S:List Nat} {w0:World} {H H':List Res} {K:Value → WP} {K0:WP} {t kt et:TypeId} {n m n2 m2:Nat} {z z2:Value} {d:TypeDesc}
theorem C2u {α:Type} (enc:α → Value) (hK:∀ r,TW σ S w0 (.pt r (A0Y enc []) :: H) (K (.map (some r)))):TW σ S w0 H (B5 P X (Instr.makeMap t none) K):=fun w hw=> by
 have:(Instr.makeMap t none).run P w = .ok (.map (some (sz w))) (w.alloc (A0Y enc [])):=by simp [Instr.makeMap,run_newObj,A0Y,b8,sz]
 rw [d6 this (Sk.alloc X w _ (Or.inl rfl))]
 exact hK _ _ (hw.new rfl (Or.inl rfl))
theorem B51 (hm:TI P t (.map kt et) n m z) (he:TI P et d n2 m2 z2) (hk:KeyT P kt enc) {r:Nat} {l:List (κ × Value)} {k:κ} (hr:Res.pt r (A0Y enc l) ∈ H) :
  TW σ S w0 H (A6 P (Instr.lookup t (.map (some r)) (enc k) false) K) = TW σ S w0 H (K ((y6 k l).getD z2)):=TW.congr fun w hw=> by
 have hb:w.heap[r]? = some (.map (b8 enc l 0).toArray l.length):=hw.pt hr
 refine V8 ?_ K
 have h1:(getObj r).run P w = .ok (.map (b8 enc l 0).toArray l.length) w:=MapKept.run_getObj_map hb
 simp only [Instr.lookup,Sem.run_bind,hm.run_und,Result.andThen_ok,h1,Sem.run_pure,hk.check,hk.find]
 rw [← C7Z k l 0]
 cases A5N k l 0 with
 | none=> simp [he.run_zero]
 | some p=> simp
theorem B55 (hm:TI P t (.map kt et) n m z) (hk:KeyT P kt enc) {r:Nat} {l:List (κ × Value)} {k:κ} {v:Value} (hu:Up (.pt r (A0Y enc l)) (.pt r (A0Y enc (y5 k v l))) H H') (hK:TW σ S w0 H' K0) :
  TW σ S w0 H (C1 P X (Instr.mapUpdate t (.map (some r)) (enc k) v) K0):=fun w hw=> by
 have hmem:Res.pt r (A0Y enc l) ∈ H:=by obtain ⟨A,B,rfl,_⟩:=hu.parts; simp
 have hb0:=hw.pt hmem
 have hb:w.heap[r]? = some (.map (b8 enc l 0).toArray l.length):=hb0
 have h1:(getObj r).run P w = .ok (.map (b8 enc l 0).toArray l.length) w:=MapKept.run_getObj_map hb
 have hrun:(Instr.mapUpdate t (.map (some r)) (enc k) v).run P w = .ok () (World.putb w r (A0Y enc (y5 k v l))):=by
  simp only [Instr.mapUpdate,Sem.run_bind,hm.run_und,Result.andThen_ok,h1,hk.check,hk.find]
  cases hf:A5N k l 0 with
  | none=>
   have e:=C7W k v l 0 hf
   simp [A0Y,e,C10,b8,World.putb,MapKept.run_setObj_map _ hb]
  | some p=>
   obtain ⟨i,u⟩:=p
   obtain ⟨_,h2,h3,h4⟩:=C9J enc k v l 0 i u hf
   have hl:(y5 k v l).length = l.length:=by
    have:=congrArg List.length h4; simpa using this
   simp only [Nat.sub_zero] at h3 h4
   simp [A0Y,h4,hl,World.putb,MapKept.run_setObj_map _ hb,Instr.keyThatStays,h3,hk.stays]
 have hks:KS σ [r] w (World.putb w r (A0Y enc (y5 k v l))):=by
  refine ((C7.refl [r] w).putb _ (Or.inl (by simp))).ks fun _=> ?_
  have h2:∀ (q:Nat) x,(∀ c T,x ≠ Obj.map c T) → w.heap[q]? = some x → (World.putb w r (A0Y enc (y5 k v l))).heap[q]? = some x:=fun q x hx e=> by
   have:r ≠ q:=by rintro rfl; rw [hb] at e; cases e; exact hx _ _ rfl
   exact (A0B (w:=w) (o:=A0Y enc (y5 k v l)) this).trans e
  exact ⟨by simp [World.putb],fun q d=> h2 q _ (by simp),fun q lo _=> h2 q _ (by simp),rfl,rfl⟩
 have hsk:Sk X w (World.putb w r (A0Y enc (y5 k v l))):=by
  have h2:∀ (q:Nat) x,(∀ c T,x ≠ Obj.map c T) → w.heap[q]? = some x → (World.putb w r (A0Y enc (y5 k v l))).heap[q]? = some x:=fun q x hx e=> by
   have:r ≠ q:=by rintro rfl; rw [hb] at e; cases e; exact hx _ _ rfl
   exact (A0B (w:=w) (o:=A0Y enc (y5 k v l)) this).trans e
  exact ⟨by simp [World.putb],fun q d=> h2 q _ (by simp),fun q lo _=> h2 q _ (by simp),rfl,rfl⟩
 rw [C61 hrun hsk]
 refine hK _ (hw.up hu ⟨hks,?_,?_,by simp⟩)
 ·simp only [List.mem_singleton,forall_eq,Res.holds]; exact ⟨W4 (M2 hb0),rfl⟩
 ·simp only [List.mem_singleton,forall_eq,Res.foot]; exact ⟨Or.inl (by simp),by have:=M2 hb0; simpa using this⟩
end
section
open Instr
variable {X:Nat → Prop} {t0 t1 t2 t3 t4 t5 t6 t7:Value} {R:Value → WP} {w:World}
def B60 (X:Nat → Prop) (a b:Value) (R:Value → WP):WP :=
 B5 PR X (box 224 a) fun c=>
 jn (n:=2) (fun d e=>
 B5 PR X (alloc 305 true (.tuple #[])) fun f=>
 B3 PR X 172 [f,(.int .i64 1610612736),(.int .i64 4)] fun g=>
 A0 PR (A8 .len #[9] 0 [b]) fun h=>
 B3 PR X 172 [f,h,(.int .i64 2)] fun i=>
 A0 PR (fieldAt 224 c 2) fun j=>
 A6 PR (loadAt 3 j) fun k=>
 B3 PR X 172 [f,k,(.int .i64 1)] fun l=>
 B3 PR X 172 [f,(.int .i64 64),(.int .i64 1)] fun m=>
 jn (n:=1) (fun o=>
 A0 PR (fieldAt 305 f 0) fun p=>
 B3 PR X 174 [p] fun q=>
 R (.tuple #[q,(.int .i64 0)])) fun J1=>
 A0 PR (fieldAt 224 c 0) fun r=>
 A6 PR (loadAt 9 r) fun s=>
 A0 PR (fieldAt 224 c 1) fun t=>
 A6 PR (loadAt 9 t) fun u=>
 B5 PR X (buildSlice 51 3 #[(0,s),(1,u),(2,b)]) fun v=>
 A0 PR (A8 .len #[51] 0 [v]) fun w=>
 lp (n:=1) (fun L2 x=>
 A0 PR (binOp .lss 3 x w) fun y=>
 jn (n:=0) (
 jn (n:=0) (
 A0 PR (binOp .add 3 x (.int .i64 1)) fun z=>
 L2 z) fun J3=>
 A0 PR (indexAt 51 v x) fun aa=>
 A6 PR (loadAt 9 aa) fun ab=>
 A0 PR (fieldAt 305 f 0) fun ac=>
 B3 PR X 173 [ac,ab] fun ad=>
 J3) fun J4=>
 C0 y (
 J4) (
 J1 x)) (.int .i64 0)) fun J5=>
 A0 PR (fieldAt 224 c 0) fun ae=>
 A6 PR (loadAt 9 ae) fun af=>
 A0 PR (A8 .len #[9] 0 [af]) fun ag=>
 A0 PR (binOp .neq 3 ag (.int .i64 16)) fun ah=>
 gj ah false (fun J=> A0 PR (fieldAt 224 c 1) J) fun ai=>
 gj ah false (fun J=> A6 PR (loadAt 9 ai) J) fun aj=>
 gj ah false (fun J=> A0 PR (A8 .len #[9] 0 [aj]) J) fun ak=>
 gj ah false (fun J=> A0 PR (binOp .neq 3 ak (.int .i64 16)) J) fun al=>
 A0 PR (do pure (if ← asBool ah then (.bool true) else al)) fun am=>
 gj am false (fun J=> A0 PR (fieldAt 224 c 2) J) fun an=>
 gj am false (fun J=> A6 PR (loadAt 3 an) J) fun ao=>
 gj am false (fun J=> A0 PR (binOp .lss 3 ao (.int .i64 0)) J) fun ap=>
 A0 PR (do pure (if ← asBool am then (.bool true) else ap)) fun aq=>
 gj aq false (fun J=> A0 PR (fieldAt 224 c 2) J) fun ar=>
 gj aq false (fun J=> A6 PR (loadAt 3 ar) J) fun au=>
 gj aq false (fun J=> A0 PR (binOp .gtr 3 au (.int .i64 255)) J) fun av=>
 A0 PR (do pure (if ← asBool aq then (.bool true) else av)) fun aw=>
 C0 aw (
 R (.tuple #[(.string (ByteArray.mk #[])),(.int .i64 1)])) (
 A0 PR (A8 .len #[9] 0 [b]) fun ax=>
 A0 PR (binOp .gtr 3 ax (.int .i64 65535)) fun ay=>
 C0 ay (
 R (.tuple #[(.string (ByteArray.mk #[])),(.int .i64 4)])) (
 J5 (.string (ByteArray.mk #[])) (.int .i64 0)))
theorem C2a:B0 PR 125:=A7 Tryz.func125 (by kernel_rfl) rfl
theorem C3n (h:B60 X t0 t1 R w):Fn PR X 125 #[t0,t1] w R:=C4 (args := [t0,t1]) mixed Tryz.func125 (by kernel_rfl) h
def B2z (X:Nat → Prop) (a:Value) (R:Value → WP):WP :=
 B5 PR X (alloc 224 true (.tuple #[])) fun b=>
 jn (n:=2) (fun d e=>
 jn (n:=2) (fun f g=>
 B5 PR X (buildSlice 37 6 #[(0,(.int .i64 4)),(1,(.int .i64 2)),(2,(.int .i64 1)),(3,(.int .i64 1)),(4,(.int .i64 16)),(5,(.int .i64 16))]) fun h=>
 B3 PR X 198 [a,h] fun i=>
 A0 PR (indexAt 51 i (.int .i64 1)) fun j=>
 A6 PR (loadAt 9 j) fun k=>
 B3 PR X 145 [k,(.int .i64 0),(.int .i64 2)] fun l=>
 A0 PR (extract l 0) fun m=>
 A0 PR (extract l 1) fun o=>
 A0 PR (indexAt 51 i (.int .i64 6)) fun p=>
 A6 PR (loadAt 9 p) fun q=>
 jn (n:=2) (fun r s=>
 drw <|
 A0 PR (indexAt 51 i (.int .i64 4)) fun t=>
 A6 PR (loadAt 9 t) fun u=>
 A0 PR (indexAt 51 i (.int .i64 5)) fun w=>
 A6 PR (loadAt 9 w) fun x=>
 A0 PR (indexAt 51 i (.int .i64 2)) fun y=>
 A6 PR (loadAt 9 y) fun z=>
 A0 PR (index 9 z (.int .i64 0)) fun aa=>
 A0 PR (convert 5 3 aa) fun ab=>
 A0 PR (build 224 #[(0,u),(1,x),(2,ab)]) fun ac=>
 A0 PR (sliceAt 9 q none (some m) none) fun ad=>
 C1 PR X (storeAt 224 b ac) <|
 A6 PR (E1 [.c 224 b,.v ad,.v (.int .i64 0)]) R) fun J1=>
 A0 PR (A8 .len #[9] 0 [q]) fun ae=>
 A0 PR (convert 3 89 ae) fun af=>
 A0 PR (binOp .gtr 89 m af) fun ag=>
 C0 ag (
 A0 PR (build 224 #[]) fun ah=>
 C1 PR X (storeAt 224 b ah) <|
 A6 PR (E1 [.c 224 b,.v (.string (ByteArray.mk #[])),.v (.int .i64 4)]) R) (
 J1 f g)) fun J2=>
 A0 PR (index 9 a (.int .i64 0)) fun ai=>
 A0 PR (binOp .shr 5 ai (.int .u64 4)) fun aj=>
 A0 PR (binOp .neq 5 aj (.int .u8 6)) fun ak=>
 C0 ak (
 A0 PR (build 224 #[]) fun al=>
 C1 PR X (storeAt 224 b al) <|
 A6 PR (E1 [.c 224 b,.v (.string (ByteArray.mk #[])),.v (.int .i64 3)]) R) (
 J2 d e)) fun J3=>
 A0 PR (A8 .len #[9] 0 [a]) fun am=>
 A0 PR (binOp .lss 3 am (.int .i64 40)) fun an=>
 C0 an (
 A0 PR (build 224 #[]) fun ao=>
 C1 PR X (storeAt 224 b ao) <|
 A6 PR (E1 [.c 224 b,.v (.string (ByteArray.mk #[])),.v (.int .i64 2)]) R) (
 J3 (.string (ByteArray.mk #[])) (.int .i64 0))
theorem B9Z:B0 PR 142:=A7 Tryz.func142 (by kernel_rfl) rfl
theorem C1p (h:B2z X t0 R w):Fn PR X 142 #[t0] w R:=C4 (args := [t0]) mixed Tryz.func142 (by kernel_rfl) h
def A3s (X:Nat → Prop) (a b c:Value) (R:Value → WP):WP :=
 drw <|
 A0 PR (B4 a) fun d=>
 A0 PR (fieldAt 305 d 0) fun e=>
 A0 PR (convert 3 89 b) fun f=>
 B3 PR X 176 [f,c] fun g=>
 B3 PR X 173 [e,g] fun h=>
 R (.tuple #[])
theorem Z6:B0 PR 172:=A7 Tryz.func172 (by kernel_rfl) rfl
theorem B1Z (h:A3s X t0 t1 t2 R w):Fn PR X 172 #[t0,t1,t2] w R:=C4 (args := [t0,t1,t2]) mixed Tryz.func172 (by kernel_rfl) h
def B6b (X:Nat → Prop) (a b:Value) (R:Value → WP):WP :=
 jn (n:=3) (fun c d e=>
 B5 PR X (buildSlice 51 1 #[(0,d)]) fun f=>
 B5 PR X (A8 .append #[51,51] 51 [c,f]) fun g=>
 R g) fun J1=>
 A0 PR (A8 .len #[37] 0 [b]) fun h=>
 lp (n:=3) (fun L2 i j k=>
 A0 PR (binOp .lss 3 k h) fun l=>
 jn (n:=0) (
 jn (n:=2) (fun m o=>
 A0 PR (binOp .add 3 k (.int .i64 1)) fun p=>
 L2 m o p) fun J3=>
 A0 PR (indexAt 37 b k) fun q=>
 A6 PR (loadAt 3 q) fun r=>
 A0 PR (sliceAt 9 j none (some r) none) fun s=>
 B5 PR X (buildSlice 51 1 #[(0,s)]) fun t=>
 B5 PR X (A8 .append #[51,51] 51 [i,t]) fun u=>
 A0 PR (sliceAt 9 j (some r) none none) fun v=>
 J3 u v) fun J4=>
 C0 l (
 J4) (
 J1 i j k)) (.slice none 0 0) a (.int .i64 0)
theorem C2K:B0 PR 198:=A7 Tryz.func198 (by kernel_rfl) rfl
theorem C40 (h:B6b X t0 t1 R w):Fn PR X 198 #[t0,t1] w R:=C4 (args := [t0,t1]) mixed Tryz.func198 (by kernel_rfl) h
def B6j (X:Nat → Prop) (a b:Value) (R:Value → WP):WP :=
 B5 PR X (box 226 a) fun c=>
 B5 PR X (box 9 b) fun d=>
 jn (n:=2) (fun e f=>
 A0 PR (makeFunc (.func 175) #[] #[d,c]) fun g=>
 drw <|
 A6 PR (loadAt 9 d) fun h=>
 N7 PR X g [(.int .i64 0)] fun i=>
 watch PR [(none,(loadAt 9 d),h)] <|
 B3 PR X 177 [i] fun j=>
 watch PR [(none,(loadAt 9 d),h)] <|
 N7 PR X g [j] fun k=>
 watch PR [(none,(loadAt 9 d),h)] <|
 A0 PR (binOp .add 9 k h) fun l=>
 R (.tuple #[l,(.int .i64 0)])) fun J1=>
 A0 PR (fieldAt 226 c 0) fun m=>
 A6 PR (loadAt 9 m) fun o=>
 A0 PR (A8 .len #[9] 0 [o]) fun p=>
 A0 PR (binOp .neq 3 p (.int .i64 4)) fun q=>
 gj q false (fun J=> A0 PR (fieldAt 226 c 1) J) fun r=>
 gj q false (fun J=> A6 PR (loadAt 9 r) J) fun s=>
 gj q false (fun J=> A0 PR (A8 .len #[9] 0 [s]) J) fun t=>
 gj q false (fun J=> A0 PR (binOp .neq 3 t (.int .i64 4)) J) fun u=>
 A0 PR (do pure (if ← asBool q then (.bool true) else u)) fun v=>
 gj v false (fun J=> A0 PR (fieldAt 226 c 2) J) fun w=>
 gj v false (fun J=> A6 PR (loadAt 3 w) J) fun x=>
 gj v false (fun J=> A0 PR (binOp .lss 3 x (.int .i64 0)) J) fun y=>
 A0 PR (do pure (if ← asBool v then (.bool true) else y)) fun z=>
 gj z false (fun J=> A0 PR (fieldAt 226 c 2) J) fun aa=>
 gj z false (fun J=> A6 PR (loadAt 3 aa) J) fun ab=>
 gj z false (fun J=> A0 PR (binOp .gtr 3 ab (.int .i64 255)) J) fun ac=>
 A0 PR (do pure (if ← asBool z then (.bool true) else ac)) fun ad=>
 C0 ad (
 R (.tuple #[(.string (ByteArray.mk #[])),(.int .i64 1)])) (
 A6 PR (loadAt 9 d) fun ae=>
 A0 PR (A8 .len #[9] 0 [ae]) fun af=>
 A0 PR (binOp .gtr 3 af (.int .i64 65515)) fun ag=>
 C0 ag (
 R (.tuple #[(.string (ByteArray.mk #[])),(.int .i64 4)])) (
 J1 (.string (ByteArray.mk #[])) (.int .i64 0)))
theorem C2b:B0 PR 126:=A7 Tryz.func126 (by kernel_rfl) rfl
theorem C4E (h:B6j X t0 t1 R w):Fn PR X 126 #[t0,t1] w R:=C4 (args := [t0,t1]) mixed Tryz.func126 (by kernel_rfl) h
def B3p (X:Nat → Prop) (a:Value) (R:Value → WP):WP :=
 B5 PR X (box 9 a) fun b=>
 B5 PR X (alloc 226 true (.tuple #[])) fun d=>
 A0 PR (makeFunc (.func 190) #[] #[b]) fun e=>
 B5 PR X (alloc 180 true (.tuple #[])) fun f=>
 C1 PR X (storeAt 180 f e) <|
 drw <|
 kt (n:=2) (fun g h=>
 A0 PR (makeFunc (.func 192) #[] #[b]) fun i=>
 A0 PR (build 330 #[(0,i),(1,(.int .i64 2))]) fun j=>
 A0 PR (makeFunc (.func 193) #[] #[f]) fun k=>
 A0 PR (build 330 #[(0,k),(1,(.int .i64 3))]) fun l=>
 A0 PR (makeFunc (.func 194) #[] #[g,b,h]) fun m=>
 A0 PR (build 330 #[(0,m),(1,(.int .i64 4))]) fun o=>
 A0 PR (makeFunc (.func 195) #[] #[b,g]) fun p=>
 A0 PR (build 330 #[(0,p),(1,(.int .i64 5))]) fun q=>
 A0 PR (makeFunc (.func 197) #[] #[f]) fun r=>
 A0 PR (build 330 #[(0,r),(1,(.int .i64 6))]) fun s=>
 B5 PR X (buildSlice 375 5 #[(0,j),(1,l),(2,o),(3,q),(4,s)]) fun t=>
 B3 PR X 191 [t] fun u=>
 jn (n:=2) (fun w x=>
 drw <|
 A6 PR (loadAt 9 b) fun y=>
 A0 PR (sliceAt 9 y (some (.int .i64 12)) (some (.int .i64 16)) none) fun z=>
 A6 PR (loadAt 9 b) fun aa=>
 A0 PR (sliceAt 9 aa (some (.int .i64 16)) (some (.int .i64 20)) none) fun ab=>
 A6 PR (loadAt 180 f) fun ac=>
 A6 PR (loadAt 9 b) fun ad=>
 A6 PR (loadAt 3 g) fun ae=>
 A6 PR (loadAt 3 h) fun af=>
 A0 PR (sliceAt 9 ad (some ae) (some af) none) fun ag=>
 N7 PR X ac [(.int .i64 9),(.int .i64 1)] fun ah=>
 watch PR [(none,(loadAt 3 h),af),(none,(loadAt 3 g),ae),(none,(loadAt 9 b),ad),(none,(loadAt 9 b),aa),(none,(loadAt 9 b),y)] <|
 A0 PR (build 226 #[(0,z),(1,ab),(2,ah)]) fun ai=>
 C1 PR X (storeAt 226 d ai) <|
 watch PR [(none,(loadAt 3 h),af),(none,(loadAt 3 g),ae),(none,(loadAt 9 b),ad)] <|
 A6 PR (E1 [.c 226 d,.v ag,.v (.int .i64 0)]) R) fun J1=>
 A0 PR (binOp .neq 27 u (.int .i64 0)) fun aj=>
 C0 aj (
 A0 PR (build 226 #[]) fun ak=>
 C1 PR X (storeAt 226 d ak) <|
 A6 PR (E1 [.c 226 d,.v (.string (ByteArray.mk #[])),.v u]) R) (
 J1 (.string (ByteArray.mk #[])) (.int .i64 0))) fun C2=>
 A6 PR (loadAt 180 f) fun al=>
 A6 PR (loadAt 180 f) fun am=>
 both (N7 PR X al [(.int .i64 0),(.int .i64 1)] fun an=>
 watch PR [(none,(loadAt 180 f),am)] <|
 A0 PR (binOp .and 3 an (.int .i64 15)) fun ao=>
 A0 PR (binOp .mul 3 ao (.int .i64 4)) fun ap=>
 both (N7 PR X am [(.int .i64 2),(.int .i64 2)] fun aq=>
 both (B5 PR X (alloc 3 true (.tuple #[])) fun ar=>
 B5 PR X (alloc 3 true (.tuple #[])) fun au=>
 C1 PR X (storeAt 3 ar ap) <|
 C1 PR X (storeAt 3 au aq) <|
 C2 ar au) (both (B5 PR X (alloc 3 true (.tuple #[])) fun av=>
 B5 PR X (alloc 3 true (.tuple #[])) fun aw=>
 C1 PR X (storeAt 3 aw ap) <|
 C1 PR X (storeAt 3 av aq) <|
 C2 aw av) ((fun _=> True)))) (both (B5 PR X (alloc 3 true (.tuple #[])) fun ax=>
 watch PR [(none,(loadAt 180 f),am)] <|
 both (N7 PR X am [(.int .i64 2),(.int .i64 2)] fun ay=>
 B5 PR X (alloc 3 true (.tuple #[])) fun az=>
 C1 PR X (storeAt 3 ax ap) <|
 C1 PR X (storeAt 3 az ay) <|
 C2 ax az) (both (B5 PR X (alloc 3 true (.tuple #[])) fun a0=>
 watch PR [(none,(loadAt 180 f),am)] <|
 N7 PR X am [(.int .i64 2),(.int .i64 2)] fun a1=>
 C1 PR X (storeAt 3 ax ap) <|
 C1 PR X (storeAt 3 a0 a1) <|
 C2 ax a0) ((fun _=> True)))) (both (B5 PR X (alloc 3 true (.tuple #[])) fun a2=>
 watch PR [(none,(loadAt 180 f),am)] <|
 both (N7 PR X am [(.int .i64 2),(.int .i64 2)] fun a3=>
 B5 PR X (alloc 3 true (.tuple #[])) fun a4=>
 C1 PR X (storeAt 3 a4 ap) <|
 C1 PR X (storeAt 3 a2 a3) <|
 C2 a4 a2) (both (B5 PR X (alloc 3 true (.tuple #[])) fun a5=>
 watch PR [(none,(loadAt 180 f),am)] <|
 N7 PR X am [(.int .i64 2),(.int .i64 2)] fun a6=>
 C1 PR X (storeAt 3 a5 ap) <|
 C1 PR X (storeAt 3 a2 a6) <|
 C2 a5 a2) ((fun _=> True)))) ((fun _=> True))))) (both (B5 PR X (alloc 3 true (.tuple #[])) fun a7=>
 watch PR [(none,(loadAt 180 f),am),(none,(loadAt 180 f),al)] <|
 both (N7 PR X al [(.int .i64 0),(.int .i64 1)] fun a8=>
 watch PR [(none,(loadAt 180 f),am)] <|
 A0 PR (binOp .and 3 a8 (.int .i64 15)) fun a9=>
 A0 PR (binOp .mul 3 a9 (.int .i64 4)) fun ba=>
 both (N7 PR X am [(.int .i64 2),(.int .i64 2)] fun bb=>
 B5 PR X (alloc 3 true (.tuple #[])) fun bc=>
 C1 PR X (storeAt 3 a7 ba) <|
 C1 PR X (storeAt 3 bc bb) <|
 C2 a7 bc) (both (B5 PR X (alloc 3 true (.tuple #[])) fun bd=>
 watch PR [(none,(loadAt 180 f),am)] <|
 N7 PR X am [(.int .i64 2),(.int .i64 2)] fun be=>
 C1 PR X (storeAt 3 a7 ba) <|
 C1 PR X (storeAt 3 bd be) <|
 C2 a7 bd) ((fun _=> True)))) (both (B5 PR X (alloc 3 true (.tuple #[])) fun bf=>
 watch PR [(none,(loadAt 180 f),am),(none,(loadAt 180 f),al)] <|
 N7 PR X al [(.int .i64 0),(.int .i64 1)] fun bg=>
 watch PR [(none,(loadAt 180 f),am)] <|
 A0 PR (binOp .and 3 bg (.int .i64 15)) fun bh=>
 A0 PR (binOp .mul 3 bh (.int .i64 4)) fun bi=>
 N7 PR X am [(.int .i64 2),(.int .i64 2)] fun bj=>
 C1 PR X (storeAt 3 a7 bi) <|
 C1 PR X (storeAt 3 bf bj) <|
 C2 a7 bf) ((fun _=> True)))) (both (B5 PR X (alloc 3 true (.tuple #[])) fun bk=>
 watch PR [(none,(loadAt 180 f),am),(none,(loadAt 180 f),al)] <|
 both (N7 PR X al [(.int .i64 0),(.int .i64 1)] fun bl=>
 watch PR [(none,(loadAt 180 f),am)] <|
 A0 PR (binOp .and 3 bl (.int .i64 15)) fun bm=>
 A0 PR (binOp .mul 3 bm (.int .i64 4)) fun bn=>
 both (N7 PR X am [(.int .i64 2),(.int .i64 2)] fun bo=>
 B5 PR X (alloc 3 true (.tuple #[])) fun bp=>
 C1 PR X (storeAt 3 bp bn) <|
 C1 PR X (storeAt 3 bk bo) <|
 C2 bp bk) (both (B5 PR X (alloc 3 true (.tuple #[])) fun bq=>
 watch PR [(none,(loadAt 180 f),am)] <|
 N7 PR X am [(.int .i64 2),(.int .i64 2)] fun br=>
 C1 PR X (storeAt 3 bq bn) <|
 C1 PR X (storeAt 3 bk br) <|
 C2 bq bk) ((fun _=> True)))) (both (B5 PR X (alloc 3 true (.tuple #[])) fun bs=>
 watch PR [(none,(loadAt 180 f),am),(none,(loadAt 180 f),al)] <|
 N7 PR X al [(.int .i64 0),(.int .i64 1)] fun bt=>
 watch PR [(none,(loadAt 180 f),am)] <|
 A0 PR (binOp .and 3 bt (.int .i64 15)) fun bu=>
 A0 PR (binOp .mul 3 bu (.int .i64 4)) fun bv=>
 N7 PR X am [(.int .i64 2),(.int .i64 2)] fun bw=>
 C1 PR X (storeAt 3 bs bv) <|
 C1 PR X (storeAt 3 bk bw) <|
 C2 bs bk) ((fun _=> True)))) ((fun _=> True))))
theorem B9n:B0 PR 139:=A7 Tryz.func139 (by kernel_rfl) rfl
theorem C0V (h:B3p X t0 R w):Fn PR X 139 #[t0] w R:=C4 (args := [t0]) mixed Tryz.func139 (by kernel_rfl) h
def B11 (X:Nat → Prop) (a b c:Value) (R:Value → WP):WP :=
 drw <|
 A6 PR (loadAt 9 b) fun d=>
 A0 PR (A8 .len #[9] 0 [d]) fun e=>
 A0 PR (binOp .add 3 (.int .i64 20) e) fun f=>
 A0 PR (convert 3 89 f) fun g=>
 A0 PR (fieldAt 226 c 2) fun h=>
 A6 PR (loadAt 3 h) fun i=>
 A0 PR (convert 3 89 i) fun j=>
 A0 PR (convert 3 89 a) fun k=>
 A0 PR (fieldAt 226 c 0) fun l=>
 A6 PR (loadAt 9 l) fun m=>
 A0 PR (fieldAt 226 c 1) fun n=>
 A6 PR (loadAt 9 n) fun o=>
 B3 PR X 176 [g,(.int .i64 2)] fun p=>
 watch PR [(none,(loadAt 9 n),o),(none,(loadAt 9 l),m),(none,(loadAt 3 h),i)] <|
 A0 PR (binOp .add 9 (.string (ByteArray.mk #[69,0])) p) fun q=>
 A0 PR (binOp .add 9 q (.string (ByteArray.mk #[0,0,64,0,64]))) fun r=>
 B3 PR X 176 [j,(.int .i64 1)] fun s=>
 watch PR [(none,(loadAt 9 n),o),(none,(loadAt 9 l),m)] <|
 A0 PR (binOp .add 9 r s) fun t=>
 B3 PR X 176 [k,(.int .i64 2)] fun u=>
 watch PR [(none,(loadAt 9 n),o),(none,(loadAt 9 l),m)] <|
 A0 PR (binOp .add 9 t u) fun v=>
 A0 PR (binOp .add 9 v m) fun w=>
 A0 PR (binOp .add 9 w o) fun x=>
 R x
theorem B0J:B0 PR 175:=A7 Tryz.func175 (by kernel_rfl) rfl
theorem B9j (h:B11 X t0 t1 t2 R w):Fn PR X 175 #[t0,t1,t2] w R:=C4 (args := [t0,t1,t2]) mixed Tryz.func175 (by kernel_rfl) h
def A8V (X:Nat → Prop) (a b c:Value) (R:Value → WP):WP :=
 A6 PR (loadAt 9 c) fun d=>
 B3 PR X 145 [d,a,b] fun e=>
 A0 PR (extract e 0) fun f=>
 A0 PR (extract e 1) fun g=>
 A0 PR (convert 89 3 f) fun h=>
 R h
theorem y7:B0 PR 190:=A7 Tryz.func190 (by kernel_rfl) rfl
theorem B7T (h:A8V X t0 t1 t2 R w):Fn PR X 190 #[t0,t1,t2] w R:=C4 (args := [t0,t1,t2]) mixed Tryz.func190 (by kernel_rfl) h
def B3k (X:Nat → Prop) (a:Value) (R:Value → WP):WP :=
 jn (n:=2) (fun b c=>
 R b) fun J1=>
 A0 PR (A8 .len #[375] 0 [a]) fun d=>
 lp (n:=2) (fun L2 e f=>
 A0 PR (binOp .lss 3 f d) fun g=>
 jn (n:=0) (
 jn (n:=1) (fun h=>
 A0 PR (binOp .add 3 f (.int .i64 1)) fun i=>
 L2 h i) fun J3=>
 A0 PR (indexAt 375 a f) fun j=>
 A6 PR (loadAt 330 j) fun k=>
 B5 PR X (alloc 330 true (.tuple #[])) fun l=>
 C1 PR X (storeAt 330 l k) <|
 A0 PR (fieldAt 330 l 0) fun m=>
 A6 PR (loadAt 24 m) fun o=>
 N7 PR X o [] fun p=>
 C0 p (
 A0 PR (fieldAt 330 l 1) fun q=>
 A6 PR (loadAt 27 q) fun r=>
 J1 r f) (
 J3 e)) fun J4=>
 C0 g (
 J4) (
 J1 e f)) (.int .i64 0) (.int .i64 0)
theorem B9J:B0 PR 191:=A7 Tryz.func191 (by kernel_rfl) rfl
theorem C0c (h:B3k X t0 R w):Fn PR X 191 #[t0] w R:=C4 (args := [t0]) mixed Tryz.func191 (by kernel_rfl) h
def A78 (X:Nat → Prop) (a:Value) (R:Value → WP):WP :=
 A6 PR (loadAt 9 a) fun b=>
 A0 PR (A8 .len #[9] 0 [b]) fun c=>
 A0 PR (binOp .lss 3 c (.int .i64 20)) fun d=>
 R d
theorem B56:B0 PR 192:=A7 Tryz.func192 (by kernel_rfl) rfl
theorem B6U (h:A78 X t0 R w):Fn PR X 192 #[t0] w R:=C4 (args := [t0]) mixed Tryz.func192 (by kernel_rfl) h
def A8D (X:Nat → Prop) (a:Value) (R:Value → WP):WP :=
 A6 PR (loadAt 180 a) fun b=>
 N7 PR X b [(.int .i64 0),(.int .i64 1)] fun c=>
 A0 PR (binOp .shr 3 c (.int .u64 4)) fun d=>
 A0 PR (binOp .neq 3 d (.int .i64 4)) fun e=>
 R e
theorem B6A:B0 PR 193:=A7 Tryz.func193 (by kernel_rfl) rfl
theorem B65 (h:A8D X t0 R w):Fn PR X 193 #[t0] w R:=C4 (args := [t0]) mixed Tryz.func193 (by kernel_rfl) h
def A8U (X:Nat → Prop) (a b c:Value) (R:Value → WP):WP :=
 A6 PR (loadAt 3 a) fun d=>
 A0 PR (binOp .lss 3 d (.int .i64 20)) fun e=>
 gj e false (fun J=> A6 PR (loadAt 3 a) J) fun f=>
 gj e false (fun J=> A6 PR (loadAt 9 b) J) fun g=>
 gj e false (fun J=> A0 PR (A8 .len #[9] 0 [g]) J) fun h=>
 gj e false (fun J=> A0 PR (binOp .gtr 3 f h) J) fun i=>
 A0 PR (do pure (if ← asBool e then (.bool true) else i)) fun j=>
 gj j false (fun J=> A6 PR (loadAt 3 c) J) fun k=>
 gj j false (fun J=> A6 PR (loadAt 3 a) J) fun l=>
 gj j false (fun J=> A0 PR (binOp .lss 3 k l) J) fun m=>
 A0 PR (do pure (if ← asBool j then (.bool true) else m)) fun n=>
 gj n false (fun J=> A6 PR (loadAt 3 c) J) fun o=>
 gj n false (fun J=> A6 PR (loadAt 9 b) J) fun p=>
 gj n false (fun J=> A0 PR (A8 .len #[9] 0 [p]) J) fun q=>
 gj n false (fun J=> A0 PR (binOp .gtr 3 o q) J) fun r=>
 A0 PR (do pure (if ← asBool n then (.bool true) else r)) fun s=>
 R s
theorem B5e:B0 PR 194:=A7 Tryz.func194 (by kernel_rfl) rfl
theorem B7F (h:A8U X t0 t1 t2 R w):Fn PR X 194 #[t0,t1,t2] w R:=C4 (args := [t0,t1,t2]) mixed Tryz.func194 (by kernel_rfl) h
def A8Y (X:Nat → Prop) (a b:Value) (R:Value → WP):WP :=
 A6 PR (loadAt 9 a) fun c=>
 A6 PR (loadAt 3 b) fun d=>
 A0 PR (sliceAt 9 c none (some d) none) fun e=>
 B3 PR X 196 [e] fun f=>
 A0 PR (Op.unary .not f) fun g=>
 R g
theorem B5y:B0 PR 195:=A7 Tryz.func195 (by kernel_rfl) rfl
theorem B7Y (h:A8Y X t0 t1 R w):Fn PR X 195 #[t0,t1] w R:=C4 (args := [t0,t1]) mixed Tryz.func195 (by kernel_rfl) h
def A75 (X:Nat → Prop) (a:Value) (R:Value → WP):WP :=
 A6 PR (loadAt 180 a) fun b=>
 N7 PR X b [(.int .i64 6),(.int .i64 2)] fun c=>
 A0 PR (binOp .and 3 c (.int .i64 16383)) fun d=>
 A0 PR (binOp .neq 3 d (.int .i64 0)) fun e=>
 R e
theorem B5z:B0 PR 197:=A7 Tryz.func197 (by kernel_rfl) rfl
theorem B7P (h:A75 X t0 R w):Fn PR X 197 #[t0] w R:=C4 (args := [t0]) mixed Tryz.func197 (by kernel_rfl) h
def B6k (X:Nat → Prop) (a:Value) (R:Value → WP):WP :=
 B3 PR X 233 [a] fun b=>
 A0 PR (binOp .sub 3 (.int .i64 65535) b) fun c=>
 R c
theorem C19:B0 PR 177:=A7 Tryz.func177 (by kernel_rfl) rfl
theorem C4P (h:B6k X t0 R w):Fn PR X 177 #[t0] w R:=C4 (args := [t0]) mixed Tryz.func177 (by kernel_rfl) h
def B5A (X:Nat → Prop) (a:Value) (R:Value → WP):WP :=
 B3 PR X 233 [a] fun b=>
 A0 PR (binOp .eql 3 b (.int .i64 65535)) fun c=>
 R c
theorem C0s:B0 PR 196:=A7 Tryz.func196 (by kernel_rfl) rfl
theorem C13 (h:B5A X t0 R w):Fn PR X 196 #[t0] w R:=C4 (args := [t0]) mixed Tryz.func196 (by kernel_rfl) h
def B48 (X:Nat → Prop) (a:Value) (R:Value → WP):WP :=
 B5 PR X (alloc 89 true (.tuple #[])) fun b=>
 jn (n:=0) (
 jn (n:=0) (
 A6 PR (loadAt 89 b) fun c=>
 A0 PR (convert 89 3 c) fun d=>
 unw (R d)) fun J1=>
 lp (n:=0) (fun L2=>
 jn (n:=0) (
 A6 PR (loadAt 89 b) fun e=>
 A0 PR (binOp .shr 89 e (.int .u64 16)) fun f=>
 A6 PR (loadAt 89 b) fun g=>
 A0 PR (binOp .and 89 g (.int .u64 65535)) fun h=>
 A0 PR (binOp .add 89 f h) fun k=>
 C1 PR X (storeAt 89 b k) <|
 L2) fun J3=>
 A6 PR (loadAt 89 b) fun l=>
 A0 PR (binOp .leq 89 l (.int .u64 65535)) fun m=>
 C0 m (
 J1) (
 J3)) ) fun J4=>
 B3 PR X 265 [a] fun o=>
 rng (N:=1) PR X (fun p K5=>
 bgn <|
 A6 PR (loadAt 89 b) fun q=>
 A0 PR (binOp .add 89 q p) fun r=>
 C1 PR (fun _=> False) (storeAt 89 b r) <|
 K5 none) o (fun j=> match j with | none=> (J4) | some (.exit i)=> (match Nat.beq i 0 with | true=> (J4) | false=> (K8)) | some .ret=> (unw (R (.int .i64 0))) | some _=> K8)
theorem B35:B0 PR 233:=A7 Tryz.func233 (by kernel_rfl) rfl
theorem C2g (h:B48 X t0 R w):Fn PR X 233 #[t0] w R:=C4 (args := [t0]) mixed Tryz.func233 (by kernel_rfl) h
def B3z (X:Nat → Prop) (a:Value) (R:Value → WP):WP :=
 B5 PR X (box 9 a) fun b=>
 A0 PR (makeFunc (.func 285) #[] #[b]) fun c=>
 R c
theorem B9Y:B0 PR 265:=A7 Tryz.func265 (by kernel_rfl) rfl
theorem C0v (h:B3z X t0 R w):Fn PR X 265 #[t0] w R:=C4 (args := [t0]) mixed Tryz.func265 (by kernel_rfl) h
def A77 (X:Nat → Prop) (a b:Value) (R:Value → WP):WP :=
 jn (n:=0) (
 lp (n:=1) (fun L1 c=>
 jn (n:=0) (
 jn (n:=0) (
 A0 PR (binOp .add 3 c (.int .i64 2)) fun d=>
 L1 d) fun J2=>
 A6 PR (loadAt 9 b) fun e=>
 B3 PR X 145 [e,c,(.int .i64 2)] fun f=>
 A0 PR (extract f 0) fun g=>
 A0 PR (extract f 1) fun h=>
 N7 PR X a [g] fun i=>
 A0 PR (Op.unary .not i) fun j=>
 C0 j (
 R (.tuple #[])) (
 J2)) fun J3=>
 A6 PR (loadAt 9 b) fun k=>
 A0 PR (A8 .len #[9] 0 [k]) fun l=>
 A0 PR (binOp .lss 3 c l) fun m=>
 C0 m (
 J3) (
 R (.tuple #[]))) (.int .i64 0)) fun J4=>
 A6 PR (loadAt 9 b) fun o=>
 A0 PR (A8 .len #[9] 0 [o]) fun p=>
 A0 PR (binOp .rem 3 p (.int .i64 2)) fun q=>
 A0 PR (binOp .eql 3 q (.int .i64 1)) fun r=>
 C0 r (
 A6 PR (loadAt 9 b) fun s=>
 A0 PR (binOp .add 9 s (.string (ByteArray.mk #[0]))) fun t=>
 C1 PR X (storeAt 9 b t) <|
 J4) (
 J4)
theorem B5P:B0 PR 285:=A7 Tryz.func285 (by kernel_rfl) rfl
theorem B62 (h:A77 X t0 t1 R w):Fn PR X 285 #[t0,t1] w R:=C4 (args := [t0,t1]) mixed Tryz.func285 (by kernel_rfl) h
end
theorem B6z {X:Nat → Prop} {t0 t1:Value} {K:Value → WP} {w:World} (h:Fn PR X 285 #[t0,t1] w K):A4b PR X 285 [t0,t1] K w:=⟨B5P,h⟩
abbrev C6Z (b:Nat):Value:=.func (.func 285) #[] #[.pointer (some ⟨b,0,none⟩)]
theorem C9r (w:World) (s:ByteArray):Fn PR B8 265 #[.string s] w (Rn [] w (fun b v=> v = C6Z b) fun b=> [.pt b (.cells #[.string s] 9)]):=by
 refine C0v (TW.go (κ:=false) (S := []) ?_)
 unfold B3z
 (have z:=trivial;repeat((first|clear z|with_reducible first|apply A3|refine A4 fun _=>?_|refine A5 fun _=>?_);try simp(disch:=solve|omega|assumption|repeat(first|exact A1|exact uH|apply A2|apply uT)|(simp;try omega)|fail)[]))
 rename_i b
 exact u7 b rfl (by simp)
def B90 (s:ByteArray) (i:Nat):List Value := [.int .u64 (a6 s (2 * i) 2:Nat)]
def S3 (s:ByteArray):Nat:=(s.size + 1) / 2
def pad (s:ByteArray):ByteArray:=if s.size % 2 = 1 then s ++ ByteArray.mk #[0] else s
theorem C9Z (s:ByteArray):(pad s).size = 2 * S3 s:=by
 unfold pad S3; split
 ·rw [ByteArray.size_append,show (ByteArray.mk #[0]).size = 1 from rfl]; omega
 ·omega
theorem B9q (s t:ByteArray) (i:Nat):C9 (s ++ t) i = if i < s.size then C9 s i else C9 t (i - s.size):=by
 unfold C9
 rw [ByteArray.data_append,Array.getD_eq_getD_getElem?,Array.getElem?_append,Array.getD_eq_getD_getElem?,Array.getD_eq_getD_getElem?]
 simp only [ByteArray.size]
 split <;> rfl
theorem C3f (s:ByteArray) (i:Nat):C9 (pad s) i = C9 s i:=by
 unfold pad; split
 ·rw [B9q]; split
  ·rfl
  ·rename_i h
   have h1:C9 s i = 0:=by unfold C9; rw [Array.getD_eq_getD_getElem?,Array.getElem?_eq_none (by simp only [ByteArray.size] at h; omega)]; rfl
   rw [h1]; unfold C9
   by_cases h2:i - s.size = 0
   ·rw [h2]; rfl
   ·rw [Array.getD_eq_getD_getElem?,Array.getElem?_eq_none (by simp; omega)]; rfl
 ·rfl
theorem D1Q (s:ByteArray) (a n:Nat):a6 (pad s) a n = a6 s a n:=by
 induction n with
 | zero=> rfl
 | succ n ih=> simp only [a6,ih,C3f]
theorem C76 (b:Nat) (s:ByteArray) (hs:s.size < 2 ^ 60):B00 (C6Z b) [.pt b (.cells #[.string s] 9)] (fun _ _=> True) ((List.range (S3 s)).map (B90 s)):=by
 refine ⟨_,_,_,rfl,fun l J E hJ hE stJ stE hy w0 h0=> ?_⟩
 refine B6z (B62 (TW.at (κ:=true) ?_ (hJ _ _ _ h0).1))
 unfold A77
 have hp:=C9Z s
 have hnw:S3 s ≤ s.size:=by unfold S3; omega
 have key:∀ Lp:WP,TW true (C3 [Res.pt b (.cells #[.string s] 9)]) w0 [.pt b (.cells #[.string (pad s)] 9)] Lp → (if s.size % 2 = 1 then TW true (C3 [Res.pt b (.cells #[.string s] 9)]) w0 [.pt b (.cells #[.string (s ++ ByteArray.mk #[0])] 9)] Lp else TW true (C3 [Res.pt b (.cells #[.string s] 9)]) w0 [.pt b (.cells #[.string s] 9)] Lp):=by
  intro Lp h; unfold pad at h; split <;> simp_all
 have hrem:((s.size:Int).tmod 2 = 1) = (s.size % 2 = 1):=by
  rw [Int.tmod_eq_emod_of_nonneg (by omega)]; exact propext (by omega)
 have hadd:s.size + (ByteArray.mk #[0]).size ≤ 9223372036854775807:=by rw [show (ByteArray.mk #[0]).size = 1 from rfl]; omega
 (have z:=trivial;repeat((first|clear z|with_reducible first|apply A3|refine A4 fun _=>?_|refine A5 fun _=>?_);try simp(disch:=solve|omega|assumption|repeat(first|exact A1|exact uH|apply A2|apply uT)|(simp;try omega)|fail)[U7,S1,hrem]))
 refine key _ ?_
 clear key
 refine D0H (fun i=> i) (fun _=> [.pt b (.cells #[.string (pad s)] 9)]) (fun i=> i ≤ S3 s) (fun i=> S3 s - i) (fun i:Nat=> .int .i64 (2 * (i:Int))) 0 hJ stJ h0 (Nat.zero_le _) fun i a hi hJi _ L hL=> ?_
 by_cases hlt:i < S3 s
 ·have h2:2 * (i:Int) < (pad s).size:=by omega
  (have z:=trivial;repeat((first|clear z|with_reducible first|apply A3|refine A4 fun _=>?_|refine A5 fun _=>?_);try simp(disch:=solve|omega|assumption|repeat(first|exact A1|exact uH|apply A2|apply uT)|(simp;try omega)|fail)[h2]))
  refine B7 W9 (fun w' _=> A4y w' (pad s) (by omega) _ _) ?_
  have hg:x7 (pad s) (2 * (i:Int)) 2 = true:=by simp only [x7,decide_eq_true_eq]; omega
  have hv:A3V (pad s) (2 * (i:Int)) 2 = (a6 s (2 * i) 2:Nat):=by
   unfold A3V; rw [if_pos hg,D1Q]; congr 2
  rw [hv,hg]
  (have z:=trivial;repeat((first|clear z|with_reducible first|apply A3|refine A4 fun _=>?_|refine A5 fun _=>?_);try simp(disch:=solve|omega|assumption|repeat(first|exact A1|exact uH|apply A2|apply uT)|(simp;try omega)|fail)[]))
  refine B4L hJ hE stJ hy hJi (by simpa using hlt) (by simp [B90]) (fun w3 h=> ?_) (fun w3 h=> ?_)
  ·(have z:=trivial;repeat((first|clear z|with_reducible first|apply A3|refine A4 fun _=>?_|refine A5 fun _=>?_);try simp(disch:=solve|omega|assumption|repeat(first|exact A1|exact uH|apply A2|apply uT)|(simp;try omega)|fail)[]))
   intro w' hw'
   have:=hL (i + 1) w' hlt (by omega) (stJ _ _ _ _ _ h hw')
   simpa [Int.mul_add] using this
  ·(have z:=trivial;repeat((first|clear z|with_reducible first|apply A3|refine A4 fun _=>?_|refine A5 fun _=>?_);try simp(disch:=solve|omega|assumption|repeat(first|exact A1|exact uH|apply A2|apply uT)|(simp;try omega)|fail)[]))
   exact A91 stE h
 ·have h2:¬ 2 * (i:Int) < (pad s).size:=by omega
  obtain rfl:i = S3 s:=by omega
  (have z:=trivial;repeat((first|clear z|with_reducible first|apply A3|refine A4 fun _=>?_|refine A5 fun _=>?_);try simp(disch:=solve|omega|assumption|repeat(first|exact A1|exact uH|apply A2|apply uT)|(simp;try omega)|fail)[h2]))
  exact B0C stJ (by simpa using hJi)
def A4U (s:ByteArray):Nat → Nat
 | 0=> 0
 | i + 1=> A4U s i + a6 s (2 * i) 2
def fld (n:Nat):Nat:=if n = 0 then 0 else (n - 1) % 65535 + 1
def s5 (s:ByteArray):Nat:=fld (A4U s (S3 s))
theorem C86 (n:Nat):fld (n / 65536 + n % 65536) = fld n:=by
 unfold fld
 have h:=Nat.div_add_mod n 65536
 by_cases h0:n = 0
 ·subst h0; rfl
 ·rw [if_neg (by omega),if_neg h0]; omega
theorem C5e {n:Nat} (h:n ≤ 65535):fld n = n:=by unfold fld; split <;> omega
theorem B7a (n:Nat):fld n ≤ 65535:=by unfold fld; split <;> omega
theorem C26 (s:ByteArray) (i:Nat):A4U s i ≤ i * 65535:=by
 induction i with
 | zero=> simp [A4U]
 | succ i ih=> have:=A6M s (2 * i) 2; simp only [A4U]; omega
theorem C8D (n:Nat) (h:n < 2 ^ 64):IntKind.u64.wrap ((n % 2 ^ IntKind.u64.bits &&& 65535 % 2 ^ IntKind.u64.bits:Nat):Int) = ((n % 65536:Nat):Int):=by
 rw [show (2:Nat) ^ IntKind.u64.bits = 2 ^ 64 from rfl,Nat.mod_eq_of_lt h,show 65535 % 2 ^ 64 = 2 ^ 16 - 1 from rfl,Nat.and_two_pow_sub_one_eq_mod]
 exact A09 (by omega) (by omega)
theorem C3B (w:World) (s:ByteArray) (hs:s.size < 2 ^ 40):Fn PR B8 233 #[.string s] w (fun v w' => v = .int .i64 (s5 s:Nat) ∧ C7 [] w w'):=by
 refine Fn.pure (C2g (TW.go (κ:=false) (S := []) ?_))
 unfold B48
 (have z:=trivial;repeat((first|clear z|with_reducible first|apply A3|refine A4 fun _=>?_|refine A5 fun _=>?_);try simp(disch:=solve|omega|assumption|repeat(first|exact A1|exact uH|apply A2|apply uT)|(simp;try omega)|fail)[]))
 rename_i bn
 refine H3 B9Y (fun w' _=> C9r w' s) ?_
 rintro b v rfl
 have hnw:S3 s ≤ 2 ^ 39:=by unfold S3; omega
 refine A8j (C76 b s (by omega)) (by simp [B90]) (fun _ (_:Unit)=> True) (fun i _=> [.pt bn (.cells #[.int .u64 ((A4U s i:Nat):Int)] 89)]) (fun _ (_:Unit)=> False) (fun _=> []) () trivial ?_ ?_ ?_ ?_
 ·intros; trivial
 ·rintro i hi _ F _ K' hK _
  have hi':i < S3 s:=by simpa using hi
  have h1:=C26 s i
  have h2:=A6M s (2 * i) 2
  simp only [List.getElem_map,List.getElem_range,B90,VF.app]
  (have z:=trivial;repeat((first|clear z|with_reducible first|apply A3|refine A4 fun _=>?_|refine A5 fun _=>?_);try simp(disch:=solve|omega|assumption|repeat(first|exact A1|exact uH|apply A2|apply uT)|(simp;try omega)|fail)[]))
  refine TW.eqH ?_ (hK () trivial)
  simp [A4U]
 ·rintro _ _
  (have z:=trivial;repeat((first|clear z|with_reducible first|apply A3|refine A4 fun _=>?_|refine A5 fun _=>?_);try simp(disch:=solve|omega|assumption|repeat(first|exact A1|exact uH|apply A2|apply uT)|(simp;try omega)|fail)[]))
  refine D4j (fun n:Nat=> [.pt bn (.cells #[.int .u64 (n:Int)] 89)]) (fun n=> fld n = s5 s ∧ n < 2 ^ 63) (fun n=> n) _ ⟨by simp [s5],by have:=C26 s (S3 s); simp; omega⟩ ?_
  rintro n ⟨h1,h2⟩ L hL
  by_cases h3:n ≤ 65535
  ·have h4:(n:Int) ≤ 65535:=by omega
   (have z:=trivial;repeat((first|clear z|with_reducible first|apply A3|refine A4 fun _=>?_|refine A5 fun _=>?_);try simp(disch:=solve|omega|assumption|repeat(first|exact A1|exact uH|apply A2|apply uT)|(simp;try omega)|fail)[h4]))
   rw [C5e h3] at h1
   exact A9 (by rw [h1])
  ·have h4:¬ (n:Int) ≤ 65535:=by omega
   have e1:(n:Int).fdiv (2 ^ min 16 IntKind.u64.bits) = (n / 65536:Nat):=by rw [show (2:Int) ^ min 16 IntKind.u64.bits = 65536 from rfl,Int.fdiv_eq_ediv_of_nonneg _ (by omega)]; omega
   (have z:=trivial;repeat((first|clear z|with_reducible first|apply A3|refine A4 fun _=>?_|refine A5 fun _=>?_);try simp(disch:=solve|omega|assumption|repeat(first|exact A1|exact uH|apply A2|apply uT)|(simp;try omega)|fail)[h4]))
   refine TW.eqH ?_ (hL (n / 65536 + n % 65536) ⟨by rw [C86]; exact h1,by omega⟩ (by omega))
   rw [e1,C8D n (by omega),A09 (by omega) (by omega)]; simp
 ·rintro _ _ h; exact h.elim
def B8Y (s:ByteArray):Int:=65535 - s5 s
theorem D2f (w:World) (s:ByteArray) (hs:s.size < 2 ^ 40):Fn PR B8 177 #[.string s] w (fun v w' => v = .int .i64 (B8Y s) ∧ C7 [] w w'):=by
 refine Fn.pure (C4P (TW.go (κ:=false) (S := []) ?_))
 unfold B6k
 refine B7 B35 (fun w' _=> C3B w' s hs) ?_
 have:=B7a (A4U s (S3 s))
 have h2:((s5 s:Nat):Int) ≤ 65535:=by unfold s5; omega
 (have z:=trivial;repeat((first|clear z|with_reducible first|apply A3|refine A4 fun _=>?_|refine A5 fun _=>?_);try simp(disch:=solve|omega|assumption|repeat(first|exact A1|exact uH|apply A2|apply uT)|(simp;try omega)|fail)[]))
 exact A9 rfl
theorem D1q (w:World) (s:ByteArray) (hs:s.size < 2 ^ 40):Fn PR B8 196 #[.string s] w (fun v w' => v = .bool (decide (s5 s = 65535)) ∧ C7 [] w w'):=by
 refine Fn.pure (C13 (TW.go (κ:=false) (S := []) ?_))
 unfold B5A
 refine B7 B35 (fun w' _=> C3B w' s hs) ?_
 (have z:=trivial;repeat((first|clear z|with_reducible first|apply A3|refine A4 fun _=>?_|refine A5 fun _=>?_);try simp(disch:=solve|omega|assumption|repeat(first|exact A1|exact uH|apply A2|apply uT)|(simp;try omega)|fail)[]))
 exact A9 (by simp; omega)
def gv (s:ByteArray) (a n:Nat):Nat:=if a + n ≤ s.size then a6 s a n else 0
theorem A58 (s:ByteArray) (a n:Nat) (h1:1 ≤ n) (h8:n ≤ 8):A3V s a n = gv s a n:=by
 unfold A3V gv
 by_cases h:a + n ≤ s.size
 ·rw [if_pos (by simp only [x7,decide_eq_true_eq]; omega),if_pos h]; simp
 ·rw [if_neg (by simp only [x7,decide_eq_true_eq]; omega),if_neg h]; rfl
theorem B7B (s:ByteArray) (a:Nat):gv s a 1 < 256:=by
 unfold gv; split
 ·exact A6M s a 1
 ·omega
theorem l4 (s:ByteArray) (a:Nat):gv s a 2 < 65536:=by
 unfold gv; split
 ·exact A6M s a 2
 ·omega
theorem A6f (w:World) (s:ByteArray) (hs:s.size < 2 ^ 63) (b a n:Nat) (h1:1 ≤ n) (h2:n ≤ 2) (hc:w.cell? ⟨b,0,none⟩ = some (.string s)) :
  Fn PR B8 190 #[.int .i64 (a:Int),.int .i64 (n:Int),.pointer (some ⟨b,0,none⟩)] w (fun v w' => v = .int .i64 (gv s a n:Nat) ∧ C7 [] w w'):=by
 refine Fn.pure (B7T (TW.go (κ:=false) (S := []) ?_))
 unfold A8V
 (have zz:=trivial;repeat((first|clear zz|with_reducible first|refine A3 ?_|refine A4 fun _=>?_|refine A5 fun _=>?_|refine D5 fun _=>?_|refine E0 (hK:=fun _=>?_)|refine D6 (hK:=fun _=>?_)|refine D4 (hK:=fun _=>?_)|refine D9 (hK:=fun _=>?_)|refine D7 (hK:=fun _=>?_));try simp(disch:=first|omega|assumption|((repeat(first|exact A1|exact uH|apply A2|apply uT));first|done|fail)|(simp;first|done|omega|fail))[hc]))
 refine B7 W9 (fun w' _=> A4y w' s (by omega) _ _) ?_
 rw [A58 s a n h1 (by omega)]
 have hlt:gv s a n < 65536:=by
  obtain rfl | rfl:n = 1 ∨ n = 2:=by omega
  ·have:=B7B s a; omega
  ·exact l4 s a
 (have zz:=trivial;repeat((first|clear zz|with_reducible first|refine A3 ?_|refine A4 fun _=>?_|refine A5 fun _=>?_|refine D5 fun _=>?_|refine E0 (hK:=fun _=>?_)|refine D6 (hK:=fun _=>?_)|refine D4 (hK:=fun _=>?_)|refine D9 (hK:=fun _=>?_)|refine D7 (hK:=fun _=>?_));try simp(disch:=first|omega|assumption|((repeat(first|exact A1|exact uH|apply A2|apply uT));first|done|fail)|(simp;first|done|omega|fail))[]))
 exact A9 rfl
theorem D1A (w:World) (s:ByteArray) (hs:s.size < 2 ^ 63) (b:Nat) (hc:w.cell? ⟨b,0,none⟩ = some (.string s)) :
  Fn PR B8 190 #[.int .i64 0,.int .i64 1,.pointer (some ⟨b,0,none⟩)] w (fun v w' => v = .int .i64 (gv s 0 1:Nat) ∧ C7 [] w w'):=A6f w s hs b 0 1 (by omega) (by omega) hc
theorem D1c (w:World) (s:ByteArray) (hs:s.size < 2 ^ 63) (b:Nat) (hc:w.cell? ⟨b,0,none⟩ = some (.string s)) :
  Fn PR B8 190 #[.int .i64 2,.int .i64 2,.pointer (some ⟨b,0,none⟩)] w (fun v w' => v = .int .i64 (gv s 2 2:Nat) ∧ C7 [] w w'):=A6f w s hs b 2 2 (by omega) (by omega) hc
theorem D1B (w:World) (s:ByteArray) (hs:s.size < 2 ^ 63) (b:Nat) (hc:w.cell? ⟨b,0,none⟩ = some (.string s)) :
  Fn PR B8 190 #[.int .i64 9,.int .i64 1,.pointer (some ⟨b,0,none⟩)] w (fun v w' => v = .int .i64 (gv s 9 1:Nat) ∧ C7 [] w w'):=A6f w s hs b 9 1 (by omega) (by omega) hc
def B9s (x:Value × Int × Bool):List Value := [x.1,.int .i64 x.2.1]
def A6u (l:List (Value × Int × Bool)):Int:=match l.find? (·.2.2) with | some x=> x.2.1 | none=> 0
theorem C2W {l:List (Value × Int × Bool)} (h:∀ i (hi:i < l.length),l[i].2.2 = false):A6u l = 0:=by
 have:l.find? (·.2.2) = none:=by
  rw [List.find?_eq_none]; intro x hx; obtain ⟨i,hi,rfl⟩:=List.getElem_of_mem hx; simp [h i hi]
 simp [A6u,this]
theorem C2P {l:List (Value × Int × Bool)} {i:Nat} (hi:i < l.length) (hp:l[i].2.2 = true) (h:∀ j (hj:j < i),(l[j]'(by omega)).2.2 = false):A6u l = l[i].2.1:=by
 have:l.find? (·.2.2) = some l[i]:=by
  rw [List.find?_eq_some_iff_getElem]
  exact ⟨hp,i,hi,rfl,fun j hj=> by simp [h j hj]⟩
 simp [A6u,this]
theorem C9Y (w:World) (v:Value) (l:List (Value × Int × Bool)) (hl:l.length < 1000) (hv:F5 w v l.length (l.flatMap B9s))
  (hg:∀ i (hi:i < l.length),(∀ j (hj:j < i),(l[j]'(by omega)).2.2 = false) → ∃ f cap,l[i].1 = .func (.func f) #[] cap ∧ B0 PR f ∧ ∀ w',KS false [] w w' → Fn PR B8 f cap w' (fun v w'' => v = .bool l[i].2.2 ∧ C7 [] w' w'')) :
  Fn PR B8 191 #[v] w (fun u w' => u = .int .i64 (A6u l) ∧ C7 [] w w'):=by
 refine Fn.pure (C0c (TW.go (κ:=false) (S := []) ?_))
 unfold B3k
 obtain ⟨a,c,rfl,hrow⟩:=hv.form
 (have zz:=trivial;repeat((first|clear zz|with_reducible first|refine A3 ?_|refine A4 fun _=>?_|refine A5 fun _=>?_|refine D5 fun _=>?_|refine E0 (hK:=fun _=>?_)|refine D6 (hK:=fun _=>?_)|refine D4 (hK:=fun _=>?_)|refine D9 (hK:=fun _=>?_)|refine D7 (hK:=fun _=>?_));try simp(disch:=first|omega|assumption|((repeat(first|exact A1|exact uH|apply A2|apply uT));first|done|fail)|(simp;first|done|omega|fail))[]))
 refine P5 (α:=Unit) l.length (fun _ _=> .int .i64 0) (fun _ _=> []) (fun i _=> ∀ j (hj:j < i),∀ (h:j < l.length),l[j].2.2 = false) () (by intro j hj; omega) ?_
 rintro i _ hi hpre L hL
 by_cases hlt:i < l.length
 ·obtain ⟨b,o,rfl,hr⟩:=hrow (by omega)
  have hx:l[i]? = some l[i]:=List.getElem?_eq_getElem hlt
  have hrn:=hr.at (f:=B9s) (k:=2) (fun _=> rfl) hx
  have hpre':∀ j (hj:j < i),(l[j]'(by omega)).2.2 = false:=fun j hj=> hpre j hj (by omega)
  obtain ⟨f,cap,he,hent,hcall⟩:=hg i hlt hpre'
  rw [B9s,he] at hrn
  (have zz:=trivial;repeat((first|clear zz|with_reducible first|refine A3 ?_|refine A4 fun _=>?_|refine A5 fun _=>?_|refine D5 fun _=>?_|refine E0 (hK:=fun _=>?_)|refine D6 (hK:=fun _=>?_)|refine D4 (hK:=fun _=>?_)|refine D9 (hK:=fun _=>?_)|refine D7 (hK:=fun _=>?_));try simp(disch:=first|omega|assumption|((repeat(first|exact A1|exact uH|apply A2|apply uT));first|done|fail)|(simp;first|done|omega|fail))[hlt,hrn]))
  refine B8J hent (φ:=fun v=> v = .bool l[i].2.2) (fun w' hw' => by simpa using hcall w' hw'.ks) ?_
  rintro _ rfl
  cases hb:l[i].2.2 with
  | true=>
   (have zz:=trivial;repeat((first|clear zz|with_reducible first|refine A3 ?_|refine A4 fun _=>?_|refine A5 fun _=>?_|refine D5 fun _=>?_|refine E0 (hK:=fun _=>?_)|refine D6 (hK:=fun _=>?_)|refine D4 (hK:=fun _=>?_)|refine D9 (hK:=fun _=>?_)|refine D7 (hK:=fun _=>?_));try simp(disch:=first|omega|assumption|((repeat(first|exact A1|exact uH|apply A2|apply uT));first|done|fail)|(simp;first|done|omega|fail))[]))
   exact A9 (by rw [C2P hlt hb hpre'])
  | false=>
   (have zz:=trivial;repeat((first|clear zz|with_reducible first|refine A3 ?_|refine A4 fun _=>?_|refine A5 fun _=>?_|refine D5 fun _=>?_|refine E0 (hK:=fun _=>?_)|refine D6 (hK:=fun _=>?_)|refine D4 (hK:=fun _=>?_)|refine D9 (hK:=fun _=>?_)|refine D7 (hK:=fun _=>?_));try simp(disch:=first|omega|assumption|((repeat(first|exact A1|exact uH|apply A2|apply uT));first|done|fail)|(simp;first|done|omega|fail))[]))
   refine Sels.tw .nil (hL hlt () ?_)
   intro j hj h
   by_cases hji:j = i
   ·subst hji; exact hb
   ·exact hpre j (by omega) h
 ·obtain rfl:i = l.length:=by omega
  (have zz:=trivial;repeat((first|clear zz|with_reducible first|refine A3 ?_|refine A4 fun _=>?_|refine A5 fun _=>?_|refine D5 fun _=>?_|refine E0 (hK:=fun _=>?_)|refine D6 (hK:=fun _=>?_)|refine D4 (hK:=fun _=>?_)|refine D9 (hK:=fun _=>?_)|refine D7 (hK:=fun _=>?_));try simp(disch:=first|omega|assumption|((repeat(first|exact A1|exact uH|apply A2|apply uT));first|done|fail)|(simp;first|done|omega|fail))[]))
  exact A9 (by rw [C2W fun j hj=> hpre j hj hj])
structure HeadV where
 src:ByteArray
 dst:ByteArray
 proto:Nat
 rest:ByteArray
 e:Nat
abbrev M6:ByteArray:=ByteArray.mk #[]
def HeadV.err (e:Nat):HeadV:=⟨M6,M6,0,M6,e⟩
def HeadV.val (h:HeadV):Value:=.tuple #[.agg #[.string h.src,.string h.dst,.int .i64 h.proto],.string h.rest,.int .i64 h.e]
def M4 (s:ByteArray):Nat:=gv s 0 1 % 16 * 4
def A6g (s:ByteArray):Nat:=if s.size < 20 then 2 else if gv s 0 1 / 16 ≠ 4 then 3 else if M4 s < 20 ∨ s.size < M4 s ∨ gv s 2 2 < M4 s ∨ s.size < gv s 2 2 then 4
 else if s5 (s.extract 0 (M4 s)) ≠ 65535 then 5 else if gv s 6 2 % 16384 ≠ 0 then 6 else 0
def S2 (s:ByteArray):HeadV:=if A6g s = 0 then ⟨s.extract 12 16,s.extract 16 20,gv s 9 1,s.extract (M4 s) (gv s 2 2),0⟩ else .err (A6g s)
theorem D6D (n:Nat) (h:n < 256):IntKind.i64.wrap ((n % 2 ^ IntKind.i64.bits &&& 15 % 2 ^ IntKind.i64.bits:Nat):Int) = ((n % 16:Nat):Int):=by
 rw [show (2:Nat) ^ IntKind.i64.bits = 2 ^ 64 from rfl,Nat.mod_eq_of_lt (by omega),show 15 % 2 ^ 64 = 2 ^ 4 - 1 from rfl,Nat.and_two_pow_sub_one_eq_mod]
 exact N3 (by omega) (by omega)
theorem D5Z (n:Nat) (h:n < 65536):IntKind.i64.wrap ((n % 2 ^ IntKind.i64.bits &&& 16383 % 2 ^ IntKind.i64.bits:Nat):Int) = ((n % 16384:Nat):Int):=by
 rw [show (2:Nat) ^ IntKind.i64.bits = 2 ^ 64 from rfl,Nat.mod_eq_of_lt (by omega),show 16383 % 2 ^ 64 = 2 ^ 14 - 1 from rfl,Nat.and_two_pow_sub_one_eq_mod]
 exact N3 (by omega) (by omega)
section
variable (w:World) (s:ByteArray) (hs:s.size < 2 ^ 63) (b1 b5 b6 b7:Nat) (h1:w.cell? ⟨b1,0,none⟩ = some (.string s)) (h5:w.cell? ⟨b5,0,none⟩ = some (.func (.func 190) #[] #[.pointer (some ⟨b1,0,none⟩)]))
 (h6:w.cell? ⟨b6,0,none⟩ = some (.int .i64 (M4 s:Nat))) (h7:w.cell? ⟨b7,0,none⟩ = some (.int .i64 (gv s 2 2:Nat)))
include h1
theorem D34:Fn PR B8 192 #[.pointer (some ⟨b1,0,none⟩)] w (fun v w' => v = .bool (decide (s.size < 20)) ∧ C7 [] w w'):=by
 refine Fn.pure (B6U (TW.go (κ:=false) (S := []) ?_))
 unfold A78
 (have zz:=trivial;repeat((first|clear zz|with_reducible first|refine A3 ?_|refine A4 fun _=>?_|refine A5 fun _=>?_|refine D5 fun _=>?_|refine E0 (hK:=fun _=>?_)|refine D6 (hK:=fun _=>?_)|refine D4 (hK:=fun _=>?_)|refine D9 (hK:=fun _=>?_)|refine D7 (hK:=fun _=>?_));try simp(disch:=first|omega|assumption|((repeat(first|exact A1|exact uH|apply A2|apply uT));first|done|fail)|(simp;first|done|omega|fail))[h1]))
 exact A9 (by simp; omega)
include hs h5
theorem D48:Fn PR B8 193 #[.pointer (some ⟨b5,0,none⟩)] w (fun v w' => v = .bool (decide (gv s 0 1 / 16 ≠ 4)) ∧ C7 [] w w'):=by
 refine Fn.pure (B65 (TW.go (κ:=false) (S := []) ?_))
 unfold A8D
 (have zz:=trivial;repeat((first|clear zz|with_reducible first|refine A3 ?_|refine A4 fun _=>?_|refine A5 fun _=>?_|refine D5 fun _=>?_|refine E0 (hK:=fun _=>?_)|refine D6 (hK:=fun _=>?_)|refine D4 (hK:=fun _=>?_)|refine D9 (hK:=fun _=>?_)|refine D7 (hK:=fun _=>?_));try simp(disch:=first|omega|assumption|((repeat(first|exact A1|exact uH|apply A2|apply uT));first|done|fail)|(simp;first|done|omega|fail))[h1,h5]))
 refine B7 y7 (fun w' hw' => A6f w' s hs b1 0 1 (by omega) (by omega) (hw'.ks.cell (by simp) h1)) ?_
 have e1:((gv s 0 1:Nat):Int).fdiv (2 ^ min 4 IntKind.i64.bits) = (gv s 0 1 / 16:Nat):=by rw [show (2:Int) ^ min 4 IntKind.i64.bits = 16 from rfl,Int.fdiv_eq_ediv_of_nonneg _ (by omega)]; omega
 (have zz:=trivial;repeat((first|clear zz|with_reducible first|refine A3 ?_|refine A4 fun _=>?_|refine A5 fun _=>?_|refine D5 fun _=>?_|refine E0 (hK:=fun _=>?_)|refine D6 (hK:=fun _=>?_)|refine D4 (hK:=fun _=>?_)|refine D9 (hK:=fun _=>?_)|refine D7 (hK:=fun _=>?_));try simp(disch:=first|omega|assumption|((repeat(first|exact A1|exact uH|apply A2|apply uT));first|done|fail)|(simp;first|done|omega|fail))[]))
 rw [e1]
 exact A9 (by simp; omega)
theorem D4T:Fn PR B8 197 #[.pointer (some ⟨b5,0,none⟩)] w (fun v w' => v = .bool (decide (gv s 6 2 % 16384 ≠ 0)) ∧ C7 [] w w'):=by
 refine Fn.pure (B7P (TW.go (κ:=false) (S := []) ?_))
 unfold A75
 (have zz:=trivial;repeat((first|clear zz|with_reducible first|refine A3 ?_|refine A4 fun _=>?_|refine A5 fun _=>?_|refine D5 fun _=>?_|refine E0 (hK:=fun _=>?_)|refine D6 (hK:=fun _=>?_)|refine D4 (hK:=fun _=>?_)|refine D9 (hK:=fun _=>?_)|refine D7 (hK:=fun _=>?_));try simp(disch:=first|omega|assumption|((repeat(first|exact A1|exact uH|apply A2|apply uT));first|done|fail)|(simp;first|done|omega|fail))[h1,h5]))
 refine B7 y7 (fun w' hw' => A6f w' s hs b1 6 2 (by omega) (by omega) (hw'.ks.cell (by simp) h1)) ?_
 have:=l4 s 6
 (have zz:=trivial;repeat((first|clear zz|with_reducible first|refine A3 ?_|refine A4 fun _=>?_|refine A5 fun _=>?_|refine D5 fun _=>?_|refine E0 (hK:=fun _=>?_)|refine D6 (hK:=fun _=>?_)|refine D4 (hK:=fun _=>?_)|refine D9 (hK:=fun _=>?_)|refine D7 (hK:=fun _=>?_));try simp(disch:=first|omega|assumption|((repeat(first|exact A1|exact uH|apply A2|apply uT));first|done|fail)|(simp;first|done|omega|fail))[]))
 rw [D5Z _ this]
 exact A9 (by simp; omega)
omit h5
include h6
omit hs in
theorem D3r (hl:M4 s ≤ s.size):Fn PR B8 195 #[.pointer (some ⟨b1,0,none⟩),.pointer (some ⟨b6,0,none⟩)] w (fun v w' => v = .bool (decide (s5 (s.extract 0 (M4 s)) ≠ 65535)) ∧ C7 [] w w'):=by
 refine Fn.pure (B7Y (TW.go (κ:=false) (S := []) ?_))
 unfold A8Y
 have hl':((M4 s:Nat):Int) ≤ s.size:=by omega
 have hl60:M4 s ≤ 60:=by unfold M4; omega
 (have zz:=trivial;repeat((first|clear zz|with_reducible first|refine A3 ?_|refine A4 fun _=>?_|refine A5 fun _=>?_|refine D5 fun _=>?_|refine E0 (hK:=fun _=>?_)|refine D6 (hK:=fun _=>?_)|refine D4 (hK:=fun _=>?_)|refine D9 (hK:=fun _=>?_)|refine D7 (hK:=fun _=>?_));try simp(disch:=first|omega|assumption|((repeat(first|exact A1|exact uH|apply A2|apply uT));first|done|fail)|(simp;first|done|omega|fail))[h1,h6]))
 refine B7 C0s (fun w' hw' => D1q w' _ (by simp [ByteArray.size_extract]; omega)) ?_
 (have zz:=trivial;repeat((first|clear zz|with_reducible first|refine A3 ?_|refine A4 fun _=>?_|refine A5 fun _=>?_|refine D5 fun _=>?_|refine E0 (hK:=fun _=>?_)|refine D6 (hK:=fun _=>?_)|refine D4 (hK:=fun _=>?_)|refine D9 (hK:=fun _=>?_)|refine D7 (hK:=fun _=>?_));try simp(disch:=first|omega|assumption|((repeat(first|exact A1|exact uH|apply A2|apply uT));first|done|fail)|(simp;first|done|omega|fail))[]))
 exact A9 (by simp)
include h7
theorem D4F:Fn PR B8 194 #[.pointer (some ⟨b6,0,none⟩),.pointer (some ⟨b1,0,none⟩),.pointer (some ⟨b7,0,none⟩)] w
  (fun v w' => v = .bool (decide (M4 s < 20 ∨ s.size < M4 s ∨ gv s 2 2 < M4 s ∨ s.size < gv s 2 2)) ∧ C7 [] w w'):=by
 have hs_:=hs
 refine Fn.pure (B7F (TW.go (κ:=false) (S := []) ?_))
 unfold A8U
 by_cases g1:M4 s < 20
 ·have g1':((M4 s:Nat):Int) < 20:=by omega
  (have zz:=trivial;repeat((first|clear zz|with_reducible first|refine A3 ?_|refine A4 fun _=>?_|refine A5 fun _=>?_|refine D5 fun _=>?_|refine E0 (hK:=fun _=>?_)|refine D6 (hK:=fun _=>?_)|refine D4 (hK:=fun _=>?_)|refine D9 (hK:=fun _=>?_)|refine D7 (hK:=fun _=>?_));try simp(disch:=first|omega|assumption|((repeat(first|exact A1|exact uH|apply A2|apply uT));first|done|fail)|(simp;first|done|omega|fail))[h1,h6,h7,g1,g1']))
  exact A9 (by simp [g1])
 have g1':¬ ((M4 s:Nat):Int) < 20:=by omega
 by_cases g2:s.size < M4 s
 ·have g2':((s.size:Nat):Int) < M4 s:=by omega
  (have zz:=trivial;repeat((first|clear zz|with_reducible first|refine A3 ?_|refine A4 fun _=>?_|refine A5 fun _=>?_|refine D5 fun _=>?_|refine E0 (hK:=fun _=>?_)|refine D6 (hK:=fun _=>?_)|refine D4 (hK:=fun _=>?_)|refine D9 (hK:=fun _=>?_)|refine D7 (hK:=fun _=>?_));try simp(disch:=first|omega|assumption|((repeat(first|exact A1|exact uH|apply A2|apply uT));first|done|fail)|(simp;first|done|omega|fail))[h1,h6,h7,g1,g1',g2,g2']))
  exact A9 (by simp [g2])
 have g2':¬ ((s.size:Nat):Int) < M4 s:=by omega
 by_cases g3:gv s 2 2 < M4 s
 ·have g3':((gv s 2 2:Nat):Int) < M4 s:=by omega
  (have zz:=trivial;repeat((first|clear zz|with_reducible first|refine A3 ?_|refine A4 fun _=>?_|refine A5 fun _=>?_|refine D5 fun _=>?_|refine E0 (hK:=fun _=>?_)|refine D6 (hK:=fun _=>?_)|refine D4 (hK:=fun _=>?_)|refine D9 (hK:=fun _=>?_)|refine D7 (hK:=fun _=>?_));try simp(disch:=first|omega|assumption|((repeat(first|exact A1|exact uH|apply A2|apply uT));first|done|fail)|(simp;first|done|omega|fail))[h1,h6,h7,g1,g1',g2,g2',g3,g3']))
  exact A9 (by simp [g3])
 have g3':¬ ((gv s 2 2:Nat):Int) < M4 s:=by omega
 (have zz:=trivial;repeat((first|clear zz|with_reducible first|refine A3 ?_|refine A4 fun _=>?_|refine A5 fun _=>?_|refine D5 fun _=>?_|refine E0 (hK:=fun _=>?_)|refine D6 (hK:=fun _=>?_)|refine D4 (hK:=fun _=>?_)|refine D9 (hK:=fun _=>?_)|refine D7 (hK:=fun _=>?_));try simp(disch:=first|omega|assumption|((repeat(first|exact A1|exact uH|apply A2|apply uT));first|done|fail)|(simp;first|done|omega|fail))[h1,h6,h7,g1,g1',g2,g2',g3,g3']))
 exact A9 (by simp [g1,g2,g3])
end
theorem C2e (w:World) (s:ByteArray) (hs:s.size < 2 ^ 63):Fn PR B8 139 #[.string s] w (fun v w' => v = (S2 s).val ∧ C7 [] w w'):=by
 refine Fn.pure (C0V (TW.go (κ:=false) (S := []) ?_))
 unfold B3p
 (have zz:=trivial;repeat((first|clear zz|with_reducible first|refine A3 ?_|refine A4 fun _=>?_|refine A5 fun _=>?_|refine D5 fun _=>?_|refine E0 (hK:=fun _=>?_)|refine D6 (hK:=fun _=>?_)|refine D4 (hK:=fun _=>?_)|refine D9 (hK:=fun _=>?_)|refine D7 (hK:=fun _=>?_));try simp(disch:=first|omega|assumption|((repeat(first|exact A1|exact uH|apply A2|apply uT));first|done|fail)|(simp;first|done|omega|fail))[]))
 rename_i b1 b2 b5
 refine D55 (α:=Nat × Nat) (fun _=> True) (fun x=> [.pt x.1 (.cells #[.int .i64 (M4 s:Nat)] 3),.pt x.2 (.cells #[.int .i64 (gv s 2 2:Nat)] 3),
  .pt b5 (.cells #[.func (.func 190) #[] #[.pointer (some ⟨b1,0,none⟩)]] 180),.pt b2 (.cells #[.string M6,.string M6,.int .i64 0] 226),.pt b1 (.cells #[.string s] 9)])
  (fun x=> .pointer (some ⟨x.1,0,none⟩)) (fun x=> .pointer (some ⟨x.2,0,none⟩)) ?_ ?_
 ·rintro ⟨b6,b7⟩ _
  simp only
  (have zz:=trivial;repeat((first|clear zz|with_reducible first|refine A3 ?_|refine A4 fun _=>?_|refine A5 fun _=>?_|refine D5 fun _=>?_|refine E0 (hK:=fun _=>?_)|refine D6 (hK:=fun _=>?_)|refine D4 (hK:=fun _=>?_)|refine D9 (hK:=fun _=>?_)|refine D7 (hK:=fun _=>?_));try simp(disch:=first|omega|assumption|((repeat(first|exact A1|exact uH|apply A2|apply uT));first|done|fail)|(simp;first|done|omega|fail))[]))
  rename_i bl
  refine B7 (u:=.int .i64 (A6g s:Nat)) B9J (fun w' hw' => ?_) ?_
  ·have h1:=hw'.cell1 (b:=b1) (by (repeat constructor))
   have h5:=hw'.cell1 (b:=b5) (by (repeat constructor))
   have h6:=hw'.cell1 (b:=b6) (by (repeat constructor))
   have h7:=hw'.cell1 (b:=b7) (by (repeat constructor))
   have hk:∀ {w2:World} {b:Nat} {v:Value},KS false [] w' w2 → w'.cell? ⟨b,0,none⟩ = some v → w2.cell? ⟨b,0,none⟩ = some v:=fun h e=> h.cell (by simp) e
   have hE:A6u [(.func (.func 192) #[] #[.pointer (some ⟨b1,0,none⟩)],2,decide (s.size < 20)),(.func (.func 193) #[] #[.pointer (some ⟨b5,0,none⟩)],3,decide (gv s 0 1 / 16 ≠ 4)),
    (.func (.func 194) #[] #[.pointer (some ⟨b6,0,none⟩),.pointer (some ⟨b1,0,none⟩),.pointer (some ⟨b7,0,none⟩)],4,decide (M4 s < 20 ∨ s.size < M4 s ∨ gv s 2 2 < M4 s ∨ s.size < gv s 2 2)),
    (.func (.func 195) #[] #[.pointer (some ⟨b1,0,none⟩),.pointer (some ⟨b6,0,none⟩)],5,decide (s5 (s.extract 0 (M4 s)) ≠ 65535)),(.func (.func 197) #[] #[.pointer (some ⟨b5,0,none⟩)],6,decide (gv s 6 2 % 16384 ≠ 0))] = (A6g s:Nat):=by
    unfold A6u A6g
    by_cases c1:s.size < 20
    ·simp [c1]
    by_cases c2:gv s 0 1 / 16 ≠ 4
    ·simp [c1,c2]
    by_cases c3:M4 s < 20 ∨ s.size < M4 s ∨ gv s 2 2 < M4 s ∨ s.size < gv s 2 2
    ·simp [c1,c2,c3]
    by_cases c4:s5 (s.extract 0 (M4 s)) ≠ 65535
    ·simp [c1,c2,c3,c4]
    by_cases c5:gv s 6 2 % 16384 ≠ 0
    ·simp [c1,c2,c3,c4,c5]
    ·simp [c1,c2,c3,c4,c5]
   rw [← hE]
   refine C9Y w' _ _ (by simp) ?_ ?_
   ·have:=M0.own (κ:=false) (S := []) (w0:=w) (e:=330) (k:=2) (q:=5) (v:=.slice (some ⟨bl,0,none⟩) 5 5) (by (repeat constructor)) w' hw'
    simpa [B9s] using this
   ·intro i hi hpre
    have hi':i = 0 ∨ i = 1 ∨ i = 2 ∨ i = 3 ∨ i = 4:=by simp at hi; omega
    rcases hi' with rfl | rfl | rfl | rfl | rfl
    ·exact ⟨_,_,rfl,B56,fun w2 h=> D34 w2 s b1 (hk h h1)⟩
    ·exact ⟨_,_,rfl,B6A,fun w2 h=> D48 w2 s hs b1 b5 (hk h h1) (hk h h5)⟩
    ·exact ⟨_,_,rfl,B5e,fun w2 h=> D4F w2 s hs b1 b6 b7 (hk h h1) (hk h h6) (hk h h7)⟩
    ·have h2:=hpre 2 (by omega)
     simp only [List.getElem_cons_succ,List.getElem_cons_zero,decide_eq_false_iff_not] at h2
     exact ⟨_,_,rfl,B5y,fun w2 h=> D3r w2 s b1 b6 (hk h h1) (hk h h6) (by omega)⟩
    ·exact ⟨_,_,rfl,B5z,fun w2 h=> D4T w2 s hs b1 b5 (hk h h1) (hk h h5)⟩
  ·by_cases he:A6g s = 0
   ·have hE:=he
    unfold A6g at hE
    by_cases c1:s.size < 20
    ·simp [c1] at hE
    by_cases c2:gv s 0 1 / 16 ≠ 4
    ·simp [c1,c2] at hE
    by_cases c3:M4 s < 20 ∨ s.size < M4 s ∨ gv s 2 2 < M4 s ∨ s.size < gv s 2 2
    ·simp [c1,c2,c3] at hE
    clear hE
    have hg91:=B7B s 9
    (have zz:=trivial;repeat((first|clear zz|with_reducible first|refine A3 ?_|refine A4 fun _=>?_|refine A5 fun _=>?_|refine D5 fun _=>?_|refine E0 (hK:=fun _=>?_)|refine D6 (hK:=fun _=>?_)|refine D4 (hK:=fun _=>?_)|refine D9 (hK:=fun _=>?_)|refine D7 (hK:=fun _=>?_));try simp(disch:=first|omega|assumption|((repeat(first|exact A1|exact uH|apply A2|apply uT));first|done|fail)|(simp;first|done|omega|fail))[he]))
    refine B7 y7 (fun w' hw' => D1B w' s hs b1 (hw'.cell1 (by (repeat constructor)))) ?_
    (have zz:=trivial;repeat((first|clear zz|with_reducible first|refine A3 ?_|refine A4 fun _=>?_|refine A5 fun _=>?_|refine D5 fun _=>?_|refine E0 (hK:=fun _=>?_)|refine D6 (hK:=fun _=>?_)|refine D4 (hK:=fun _=>?_)|refine D9 (hK:=fun _=>?_)|refine D7 (hK:=fun _=>?_));try simp(disch:=first|omega|assumption|((repeat(first|exact A1|exact uH|apply A2|apply uT));first|done|fail)|(simp;first|done|omega|fail))[]))
    exact A9 (by simp [S2,he,HeadV.val])
   ·(have zz:=trivial;repeat((first|clear zz|with_reducible first|refine A3 ?_|refine A4 fun _=>?_|refine A5 fun _=>?_|refine D5 fun _=>?_|refine E0 (hK:=fun _=>?_)|refine D6 (hK:=fun _=>?_)|refine D4 (hK:=fun _=>?_)|refine D9 (hK:=fun _=>?_)|refine D7 (hK:=fun _=>?_));try simp(disch:=first|omega|assumption|((repeat(first|exact A1|exact uH|apply A2|apply uT));first|done|fail)|(simp;first|done|omega|fail))[he]))
    exact A9 (by simp [S2,he,HeadV.val,HeadV.err])
 ·intro J hJ
  have hl:=B7B s 0
  have e15:=D6D _ hl
  have em:((gv s 0 1:Nat):Int) % 16 * 4 = (M4 s:Nat):=by simp [M4]
  have hJ':=fun b6 b7=> hJ (b6,b7) trivial
  simp only at hJ'
  clear hJ
  iterate 16 all_goals (try (first
   | exact fun _ _=> trivial
   | with_reducible refine And.intro ?_ ?_
   | (with_reducible apply B7 y7); (first | with_reducible exact fun w' hw' => D1A w' s hs b1 (hw'.cell1 (by ((repeat (first | exact A1 | exact Up.here | exact Sel.here | apply A2 | apply Up.there | apply Sel.there)); first | done | fail))) | with_reducible exact fun w' hw' => D1c w' s hs b1 (hw'.cell1 (by ((repeat (first | exact A1 | exact Up.here | exact Sel.here | apply A2 | apply Up.there | apply Sel.there)); first | done | fail))))
   | with_reducible refine A5 fun _=> ?_
   | simp(disch:=first|omega|assumption|((repeat(first|exact A1|exact uH|apply A2|apply uT));first|done|fail)|(simp;first|done|omega|fail))[e15,em]
   | with_reducible exact Sels.tw (by ((repeat (first | exact Sels.nil | (apply Sels.cons; · ((repeat (first | exact A1 | exact Up.here | exact Sel.here | apply A2 | apply Up.there | apply Sel.there)); first | done | fail)))); first | done | fail)) (hJ' _ _)))
  all_goals trace_state
def B0u (src dst:ByteArray) (proto:Int) (n:Nat) (own:Int):ByteArray :=
 ByteArray.mk #[69,0] ++ F3 (20 + n) 2 ++ ByteArray.mk #[0,0,64,0,64] ++ F3 proto 1 ++ F3 own 2 ++ src ++ dst
theorem C3w (w:World) (src dst rest:ByteArray) (proto own:Int) (b1 b2:Nat) (h1:w.cell? ⟨b1,0,none⟩ = some (.string rest)) (h2:w.cell? ⟨b2,0,none⟩ = some (.string src)) (h3:w.cell? ⟨b2,1,none⟩ = some (.string dst))
  (h4:w.cell? ⟨b2,2,none⟩ = some (.int .i64 proto)) (hr:rest.size ≤ 65515) (hs:src.size = 4) (hd:dst.size = 4) (hp0:0 ≤ proto) (hp:proto ≤ 255) (ho0:0 ≤ own) (ho:own ≤ 65535) :
  Fn PR B8 175 #[.int .i64 own,.pointer (some ⟨b1,0,none⟩),.pointer (some ⟨b2,0,none⟩)] w (fun v w' => v = .string (B0u src dst proto rest.size own) ∧ C7 [] w w'):=by
 refine Fn.pure (B9j (TW.go (κ:=false) (S := []) ?_))
 unfold B11
 (have zz:=trivial;repeat((first|clear zz|with_reducible first|refine A3 ?_|refine A4 fun _=>?_|refine A5 fun _=>?_|refine D5 fun _=>?_|refine E0 (hK:=fun _=>?_)|refine D6 (hK:=fun _=>?_)|refine D4 (hK:=fun _=>?_)|refine D9 (hK:=fun _=>?_)|refine D7 (hK:=fun _=>?_));try simp(disch:=first|omega|assumption|((repeat(first|exact A1|exact uH|apply A2|apply uT));first|done|fail)|(simp;first|done|omega|fail))[h1,h2,h3,h4]))
 refine B7 K9 (fun w' hw' => j9 w' _ _) ?_
 (have zz:=trivial;repeat((first|clear zz|with_reducible first|refine A3 ?_|refine A4 fun _=>?_|refine A5 fun _=>?_|refine D5 fun _=>?_|refine E0 (hK:=fun _=>?_)|refine D6 (hK:=fun _=>?_)|refine D4 (hK:=fun _=>?_)|refine D9 (hK:=fun _=>?_)|refine D7 (hK:=fun _=>?_));try simp(disch:=first|omega|assumption|((repeat(first|exact A1|exact uH|apply A2|apply uT));first|done|fail)|(simp;first|done|omega|fail))[h1,h2,h3,h4,S1]))
 refine B7 K9 (fun w' hw' => j9 w' _ _) ?_
 (have zz:=trivial;repeat((first|clear zz|with_reducible first|refine A3 ?_|refine A4 fun _=>?_|refine A5 fun _=>?_|refine D5 fun _=>?_|refine E0 (hK:=fun _=>?_)|refine D6 (hK:=fun _=>?_)|refine D4 (hK:=fun _=>?_)|refine D9 (hK:=fun _=>?_)|refine D7 (hK:=fun _=>?_));try simp(disch:=first|omega|assumption|((repeat(first|exact A1|exact uH|apply A2|apply uT));first|done|fail)|(simp;first|done|omega|fail))[h1,h2,h3,h4,S1]))
 refine B7 K9 (fun w' hw' => j9 w' _ _) ?_
 (have zz:=trivial;repeat((first|clear zz|with_reducible first|refine A3 ?_|refine A4 fun _=>?_|refine A5 fun _=>?_|refine D5 fun _=>?_|refine E0 (hK:=fun _=>?_)|refine D6 (hK:=fun _=>?_)|refine D4 (hK:=fun _=>?_)|refine D9 (hK:=fun _=>?_)|refine D7 (hK:=fun _=>?_));try simp(disch:=first|omega|assumption|((repeat(first|exact A1|exact uH|apply A2|apply uT));first|done|fail)|(simp;first|done|omega|fail))[h1,h2,h3,h4,S1,hs,hd]))
 exact A9 rfl
def B1l (src dst rest:ByteArray) (proto:Int):ByteArray × Nat :=
 if src.size ≠ 4 ∨ dst.size ≠ 4 ∨ proto < 0 ∨ 255 < proto then (M6,1) else if 65515 < rest.size then (M6,4) else (B0u src dst proto rest.size (B8Y (B0u src dst proto rest.size 0)) ++ rest,0)
theorem B8c {src dst:ByteArray} {proto own:Int} {n:Nat} (hs:src.size = 4) (hd:dst.size = 4):(B0u src dst proto n own).size = 20:=by simp [B0u,hs,hd]
theorem D0s (s:ByteArray):0 ≤ B8Y s ∧ B8Y s ≤ 65535:=by
 have:=B7a (A4U s (S3 s)); unfold B8Y s5; omega
theorem C5a (w:World) (src dst rest:ByteArray) (proto:Int) (hrs:rest.size < 2 ^ 40) :
  Fn PR B8 126 #[.agg #[.string src,.string dst,.int .i64 proto],.string rest] w (fun v w' => v = .tuple #[.string (B1l src dst rest proto).1,.int .i64 (B1l src dst rest proto).2] ∧ C7 [] w w'):=by
 refine Fn.pure (C4E (TW.go (κ:=false) (S := []) ?_))
 unfold B6j
 by_cases c1:src.size = 4
 case neg=>
  have c1':¬ (src.size:Int) = 4:=by omega
  (have zz:=trivial;repeat((first|clear zz|with_reducible first|refine A3 ?_|refine A4 fun _=>?_|refine A5 fun _=>?_|refine D5 fun _=>?_|refine E0 (hK:=fun _=>?_)|refine D6 (hK:=fun _=>?_)|refine D4 (hK:=fun _=>?_)|refine D9 (hK:=fun _=>?_)|refine D7 (hK:=fun _=>?_));try simp(disch:=first|omega|assumption|((repeat(first|exact A1|exact uH|apply A2|apply uT));first|done|fail)|(simp;first|done|omega|fail))[c1'])); exact A9 (by simp [B1l,c1])
 by_cases c2:dst.size = 4
 case neg=>
  have c2':¬ (dst.size:Int) = 4:=by omega
  (have zz:=trivial;repeat((first|clear zz|with_reducible first|refine A3 ?_|refine A4 fun _=>?_|refine A5 fun _=>?_|refine D5 fun _=>?_|refine E0 (hK:=fun _=>?_)|refine D6 (hK:=fun _=>?_)|refine D4 (hK:=fun _=>?_)|refine D9 (hK:=fun _=>?_)|refine D7 (hK:=fun _=>?_));try simp(disch:=first|omega|assumption|((repeat(first|exact A1|exact uH|apply A2|apply uT));first|done|fail)|(simp;first|done|omega|fail))[c1,c2'])); exact A9 (by simp [B1l,c2])
 by_cases c3:proto < 0
 ·(have zz:=trivial;repeat((first|clear zz|with_reducible first|refine A3 ?_|refine A4 fun _=>?_|refine A5 fun _=>?_|refine D5 fun _=>?_|refine E0 (hK:=fun _=>?_)|refine D6 (hK:=fun _=>?_)|refine D4 (hK:=fun _=>?_)|refine D9 (hK:=fun _=>?_)|refine D7 (hK:=fun _=>?_));try simp(disch:=first|omega|assumption|((repeat(first|exact A1|exact uH|apply A2|apply uT));first|done|fail)|(simp;first|done|omega|fail))[c1,c2,c3])); exact A9 (by simp [B1l,c3])
 by_cases c4:255 < proto
 ·(have zz:=trivial;repeat((first|clear zz|with_reducible first|refine A3 ?_|refine A4 fun _=>?_|refine A5 fun _=>?_|refine D5 fun _=>?_|refine E0 (hK:=fun _=>?_)|refine D6 (hK:=fun _=>?_)|refine D4 (hK:=fun _=>?_)|refine D9 (hK:=fun _=>?_)|refine D7 (hK:=fun _=>?_));try simp(disch:=first|omega|assumption|((repeat(first|exact A1|exact uH|apply A2|apply uT));first|done|fail)|(simp;first|done|omega|fail))[c1,c2,c3,c4])); exact A9 (by simp [B1l,c4])
 by_cases c5:65515 < rest.size
 ·have c5':65515 < (rest.size:Int):=by omega
  (have zz:=trivial;repeat((first|clear zz|with_reducible first|refine A3 ?_|refine A4 fun _=>?_|refine A5 fun _=>?_|refine D5 fun _=>?_|refine E0 (hK:=fun _=>?_)|refine D6 (hK:=fun _=>?_)|refine D4 (hK:=fun _=>?_)|refine D9 (hK:=fun _=>?_)|refine D7 (hK:=fun _=>?_));try simp(disch:=first|omega|assumption|((repeat(first|exact A1|exact uH|apply A2|apply uT));first|done|fail)|(simp;first|done|omega|fail))[c1,c2,c3,c4,c5'])); exact A9 (by simp [B1l,c1,c2,c3,c4,c5])
 have c5':¬ 65515 < (rest.size:Int):=by omega
 (have zz:=trivial;repeat((first|clear zz|with_reducible first|refine A3 ?_|refine A4 fun _=>?_|refine A5 fun _=>?_|refine D5 fun _=>?_|refine E0 (hK:=fun _=>?_)|refine D6 (hK:=fun _=>?_)|refine D4 (hK:=fun _=>?_)|refine D9 (hK:=fun _=>?_)|refine D7 (hK:=fun _=>?_));try simp(disch:=first|omega|assumption|((repeat(first|exact A1|exact uH|apply A2|apply uT));first|done|fail)|(simp;first|done|omega|fail))[c1,c2,c3,c4,c5']))
 rename_i bh br
 have key:∀ w',LW false [] w [.pt br (.cells #[.string rest] 9),.pt bh (.cells #[.string src,.string dst,.int .i64 proto] 226)] w' → ∀ own:Int,0 ≤ own → own ≤ 65535 → _ :=
  fun w' hw' own h0 h1=> C3w w' src dst rest proto own br bh (hw'.cell1 (by (repeat constructor))) (hw'.cell (by (repeat constructor)) (by rfl)) (hw'.cell (by (repeat constructor)) (by rfl)) (hw'.cell (by (repeat constructor)) (by rfl)) (by omega) c1 c2 (by omega) (by omega) h0 h1
 refine B7 B0J (fun w' hw' => key w' hw' 0 (by omega) (by omega)) ?_
 (have zz:=trivial;repeat((first|clear zz|with_reducible first|refine A3 ?_|refine A4 fun _=>?_|refine A5 fun _=>?_|refine D5 fun _=>?_|refine E0 (hK:=fun _=>?_)|refine D6 (hK:=fun _=>?_)|refine D4 (hK:=fun _=>?_)|refine D9 (hK:=fun _=>?_)|refine D7 (hK:=fun _=>?_));try simp(disch:=first|omega|assumption|((repeat(first|exact A1|exact uH|apply A2|apply uT));first|done|fail)|(simp;first|done|omega|fail))[]))
 have hz:(B0u src dst proto rest.size 0).size = 20:=B8c c1 c2
 have hv:=D0s (B0u src dst proto rest.size 0)
 refine B7 C19 (fun w' hw' => D2f w' _ (by omega)) ?_
 (have zz:=trivial;repeat((first|clear zz|with_reducible first|refine A3 ?_|refine A4 fun _=>?_|refine A5 fun _=>?_|refine D5 fun _=>?_|refine E0 (hK:=fun _=>?_)|refine D6 (hK:=fun _=>?_)|refine D4 (hK:=fun _=>?_)|refine D9 (hK:=fun _=>?_)|refine D7 (hK:=fun _=>?_));try simp(disch:=first|omega|assumption|((repeat(first|exact A1|exact uH|apply A2|apply uT));first|done|fail)|(simp;first|done|omega|fail))[]))
 refine B7 B0J (fun w' hw' => key w' hw' _ hv.1 hv.2) ?_
 have hz2:(B0u src dst proto rest.size (B8Y (B0u src dst proto rest.size 0))).size = 20:=B8c c1 c2
 (have zz:=trivial;repeat((first|clear zz|with_reducible first|refine A3 ?_|refine A4 fun _=>?_|refine A5 fun _=>?_|refine D5 fun _=>?_|refine E0 (hK:=fun _=>?_)|refine D6 (hK:=fun _=>?_)|refine D4 (hK:=fun _=>?_)|refine D9 (hK:=fun _=>?_)|refine D7 (hK:=fun _=>?_));try simp(disch:=first|omega|assumption|((repeat(first|exact A1|exact uH|apply A2|apply uT));first|done|fail)|(simp;first|done|omega|fail))[S1]))
 exact A9 (by simp [B1l,c1,c2,c3,c4,c5])
def B09:List Nat → ByteArray → List ByteArray
 | [],s=> [s]
 | n :: ns,s=> s.extract 0 n :: B09 ns (s.extract n s.size)
theorem D2V (w:World) (v:Value) (ns:List Nat) (s:ByteArray) (hn:ns.length < 100) (hv:F5 w v ns.length (ns.map fun n:Nat=> Value.int .i64 (n:Int))) (hs:ns.sum ≤ s.size) (hs2:s.size < 2 ^ 63) :
  Fn PR B8 198 #[.string s,v] w (Rn [] w (fun v u=> u = v) fun v=> [.own 9 1 v (ns.length + 1) ((B09 ns s).map .string)]):=by
 refine C40 (TW.go (κ:=false) (S := []) ?_)
 unfold B6b
 obtain ⟨a,c,rfl,hrow⟩:=hv.form
 (have zz:=trivial;repeat((first|clear zz|with_reducible first|refine A3 ?_|refine A4 fun _=>?_|refine A5 fun _=>?_|refine D5 fun _=>?_|refine E0 (hK:=fun _=>?_)|refine D6 (hK:=fun _=>?_)|refine D4 (hK:=fun _=>?_)|refine D9 (hK:=fun _=>?_)|refine D7 (hK:=fun _=>?_));try simp(disch:=first|omega|assumption|((repeat(first|exact A1|exact uH|apply A2|apply uT));first|done|fail)|(simp;first|done|omega|fail))[]))
 refine l7 9 1 ?_
 refine C54 (α:=Value × ByteArray × List ByteArray) ns.length (fun _ x=> x.1) (fun _ x=> .string x.2.1) (fun i x=> [.own 9 1 x.1 i (x.2.2.map .string)])
  (fun i x=> B09 ns s = x.2.2 ++ B09 (ns.drop i) x.2.1 ∧ (ns.drop i).sum ≤ x.2.1.size ∧ x.2.1.size ≤ s.size) (.slice none 0 0,s,[]) ⟨by simp,by simpa using hs,Nat.le_refl _⟩ ?_
 rintro i ⟨v,r,d⟩ hi ⟨h1,h2,h3⟩ L hL
 simp only at h1 h2 h3 hL ⊢
 by_cases hlt:i < ns.length
 ·obtain ⟨b,o,rfl,hr⟩:=hrow (by omega)
  have hx:ns[i]? = some ns[i]:=List.getElem?_eq_getElem hlt
  have hc:=hr.one hx
  rw [List.drop_eq_getElem_cons hlt] at h1 h2
  simp only [List.sum_cons,B09] at h1 h2
  have hle:((ns[i]:Nat):Int) ≤ r.size:=by omega
  (have zz:=trivial;repeat((first|clear zz|with_reducible first|refine A3 ?_|refine A4 fun _=>?_|refine A5 fun _=>?_|refine D5 fun _=>?_|refine E0 (hK:=fun _=>?_)|refine D6 (hK:=fun _=>?_)|refine D4 (hK:=fun _=>?_)|refine D9 (hK:=fun _=>?_)|refine D7 (hK:=fun _=>?_));try simp(disch:=first|omega|assumption|((repeat(first|exact A1|exact uH|apply A2|apply uT));first|done|fail)|(simp;first|done|omega|fail))[hlt,hc]))
  refine r9 (by (repeat constructor)) (M0.own (by (repeat constructor))) (by decide) (by simp) (by simp) (by simp only [maxLen]; omega) (by omega) fun a' c' => ?_
  (have zz:=trivial;repeat((first|clear zz|with_reducible first|refine A3 ?_|refine A4 fun _=>?_|refine A5 fun _=>?_|refine D5 fun _=>?_|refine E0 (hK:=fun _=>?_)|refine D6 (hK:=fun _=>?_)|refine D4 (hK:=fun _=>?_)|refine D9 (hK:=fun _=>?_)|refine D7 (hK:=fun _=>?_));try simp(disch:=first|omega|assumption|((repeat(first|exact A1|exact uH|apply A2|apply uT));first|done|fail)|(simp;first|done|omega|fail))[hlt,hle]))
  have:=hL hlt (.slice a' (i + 1) c',r.extract ns[i] r.size,d ++ [r.extract 0 ns[i]]) ⟨by rw [h1]; simp,by rw [ByteArray.size_extract]; omega,by rw [ByteArray.size_extract]; omega⟩
  simp only [List.map_append,List.map_cons,List.map_nil] at this
  exact Sels.tw (by (repeat' constructor)) this
 ·obtain rfl:i = ns.length:=by omega
  (have zz:=trivial;repeat((first|clear zz|with_reducible first|refine A3 ?_|refine A4 fun _=>?_|refine A5 fun _=>?_|refine D5 fun _=>?_|refine E0 (hK:=fun _=>?_)|refine D6 (hK:=fun _=>?_)|refine D4 (hK:=fun _=>?_)|refine D9 (hK:=fun _=>?_)|refine D7 (hK:=fun _=>?_));try simp(disch:=first|omega|assumption|((repeat(first|exact A1|exact uH|apply A2|apply uT));first|done|fail)|(simp;first|done|omega|fail))[]))
  refine r9 (by (repeat constructor)) (M0.own (by (repeat constructor))) (by decide) (by simp) (by simp) (by simp only [maxLen]; omega) (by omega) fun a' c' => ?_
  simp only [List.drop_length,B09] at h1
  rw [h1]
  exact u7 _ rfl (by simp)
def A81 (s:ByteArray):Nat:=if s.size < 40 then 2 else if gv s 0 1 / 16 ≠ 6 then 3 else if s.size - 40 < gv s 4 2 then 4 else 0
def T3 (s:ByteArray):HeadV:=if A81 s = 0 then ⟨s.extract 8 24,s.extract 24 40,gv s 6 1,s.extract 40 (40 + gv s 4 2),0⟩ else .err (A81 s)
theorem B0F (s:ByteArray) (a b i:Nat) (hb:b ≤ s.size) (hi:i < b - a):C9 (s.extract a b) i = C9 s (a + i):=by
 unfold C9
 rw [Array.getD_eq_getD_getElem?,Array.getD_eq_getD_getElem?,ByteArray.data_extract,Array.getElem?_extract]
 rw [if_pos (by simp only [ByteArray.size] at hb; omega)]
theorem C2Y (s:ByteArray) (a b i n:Nat) (hb:b ≤ s.size) (hn:i + n ≤ b - a):a6 (s.extract a b) i n = a6 s (a + i) n:=by
 induction n with
 | zero=> rfl
 | succ n ih=> simp only [a6]; rw [ih (by omega),B0F s a b _ hb (by omega),Nat.add_assoc]
theorem C42 {s:ByteArray} {a n:Nat} (h:a + n ≤ s.size):gv s a n = a6 s a n:=if_pos h
theorem C5C (s:ByteArray) (a b i n:Nat) (hb:b ≤ s.size) (hn:i + n ≤ b - a) (hab:a ≤ b):gv (s.extract a b) i n = gv s (a + i) n:=by
 rw [C42 (by rw [ByteArray.size_extract]; omega),C42 (by omega),C2Y s a b i n hb hn]
theorem B0a {s:ByteArray} {a:Nat} (h:a < s.size):gv s a 1 = C9 s a:=by rw [C42 (by omega)]; simp [a6]
theorem B50 (s:ByteArray) (a b c d:Nat) (hb:b ≤ s.size) (hd:a + d ≤ b):(s.extract a b).extract c d = s.extract (a + c) (a + d):=by
 apply ByteArray.ext
 rw [ByteArray.data_extract,ByteArray.data_extract,ByteArray.data_extract,Array.extract_extract]
 congr 1; omega
def C8l (s:ByteArray):Nat → List Nat → List ByteArray
 | a,[]=> [s.extract a s.size]
 | a,n :: ns=> s.extract a (a + n) :: C8l s (a + n) ns
theorem D0v (s:ByteArray) (ns:List Nat):∀ a,a + ns.sum ≤ s.size → B09 ns (s.extract a s.size) = C8l s a ns:=by
 induction ns with
 | nil=> intro a _; rfl
 | cons n ns ih=>
  intro a h
  simp only [List.sum_cons] at h
  simp only [B09,C8l]
  rw [B50 _ _ _ _ _ (by omega) (by omega),B50 _ _ _ _ _ (by omega) (by rw [ByteArray.size_extract]; omega),ByteArray.size_extract,Nat.add_zero]
  rw [show a + (min s.size s.size - a) = s.size from by omega,ih _ (by omega)]
theorem C1y (s:ByteArray):s.extract 0 s.size = s:=by
 apply ByteArray.ext; rw [ByteArray.data_extract]; exact Array.extract_size ..
theorem C33 {s:ByteArray} (h:40 ≤ s.size):B09 [4,2,1,1,16,16] s = [s.extract 0 4,s.extract 4 6,s.extract 6 7,s.extract 7 8,s.extract 8 24,s.extract 24 40,s.extract 40 s.size]:=by
 have:=D0v s [4,2,1,1,16,16] 0 (by simp; omega)
 rw [C1y] at this; rw [this]; rfl
theorem C2B (w:World) (s:ByteArray) (hs:s.size < 2 ^ 63):Fn PR B8 142 #[.string s] w (fun v w' => v = (T3 s).val ∧ C7 [] w w'):=by
 refine Fn.pure (C1p (TW.go (κ:=false) (S := []) ?_))
 unfold B2z
 by_cases c1:s.size < 40
 ·have c1':(s.size:Int) < 40:=by omega
  (have zz:=trivial;repeat((first|clear zz|with_reducible first|refine A3 ?_|refine A4 fun _=>?_|refine A5 fun _=>?_|refine D5 fun _=>?_|refine E0 (hK:=fun _=>?_)|refine D6 (hK:=fun _=>?_)|refine D4 (hK:=fun _=>?_)|refine D9 (hK:=fun _=>?_)|refine D7 (hK:=fun _=>?_));try simp(disch:=first|omega|assumption|((repeat(first|exact A1|exact uH|apply A2|apply uT));first|done|fail)|(simp;first|done|omega|fail))[c1'])); exact A9 (by simp [T3,A81,c1,HeadV.val,HeadV.err])
 have c1':¬ (s.size:Int) < 40:=by omega
 obtain ⟨by0,hb0,hb1⟩:=x9 (s:=s) (i:=0) (by omega)
 have hg0:gv s 0 1 = C9 s 0:=B0a (by omega)
 have e1:((by0.toNat:Nat):Int).fdiv (2 ^ min 4 IntKind.u8.bits) = (gv s 0 1 / 16:Nat):=by rw [show (2:Int) ^ min 4 IntKind.u8.bits = 16 from rfl,Int.fdiv_eq_ediv_of_nonneg _ (by omega),hb1,hg0]; omega
 have hb0':s[(0:Int).toNat]? = some by0:=hb0
 by_cases c2:gv s 0 1 / 16 = 6
 case neg=>
  have c2':¬ ((gv s 0 1 / 16:Nat):Int) = 6:=by omega
  (have zz:=trivial;repeat((first|clear zz|with_reducible first|refine A3 ?_|refine A4 fun _=>?_|refine A5 fun _=>?_|refine D5 fun _=>?_|refine E0 (hK:=fun _=>?_)|refine D6 (hK:=fun _=>?_)|refine D4 (hK:=fun _=>?_)|refine D9 (hK:=fun _=>?_)|refine D7 (hK:=fun _=>?_));try simp(disch:=first|omega|assumption|((repeat(first|exact A1|exact uH|apply A2|apply uT));first|done|fail)|(simp;first|done|omega|fail))[c1',c8]))
  rw [e1,if_neg c2']
  (have zz:=trivial;repeat((first|clear zz|with_reducible first|refine A3 ?_|refine A4 fun _=>?_|refine A5 fun _=>?_|refine D5 fun _=>?_|refine E0 (hK:=fun _=>?_)|refine D6 (hK:=fun _=>?_)|refine D4 (hK:=fun _=>?_)|refine D9 (hK:=fun _=>?_)|refine D7 (hK:=fun _=>?_));try simp(disch:=first|omega|assumption|((repeat(first|exact A1|exact uH|apply A2|apply uT));first|done|fail)|(simp;first|done|omega|fail))[])); exact A9 (by simp [T3,A81,c1,c2,HeadV.val,HeadV.err])
 have c2':((gv s 0 1 / 16:Nat):Int) = 6:=by omega
 (have zz:=trivial;repeat((first|clear zz|with_reducible first|refine A3 ?_|refine A4 fun _=>?_|refine A5 fun _=>?_|refine D5 fun _=>?_|refine E0 (hK:=fun _=>?_)|refine D6 (hK:=fun _=>?_)|refine D4 (hK:=fun _=>?_)|refine D9 (hK:=fun _=>?_)|refine D7 (hK:=fun _=>?_));try simp(disch:=first|omega|assumption|((repeat(first|exact A1|exact uH|apply A2|apply uT));first|done|fail)|(simp;first|done|omega|fail))[c1',c8]))
 rw [e1,if_pos c2']
 (have zz:=trivial;repeat((first|clear zz|with_reducible first|refine A3 ?_|refine A4 fun _=>?_|refine A5 fun _=>?_|refine D5 fun _=>?_|refine E0 (hK:=fun _=>?_)|refine D6 (hK:=fun _=>?_)|refine D4 (hK:=fun _=>?_)|refine D9 (hK:=fun _=>?_)|refine D7 (hK:=fun _=>?_));try simp(disch:=first|omega|assumption|((repeat(first|exact A1|exact uH|apply A2|apply uT));first|done|fail)|(simp;first|done|omega|fail))[]))
 rename_i bh bl
 refine H3 C2K (fun w' hw' => D2V w' _ [4,2,1,1,16,16] s (by simp) ?_ (by simp; omega) (by omega)) ?_
 ·have:=M0.own (κ:=false) (S := []) (w0:=w) (e:=3) (k:=1) (q:=6) (v:=.slice (some ⟨bl,0,none⟩) 6 6) (by (repeat constructor)) w' hw'
  simpa using this
 rintro v _ rfl
 rw [C33 (by omega)]
 simp only [List.length_cons,List.length_nil,List.map_cons,List.map_nil,List.cons_append,List.nil_append]
 refine V5 (by (repeat constructor)) (by omega) fun g c hv=> ?_
 subst hv
 (have zz:=trivial;repeat((first|clear zz|with_reducible first|refine A3 ?_|refine A4 fun _=>?_|refine A5 fun _=>?_|refine D5 fun _=>?_|refine E0 (hK:=fun _=>?_)|refine D6 (hK:=fun _=>?_)|refine D4 (hK:=fun _=>?_)|refine D9 (hK:=fun _=>?_)|refine D7 (hK:=fun _=>?_));try simp(disch:=first|omega|assumption|((repeat(first|exact A1|exact uH|apply A2|apply uT));first|done|fail)|(simp;first|done|omega|fail))[]))
 refine B7 W9 (fun w' _=> A4y w' _ (by simp; omega) _ _) ?_
 have hgv:=A58 (s.extract 4 6) 0 2 (by omega) (by omega)
 rw [C5C s 4 6 0 2 (by omega) (by omega) (by omega)] at hgv
 simp only [Int.natCast_zero,Int.cast_ofNat_Int] at hgv
 have hlt:=l4 s 4
 rw [hgv]
 (have zz:=trivial;repeat((first|clear zz|with_reducible first|refine A3 ?_|refine A4 fun _=>?_|refine A5 fun _=>?_|refine D5 fun _=>?_|refine E0 (hK:=fun _=>?_)|refine D6 (hK:=fun _=>?_)|refine D4 (hK:=fun _=>?_)|refine D9 (hK:=fun _=>?_)|refine D7 (hK:=fun _=>?_));try simp(disch:=first|omega|assumption|((repeat(first|exact A1|exact uH|apply A2|apply uT));first|done|fail)|(simp;first|done|omega|fail))[]))
 refine D3E (fun c3=> ?_) (fun c3=> ?_)
 ·(have zz:=trivial;repeat((first|clear zz|with_reducible first|refine A3 ?_|refine A4 fun _=>?_|refine A5 fun _=>?_|refine D5 fun _=>?_|refine E0 (hK:=fun _=>?_)|refine D6 (hK:=fun _=>?_)|refine D4 (hK:=fun _=>?_)|refine D9 (hK:=fun _=>?_)|refine D7 (hK:=fun _=>?_));try simp(disch:=first|omega|assumption|((repeat(first|exact A1|exact uH|apply A2|apply uT));first|done|fail)|(simp;first|done|omega|fail))[]))
  exact A9 (by simp [T3,A81,c1,c2,c3,HeadV.val,HeadV.err])
 ·obtain ⟨by6,hb6,hb6'⟩:=x9 (s:=s.extract 6 7) (i:=0) (by simp; omega)
  have hp:C9 (s.extract 6 7) 0 = gv s 6 1:=by rw [B0F s 6 7 0 (by omega) (by omega),B0a (by omega)]
  have hb6'':(s.extract 6 7)[(0:Int).toNat]? = some by6:=hb6
  have hle:((gv s 4 2:Nat):Int) ≤ (s.extract 40 s.size).size:=by rw [ByteArray.size_extract]; omega
  (have zz:=trivial;repeat((first|clear zz|with_reducible first|refine A3 ?_|refine A4 fun _=>?_|refine A5 fun _=>?_|refine D5 fun _=>?_|refine E0 (hK:=fun _=>?_)|refine D6 (hK:=fun _=>?_)|refine D4 (hK:=fun _=>?_)|refine D9 (hK:=fun _=>?_)|refine D7 (hK:=fun _=>?_));try simp(disch:=first|omega|assumption|((repeat(first|exact A1|exact uH|apply A2|apply uT));first|done|fail)|(simp;first|done|omega|fail))[c8]))
  have h6:=B7B s 6
  have w6:IntKind.i64.wrap (gv s 6 1:Nat) = (gv s 6 1:Nat):=N3 (by omega) (by omega)
  rw [hb6',hp]
  exact A9 (by rw [B50 s 40 s.size 0 _ (by omega) (by omega)]; simp [T3,A81,c1,c2,c3,HeadV.val,w6])
theorem A4l:liesAt PR PR.depth 305 (2 / PR.cellsOf 305) 0 303 1 = true:=by kernel_rfl
theorem A8a (w:World) (b:Nat) (a:Option Addr) (v:Value) (q:Nat) (xs:List Value) (x n:Int) (ha:a = none ∨ a = some ⟨b,0,none⟩) (hx0:0 ≤ x) (hx:x < 2 ^ 62) (hs:q < 2 ^ 39)
  (hw:LW false (C3 (Bd b 305 a v q xs)) w (Bd b 305 a v q xs) w):Fn PR B8 172 #[.pointer (some ⟨b,0,none⟩),.int .i64 x,.int .i64 n] w
   (Rn (C3 (Bd b 305 a v q xs)) w (fun (_:Value) u=> u = .tuple #[]) fun v' => Bd b 305 (some ⟨b,0,none⟩) v' (q + (F3 x n).size) (xs ++ G8 (F3 x n))):=by
 refine B1Z (TW.goH (κ:=false) (S:=C3 (Bd b 305 a v q xs)) ?_ hw)
 unfold A3s
 (have zz:=trivial;repeat((first|clear zz|with_reducible first|refine A3 ?_|refine A4 fun _=>?_|refine A5 fun _=>?_|refine D5 fun _=>?_|refine E0 (hK:=fun _=>?_)|refine D6 (hK:=fun _=>?_)|refine D4 (hK:=fun _=>?_)|refine D9 (hK:=fun _=>?_)|refine D7 (hK:=fun _=>?_));try simp(disch:=first|omega|assumption|((repeat(first|exact A1|exact uH|apply A2|apply uT));first|done|fail)|(simp;first|done|omega|fail))[]))
 refine B7 K9 (fun w' _=> j9 w' _ _) ?_
 have hp:(F3 x n).size ≤ 8:=by
  by_cases h:1 ≤ n ∧ n ≤ 8
  ·rw [C5P h.1 h.2]; omega
  ·simp [F3,h]
 refine B7S (Hc:=Bd b 305 a v q xs) (Hk := []) P8 (by rfl) (fun w' hw' => A04 w' b _ a v q xs _ ha A4l (by omega) hw'.self) ?_
 rintro v' _ rfl
 (have zz:=trivial;repeat((first|clear zz|with_reducible first|refine A3 ?_|refine A4 fun _=>?_|refine A5 fun _=>?_|refine D5 fun _=>?_|refine E0 (hK:=fun _=>?_)|refine D6 (hK:=fun _=>?_)|refine D4 (hK:=fun _=>?_)|refine D9 (hK:=fun _=>?_)|refine D7 (hK:=fun _=>?_));try simp(disch:=first|omega|assumption|((repeat(first|exact A1|exact uH|apply A2|apply uT));first|done|fail)|(simp;first|done|omega|fail))[]))
 exact B1 v' rfl (by simp only [Bd]; (repeat' constructor))
def B5v (src dst rest:ByteArray) (proto:Int):ByteArray:=F3 1610612736 4 ++ F3 rest.size 2 ++ F3 proto 1 ++ F3 64 1 ++ src ++ dst ++ rest
def B8D (rest:ByteArray):Nat → Nat | 0=> 8 | 1=> 24 | 2=> 40 | _=> 40 + rest.size
def B73 (src dst rest:ByteArray) (proto:Int):Nat → ByteArray
 | 0=> F3 1610612736 4 ++ F3 rest.size 2 ++ F3 proto 1 ++ F3 64 1
 | 1=> F3 1610612736 4 ++ F3 rest.size 2 ++ F3 proto 1 ++ F3 64 1 ++ src
 | 2=> F3 1610612736 4 ++ F3 rest.size 2 ++ F3 proto 1 ++ F3 64 1 ++ src ++ dst
 | _=> B5v src dst rest proto
def B1A (src dst rest:ByteArray) (proto:Int):ByteArray × Nat :=
 if src.size ≠ 16 ∨ dst.size ≠ 16 ∨ proto < 0 ∨ 255 < proto then (M6,1) else if 65535 < rest.size then (M6,4) else (B5v src dst rest proto,0)
theorem C52 (w:World) (src dst rest:ByteArray) (proto:Int) (hrs:rest.size < 2 ^ 40) :
  Fn PR B8 125 #[.agg #[.string src,.string dst,.int .i64 proto],.string rest] w (fun v w' => v = .tuple #[.string (B1A src dst rest proto).1,.int .i64 (B1A src dst rest proto).2] ∧ C7 [] w w'):=by
 refine Fn.pure (C3n (TW.go (κ:=false) (S := []) ?_))
 unfold B60
 by_cases c1:src.size = 16
 case neg=>
  have c1':¬ (src.size:Int) = 16:=by omega
  (have zz:=trivial;repeat((first|clear zz|with_reducible first|refine A3 ?_|refine A4 fun _=>?_|refine A5 fun _=>?_|refine D5 fun _=>?_|refine E0 (hK:=fun _=>?_)|refine D6 (hK:=fun _=>?_)|refine D4 (hK:=fun _=>?_)|refine D9 (hK:=fun _=>?_)|refine D7 (hK:=fun _=>?_));try simp(disch:=first|omega|assumption|((repeat(first|exact A1|exact uH|apply A2|apply uT));first|done|fail)|(simp;first|done|omega|fail))[c1'])); exact A9 (by simp [B1A,c1])
 by_cases c2:dst.size = 16
 case neg=>
  have c2':¬ (dst.size:Int) = 16:=by omega
  (have zz:=trivial;repeat((first|clear zz|with_reducible first|refine A3 ?_|refine A4 fun _=>?_|refine A5 fun _=>?_|refine D5 fun _=>?_|refine E0 (hK:=fun _=>?_)|refine D6 (hK:=fun _=>?_)|refine D4 (hK:=fun _=>?_)|refine D9 (hK:=fun _=>?_)|refine D7 (hK:=fun _=>?_));try simp(disch:=first|omega|assumption|((repeat(first|exact A1|exact uH|apply A2|apply uT));first|done|fail)|(simp;first|done|omega|fail))[c1,c2'])); exact A9 (by simp [B1A,c2])
 by_cases c3:proto < 0
 ·(have zz:=trivial;repeat((first|clear zz|with_reducible first|refine A3 ?_|refine A4 fun _=>?_|refine A5 fun _=>?_|refine D5 fun _=>?_|refine E0 (hK:=fun _=>?_)|refine D6 (hK:=fun _=>?_)|refine D4 (hK:=fun _=>?_)|refine D9 (hK:=fun _=>?_)|refine D7 (hK:=fun _=>?_));try simp(disch:=first|omega|assumption|((repeat(first|exact A1|exact uH|apply A2|apply uT));first|done|fail)|(simp;first|done|omega|fail))[c1,c2,c3])); exact A9 (by simp [B1A,c3])
 by_cases c4:255 < proto
 ·(have zz:=trivial;repeat((first|clear zz|with_reducible first|refine A3 ?_|refine A4 fun _=>?_|refine A5 fun _=>?_|refine D5 fun _=>?_|refine E0 (hK:=fun _=>?_)|refine D6 (hK:=fun _=>?_)|refine D4 (hK:=fun _=>?_)|refine D9 (hK:=fun _=>?_)|refine D7 (hK:=fun _=>?_));try simp(disch:=first|omega|assumption|((repeat(first|exact A1|exact uH|apply A2|apply uT));first|done|fail)|(simp;first|done|omega|fail))[c1,c2,c3,c4])); exact A9 (by simp [B1A,c4])
 by_cases c5:65535 < rest.size
 ·have c5':65535 < (rest.size:Int):=by omega
  (have zz:=trivial;repeat((first|clear zz|with_reducible first|refine A3 ?_|refine A4 fun _=>?_|refine A5 fun _=>?_|refine D5 fun _=>?_|refine E0 (hK:=fun _=>?_)|refine D6 (hK:=fun _=>?_)|refine D4 (hK:=fun _=>?_)|refine D9 (hK:=fun _=>?_)|refine D7 (hK:=fun _=>?_));try simp(disch:=first|omega|assumption|((repeat(first|exact A1|exact uH|apply A2|apply uT));first|done|fail)|(simp;first|done|omega|fail))[c1,c2,c3,c4,c5'])); exact A9 (by simp [B1A,c1,c2,c3,c4,c5])
 have c5':¬ 65535 < (rest.size:Int):=by omega
 (have zz:=trivial;repeat((first|clear zz|with_reducible first|refine A3 ?_|refine A4 fun _=>?_|refine A5 fun _=>?_|refine D5 fun _=>?_|refine E0 (hK:=fun _=>?_)|refine D6 (hK:=fun _=>?_)|refine D4 (hK:=fun _=>?_)|refine D9 (hK:=fun _=>?_)|refine D7 (hK:=fun _=>?_));try simp(disch:=first|omega|assumption|((repeat(first|exact A1|exact uH|apply A2|apply uT));first|done|fail)|(simp;first|done|omega|fail))[c1,c2,c3,c4,c5']))
 rename_i bh bw
 refine l7 5 1 ?_
 refine C8 Z6 (fun w' _ hs=> A8a w' bw none (.slice none 0 0) 0 [] 1610612736 4 (Or.inl rfl) (by omega) (by omega) (by omega) hs) (by (repeat' constructor)) ?_
 rintro v1 _ rfl
 (have zz:=trivial;repeat((first|clear zz|with_reducible first|refine A3 ?_|refine A4 fun _=>?_|refine A5 fun _=>?_|refine D5 fun _=>?_|refine E0 (hK:=fun _=>?_)|refine D6 (hK:=fun _=>?_)|refine D4 (hK:=fun _=>?_)|refine D9 (hK:=fun _=>?_)|refine D7 (hK:=fun _=>?_));try simp(disch:=first|omega|assumption|((repeat(first|exact A1|exact uH|apply A2|apply uT));first|done|fail)|(simp;first|done|omega|fail))[]))
 refine C8 Z6 (fun w' _ hs=> A8a w' bw _ v1 4 _ rest.size 2 (Or.inr rfl) (by omega) (by omega) (by omega) hs) (by (repeat' constructor)) ?_
 rintro v2 _ rfl
 (have zz:=trivial;repeat((first|clear zz|with_reducible first|refine A3 ?_|refine A4 fun _=>?_|refine A5 fun _=>?_|refine D5 fun _=>?_|refine E0 (hK:=fun _=>?_)|refine D6 (hK:=fun _=>?_)|refine D4 (hK:=fun _=>?_)|refine D9 (hK:=fun _=>?_)|refine D7 (hK:=fun _=>?_));try simp(disch:=first|omega|assumption|((repeat(first|exact A1|exact uH|apply A2|apply uT));first|done|fail)|(simp;first|done|omega|fail))[]))
 refine C8 Z6 (fun w' _ hs=> A8a w' bw _ v2 6 _ proto 1 (Or.inr rfl) (by omega) (by omega) (by omega) hs) (by (repeat' constructor)) ?_
 rintro v3 _ rfl
 (have zz:=trivial;repeat((first|clear zz|with_reducible first|refine A3 ?_|refine A4 fun _=>?_|refine A5 fun _=>?_|refine D5 fun _=>?_|refine E0 (hK:=fun _=>?_)|refine D6 (hK:=fun _=>?_)|refine D4 (hK:=fun _=>?_)|refine D9 (hK:=fun _=>?_)|refine D7 (hK:=fun _=>?_));try simp(disch:=first|omega|assumption|((repeat(first|exact A1|exact uH|apply A2|apply uT));first|done|fail)|(simp;first|done|omega|fail))[]))
 refine C8 Z6 (fun w' _ hs=> A8a w' bw _ v3 7 _ 64 1 (Or.inr rfl) (by omega) (by omega) (by omega) hs) (by (repeat' constructor)) ?_
 rintro v4 _ rfl
 (have zz:=trivial;repeat((first|clear zz|with_reducible first|refine A3 ?_|refine A4 fun _=>?_|refine A5 fun _=>?_|refine D5 fun _=>?_|refine E0 (hK:=fun _=>?_)|refine D6 (hK:=fun _=>?_)|refine D4 (hK:=fun _=>?_)|refine D9 (hK:=fun _=>?_)|refine D7 (hK:=fun _=>?_));try simp(disch:=first|omega|assumption|((repeat(first|exact A1|exact uH|apply A2|apply uT));first|done|fail)|(simp;first|done|omega|fail))[]))
 rename_i bl
 refine B4H (α:=Value) 3 (fun i v=> [.own 9 1 (.slice (some ⟨bl,0,none⟩) 3 3) 3 [.string src,.string dst,.string rest],.pt bw (.cells #[.pointer (some ⟨bw,0,none⟩),v] 305),
  .own 5 1 v (B8D rest i) (G8 (B73 src dst rest proto i)),.pt bh (.cells #[.string src,.string dst,.int .i64 proto] 224)]) (fun _ _=> True) v4 trivial ?_ (by simp [B8D,B73,A3e])
 rintro i v hi _ L hL
 obtain rfl | rfl | rfl | rfl:i = 0 ∨ i = 1 ∨ i = 2 ∨ i = 3:=by omega
 ·have hL':=fun v' => hL (by omega) v' trivial
  simp only [B8D,B73,A3e,List.append_assoc] at hL' ⊢
  (have zz:=trivial;repeat((first|clear zz|with_reducible first|refine A3 ?_|refine A4 fun _=>?_|refine A5 fun _=>?_|refine D5 fun _=>?_|refine E0 (hK:=fun _=>?_)|refine D6 (hK:=fun _=>?_)|refine D4 (hK:=fun _=>?_)|refine D9 (hK:=fun _=>?_)|refine D7 (hK:=fun _=>?_));try simp(disch:=first|omega|assumption|((repeat(first|exact A1|exact uH|apply A2|apply uT));first|done|fail)|(simp;first|done|omega|fail))[]))
  refine C8 P8 (fun w' _ hs=> A04 w' bw _ _ v 8 _ src (Or.inr rfl) A4l (by omega) hs) (by (repeat' constructor)) ?_
  rintro v' _ rfl
  (have zz:=trivial;repeat((first|clear zz|with_reducible first|refine A3 ?_|refine A4 fun _=>?_|refine A5 fun _=>?_|refine D5 fun _=>?_|refine E0 (hK:=fun _=>?_)|refine D6 (hK:=fun _=>?_)|refine D4 (hK:=fun _=>?_)|refine D9 (hK:=fun _=>?_)|refine D7 (hK:=fun _=>?_));try simp(disch:=first|omega|assumption|((repeat(first|exact A1|exact uH|apply A2|apply uT));first|done|fail)|(simp;first|done|omega|fail))[c1]))
  exact Sels.tw (by (repeat' constructor)) (hL' v')
 ·have hL':=fun v' => hL (by omega) v' trivial
  simp only [B8D,B73,A3e,List.append_assoc] at hL' ⊢
  (have zz:=trivial;repeat((first|clear zz|with_reducible first|refine A3 ?_|refine A4 fun _=>?_|refine A5 fun _=>?_|refine D5 fun _=>?_|refine E0 (hK:=fun _=>?_)|refine D6 (hK:=fun _=>?_)|refine D4 (hK:=fun _=>?_)|refine D9 (hK:=fun _=>?_)|refine D7 (hK:=fun _=>?_));try simp(disch:=first|omega|assumption|((repeat(first|exact A1|exact uH|apply A2|apply uT));first|done|fail)|(simp;first|done|omega|fail))[]))
  refine C8 P8 (fun w' _ hs=> A04 w' bw _ _ v 24 _ dst (Or.inr rfl) A4l (by omega) hs) (by (repeat' constructor)) ?_
  rintro v' _ rfl
  (have zz:=trivial;repeat((first|clear zz|with_reducible first|refine A3 ?_|refine A4 fun _=>?_|refine A5 fun _=>?_|refine D5 fun _=>?_|refine E0 (hK:=fun _=>?_)|refine D6 (hK:=fun _=>?_)|refine D4 (hK:=fun _=>?_)|refine D9 (hK:=fun _=>?_)|refine D7 (hK:=fun _=>?_));try simp(disch:=first|omega|assumption|((repeat(first|exact A1|exact uH|apply A2|apply uT));first|done|fail)|(simp;first|done|omega|fail))[c2]))
  exact Sels.tw (by (repeat' constructor)) (hL' v')
 ·have hL':=fun v' => hL (by omega) v' trivial
  simp only [B8D,B73,B5v,A3e,List.append_assoc] at hL' ⊢
  (have zz:=trivial;repeat((first|clear zz|with_reducible first|refine A3 ?_|refine A4 fun _=>?_|refine A5 fun _=>?_|refine D5 fun _=>?_|refine E0 (hK:=fun _=>?_)|refine D6 (hK:=fun _=>?_)|refine D4 (hK:=fun _=>?_)|refine D9 (hK:=fun _=>?_)|refine D7 (hK:=fun _=>?_));try simp(disch:=first|omega|assumption|((repeat(first|exact A1|exact uH|apply A2|apply uT));first|done|fail)|(simp;first|done|omega|fail))[]))
  refine C8 P8 (fun w' _ hs=> A04 w' bw _ _ v 40 _ rest (Or.inr rfl) A4l (by omega) hs) (by (repeat' constructor)) ?_
  rintro v' _ rfl
  (have zz:=trivial;repeat((first|clear zz|with_reducible first|refine A3 ?_|refine A4 fun _=>?_|refine A5 fun _=>?_|refine D5 fun _=>?_|refine E0 (hK:=fun _=>?_)|refine D6 (hK:=fun _=>?_)|refine D4 (hK:=fun _=>?_)|refine D9 (hK:=fun _=>?_)|refine D7 (hK:=fun _=>?_));try simp(disch:=first|omega|assumption|((repeat(first|exact A1|exact uH|apply A2|apply uT));first|done|fail)|(simp;first|done|omega|fail))[]))
  exact Sels.tw (by (repeat' constructor)) (hL' v')
 ·simp only [B8D,B73]
  (have zz:=trivial;repeat((first|clear zz|with_reducible first|refine A3 ?_|refine A4 fun _=>?_|refine A5 fun _=>?_|refine D5 fun _=>?_|refine E0 (hK:=fun _=>?_)|refine D6 (hK:=fun _=>?_)|refine D4 (hK:=fun _=>?_)|refine D9 (hK:=fun _=>?_)|refine D7 (hK:=fun _=>?_));try simp(disch:=first|omega|assumption|((repeat(first|exact A1|exact uH|apply A2|apply uT));first|done|fail)|(simp;first|done|omega|fail))[]))
  have hz:(B5v src dst rest proto).size = 40 + rest.size:=by simp [B5v,c1,c2]
  refine C8 A5U (fun w' _ hs=> C6f w' bw _ _ v (40 + rest.size) (G8 (B5v src dst rest proto)) (B5v src dst rest proto) hz.symm rfl (by omega) (by omega) hs) (by (repeat' constructor)) ?_
  rintro _ _ rfl
  (have zz:=trivial;repeat((first|clear zz|with_reducible first|refine A3 ?_|refine A4 fun _=>?_|refine A5 fun _=>?_|refine D5 fun _=>?_|refine E0 (hK:=fun _=>?_)|refine D6 (hK:=fun _=>?_)|refine D4 (hK:=fun _=>?_)|refine D9 (hK:=fun _=>?_)|refine D7 (hK:=fun _=>?_));try simp(disch:=first|omega|assumption|((repeat(first|exact A1|exact uH|apply A2|apply uT));first|done|fail)|(simp;first|done|omega|fail))[]))
  exact A9 (by simp [B1A,c1,c2,c3,c4,c5])
theorem B9r {κ:Bool} {X:Nat → Prop} {S:List Nat} {w0:World} {H:List Res} {K:Value → WP} {g u:Value} {name:String} {args:List Value} {f:FuncId} {args':Array Value} (hr:∀ w,(callMethod g name args.toArray).run PR w = .ok (.enter f args') w)
  (hf:∀ w,LW κ S w0 H w → Fn PR B8 f args' w (fun v w' => v = u ∧ C7 [] w w')) (hK:TW κ S w0 H (K u)):TW κ S w0 H (inv PR X g name args K):=fun w hw=>
 ⟨f,args',hr w,(hf w hw).use fun v w' ⟨h1,h2⟩ hsk=> by subst h1; exact hK w' (hw.ext (h2.ks fun _=> hsk))⟩
theorem C5G {P:Program} {t:TypeId} {n m:Nat} {z:Value} {ms:Array (String × TypeId)} {e:Nat} (h:TI P t (.interface ms) n m z):EqV P (e + 1) t .nilIface .nilIface true:=by
 intro w
 simp only [Op.equalIn,Sem.run_bind,h.run_und,Result.andThen_ok]; rfl
theorem C5E {P:Program} {t:TypeId} {n m:Nat} {z:Value} {ms:Array (String × TypeId)} {e:Nat} (h:TI P t (.interface ms) n m z) (u:TypeId) (v:Value):EqV P (e + 1) t (.iface u v) .nilIface false:=by
 intro w
 simp only [Op.equalIn,Sem.run_bind,h.run_und,Result.andThen_ok]; rfl
theorem C3F {t:TypeId} {op:BinOp} {x y:Operand} {g:Value} {r:Bool} {K:Value → WP} (hg:(eqGuard .eql t x y g .nilIface) = pure ()) (he:EqV PR 10000 t g .nilIface r):A6 PR (H9 .eql t x y g .nilIface) K = K (.bool r):=by
 funext w
 refine V8 ?_ K
 have:=he w
 simp [H9,hg,binOp,Op.equal,Op.maxDepth,this]
theorem A4M {x:Operand} {c:Value} {K:Value → WP}:A6 PR (H9 .eql 250 x (.const c) .nilIface .nilIface) K = K (.bool true):=C3F (op:=.eql) (by cases x <;> rfl) (C5G (e:=9999) B93)
theorem A4V {x y:Operand} {K:Value → WP} {u:TypeId} {v:Value}:A6 PR (H9 .eql 250 x y (.iface u v) .nilIface) K = K (.bool false):=C3F (op:=.eql) (by rfl) (C5E (e:=9999) B93 u v)
abbrev C0u:Value:=.iface 333 (.agg #[])
abbrev C1U:Value:=.iface 334 (.agg #[])
def A0D:List (Int × Value) := [(6,C0u),(17,C1U)]
theorem B8y (w:World):Fn PR B8 144 #[] w (Rn [] w (fun r v=> v = .map (some r)) fun r=> [.pt r (A0Y (Value.int .i64) A0D)]):=by
 refine B77 (TW.go (κ:=false) (S := []) ?_)
 unfold B0k
 refine C2u (Value.int .i64) fun r=> ?_
 (have z:=trivial;repeat((first|clear z|with_reducible first|apply A3|refine A4 fun _=>?_|refine A5 fun _=>?_);try simp(disch:=solve|omega|assumption|repeat(first|exact A1|exact uH|apply A2|apply uT)|(simp;try omega)|fail)[]))
 refine B55 B9u (KeyT.int H4) (k:=6) (by (repeat constructor)) ?_
 (have z:=trivial;repeat((first|clear z|with_reducible first|apply A3|refine A4 fun _=>?_|refine A5 fun _=>?_);try simp(disch:=solve|omega|assumption|repeat(first|exact A1|exact uH|apply A2|apply uT)|(simp;try omega)|fail)[]))
 refine B55 B9u (KeyT.int H4) (k:=17) (by (repeat constructor)) ?_
 exact u7 r rfl (by simp [y5,A0D])
def A2l (s:ByteArray):Nat × Nat:=if s.size < 20 then (0,2) else if C9 s 12 / 16 * 4 < 20 ∨ s.size < C9 s 12 / 16 * 4 then (0,8) else (C9 s 13,0)
def A2f (s:ByteArray):Nat × Nat:=if s.size < 8 then (0,2) else if gv s 4 2 < 8 ∨ s.size < gv s 4 2 then (0,4) else (0,0)
theorem C11 (w:World) (s:ByteArray) (hs:s.size < 2 ^ 40):Fn PR B8 339 #[.agg #[],.string s] w (fun v w' => v = .tuple #[.int .i64 (A2l s).1,.int .i64 (A2l s).2] ∧ C7 [] w w'):=by
 refine Fn.pure (B4p (TW.go (κ:=false) (S := []) ?_))
 unfold A5a
 by_cases c1:s.size < 20
 ·have c1':(s.size:Int) < 20:=by omega
  (have z:=trivial;repeat((first|clear z|with_reducible first|apply A3|refine A4 fun _=>?_|refine A5 fun _=>?_);try simp(disch:=solve|omega|assumption|repeat(first|exact A1|exact uH|apply A2|apply uT)|(simp;try omega)|fail)[c1'])); exact A9 (by simp [A2l,c1])
 have c1':¬ (s.size:Int) < 20:=by omega
 obtain ⟨by0,hb0,hb1⟩:=x9 (s:=s) (i:=12) (by omega)
 obtain ⟨by1,hb2,hb3⟩:=x9 (s:=s) (i:=13) (by omega)
 have hb0':s[(12:Int).toNat]? = some by0:=hb0
 have hb2':s[(13:Int).toNat]? = some by1:=hb2
 have hl0:=P6 s 12
 have hl1:=P6 s 13
 have e1:((by0.toNat:Nat):Int).fdiv (2 ^ min 4 IntKind.u8.bits) = (C9 s 12 / 16:Nat):=by rw [show (2:Int) ^ min 4 IntKind.u8.bits = 16 from rfl,Int.fdiv_eq_ediv_of_nonneg _ (by omega),hb1]; omega
 have e2:IntKind.i64.wrap (by1.toNat:Nat) = (C9 s 13:Nat):=by rw [N3 (by omega) (by omega),hb3]
 have l1:∀ n:Nat,((n * 4:Nat):Int) = (n:Int) * 4:=by omega
 by_cases c2:C9 s 12 / 16 * 4 < 20
 ·have c2':((C9 s 12:Nat):Int) / 16 * 4 < 20:=by omega
  (have z:=trivial;repeat((first|clear z|with_reducible first|apply A3|refine A4 fun _=>?_|refine A5 fun _=>?_);try simp(disch:=solve|omega|assumption|repeat(first|exact A1|exact uH|apply A2|apply uT)|(simp;try omega)|fail)[c1',c8]))
  rw [e1]
  (have z:=trivial;repeat((first|clear z|with_reducible first|apply A3|refine A4 fun _=>?_|refine A5 fun _=>?_);try simp(disch:=solve|omega|assumption|repeat(first|exact A1|exact uH|apply A2|apply uT)|(simp;try omega)|fail)[c2']))
  exact A9 (by simp [A2l,c1,c2])
 have c2':¬ ((C9 s 12:Nat):Int) / 16 * 4 < 20:=by omega
 by_cases c3:s.size < C9 s 12 / 16 * 4
 ·have c3':(s.size:Int) < ((C9 s 12:Nat):Int) / 16 * 4:=by omega
  (have z:=trivial;repeat((first|clear z|with_reducible first|apply A3|refine A4 fun _=>?_|refine A5 fun _=>?_);try simp(disch:=solve|omega|assumption|repeat(first|exact A1|exact uH|apply A2|apply uT)|(simp;try omega)|fail)[c1',c8]))
  rw [e1]
  (have z:=trivial;repeat((first|clear z|with_reducible first|apply A3|refine A4 fun _=>?_|refine A5 fun _=>?_);try simp(disch:=solve|omega|assumption|repeat(first|exact A1|exact uH|apply A2|apply uT)|(simp;try omega)|fail)[c2',c3']))
  exact A9 (by simp [A2l,c1,c2,c3])
 have c3':¬ (s.size:Int) < ((C9 s 12:Nat):Int) / 16 * 4:=by omega
 (have z:=trivial;repeat((first|clear z|with_reducible first|apply A3|refine A4 fun _=>?_|refine A5 fun _=>?_);try simp(disch:=solve|omega|assumption|repeat(first|exact A1|exact uH|apply A2|apply uT)|(simp;try omega)|fail)[c1',c8]))
 rw [e1]
 (have z:=trivial;repeat((first|clear z|with_reducible first|apply A3|refine A4 fun _=>?_|refine A5 fun _=>?_);try simp(disch:=solve|omega|assumption|repeat(first|exact A1|exact uH|apply A2|apply uT)|(simp;try omega)|fail)[c2',c3',c8,e2]))
 exact A9 (by simp [A2l,c1,c2,c3,hb3])
def z1:ByteArray:=ByteArray.mk #[0]
def A6z (f:Int):ByteArray × Nat:=if f < 0 ∨ 255 < f then (M6,1) else (T1 z1 8 ++ ByteArray.mk #[80] ++ F3 f 1 ++ T1 z1 6,0)
def A88 (f:Int):ByteArray × Nat:=if f ≠ 0 then (M6,1) else (ByteArray.mk #[0,8,0,0],0)
theorem D4s (w:World):Fn PR B8 341 #[.string (ByteArray.mk #[0]),.int .i64 8] w (fun v w' => v = .string (T1 z1 8) ∧ C7 [] w w'):=B8l w z1 8 (by omega) (by decide)
theorem D3v (w:World):Fn PR B8 341 #[.string (ByteArray.mk #[0]),.int .i64 6] w (fun v w' => v = .string (T1 z1 6) ∧ C7 [] w w'):=B8l w z1 6 (by omega) (by decide)
theorem V4 (c:Nat):(T1 z1 c).size = c:=by
 have:∀ (l:List UInt8) (n:Nat),(Lib.repeatL l n).length = n * l.length:=by
  intro l n
  induction n with
  | zero=> simp [Lib.repeatL]
  | succ n ih=> simp [Lib.repeatL,ih,Nat.add_mul,Nat.add_comm]
 show (Lib.repeatL z1.data.toList c).toArray.size = c
 rw [List.size_toArray,this]; simp [z1]
theorem C7T (w:World) (f:Int):Fn PR B8 340 #[.agg #[],.int .i64 f] w (fun v w' => v = .tuple #[.string (A6z f).1,.int .i64 (A6z f).2] ∧ C7 [] w w'):=by
 refine Fn.pure (B61 (TW.go (κ:=false) (S := []) ?_))
 unfold A74
 by_cases c1:f < 0
 ·(have z:=trivial;repeat((first|clear z|with_reducible first|apply A3|refine A4 fun _=>?_|refine A5 fun _=>?_);try simp(disch:=solve|omega|assumption|repeat(first|exact A1|exact uH|apply A2|apply uT)|(simp;try omega)|fail)[c1])); exact A9 (by simp [A6z,c1])
 by_cases c2:255 < f
 ·(have z:=trivial;repeat((first|clear z|with_reducible first|apply A3|refine A4 fun _=>?_|refine A5 fun _=>?_);try simp(disch:=solve|omega|assumption|repeat(first|exact A1|exact uH|apply A2|apply uT)|(simp;try omega)|fail)[c1,c2])); exact A9 (by simp [A6z,c2])
 (have z:=trivial;repeat((first|clear z|with_reducible first|apply A3|refine A4 fun _=>?_|refine A5 fun _=>?_);try simp(disch:=solve|omega|assumption|repeat(first|exact A1|exact uH|apply A2|apply uT)|(simp;try omega)|fail)[c1,c2]))
 have h8:=V4 8
 have h6:=V4 6
 refine B7 A5D (fun w' hw' => D4s w') ?_
 (have z:=trivial;repeat((first|clear z|with_reducible first|apply A3|refine A4 fun _=>?_|refine A5 fun _=>?_);try simp(disch:=solve|omega|assumption|repeat(first|exact A1|exact uH|apply A2|apply uT)|(simp;try omega)|fail)[c1,c2,S1]))
 refine B7 K9 (fun w' hw' => j9 w' _ _) ?_
 (have z:=trivial;repeat((first|clear z|with_reducible first|apply A3|refine A4 fun _=>?_|refine A5 fun _=>?_);try simp(disch:=solve|omega|assumption|repeat(first|exact A1|exact uH|apply A2|apply uT)|(simp;try omega)|fail)[c1,c2,S1]))
 refine B7 A5D (fun w' hw' => D3v w') ?_
 (have z:=trivial;repeat((first|clear z|with_reducible first|apply A3|refine A4 fun _=>?_|refine A5 fun _=>?_);try simp(disch:=solve|omega|assumption|repeat(first|exact A1|exact uH|apply A2|apply uT)|(simp;try omega)|fail)[c1,c2,S1]))
 exact A9 (by simp [A6z,c1,c2])
theorem C2q (w:World) (s:ByteArray) (hs:s.size < 2 ^ 40):Fn PR B8 351 #[.agg #[],.string s] w (fun v w' => v = .tuple #[.int .i64 (A2f s).1,.int .i64 (A2f s).2] ∧ C7 [] w w'):=by
 refine Fn.pure (B4n (TW.go (κ:=false) (S := []) ?_))
 unfold A5l
 by_cases c1:s.size < 8
 ·have c1':(s.size:Int) < 8:=by omega
  (have z:=trivial;repeat((first|clear z|with_reducible first|apply A3|refine A4 fun _=>?_|refine A5 fun _=>?_);try simp(disch:=solve|omega|assumption|repeat(first|exact A1|exact uH|apply A2|apply uT)|(simp;try omega)|fail)[c1'])); exact A9 (by simp [A2f,c1])
 have c1':¬ (s.size:Int) < 8:=by omega
 (have z:=trivial;repeat((first|clear z|with_reducible first|apply A3|refine A4 fun _=>?_|refine A5 fun _=>?_);try simp(disch:=solve|omega|assumption|repeat(first|exact A1|exact uH|apply A2|apply uT)|(simp;try omega)|fail)[c1']))
 refine B7 W9 (fun w' _=> A4y w' s (by omega) _ _) ?_
 have e1:=A58 s 4 2 (by omega) (by omega)
 have e1':A3V s 4 2 = gv s 4 2:=e1
 have hg:=l4 s 4
 by_cases c2:gv s 4 2 < 8
 ·have c2':((gv s 4 2:Nat):Int) < 8:=by omega
  (have z:=trivial;repeat((first|clear z|with_reducible first|apply A3|refine A4 fun _=>?_|refine A5 fun _=>?_);try simp(disch:=solve|omega|assumption|repeat(first|exact A1|exact uH|apply A2|apply uT)|(simp;try omega)|fail)[e1',c2,c2']))
  exact A9 (by simp [A2f,c1,c2])
 have c2':¬ ((gv s 4 2:Nat):Int) < 8:=by omega
 by_cases c3:s.size < gv s 4 2
 ·have c3':((s.size:Nat):Int) < gv s 4 2:=by omega
  (have z:=trivial;repeat((first|clear z|with_reducible first|apply A3|refine A4 fun _=>?_|refine A5 fun _=>?_);try simp(disch:=solve|omega|assumption|repeat(first|exact A1|exact uH|apply A2|apply uT)|(simp;try omega)|fail)[e1',c2,c2',c3,c3']))
  exact A9 (by simp [A2f,c1,c2,c3])
 have c3':¬ ((s.size:Nat):Int) < gv s 4 2:=by omega
 (have z:=trivial;repeat((first|clear z|with_reducible first|apply A3|refine A4 fun _=>?_|refine A5 fun _=>?_);try simp(disch:=solve|omega|assumption|repeat(first|exact A1|exact uH|apply A2|apply uT)|(simp;try omega)|fail)[e1',c2,c2',c3,c3']))
 exact A9 (by simp [A2f,c1,c2,c3])
theorem C6Y (w:World) (f:Int):Fn PR B8 352 #[.agg #[],.int .i64 f] w (fun v w' => v = .tuple #[.string (A88 f).1,.int .i64 (A88 f).2] ∧ C7 [] w w'):=by
 refine Fn.pure (B6Y (TW.go (κ:=false) (S := []) ?_))
 unfold A8m
 by_cases c1:f = 0
 ·(have z:=trivial;repeat((first|clear z|with_reducible first|apply A3|refine A4 fun _=>?_|refine A5 fun _=>?_);try simp(disch:=solve|omega|assumption|repeat(first|exact A1|exact uH|apply A2|apply uT)|(simp;try omega)|fail)[c1])); exact A9 (by simp [A88,c1])
 ·(have z:=trivial;repeat((first|clear z|with_reducible first|apply A3|refine A4 fun _=>?_|refine A5 fun _=>?_);try simp(disch:=solve|omega|assumption|repeat(first|exact A1|exact uH|apply A2|apply uT)|(simp;try omega)|fail)[c1])); exact A9 (by simp [A88,c1])
def A0w (number:Int) (s:ByteArray):Nat × Nat:=if number = 6 then A2l s else if number = 17 then A2f s else (0,7)
def M7 (number:Int) (s:ByteArray):Nat × Nat × Nat × Nat:=if (A0w number s).2 ≠ 0 then (0,0,0,(A0w number s).2) else (gv s 0 2,gv s 2 2,(A0w number s).1,0)
def M7.val (x:Nat × Nat × Nat × Nat):Value:=.tuple #[.agg #[.int .i64 x.1,.int .i64 x.2.1,.int .i64 x.2.2.1],.int .i64 x.2.2.2]
theorem B7C (w:World) (s:ByteArray):(callMethod C0u "gangplank/port.parse" [Value.string s].toArray).run PR w = .ok (.enter 339 #[.agg #[],.string s]) w:=by kernel_rfl
theorem B7M (w:World) (s:ByteArray):(callMethod C1U "gangplank/port.parse" [Value.string s].toArray).run PR w = .ok (.enter 351 #[.agg #[],.string s]) w:=by kernel_rfl
theorem B9E (w:World) (f:Int):(callMethod C0u "gangplank/port.put" [Value.int .i64 f].toArray).run PR w = .ok (.enter 340 #[.agg #[],.int .i64 f]) w:=by kernel_rfl
theorem B9W (w:World) (f:Int):(callMethod C1U "gangplank/port.put" [Value.int .i64 f].toArray).run PR w = .ok (.enter 352 #[.agg #[],.int .i64 f]) w:=by kernel_rfl
theorem C1a (w:World) (s:ByteArray) (hs:s.size < 2 ^ 40) (number:Int):Fn PR B8 87 #[.int .i64 number,.string s] w (fun v w' => v = M7.val (M7 number s) ∧ C7 [] w w'):=by
 refine Fn.pure (B9G (TW.go (κ:=false) (S := []) ?_))
 unfold B16
 (have z:=trivial;repeat((first|clear z|with_reducible first|apply A3|refine A4 fun _=>?_|refine A5 fun _=>?_);try simp(disch:=solve|omega|assumption|repeat(first|exact A1|exact uH|apply A2|apply uT)|(simp;try omega)|fail)[]))
 refine H3 A8b (fun w' _=> B8y w') ?_
 rintro r v rfl
 (have z:=trivial;repeat((first|clear z|with_reducible first|apply A3|refine A4 fun _=>?_|refine A5 fun _=>?_);try simp(disch:=solve|omega|assumption|repeat(first|exact A1|exact uH|apply A2|apply uT)|(simp;try omega)|fail)[]))
 rw [B51 B9u B93 (KeyT.int H4) (l:=A0D) (by (repeat constructor))]
 have fin:∀ {f1:Nat} {b:Nat},True:=fun {_ _}=> trivial
 have hg0:=l4 s 0
 have hg2:=l4 s 2
 have e1:A3V s 0 2 = gv s 0 2:=A58 s 0 2 (by omega) (by omega)
 have e2:A3V s 2 2 = gv s 2 2:=A58 s 2 2 (by omega) (by omega)
 by_cases c1:number = 6
 ·rw [show (y6 number A0D).getD .nilIface = C0u by subst c1; rfl]
  (have z:=trivial;repeat((first|clear z|with_reducible first|apply A3|refine A4 fun _=>?_|refine A5 fun _=>?_);try simp(disch:=solve|omega|assumption|repeat(first|exact A1|exact uH|apply A2|apply uT)|(simp;try omega)|fail)[A4M,A4V]))
  refine B9r (fun w=> B7C w s) (fun w' hw' => C11 w' s hs) ?_
  by_cases c2:(A2l s).2 = 0
  ·(have z:=trivial;repeat((first|clear z|with_reducible first|apply A3|refine A4 fun _=>?_|refine A5 fun _=>?_);try simp(disch:=solve|omega|assumption|repeat(first|exact A1|exact uH|apply A2|apply uT)|(simp;try omega)|fail)[c2]))
   refine B7 W9 (fun w' _=> A4y w' s (by omega) _ _) ?_
   (have z:=trivial;repeat((first|clear z|with_reducible first|apply A3|refine A4 fun _=>?_|refine A5 fun _=>?_);try simp(disch:=solve|omega|assumption|repeat(first|exact A1|exact uH|apply A2|apply uT)|(simp;try omega)|fail)[e1]))
   refine B7 W9 (fun w' _=> A4y w' s (by omega) _ _) ?_
   (have z:=trivial;repeat((first|clear z|with_reducible first|apply A3|refine A4 fun _=>?_|refine A5 fun _=>?_);try simp(disch:=solve|omega|assumption|repeat(first|exact A1|exact uH|apply A2|apply uT)|(simp;try omega)|fail)[e1,e2]))
   exact A9 (by simp [M7,A0w,M7.val,c1,c2])
  ·(have z:=trivial;repeat((first|clear z|with_reducible first|apply A3|refine A4 fun _=>?_|refine A5 fun _=>?_);try simp(disch:=solve|omega|assumption|repeat(first|exact A1|exact uH|apply A2|apply uT)|(simp;try omega)|fail)[c2]))
   exact A9 (by simp [M7,A0w,M7.val,c1,c2])
 by_cases c1':number = 17
 ·rw [show (y6 number A0D).getD .nilIface = C1U by subst c1'; rfl]
  (have z:=trivial;repeat((first|clear z|with_reducible first|apply A3|refine A4 fun _=>?_|refine A5 fun _=>?_);try simp(disch:=solve|omega|assumption|repeat(first|exact A1|exact uH|apply A2|apply uT)|(simp;try omega)|fail)[A4M,A4V]))
  refine B9r (fun w=> B7M w s) (fun w' hw' => C2q w' s hs) ?_
  by_cases c2:(A2f s).2 = 0
  ·(have z:=trivial;repeat((first|clear z|with_reducible first|apply A3|refine A4 fun _=>?_|refine A5 fun _=>?_);try simp(disch:=solve|omega|assumption|repeat(first|exact A1|exact uH|apply A2|apply uT)|(simp;try omega)|fail)[c2]))
   refine B7 W9 (fun w' _=> A4y w' s (by omega) _ _) ?_
   (have z:=trivial;repeat((first|clear z|with_reducible first|apply A3|refine A4 fun _=>?_|refine A5 fun _=>?_);try simp(disch:=solve|omega|assumption|repeat(first|exact A1|exact uH|apply A2|apply uT)|(simp;try omega)|fail)[e1]))
   refine B7 W9 (fun w' _=> A4y w' s (by omega) _ _) ?_
   (have z:=trivial;repeat((first|clear z|with_reducible first|apply A3|refine A4 fun _=>?_|refine A5 fun _=>?_);try simp(disch:=solve|omega|assumption|repeat(first|exact A1|exact uH|apply A2|apply uT)|(simp;try omega)|fail)[e1,e2]))
   exact A9 (by simp [M7,A0w,M7.val,c1',c2])
  ·(have z:=trivial;repeat((first|clear z|with_reducible first|apply A3|refine A4 fun _=>?_|refine A5 fun _=>?_);try simp(disch:=solve|omega|assumption|repeat(first|exact A1|exact uH|apply A2|apply uT)|(simp;try omega)|fail)[c2]))
   exact A9 (by simp [M7,A0w,M7.val,c1',c2])
 ·rw [show (y6 number A0D).getD .nilIface = .nilIface by simp [y6,A0D,c1,c1']]
  (have z:=trivial;repeat((first|clear z|with_reducible first|apply A3|refine A4 fun _=>?_|refine A5 fun _=>?_);try simp(disch:=solve|omega|assumption|repeat(first|exact A1|exact uH|apply A2|apply uT)|(simp;try omega)|fail)[A4M,A4V]))
  exact A9 (by simp [M7,A0w,M7.val,c1,c1'])
theorem A0M (s:ByteArray):s ++ M6 = s:=by apply ByteArray.ext; rw [ByteArray.data_append]; simp
theorem s7 (s:ByteArray):M6 ++ s = s:=by apply ByteArray.ext; rw [ByteArray.data_append]; simp
def Z3 (x:Int):ByteArray:=if 0 ≤ x ∧ x ≤ 65535 then F3 x 2 else M6
def K7 (x y:Int):Bool:=decide (0 ≤ x ∧ x ≤ 65535 ∧ 0 ≤ y ∧ y ≤ 65535)
theorem C0H (w:World) (x y z:Int):Fn PR B8 171 #[.agg #[.int .i64 x,.int .i64 y,.int .i64 z]] w (fun v w' => v = .tuple #[.string (Z3 x ++ Z3 y),.bool (K7 x y)] ∧ C7 [] w w'):=by
 refine Fn.pure (B9C (TW.go (κ:=false) (S := []) ?_))
 unfold B18
 by_cases c1:0 ≤ x ∧ x ≤ 65535
 ·have c1':=c1.1; have c1'':=c1.2
  (have z:=trivial;repeat((first|clear z|with_reducible first|apply A3|refine A4 fun _=>?_|refine A5 fun _=>?_);try simp(disch:=solve|omega|assumption|repeat(first|exact A1|exact uH|apply A2|apply uT)|(simp;try omega)|fail)[c1',c1'']))
  refine B7 K9 (fun w' hw' => j9 w' _ _) ?_
  by_cases c2:0 ≤ y ∧ y ≤ 65535
  ·have c2':=c2.1; have c2'':=c2.2
   (have z:=trivial;repeat((first|clear z|with_reducible first|apply A3|refine A4 fun _=>?_|refine A5 fun _=>?_);try simp(disch:=solve|omega|assumption|repeat(first|exact A1|exact uH|apply A2|apply uT)|(simp;try omega)|fail)[c1',c1'',c2',c2'']))
   refine B7 K9 (fun w' hw' => j9 w' _ _) ?_
   (have z:=trivial;repeat((first|clear z|with_reducible first|apply A3|refine A4 fun _=>?_|refine A5 fun _=>?_);try simp(disch:=solve|omega|assumption|repeat(first|exact A1|exact uH|apply A2|apply uT)|(simp;try omega)|fail)[c1',c1'',c2',c2'',S1]))
   exact A9 (by simp [A0M,s7,Z3,K7,c1,c2])
  ·by_cases c3:0 ≤ y
   ·have c4:¬ y ≤ 65535:=fun h=> c2 ⟨c3,h⟩
    (have z:=trivial;repeat((first|clear z|with_reducible first|apply A3|refine A4 fun _=>?_|refine A5 fun _=>?_);try simp(disch:=solve|omega|assumption|repeat(first|exact A1|exact uH|apply A2|apply uT)|(simp;try omega)|fail)[c1',c1'',c3,c4]))
    exact A9 (by simp [A0M,s7,Z3,K7,c1,c3,c4])
   ·(have z:=trivial;repeat((first|clear z|with_reducible first|apply A3|refine A4 fun _=>?_|refine A5 fun _=>?_);try simp(disch:=solve|omega|assumption|repeat(first|exact A1|exact uH|apply A2|apply uT)|(simp;try omega)|fail)[c1',c1'',c3]))
    exact A9 (by simp [A0M,s7,Z3,K7,c1,c3])
 ·have hn:Z3 x = M6:=by simp [Z3,c1]
  have ho:K7 x y = false:=by simp only [K7,decide_eq_false_iff_not]; exact fun h=> c1 ⟨h.1,h.2.1⟩
  rw [hn,ho]
  have key:∀ bx,TW false [] w [.pt bx (.cells #[.int .i64 x,.int .i64 y,.int .i64 z] 148)] = TW false [] w [.pt bx (.cells #[.int .i64 x,.int .i64 y,.int .i64 z] 148)]:=fun _=> rfl
  by_cases c0:0 ≤ x
  ·have c0':¬ x ≤ 65535:=fun h=> c1 ⟨c0,h⟩
   by_cases c2:0 ≤ y ∧ y ≤ 65535
   ·have c2':=c2.1; have c2'':=c2.2
    (have z:=trivial;repeat((first|clear z|with_reducible first|apply A3|refine A4 fun _=>?_|refine A5 fun _=>?_);try simp(disch:=solve|omega|assumption|repeat(first|exact A1|exact uH|apply A2|apply uT)|(simp;try omega)|fail)[c0,c0',c2',c2'']))
    refine B7 K9 (fun w' hw' => j9 w' _ _) ?_
    (have z:=trivial;repeat((first|clear z|with_reducible first|apply A3|refine A4 fun _=>?_|refine A5 fun _=>?_);try simp(disch:=solve|omega|assumption|repeat(first|exact A1|exact uH|apply A2|apply uT)|(simp;try omega)|fail)[c0,c0',c2',c2'',S1]))
    exact A9 (by simp [A0M,s7,Z3,c2])
   ·by_cases c3:0 ≤ y
    ·have c4:¬ y ≤ 65535:=fun h=> c2 ⟨c3,h⟩
     (have z:=trivial;repeat((first|clear z|with_reducible first|apply A3|refine A4 fun _=>?_|refine A5 fun _=>?_);try simp(disch:=solve|omega|assumption|repeat(first|exact A1|exact uH|apply A2|apply uT)|(simp;try omega)|fail)[c0,c0',c3,c4]))
     exact A9 (by simp [A0M,s7,Z3,c3,c4])
    ·(have z:=trivial;repeat((first|clear z|with_reducible first|apply A3|refine A4 fun _=>?_|refine A5 fun _=>?_);try simp(disch:=solve|omega|assumption|repeat(first|exact A1|exact uH|apply A2|apply uT)|(simp;try omega)|fail)[c0,c0',c3]))
     exact A9 (by simp [A0M,s7,Z3,c3])
  ·by_cases c2:0 ≤ y ∧ y ≤ 65535
   ·have c2':=c2.1; have c2'':=c2.2
    (have z:=trivial;repeat((first|clear z|with_reducible first|apply A3|refine A4 fun _=>?_|refine A5 fun _=>?_);try simp(disch:=solve|omega|assumption|repeat(first|exact A1|exact uH|apply A2|apply uT)|(simp;try omega)|fail)[c0,c2',c2'']))
    refine B7 K9 (fun w' hw' => j9 w' _ _) ?_
    (have z:=trivial;repeat((first|clear z|with_reducible first|apply A3|refine A4 fun _=>?_|refine A5 fun _=>?_);try simp(disch:=solve|omega|assumption|repeat(first|exact A1|exact uH|apply A2|apply uT)|(simp;try omega)|fail)[c0,c2',c2'',S1]))
    exact A9 (by simp [A0M,s7,Z3,c2])
   ·by_cases c3:0 ≤ y
    ·have c4:¬ y ≤ 65535:=fun h=> c2 ⟨c3,h⟩
     (have z:=trivial;repeat((first|clear z|with_reducible first|apply A3|refine A4 fun _=>?_|refine A5 fun _=>?_);try simp(disch:=solve|omega|assumption|repeat(first|exact A1|exact uH|apply A2|apply uT)|(simp;try omega)|fail)[c0,c3,c4]))
     exact A9 (by simp [A0M,s7,Z3,c3,c4])
    ·(have z:=trivial;repeat((first|clear z|with_reducible first|apply A3|refine A4 fun _=>?_|refine A5 fun _=>?_);try simp(disch:=solve|omega|assumption|repeat(first|exact A1|exact uH|apply A2|apply uT)|(simp;try omega)|fail)[c0,c3]))
     exact A9 (by simp [A0M,s7,Z3,c3])
def A44 (number f:Int):ByteArray × Nat:=if number = 6 then A6z f else if number = 17 then A88 f else (M6,7)
def Z5 (number x y f:Int):ByteArray × Nat:=if number ≠ 6 ∧ number ≠ 17 then (M6,7) else if K7 x y = false ∨ (A44 number f).2 ≠ 0 then (M6,1) else (F3 x 2 ++ F3 y 2 ++ (A44 number f).1,0)
theorem C1A {x y:Int} (h:K7 x y = true):Z3 x ++ Z3 y = F3 x 2 ++ F3 y 2:=by
 simp only [K7,decide_eq_true_eq] at h
 unfold Z3; rw [if_pos (by omega),if_pos (by omega)]
theorem B01 (w:World) (number x y f:Int):Fn PR B8 124 #[.int .i64 number,.agg #[.int .i64 x,.int .i64 y,.int .i64 f]] w (fun v w' => v = .tuple #[.string (Z5 number x y f).1,.int .i64 (Z5 number x y f).2] ∧ C7 [] w w'):=by
 refine Fn.pure (C15 (TW.go (κ:=false) (S := []) ?_))
 unfold B5F
 (have z:=trivial;repeat((first|clear z|with_reducible first|apply A3|refine A4 fun _=>?_|refine A5 fun _=>?_);try simp(disch:=solve|omega|assumption|repeat(first|exact A1|exact uH|apply A2|apply uT)|(simp;try omega)|fail)[]))
 refine H3 A8b (fun w' _=> B8y w') ?_
 rintro r v rfl
 (have z:=trivial;repeat((first|clear z|with_reducible first|apply A3|refine A4 fun _=>?_|refine A5 fun _=>?_);try simp(disch:=solve|omega|assumption|repeat(first|exact A1|exact uH|apply A2|apply uT)|(simp;try omega)|fail)[]))
 rw [B51 B9u B93 (KeyT.int H4) (l:=A0D) (by (repeat constructor))]
 by_cases c1:number = 6
 ·rw [show (y6 number A0D).getD .nilIface = C0u by subst c1; rfl]
  (have z:=trivial;repeat((first|clear z|with_reducible first|apply A3|refine A4 fun _=>?_|refine A5 fun _=>?_);try simp(disch:=solve|omega|assumption|repeat(first|exact A1|exact uH|apply A2|apply uT)|(simp;try omega)|fail)[A4M,A4V]))
  refine B7 B0b (fun w' hw' => C0H w' _ _ _) ?_
  (have z:=trivial;repeat((first|clear z|with_reducible first|apply A3|refine A4 fun _=>?_|refine A5 fun _=>?_);try simp(disch:=solve|omega|assumption|repeat(first|exact A1|exact uH|apply A2|apply uT)|(simp;try omega)|fail)[]))
  refine B9r (fun w=> B9E w f) (fun w' hw' => C7T w' f) ?_
  cases c3:K7 x y with
  | false=> (have z:=trivial;repeat((first|clear z|with_reducible first|apply A3|refine A4 fun _=>?_|refine A5 fun _=>?_);try simp(disch:=solve|omega|assumption|repeat(first|exact A1|exact uH|apply A2|apply uT)|(simp;try omega)|fail)[c3])); exact A9 (by simp [Z5,c1,c3])
  | true=>
   have hp:=C1A c3
   by_cases c2:(A6z f).2 = 0
   ·have hz:(Z3 x).size + (Z3 y).size + (A6z f).1.size < 2 ^ 30:=by
     have:=congrArg ByteArray.size hp
     simp at this
     have h6:=V4 6
     have h8:=V4 8
     have:(A6z f).1.size ≤ 100:=by unfold A6z; split <;> simp [h6,h8]
     omega
    (have z:=trivial;repeat((first|clear z|with_reducible first|apply A3|refine A4 fun _=>?_|refine A5 fun _=>?_);try simp(disch:=solve|omega|assumption|repeat(first|exact A1|exact uH|apply A2|apply uT)|(simp;try omega)|fail)[c2,c3,S1]))
    exact A9 (by simp [Z5,A44,c1,c2,c3,hp])
   ·(have z:=trivial;repeat((first|clear z|with_reducible first|apply A3|refine A4 fun _=>?_|refine A5 fun _=>?_);try simp(disch:=solve|omega|assumption|repeat(first|exact A1|exact uH|apply A2|apply uT)|(simp;try omega)|fail)[c2,c3]))
    exact A9 (by simp [Z5,A44,c1,c2,c3])
 by_cases c1':number = 17
 ·rw [show (y6 number A0D).getD .nilIface = C1U by subst c1'; rfl]
  (have z:=trivial;repeat((first|clear z|with_reducible first|apply A3|refine A4 fun _=>?_|refine A5 fun _=>?_);try simp(disch:=solve|omega|assumption|repeat(first|exact A1|exact uH|apply A2|apply uT)|(simp;try omega)|fail)[A4M,A4V]))
  refine B7 B0b (fun w' hw' => C0H w' _ _ _) ?_
  (have z:=trivial;repeat((first|clear z|with_reducible first|apply A3|refine A4 fun _=>?_|refine A5 fun _=>?_);try simp(disch:=solve|omega|assumption|repeat(first|exact A1|exact uH|apply A2|apply uT)|(simp;try omega)|fail)[]))
  refine B9r (fun w=> B9W w f) (fun w' hw' => C6Y w' f) ?_
  cases c3:K7 x y with
  | false=> (have z:=trivial;repeat((first|clear z|with_reducible first|apply A3|refine A4 fun _=>?_|refine A5 fun _=>?_);try simp(disch:=solve|omega|assumption|repeat(first|exact A1|exact uH|apply A2|apply uT)|(simp;try omega)|fail)[c3])); exact A9 (by simp [Z5,c1',c3])
  | true=>
   have hp:=C1A c3
   by_cases c2:(A88 f).2 = 0
   ·have hz:(Z3 x).size + (Z3 y).size + (A88 f).1.size < 2 ^ 30:=by
     have:=congrArg ByteArray.size hp
     simp at this
     have:(A88 f).1.size ≤ 100:=by unfold A88; split <;> simp
     omega
    (have z:=trivial;repeat((first|clear z|with_reducible first|apply A3|refine A4 fun _=>?_|refine A5 fun _=>?_);try simp(disch:=solve|omega|assumption|repeat(first|exact A1|exact uH|apply A2|apply uT)|(simp;try omega)|fail)[c2,c3,S1]))
    exact A9 (by simp [Z5,A44,c1',c2,c3,hp])
   ·(have z:=trivial;repeat((first|clear z|with_reducible first|apply A3|refine A4 fun _=>?_|refine A5 fun _=>?_);try simp(disch:=solve|omega|assumption|repeat(first|exact A1|exact uH|apply A2|apply uT)|(simp;try omega)|fail)[c2,c3]))
    exact A9 (by simp [Z5,A44,c1',c2,c3])
 ·rw [show (y6 number A0D).getD .nilIface = .nilIface by simp [y6,A0D,c1,c1']]
  (have z:=trivial;repeat((first|clear z|with_reducible first|apply A3|refine A4 fun _=>?_|refine A5 fun _=>?_);try simp(disch:=solve|omega|assumption|repeat(first|exact A1|exact uH|apply A2|apply uT)|(simp;try omega)|fail)[A4M,A4V]))
  exact A9 (by simp [Z5,c1,c1'])
end Go.Proofs.YtjobgnabneddjaaGreat
