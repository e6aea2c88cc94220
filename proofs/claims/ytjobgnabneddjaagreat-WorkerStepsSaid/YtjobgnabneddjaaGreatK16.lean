/- The proof of a given statement, a part of it. No condition but what each lemma says. -/
import Derived.Conc.AtomicLaws2
import Derived.Test.YtjobgnabneddjaaGreatK15
set_option maxHeartbeats 4000000
set_option linter.unusedVariables false
set_option linter.unusedSimpArgs false
namespace Go.Proofs.YtjobgnabneddjaaGreat
open Go
theorem C1Y {w:World} {b o:Nat} {c:Array Value} {T:TypeId} (v:Value) (hb:bl w b = some (.cells c T (0,0))):w.setCell ⟨b,o,none⟩ v = World.putb w b (.cells (c.setIfInBounds o v) T (0,0)):=by
 unfold World.setCell World.putb
 congr 1
 apply Array.ext_getElem?
 intro r
 rw [Array.getElem?_modify]
 by_cases hr:b = r
 ·subst hr
  have:w.heap[b]? = some (.cells c T (0,0)):=hb
  rw [Array.getElem?_setIfInBounds_self_of_lt (show b < w.heap.size from M2 hb)]
  simp [this]
 ·rw [Array.getElem?_setIfInBounds_ne hr]; simp [hr]
theorem C68 {w:World} {b o:Nat} {c:Array Value} {T:TypeId} (hb:bl w b = some (.cells c T (0,0))):w.frozen? ⟨b,o,none⟩ = false:=by
 have:w.heap[b]? = some (.cells c T (0,0)):=hb
 simp [World.frozen?,this]
theorem C2T {w:World} {b o:Nat} {c:Array Value} {T:TypeId} {x d:Int} (hb:bl w b = some (.cells c T (0,0))) (ho:c[o]? = some (.int .i64 x)) :
  (callFunc 234 #[.pointer (some ⟨b,o,none⟩),.int .i64 d]).run PR w = .ok (.value (.int .i64 (IntKind.i64.wrap (x + d)))) (World.putb w b (.cells (c.setIfInBounds o (.int .i64 (IntKind.i64.wrap (x + d)))) T (0,0))):=by
 have h1:Extern.findNext Tryz.f234 = none:=by kernel_rfl
 have h2:Extern.find Tryz.f234 = some (Extern.Atomic.update (Op.intArith .add) .i64 true):=by kernel_rfl
 have h3:(Tryz.f234.name == "runtime.NumGoroutine") = false:=by kernel_rfl
 have h4:Tryz.f234.body.isNone = true:=by kernel_rfl
 have h5:PR.funcs[234]? = some Tryz.f234:=Tryz.func234
 have hc:w.cell? ⟨b,o,none⟩ = some (.int .i64 x):=by rw [E8 hb]; exact ho
 have hf:=C68 (o:=o) hb
 simp only [callFunc,Sem.run_bind,run_program,Result.andThen_ok,h5,h3,h4,Bool.false_eq_true,if_false,if_true,h1,h2]
 have:=Conc.run_add_entry (P:=PR) (ad:=⟨b,o,none⟩) (k:=.i64) (v:=x) (d:=d) hc hf
 rw [C1Y _ hb] at this
 have hm:(mark (Mark.extern 234)).run PR w = .ok () w:=rfl
 rw [hm,Result.andThen_ok,this]
 rfl
theorem C7f {κ:Bool} {X:Nat → Prop} {S:List Nat} {w0:World} {H H':List Res} {K:Value → WP} {b o:Nat} {c:Array Value} {T:TypeId} {x d:Int} (ho:c[o]? = some (.int .i64 x))
  (hu:Up (.pt b (.cells c T (0,0))) (.pt b (.cells (c.setIfInBounds o (.int .i64 (IntKind.i64.wrap (x + d)))) T (0,0))) H H')
  (hK:TW κ S w0 H' (K (.int .i64 (IntKind.i64.wrap (x + d))))):TW κ S w0 H (B3 PR X 234 [.pointer (some ⟨b,o,none⟩),.int .i64 d] K):=fun w hw=> by
 have hm:Res.pt b (.cells c T (0,0)) ∈ H:=by obtain ⟨A,B,rfl,_⟩:=hu.parts; simp
 have hb:=hw.pt hm
 refine Or.inr ⟨_,_,C2T hb ho,Sk.putb _ hb,hK _ (hw.up hu ⟨KS.putb hb (by simp [Res.foot]),?_,?_,by simp⟩)⟩
 ·simp only [List.mem_singleton,forall_eq,Res.holds]; exact ⟨W4 (M2 hb),rfl⟩
 ·simp only [List.mem_singleton,forall_eq,Res.foot]; exact ⟨Or.inl (by simp),by have:=M2 hb; simpa using this⟩
inductive SlV where
 | no
 | bld
 | rdy (p:List F8)
structure WS where
 c:CfgV
 cells:List Int
 own:List Int
 sl:List SlV
 keep:List (Int × Int)
 tabs:List (List EnV)
 places:List Nat
 now:Int
def D3 (l:List Int) (i:Int):Int:=if 0 ≤ i ∧ i < l.length then l.getD i.toNat 0 else 0
def N0 (l:List Int) (i v:Int):List Int:=if 0 ≤ i ∧ i < l.length then l.set i.toNat v else l
def A1q (l:List Int) (i:Int):Int:=if 0 ≤ i ∧ i < l.length then l.getD i.toNat 0 else -1
def A4m (l:List Int) (i a b:Int):List Int:=if 0 ≤ i ∧ i < l.length ∧ l.getD i.toNat 0 = a then l.set i.toNat b else l
def Y4 (l:List Int) (i who:Int):List Int:=if 0 ≤ who then A4m l i (-1) who else l
def N9 (l:List Int) (i who:Int):List Int:=if 0 ≤ who then A4m l i who (-1) else l
def A0W (l:List SlV) (i:Int) (x:SlV):List SlV:=if 0 ≤ i ∧ i < l.length then l.set i.toNat x else l
def K3 (l:List SlV) (i:Int):SlV:=if 0 ≤ i ∧ i < l.length then l.getD i.toNat .no else .no
def A06 (l:List SlV) (i:Int) (p:List F8):List SlV :=
 match K3 l i with
 | .bld=> if Q3 p = 0 then A0W l i (.rdy p) else l
 | _=> l
def B1v (l:List SlV) (i:Int):Int × Bool :=
 match K3 l i with
 | .rdy p=> (p.length,true)
 | _=> (0,false)
def A8B (l:List SlV) (i:Int) (h:Nat):Int × Bool :=
 match K3 l i with
 | .rdy p=> (B1L p h,true)
 | _=> (0,false)
def C0F (l:List SlV) (i id:Int):Bool × Bool :=
 match K3 l i with
 | .rdy p=> (decide (0 ≤ Q5 p id),true)
 | _=> (false,false)
def stK (l:List (Int × Int)) (i:Int):Int:=if 0 ≤ i ∧ i < l.length then (l.getD i.toNat (0,0)).1 else -1
def f8 (l:List (Int × Int)):Int:=if l.findIdx (· = (0,0)) < l.length then (l.findIdx (· = (0,0)):Nat) else -1
def C03 (pins:List Int) (e:Int):Bool:=pins.all fun p=> p = 0 || e < p
def A0F (pins:List Int) (s:Int × Int):Bool:=decide (s.1 = 2) && C03 pins s.2
def C5A (l:List (Int × Int)) (pins:List Int):Int:=if l.findIdx (A0F pins) < l.length then (l.findIdx (A0F pins):Nat) else -1
def B63 (l:List (Int × Int)) (i a:Int) (s:Int × Int):List (Int × Int):=if stK l i = a ∧ 0 ≤ i then l.set i.toNat s else l
def D4n (l:List (Int × Int)) (i:Int):List (Int × Int):=B63 l i 2 (0,0)
def C1W (l:List (Int × Int)) (i e:Int):List (Int × Int):=B63 l i 1 (2,e)
def A3v (l:List (Int × Int)):List (Int × Int):=if f8 l < 0 then l else l.set (f8 l).toNat (1,(l.getD (f8 l).toNat (0,0)).2)
def G5 (c:CfgV) (who:Int):Int:=if who < 1 ∨ c.wk < who then -1 else 1 + who
abbrev A4f:=Bool × Bool × Bool
structure JB where
 who:Int
 st:Int
 ans:AnsV
structure JU where
 b:JB
 pool:List F8
 pins:List Int
 slot:Int
 old:Int
def noA:AnsV:=⟨0,0,false,0⟩
def JB.refuse (b:JB) (e:Int):JB := { b with st := -1,ans:=⟨e,0,false,0⟩ }
def C0x (j:JU):Int:=if j.b.who = 0 then Q3 j.pool else 1
def D1E (j:JU) (x:WS):JU × WS × A4f :=
 if 0 ≤ C5A x.keep j.pins then (j,{ x with sl:=A0W x.sl (C5A x.keep j.pins) .no,keep:=D4n x.keep (C5A x.keep j.pins) },false,false,false)
 else if f8 x.keep < 0 then ({ j with b:=j.b.refuse 13,slot:=f8 x.keep },x,true,true,false)
 else ({ j with slot:=f8 x.keep,b := { j.b with st:=j.b.st + 1 } },{ x with sl:=A0W x.sl (f8 x.keep) .bld,keep:=A3v x.keep },false,false,false)
def B0E (j:JU):JU := { j with b := { j.b with st:=j.b.st + 1 } }
def D2j (j:JU) (x:WS):JU × WS × A4f :=
 let e:=IntKind.i64.wrap (D3 x.cells 0 + 1)
 ({ j with b := { j.b with st := -1 } },{ x with cells:=N0 x.cells 0 e,keep:=if 0 < j.old then C1W x.keep (j.old - 1) e else x.keep },false,true,false)
def C25 (j:JU) (x:WS):JU × WS × A4f :=
 if j.b.st = 0 ∧ C0x j ≠ 0 then ({ j with b:=j.b.refuse (C0x j) },x,true,true,false)
 else if j.b.st = 0 ∨ j.b.st - x.c.wk < 0 then ({ B0E j with pins:=j.pins ++ [D3 x.cells (G5 x.c (j.b.st + 1))] },x,false,false,false)
 else if j.b.st - x.c.wk = 0 then D1E j x
 else if j.b.st - x.c.wk = 1 then (B0E j,{ x with sl:=A06 x.sl j.slot j.pool },false,false,false)
 else if j.b.st - x.c.wk = 2 then ({ B0E j with old:=D3 x.cells 1 },x,false,false,false)
 else if j.b.st - x.c.wk = 3 then (B0E j,{ x with cells:=N0 x.cells 1 (j.slot + 1) },true,false,false)
 else D2j (B0E j) x
structure JE where
 b:JB
 shard:Int
 place:Nat
 table:List EnV
def D3T (x:WS) (i:Int):Bool:=decide (0 ≤ i) && decide (i < x.tabs.length)
def D2C (x:WS) (i:Int):List EnV:=x.tabs.getD i.toNat []
def D2n (x:WS) (i:Int):Nat:=x.places.getD i.toNat 0
def JE.up (j:JE):JE := { j with b := { j.b with st:=j.b.st + 1 } }
def C3J (j:JE) (x:WS):JE × WS × A4f :=
 if D3T x j.shard = false then ({ j with b:=j.b.refuse 1 },x,true,true,false)
 else if j.b.st = 0 then (j.up,{ x with own:=Y4 x.own j.shard j.b.who },false,false,false)
 else if j.b.st = 1 then
  let s:=D2l (D2C x j.shard) (D2n x j.shard) 4 x.now
  ({ j with b := { j.b with st:=j.b.st + 1,ans := { j.b.ans with count:=(s.2.2:Nat) } },table:=s.1,place:=s.2.1 },x,true,false,false)
 else if j.b.st = 2 then (j.up,{ x with tabs:=x.tabs.set j.shard.toNat j.table,places:=x.places.set j.shard.toNat j.place },false,false,false)
 else ({ j with b := { j.b with st := -1 } },{ x with own:=N9 x.own j.shard j.b.who },false,true,false)
def C29 (b:JB) (x:WS):JB × WS × A4f :=
 let n:Int:=x.tabs.length
 let i:=b.st % n
 if b.st < n then ({ b with st:=b.st + 1 },{ x with own:=Y4 x.own i b.who },decide (i = n - 1),false,false)
 else if b.st < 2 * n then ({ b with st:=b.st + 1,ans := { b.ans with count:=IntKind.i64.wrap (b.ans.count + (S4 (D2C x i) 1:Nat)) } },x,false,false,false)
 else if i = n - 1 then ({ b with st := -1 },{ x with own:=N9 x.own i b.who },false,true,false)
 else ({ b with st:=b.st + 1 },{ x with own:=N9 x.own i b.who },false,false,false)
inductive JV where
 | upd (j:JU)
 | exp (j:JE)
 | sta (b:JB)
 | non (b:JB)
def JV.b:JV → JB
 | .upd j=> j.b
 | .exp j=> j.b
 | .sta b=> b
 | .non b=> b
def JV.waits (j:JV) (x:WS):Bool :=
 match j with
 | .upd _=> false
 | .exp j=> decide (j.b.st = 0) && !decide (A1q x.own j.shard < 0)
 | .sta b=> decide (b.st < x.tabs.length) && !decide (A1q x.own b.st < 0)
 | .non _=> false
def JV.ready (j:JV) (x:WS):Bool := !decide (j.b.st = -1) && !j.waits x
def JV.step0 (j:JV) (x:WS):JV × WS × A4f :=
 match j with
 | .upd j=> (.upd (C25 j x).1,(C25 j x).2)
 | .exp j=> (.exp (C3J j x).1,(C3J j x).2)
 | .sta b=> (.sta (C29 b x).1,(C29 b x).2)
 | .non b=> (.non (b.refuse 1),x,true,true,false)
def JV.step (j:JV) (x:WS):JV × WS × A4f:=if j.ready x then j.step0 x else (j,x,false,false,false)
structure RunV where
 j:JV
 x:WS
 n:Nat
 tk:Nat
 bad:Nat
def RunV.next (r:RunV):RunV:=⟨(r.j.step0 r.x).1,(r.j.step0 r.x).2.1,r.n + 1,r.tk + (r.j.step0 r.x).2.2.1.toNat,r.bad + (r.j.step0 r.x).2.2.2.2.toNat⟩
def B6D:Nat → RunV → RunV
 | 0,r=> r
 | f + 1,r=> if r.j.ready r.x then B6D f r.next else r
def F2 (l:List Int):List Value:=l.map fun n=> .int .i64 n
@[simp] theorem C7r (l:List Int):(F2 l).length = l.length:=by unfold F2; rw [List.length_map]
theorem m5 {l:List Int} {i:Nat} (h:i < l.length):(F2 l)[i]? = some (.int .i64 (l.getD i 0)):=by
 unfold F2; rw [List.getElem?_map,List.getElem?_eq_getElem h,List.getD_eq_getElem?_getD,List.getElem?_eq_getElem h]; rfl
theorem q7 {l:List Int} {i:Nat} (h:i < l.length) (v:Int):Y8 (F2 l) i [.int .i64 v] = F2 (l.set i v):=by
 unfold Y8 F2
 rw [List.map_set,List.set_eq_take_append_cons_drop,if_pos (by simpa using h)]
 simp
def D8 (b:Nat) (n:Int) (cv ov:Value) (cs os:List Int):List Res := [.pt b (.cells #[.int .i64 n,cv,ov] 141),.own 3 1 cv cs.length (F2 cs),.own 3 1 ov os.length (F2 os)]
theorem C9l (w:World) (b:Nat) (n:Int) (cv ov:Value) (hw:LW false [b] w [.pt b (.cells #[.int .i64 n,cv,ov] 141)] w) :
  Fn PR B8 178 #[.pointer (some ⟨b,0,none⟩),.int .i64 1] w (Rn [b] w (fun (_:Unit) u=> u = .int .i64 (IntKind.i64.wrap (n + 1))) fun _=> [.pt b (.cells #[.int .i64 (IntKind.i64.wrap (n + 1)),cv,ov] 141)]):=by
 refine A6y (TW.goH (κ:=false) (S := [b]) ?_ hw)
 unfold A0q
 (have z:=trivial;repeat((first|clear z|with_reducible first|apply A3|refine A4 fun _=>?_|refine A5 fun _=>?_);try simp(disch:=solve|omega|assumption|repeat(first|exact A1|exact uH|apply A2|apply uT)|(simp;try omega)|fail)[]))
 refine C7f (x:=n) (c:=#[.int .i64 n,cv,ov]) (o:=0) rfl Up.here ?_
 exact B1 () rfl (by (repeat' constructor))
theorem C7U (w:World) (b:Nat) (n:Int) (cv ov:Value) (hw:LW false [b] w [.pt b (.cells #[.int .i64 n,cv,ov] 141)] w) :
  Fn PR B8 129 #[.pointer (some ⟨b,0,none⟩)] w (Rn [b] w (fun (n:Int) u=> u = .tuple #[]) fun n=> [.pt b (.cells #[.int .i64 n,cv,ov] 141)]):=by
 refine A8w (TW.goH (κ:=false) (S := [b]) ?_ hw)
 unfold A17
 (have z:=trivial;repeat((first|clear z|with_reducible first|apply A3|refine A4 fun _=>?_|refine A5 fun _=>?_);try simp(disch:=solve|omega|assumption|repeat(first|exact A1|exact uH|apply A2|apply uT)|(simp;try omega)|fail)[]))
 refine C8 (Hc := [.pt b (.cells #[.int .i64 n,cv,ov] 141)]) A5w (fun w' _ hs=> C9l w' b n cv ov hs) (by (repeat' constructor)) ?_
 rintro _ v rfl
 exact B1 (IntKind.i64.wrap (n + 1)) rfl (by (repeat' constructor))
def A5r (v:Value) (l:List Int) (i:Int) (u:Value):Prop:=if 0 ≤ i ∧ i < l.length then ∃ g c,v = .slice (some ⟨g,0,none⟩) l.length c ∧ u = .pointer (some ⟨g,i.toNat,none⟩) else u = .pointer none
theorem B0K (w:World) (b:Nat) (n:Int) (cv ov:Value) (v:Value) (l:List Int) (i:Int) (hl:l.length ≤ 1024) (hv:U4 w 3 1 v l.length (F2 l)) (hw:LW false [b] w [.pt b (.cells #[.int .i64 n,cv,ov] 141)] w) :
  Fn PR B8 74 #[.pointer (some ⟨b,0,none⟩),v,.int .i64 i] w (Rn [b] w (fun (n:Int) u=> A5r v l i u) fun n=> [.pt b (.cells #[.int .i64 n,cv,ov] 141)]):=by
 refine B2W (TW.goH (κ:=false) (S := [b]) ?_ hw)
 unfold A36
 obtain ⟨a,c,rfl⟩:=hv.form
 by_cases c1:i < 0
 ·(have z:=trivial;repeat((first|clear z|with_reducible first|apply A3|refine A4 fun _=>?_|refine A5 fun _=>?_);try simp(disch:=solve|omega|assumption|repeat(first|exact A1|exact uH|apply A2|apply uT)|(simp;try omega)|fail)[c1]))
  exact B1 n (by unfold A5r; rw [if_neg (by omega)]) (by (repeat' constructor))
 by_cases c2:(l.length:Int) ≤ i
 ·(have z:=trivial;repeat((first|clear z|with_reducible first|apply A3|refine A4 fun _=>?_|refine A5 fun _=>?_);try simp(disch:=solve|omega|assumption|repeat(first|exact A1|exact uH|apply A2|apply uT)|(simp;try omega)|fail)[c1,c2]))
  exact B1 n (by unfold A5r; rw [if_neg (by omega)]) (by (repeat' constructor))
 obtain ⟨j,rfl⟩:∃ j:Nat,i = j:=⟨i.toNat,by omega⟩
 have hj:j < l.length:=by omega
 have hj2:¬ l.length ≤ j:=by omega
 rcases hv.2 with ⟨h,e⟩ | ⟨g,cap,cur,e,h2⟩
 ·omega
 cases e
 (have z:=trivial;repeat((first|clear z|with_reducible first|apply A3|refine A4 fun _=>?_|refine A5 fun _=>?_);try simp(disch:=solve|omega|assumption|repeat(first|exact A1|exact uH|apply A2|apply uT)|(simp;try omega)|fail)[c1,c2,hj,hj2]))
 refine C8 (Hc := [.pt b (.cells #[.int .i64 n,cv,ov] 141)]) A7k (fun w' _ hs=> C7U w' b n cv ov hs) (by (repeat' constructor)) ?_
 rintro m v rfl
 (have z:=trivial;repeat((first|clear z|with_reducible first|apply A3|refine A4 fun _=>?_|refine A5 fun _=>?_);try simp(disch:=solve|omega|assumption|repeat(first|exact A1|exact uH|apply A2|apply uT)|(simp;try omega)|fail)[c1,c2,hj,hj2]))
 exact B1 m (by unfold A5r; rw [if_pos (by omega)]; exact ⟨_,_,rfl,by simp⟩) (by (repeat' constructor))
theorem A7C (w:World) (b:Nat) (n:Int) (cv ov:Value) (cs os:List Int) (i:Int) (hl:cs.length ≤ 1024) (hw:LW false (C3 (D8 b n cv ov cs os)) w (D8 b n cv ov cs os) w) :
  Fn PR B8 35 #[.pointer (some ⟨b,0,none⟩),.int .i64 i] w (Rn (C3 (D8 b n cv ov cs os)) w (fun (n:Int) u=> u = .int .i64 (D3 cs i)) fun n=> D8 b n cv ov cs os):=by
 refine B2f (TW.goH (κ:=false) (S:=C3 (D8 b n cv ov cs os)) ?_ hw)
 unfold A4G
 refine U8 (e:=3) (k:=1) (v:=cv) (q:=cs.length) (xs:=F2 cs) (by simp only [D8]; (repeat constructor)) fun ca cc e=> ?_
 subst e
 simp only [D8]
 (have z:=trivial;repeat((first|clear z|with_reducible first|apply A3|refine A4 fun _=>?_|refine A5 fun _=>?_);try simp(disch:=solve|omega|assumption|repeat(first|exact A1|exact uH|apply A2|apply uT)|(simp;try omega)|fail)[]))
 refine C8 (Hc := [.pt b (.cells #[.int .i64 n,.slice ca cs.length cc,ov] 141)]) W5 (fun w' hw' hs=> B0K w' b n (.slice ca cs.length cc) ov (.slice ca cs.length cc) cs i hl (hw'.hold (.own 3 1 (.slice ca cs.length cc) cs.length (F2 cs)) ?_) hs) (by (repeat' constructor)) ?_
 ·(repeat constructor)
 intro m u hu
 unfold A5r at hu
 by_cases c1:0 ≤ i ∧ i < cs.length
 ·rw [if_pos c1] at hu
  obtain ⟨g,c,e,rfl⟩:=hu
  cases e
  obtain ⟨j,rfl⟩:∃ j:Nat,i = j:=⟨i.toNat,by omega⟩
  have hj:j < cs.length:=by omega
  have hg:=m5 hj
  (have z:=trivial;repeat((first|clear z|with_reducible first|apply A3|refine A4 fun _=>?_|refine A5 fun _=>?_);try simp(disch:=solve|omega|assumption|repeat(first|exact A1|exact uH|apply A2|apply uT)|(simp;try omega)|fail)[hg]))
  exact B1 m (by unfold D3; rw [if_pos c1,Int.toNat_natCast]; exact (List.getElem?_eq_some_iff.1 hg).2) (by (repeat' constructor))
 ·rw [if_neg c1] at hu
  subst hu
  (have z:=trivial;repeat((first|clear z|with_reducible first|apply A3|refine A4 fun _=>?_|refine A5 fun _=>?_);try simp(disch:=solve|omega|assumption|repeat(first|exact A1|exact uH|apply A2|apply uT)|(simp;try omega)|fail)[]))
  exact B1 m (by unfold D3; rw [if_neg c1]) (by (repeat' constructor))
theorem B36 (w:World) (b:Nat) (n:Int) (cv ov:Value) (cs os:List Int) (i v:Int) (hl:cs.length ≤ 1024) (hw:LW false (C3 (D8 b n cv ov cs os)) w (D8 b n cv ov cs os) w) :
  Fn PR B8 31 #[.pointer (some ⟨b,0,none⟩),.int .i64 i,.int .i64 v] w (Rn (C3 (D8 b n cv ov cs os)) w (fun (n:Int) u=> u = .tuple #[]) fun n=> D8 b n cv ov (N0 cs i v) os):=by
 refine B1T (TW.goH (κ:=false) (S:=C3 (D8 b n cv ov cs os)) ?_ hw)
 unfold A3d
 refine U8 (e:=3) (k:=1) (v:=cv) (q:=cs.length) (xs:=F2 cs) (by simp only [D8]; (repeat constructor)) fun ca cc e=> ?_
 subst e
 simp only [D8]
 (have z:=trivial;repeat((first|clear z|with_reducible first|apply A3|refine A4 fun _=>?_|refine A5 fun _=>?_);try simp(disch:=solve|omega|assumption|repeat(first|exact A1|exact uH|apply A2|apply uT)|(simp;try omega)|fail)[]))
 refine C8 (Hc := [.pt b (.cells #[.int .i64 n,.slice ca cs.length cc,ov] 141)]) W5 (fun w' hw' hs=> B0K w' b n (.slice ca cs.length cc) ov (.slice ca cs.length cc) cs i hl (hw'.hold (.own 3 1 (.slice ca cs.length cc) cs.length (F2 cs)) ?_) hs) (by (repeat' constructor)) ?_
 ·(repeat constructor)
 intro m u hu
 unfold A5r at hu
 by_cases c1:0 ≤ i ∧ i < cs.length
 ·rw [if_pos c1] at hu
  obtain ⟨g,c,e,rfl⟩:=hu
  cases e
  obtain ⟨j,rfl⟩:∃ j:Nat,i = j:=⟨i.toNat,by omega⟩
  have hj:j < cs.length:=by omega
  (have z:=trivial;repeat((first|clear z|with_reducible first|apply A3|refine A4 fun _=>?_|refine A5 fun _=>?_);try simp(disch:=solve|omega|assumption|repeat(first|exact A1|exact uH|apply A2|apply uT)|(simp;try omega)|fail)[]))
  refine Q9 (by (repeat constructor)) (by simp) (by simp; omega) (by simp) ?_
  refine B1 m rfl ?_
  have e:Y8 (F2 cs) ((j:Nat):Int).toNat [.int .i64 v] = F2 (N0 cs j v):=by unfold N0; rw [if_pos c1,Int.toNat_natCast,q7 hj]
  have el:(N0 cs j v).length = cs.length:=by unfold N0; rw [if_pos c1,List.length_set]
  rw [el,← e]
  simp
  (repeat' constructor)
 ·rw [if_neg c1] at hu
  subst hu
  (have z:=trivial;repeat((first|clear z|with_reducible first|apply A3|refine A4 fun _=>?_|refine A5 fun _=>?_);try simp(disch:=solve|omega|assumption|repeat(first|exact A1|exact uH|apply A2|apply uT)|(simp;try omega)|fail)[]))
  exact B1 m rfl (by unfold N0; rw [if_neg c1]; (repeat' constructor))
theorem D1Z (w:World) (b:Nat) (n:Int) (cv ov:Value) (cs os:List Int) (i d:Int) (hl:cs.length ≤ 1024) (hi:0 ≤ i ∧ i < cs.length) (hw:LW false (C3 (D8 b n cv ov cs os)) w (D8 b n cv ov cs os) w) :
  Fn PR B8 93 #[.pointer (some ⟨b,0,none⟩),.int .i64 i,.int .i64 d] w (Rn (C3 (D8 b n cv ov cs os)) w (fun (n:Int) u=> u = .int .i64 (IntKind.i64.wrap (D3 cs i + d))) fun n=> D8 b n cv ov (N0 cs i (IntKind.i64.wrap (D3 cs i + d))) os):=by
 refine B3j (TW.goH (κ:=false) (S:=C3 (D8 b n cv ov cs os)) ?_ hw)
 unfold A46
 refine U8 (e:=3) (k:=1) (v:=cv) (q:=cs.length) (xs:=F2 cs) (by simp only [D8]; (repeat constructor)) fun ca cc e=> ?_
 subst e
 simp only [D8]
 (have z:=trivial;repeat((first|clear z|with_reducible first|apply A3|refine A4 fun _=>?_|refine A5 fun _=>?_);try simp(disch:=solve|omega|assumption|repeat(first|exact A1|exact uH|apply A2|apply uT)|(simp;try omega)|fail)[]))
 refine C8 (Hc := [.pt b (.cells #[.int .i64 n,.slice ca cs.length cc,ov] 141)]) W5 (fun w' hw' hs=> B0K w' b n (.slice ca cs.length cc) ov (.slice ca cs.length cc) cs i hl (hw'.hold (.own 3 1 (.slice ca cs.length cc) cs.length (F2 cs)) ?_) hs) (by (repeat' constructor)) ?_
 ·(repeat constructor)
 intro m u hu
 unfold A5r at hu
 rw [if_pos hi] at hu
 obtain ⟨g,c,e,rfl⟩:=hu
 cases e
 obtain ⟨j,rfl⟩:∃ j:Nat,i = j:=⟨i.toNat,by omega⟩
 have hj:j < cs.length:=by omega
 have hg:=m5 hj
 have hld:D3 cs j = cs.getD j 0:=by unfold D3; rw [if_pos hi,Int.toNat_natCast]
 rw [hld]
 obtain ⟨z,hz⟩:∃ z,z = cs.getD j 0:=⟨_,rfl⟩
 rw [← hz] at hg ⊢
 have hgg:=(List.getElem?_eq_some_iff.1 hg).2
 (have z:=trivial;repeat((first|clear z|with_reducible first|apply A3|refine A4 fun _=>?_|refine A5 fun _=>?_);try simp(disch:=solve|omega|assumption|repeat(first|exact A1|exact uH|apply A2|apply uT)|(simp;try omega)|fail)[hg,hgg]))
 refine Q9 (by (repeat constructor)) (by simp) (by simp; omega) (by simp) ?_
 have e:∀ v:Int,Y8 (F2 cs) j (Value.int .i64 v).cells.toList = F2 (N0 cs j v):=fun v=> by unfold N0; rw [if_pos hi,Int.toNat_natCast,← q7 hj]; rfl
 have el:∀ v:Int,(N0 cs j v).length = cs.length:=fun v=> by unfold N0; rw [if_pos hi,List.length_set]
 have hr:∀ v:Int,(F2 (N0 cs j v))[j]? = some (.int .i64 v):=fun v=> by
  rw [m5 (by rw [el]; exact hj)]; unfold N0; rw [if_pos hi,Int.toNat_natCast,List.getD_eq_getElem?_getD,List.getElem?_set_self hj]; rfl
 have hrr:∀ v:Int,∀ h,(F2 (N0 cs j v))[j]'h = .int .i64 v:=fun v h=> (List.getElem?_eq_some_iff.1 (hr v)).2
 simp only [Int.toNat_natCast,e]
 (have z:=trivial;repeat((first|clear z|with_reducible first|apply A3|refine A4 fun _=>?_|refine A5 fun _=>?_);try simp(disch:=solve|omega|assumption|repeat(first|exact A1|exact uH|apply A2|apply uT)|(simp;try omega)|fail)[el,e,hr,hrr]))
 exact B1 m rfl (by (repeat' constructor))
theorem C0p (w:World) (v u:Value) (l:List Int) (i x y:Int) (hu:A5r v l i u) (hw:LW false (C3 [.own 3 1 v l.length (F2 l)]) w [.own 3 1 v l.length (F2 l)] w) :
  Fn PR B8 75 #[u,.int .i64 x,.int .i64 y] w (Rn (C3 [.own 3 1 v l.length (F2 l)]) w (fun (_:Unit) r=> r = .bool (decide (0 ≤ i ∧ i < l.length ∧ l.getD i.toNat 0 = x))) fun _=> [.own 3 1 v (A4m l i x y).length (F2 (A4m l i x y))]):=by
 refine B9d (TW.goH (κ:=false) (S:=C3 [.own 3 1 v l.length (F2 l)]) ?_ hw)
 unfold B2D
 unfold A5r at hu
 by_cases c1:0 ≤ i ∧ i < l.length
 ·rw [if_pos c1] at hu
  obtain ⟨g,c,rfl,rfl⟩:=hu
  obtain ⟨j,rfl⟩:∃ j:Nat,i = j:=⟨i.toNat,by omega⟩
  have hj:j < l.length:=by omega
  have hg:=m5 hj
  unfold A4m
  simp only [Int.toNat_natCast]
  by_cases c2:l.getD j 0 = x
  ·rw [if_pos ⟨c1.1,c1.2,c2⟩,decide_eq_true ⟨c1.1,c1.2,c2⟩]
   obtain ⟨z,hz⟩:∃ z,z = l.getD j 0:=⟨_,rfl⟩
   rw [← hz] at hg c2
   have hgg:=(List.getElem?_eq_some_iff.1 hg).2
   subst c2
   (have z:=trivial;repeat((first|clear z|with_reducible first|apply A3|refine A4 fun _=>?_|refine A5 fun _=>?_);try simp(disch:=solve|omega|assumption|repeat(first|exact A1|exact uH|apply A2|apply uT)|(simp;try omega)|fail)[hg,hgg]))
   refine Q9 (by (repeat constructor)) (by simp) (by simp; omega) (by simp) ?_
   refine B1 () rfl ?_
   have e:Y8 (F2 l) j (Value.int .i64 y).cells.toList = F2 (l.set j y):=by rw [← q7 hj]; rfl
   rw [List.length_set,← e]
   (repeat' constructor)
  ·rw [if_neg (fun h=> c2 h.2.2),decide_eq_false (fun h=> c2 h.2.2)]
   obtain ⟨z,hz⟩:∃ z,z = l.getD j 0:=⟨_,rfl⟩
   rw [← hz] at hg c2
   have hgg:=(List.getElem?_eq_some_iff.1 hg).2
   (have z:=trivial;repeat((first|clear z|with_reducible first|apply A3|refine A4 fun _=>?_|refine A5 fun _=>?_);try simp(disch:=solve|omega|assumption|repeat(first|exact A1|exact uH|apply A2|apply uT)|(simp;try omega)|fail)[hg,hgg,c2]))
   exact B1 () rfl (by (repeat' constructor))
 ·rw [if_neg c1] at hu
  subst hu
  unfold A4m
  rw [if_neg (fun h=> c1 ⟨h.1,h.2.1⟩),decide_eq_false (fun h=> c1 ⟨h.1,h.2.1⟩)]
  (have z:=trivial;repeat((first|clear z|with_reducible first|apply A3|refine A4 fun _=>?_|refine A5 fun _=>?_);try simp(disch:=solve|omega|assumption|repeat(first|exact A1|exact uH|apply A2|apply uT)|(simp;try omega)|fail)[]))
  exact B1 () rfl (by (repeat' constructor))
def A6b (u:Value):Prop := ∃ r:Bool,u = .bool r
theorem m4 (r:Bool):A6b (.bool r):=⟨r,rfl⟩
theorem C0N (w:World) (b:Nat) (n:Int) (cv ov:Value) (cs os:List Int) (i who:Int) (hl:os.length ≤ 1024) (hw:LW false (C3 (D8 b n cv ov cs os)) w (D8 b n cv ov cs os) w) :
  Fn PR B8 19 #[.pointer (some ⟨b,0,none⟩),.int .i64 i,.int .i64 who] w (Rn (C3 (D8 b n cv ov cs os)) w (fun (n:Int) u=> A6b u) fun n=> D8 b n cv ov cs (Y4 os i who)):=by
 refine B2v (TW.goH (κ:=false) (S:=C3 (D8 b n cv ov cs os)) ?_ hw)
 unfold A4J
 refine U8 (e:=3) (k:=1) (v:=ov) (q:=os.length) (xs:=F2 os) (by simp only [D8]; (repeat constructor)) fun ca cc e=> ?_
 subst e
 simp only [D8]
 (have z:=trivial;repeat((first|clear z|with_reducible first|apply A3|refine A4 fun _=>?_|refine A5 fun _=>?_);try simp(disch:=solve|omega|assumption|repeat(first|exact A1|exact uH|apply A2|apply uT)|(simp;try omega)|fail)[]))
 refine C8 (Hc := [.pt b (.cells #[.int .i64 n,cv,.slice ca os.length cc] 141)]) W5 (fun w' hw' hs=> B0K w' b n cv (.slice ca os.length cc) (.slice ca os.length cc) os i hl (hw'.hold (.own 3 1 (.slice ca os.length cc) os.length (F2 os)) ?_) hs) (by (repeat' constructor)) ?_
 ·(repeat constructor)
 intro m u hu
 unfold Y4
 by_cases c1:0 ≤ who
 ·rw [if_pos c1]
  (have z:=trivial;repeat((first|clear z|with_reducible first|apply A3|refine A4 fun _=>?_|refine A5 fun _=>?_);try simp(disch:=solve|omega|assumption|repeat(first|exact A1|exact uH|apply A2|apply uT)|(simp;try omega)|fail)[c1]))
  refine C8 (Hc := [.own 3 1 (.slice ca os.length cc) os.length (F2 os)]) B0r (fun w' _ hs=> C0p w' _ u os i (-1) who hu hs) (by (repeat' constructor)) ?_
  rintro _ r rfl
  (have z:=trivial;repeat((first|clear z|with_reducible first|apply A3|refine A4 fun _=>?_|refine A5 fun _=>?_);try simp(disch:=solve|omega|assumption|repeat(first|exact A1|exact uH|apply A2|apply uT)|(simp;try omega)|fail)[]))
  exact B1 m (m4 _) (by (repeat' constructor))
 ·rw [if_neg c1]
  (have z:=trivial;repeat((first|clear z|with_reducible first|apply A3|refine A4 fun _=>?_|refine A5 fun _=>?_);try simp(disch:=solve|omega|assumption|repeat(first|exact A1|exact uH|apply A2|apply uT)|(simp;try omega)|fail)[c1]))
  exact B1 m (m4 _) (by (repeat' constructor))
theorem B7E (w:World) (b:Nat) (n:Int) (cv ov:Value) (cs os:List Int) (i who:Int) (hl:os.length ≤ 1024) (hw:LW false (C3 (D8 b n cv ov cs os)) w (D8 b n cv ov cs os) w) :
  Fn PR B8 25 #[.pointer (some ⟨b,0,none⟩),.int .i64 i,.int .i64 who] w (Rn (C3 (D8 b n cv ov cs os)) w (fun (n:Int) u=> A6b u) fun n=> D8 b n cv ov cs (N9 os i who)):=by
 refine B0M (TW.goH (κ:=false) (S:=C3 (D8 b n cv ov cs os)) ?_ hw)
 unfold A2v
 refine U8 (e:=3) (k:=1) (v:=ov) (q:=os.length) (xs:=F2 os) (by simp only [D8]; (repeat constructor)) fun ca cc e=> ?_
 subst e
 simp only [D8]
 (have z:=trivial;repeat((first|clear z|with_reducible first|apply A3|refine A4 fun _=>?_|refine A5 fun _=>?_);try simp(disch:=solve|omega|assumption|repeat(first|exact A1|exact uH|apply A2|apply uT)|(simp;try omega)|fail)[]))
 refine C8 (Hc := [.pt b (.cells #[.int .i64 n,cv,.slice ca os.length cc] 141)]) W5 (fun w' hw' hs=> B0K w' b n cv (.slice ca os.length cc) (.slice ca os.length cc) os i hl (hw'.hold (.own 3 1 (.slice ca os.length cc) os.length (F2 os)) ?_) hs) (by (repeat' constructor)) ?_
 ·(repeat constructor)
 intro m u hu
 unfold N9
 by_cases c1:0 ≤ who
 ·rw [if_pos c1]
  (have z:=trivial;repeat((first|clear z|with_reducible first|apply A3|refine A4 fun _=>?_|refine A5 fun _=>?_);try simp(disch:=solve|omega|assumption|repeat(first|exact A1|exact uH|apply A2|apply uT)|(simp;try omega)|fail)[c1]))
  refine C8 (Hc := [.own 3 1 (.slice ca os.length cc) os.length (F2 os)]) B0r (fun w' _ hs=> C0p w' _ u os i who (-1) hu hs) (by (repeat' constructor)) ?_
  rintro _ r rfl
  (have z:=trivial;repeat((first|clear z|with_reducible first|apply A3|refine A4 fun _=>?_|refine A5 fun _=>?_);try simp(disch:=solve|omega|assumption|repeat(first|exact A1|exact uH|apply A2|apply uT)|(simp;try omega)|fail)[]))
  exact B1 m (m4 _) (by (repeat' constructor))
 ·rw [if_neg c1]
  (have z:=trivial;repeat((first|clear z|with_reducible first|apply A3|refine A4 fun _=>?_|refine A5 fun _=>?_);try simp(disch:=solve|omega|assumption|repeat(first|exact A1|exact uH|apply A2|apply uT)|(simp;try omega)|fail)[c1]))
  exact B1 m (m4 _) (by (repeat' constructor))
theorem B8a (w:World) (b:Nat) (n:Int) (cv ov:Value) (os:List Int) (i:Int) (hb:bl w b = some (.cells #[.int .i64 n,cv,ov] 141 (0,0))) (hv:F5 w ov os.length (F2 os)) :
  Fn PR B8 37 #[.pointer (some ⟨b,0,none⟩),.int .i64 i] w (fun u w' => u = .int .i64 (A1q os i) ∧ C7 [] w w'):=by
 refine Fn.pure (B1U (TW.go (κ:=false) (S := []) ?_))
 unfold A3u
 obtain ⟨a,c,rfl,hr⟩:=hv.form
 have h2:w.cell? ⟨b,2,none⟩ = some (.slice a os.length c):=by rw [E8 hb]; rfl
 by_cases c1:i < 0
 ·(have z:=trivial;repeat((first|clear z|with_reducible first|apply A3|refine A4 fun _=>?_|refine A5 fun _=>?_);try simp(disch:=solve|omega|assumption|repeat(first|exact A1|exact uH|apply A2|apply uT)|(simp;try omega)|fail)[c1,h2]))
  exact A9 (by unfold A1q; rw [if_neg (by omega)])
 by_cases c2:(os.length:Int) ≤ i
 ·(have z:=trivial;repeat((first|clear z|with_reducible first|apply A3|refine A4 fun _=>?_|refine A5 fun _=>?_);try simp(disch:=solve|omega|assumption|repeat(first|exact A1|exact uH|apply A2|apply uT)|(simp;try omega)|fail)[c1,c2,h2]))
  exact A9 (by unfold A1q; rw [if_neg (by omega)])
 obtain ⟨j,rfl⟩:∃ j:Nat,i = j:=⟨i.toNat,by omega⟩
 have hj:j < os.length:=by omega
 have hj2:¬ os.length ≤ j:=by omega
 obtain ⟨g,o,rfl,hrow⟩:=hr (by omega)
 have hx:w.cell? ⟨g,o + j,none⟩ = some (.int .i64 (os.getD j 0)):=hrow.get (m5 hj)
 obtain ⟨z,hz⟩:∃ z,z = os.getD j 0:=⟨_,rfl⟩
 rw [← hz] at hx
 (have z:=trivial;repeat((first|clear z|with_reducible first|apply A3|refine A4 fun _=>?_|refine A5 fun _=>?_);try simp(disch:=solve|omega|assumption|repeat(first|exact A1|exact uH|apply A2|apply uT)|(simp;try omega)|fail)[c1,c2,hj,hj2,h2,hx]))
 exact A9 (by unfold A1q; rw [if_pos (by omega),Int.toNat_natCast,hz])
theorem B4Q (n:Nat):(Builtin.zeroCells (Value.int .i64 0).cells n).toList = F2 (List.replicate n 0):=by
 have hz:(Builtin.zeroCells (Value.int .i64 0).cells n).toList.length = n:=by simp [size_zeroCells]
 apply List.ext_getElem (by rw [hz]; simp)
 intro i h1 h2
 simp [Builtin.zeroCells,F2,Nat.mod_one]
theorem D8c {l i:Nat} (h:i < l) (a b:Int):(List.replicate i a ++ List.replicate (l - i) b).set i a = List.replicate (i + 1) a ++ List.replicate (l - (i + 1)) b:=by
 rw [List.set_append_right _ _ (by simp)]
 obtain ⟨k,hk⟩:∃ k,l - i = k + 1:=⟨l - i - 1,by omega⟩
 have:l - (i + 1) = k:=by omega
 rw [hk,this,List.replicate_succ' (n:=i)]
 simp [List.replicate_succ]
theorem B1K (w:World) (n:Nat) (h:n ≤ 1024):Fn PR B8 128 #[.int .i64 (n:Nat)] w (fun u w' => u = .int .i64 (n:Nat) ∧ C7 [] w w'):=by
 refine Fn.pure (B6M (TW.go (κ:=false) (S := []) ?_))
 unfold A8F
 have h1:max ((n:Nat):Int) 0 = n:=by omega
 have h2:min ((n:Nat):Int) 1024 = n:=by omega
 (have z:=trivial;repeat((first|clear z|with_reducible first|apply A3|refine A4 fun _=>?_|refine A5 fun _=>?_);try simp(disch:=solve|omega|assumption|repeat(first|exact A1|exact uH|apply A2|apply uT)|(simp;try omega)|fail)[h1,h2]))
 exact A9 rfl
theorem C16 (w:World) (a l:Nat) (ha:a ≤ 1024) (hl:l ≤ 1024):Fn PR B8 68 #[.int .i64 (a:Nat),.int .i64 (l:Nat)] w
  (Rn [] w (fun (x:Nat × Value × Value) u=> u = .pointer (some ⟨x.1,0,none⟩)) fun x=> D8 x.1 0 x.2.1 x.2.2 (List.replicate a 0) (List.replicate l (-1))):=by
 refine C1Z (TW.go (κ:=false) (S := []) ?_)
 unfold B3G
 (have z:=trivial;repeat((first|clear z|with_reducible first|apply A3|refine A4 fun _=>?_|refine A5 fun _=>?_);try simp(disch:=solve|omega|assumption|repeat(first|exact A1|exact uH|apply A2|apply uT)|(simp;try omega)|fail)[]))
 refine D0d (α:=Nat × Nat × Nat) (fun _=> True) (fun x=> D8 x.1 0 (.slice (some ⟨x.2.1,0,none⟩) a a) (.slice (some ⟨x.2.2,0,none⟩) l l) (List.replicate a 0) (List.replicate l 0)) (fun x=> .pointer (some ⟨x.1,0,none⟩)) ?_ ?_
 ·rintro ⟨b,bc,bo⟩ _
  simp only [D8]
  (have z:=trivial;repeat((first|clear z|with_reducible first|apply A3|refine A4 fun _=>?_|refine A5 fun _=>?_);try simp(disch:=solve|omega|assumption|repeat(first|exact A1|exact uH|apply A2|apply uT)|(simp;try omega)|fail)[]))
  refine D2c l (fun i=> [.pt b (.cells #[.int .i64 0,.slice (some ⟨bc,0,none⟩) a a,.slice (some ⟨bo,0,none⟩) l l] 141),.own 3 1 (.slice (some ⟨bc,0,none⟩) a a) a (F2 (List.replicate a 0)),.own 3 1 (.slice (some ⟨bo,0,none⟩) l l) l (F2 (List.replicate i (-1) ++ List.replicate (l - i) 0))]) ?_ (by simp)
  intro i hi L hL
  by_cases hlt:i < l
  ·(have z:=trivial;repeat((first|clear z|with_reducible first|apply A3|refine A4 fun _=>?_|refine A5 fun _=>?_);try simp(disch:=solve|omega|assumption|repeat(first|exact A1|exact uH|apply A2|apply uT)|(simp;try omega)|fail)[hlt]))
   refine Q9 (by (repeat constructor)) (by simp) (by simp; omega) (by simp) ?_
   have e:Y8 (F2 (List.replicate i (-1) ++ List.replicate (l - i) 0)) i (Value.int .i64 (-1)).cells.toList = F2 (List.replicate (i + 1) (-1) ++ List.replicate (l - (i + 1)) 0):=by
    rw [← D8c hlt,← q7 (by simp; omega)]; rfl
   rw [e]
   (have z:=trivial;repeat((first|clear z|with_reducible first|apply A3|refine A4 fun _=>?_|refine A5 fun _=>?_);try simp(disch:=solve|omega|assumption|repeat(first|exact A1|exact uH|apply A2|apply uT)|(simp;try omega)|fail)[]))
   exact hL hlt
  ·obtain rfl:i = l:=by omega
   (have z:=trivial;repeat((first|clear z|with_reducible first|apply A3|refine A4 fun _=>?_|refine A5 fun _=>?_);try simp(disch:=solve|omega|assumption|repeat(first|exact A1|exact uH|apply A2|apply uT)|(simp;try omega)|fail)[]))
   refine B1 (b,.slice (some ⟨bc,0,none⟩) a a,.slice (some ⟨bo,0,none⟩) i i) rfl ?_
   simp only [List.length_replicate]
   (repeat' constructor)
 ·intro C hC
  have hC':∀ b bc bo,TW false [] w (D8 b 0 (.slice (some ⟨bc,0,none⟩) a a) (.slice (some ⟨bo,0,none⟩) l l) (List.replicate a 0) (List.replicate l 0)) (C (.pointer (some ⟨b,0,none⟩))):=fun b bc bo=> hC (b,bc,bo) trivial
  simp only [D8,List.length_replicate] at hC'
  refine B7 A2e (fun w' _=> B1K w' a ha) ?_
  (have z:=trivial;repeat((first|clear z|with_reducible first|apply A3|refine A4 fun _=>?_|refine A5 fun _=>?_);try simp(disch:=solve|omega|assumption|repeat(first|exact A1|exact uH|apply A2|apply uT)|(simp;try omega)|fail)[]))
  refine ⟨?_,?_,fun _ _=> trivial⟩
  ·refine A1m (by omega) (by omega) (by omega) (by omega) fun bc=> ?_
   rw [Int.toNat_natCast,B4Q]
   refine B7 A2e (fun w' _=> B1K w' l hl) ?_
   refine A1m (by omega) (by omega) (by omega) (by omega) fun bo=> ?_
   rw [Int.toNat_natCast,B4Q]
   (have z:=trivial;repeat((first|clear z|with_reducible first|apply A3|refine A4 fun _=>?_|refine A5 fun _=>?_);try simp(disch:=solve|omega|assumption|repeat(first|exact A1|exact uH|apply A2|apply uT)|(simp;try omega)|fail)[]))
   rename_i b
   exact Sels.tw (by (repeat' constructor)) (hC' b bc bo)
  ·refine B7 A2e (fun w' _=> B1K w' l hl) ?_
   (have z:=trivial;repeat((first|clear z|with_reducible first|apply A3|refine A4 fun _=>?_|refine A5 fun _=>?_);try simp(disch:=solve|omega|assumption|repeat(first|exact A1|exact uH|apply A2|apply uT)|(simp;try omega)|fail)[]))
   refine ⟨?_,?_,fun _ _=> trivial⟩
   ·refine A1m (by omega) (by omega) (by omega) (by omega) fun bc=> ?_
    rw [Int.toNat_natCast,B4Q]
    refine A1m (by omega) (by omega) (by omega) (by omega) fun bo=> ?_
    rw [Int.toNat_natCast,B4Q]
    (have z:=trivial;repeat((first|clear z|with_reducible first|apply A3|refine A4 fun _=>?_|refine A5 fun _=>?_);try simp(disch:=solve|omega|assumption|repeat(first|exact A1|exact uH|apply A2|apply uT)|(simp;try omega)|fail)[]))
    rename_i b
    exact Sels.tw (by (repeat' constructor)) (hC' b bc bo)
   ·refine A1m (by omega) (by omega) (by omega) (by omega) fun bo=> ?_
    rw [Int.toNat_natCast,B4Q]
    refine A1m (by omega) (by omega) (by omega) (by omega) fun bc=> ?_
    rw [Int.toNat_natCast,B4Q]
    (have z:=trivial;repeat((first|clear z|with_reducible first|apply A3|refine A4 fun _=>?_|refine A5 fun _=>?_);try simp(disch:=solve|omega|assumption|repeat(first|exact A1|exact uH|apply A2|apply uT)|(simp;try omega)|fail)[]))
    rename_i b
    exact Sels.tw (by (repeat' constructor)) (hC' b bc bo)
def B3c (X:Nat → Prop) (a:Value) (R:Value → WP):WP :=
 A0 PR (A8 .min #[3,3] 0 [a,(.int .i64 8)]) fun b=>
 A0 PR (A8 .max #[3,3] 0 [(.int .i64 0),b]) fun c=>
 A0 PR (Instr.build 203 #[(1,c)]) fun d=>
 B5 PR X (Instr.box 203 d) fun e=>
 R e
theorem B9N:B0 PR 71:=A7 Tryz.func71 (by kernel_rfl) rfl
theorem C0f {X:Nat → Prop} {t0:Value} {R:Value → WP} {w:World} (h:B3c X t0 R w):Fn PR X 71 #[t0] w R:=C4 (args := [t0]) mixed Tryz.func71 (by kernel_rfl) h
def B6S (s:Int × Int):List Value := [.int .i64 s.1,.int .i64 s.2]
theorem B4F (s:Int × Int):(B6S s).length = 2:=rfl
def B3v (l:List (Int × Int)):List (Int × Int):=l ++ List.replicate (8 - l.length) (0,0)
def A73 (l:List (Int × Int)):Array Value:=((B3v l).flatMap B6S ++ [Value.int .i64 (l.length:Nat)]).toArray
theorem C9F {l:List (Int × Int)} (h:l.length ≤ 8):(B3v l).length = 8:=by unfold B3v; simp; omega
theorem B98 {l:List (Int × Int)} (h:l.length ≤ 8):((B3v l).flatMap B6S).length = 16:=by rw [T2 B4F,C9F h]
theorem D0n {l:List (Int × Int)} (h:l.length ≤ 8):(A73 l)[16]? = some (.int .i64 (l.length:Nat)):=by
 unfold A73
 have:=B98 h
 rw [List.getElem?_toArray,List.getElem?_append_right (by omega),this]; rfl
theorem D1w {l:List (Int × Int)} {i:Nat} (hi:i < l.length):(B3v l)[i]? = some (l.getD i (0,0)):=by
 unfold B3v
 rw [List.getElem?_append_left hi,List.getD_eq_getElem?_getD,List.getElem?_eq_getElem hi]; rfl
theorem C82 {l:List (Int × Int)} (h:l.length ≤ 8) {i:Nat} (hi:i < l.length):(A73 l)[i * 2]? = some (.int .i64 (l.getD i (0,0)).1) ∧ (A73 l)[i * 2 + 1]? = some (.int .i64 (l.getD i (0,0)).2):=by
 have hl:=B98 h
 have h0:=l0 B4F (B3v l) i 0 (by omega)
 have h1:=l0 B4F (B3v l) i 1 (by omega)
 rw [D1w hi] at h0 h1
 unfold A73
 constructor
 ·rw [List.getElem?_toArray,List.getElem?_append_left (by omega)]; simpa [B6S] using h0
 ·rw [List.getElem?_toArray,List.getElem?_append_left (by omega)]; simpa [B6S] using h1
def B1n (b:Nat) (l:List (Int × Int)):Res:=.pt b (.cells (A73 l) 203)
def B1j (w:World) (b:Nat) (l:List (Int × Int)):Prop:=bl w b = some (.cells (A73 l) 203 (0,0))
theorem B1j.n {w:World} {b:Nat} {l:List (Int × Int)} (h:B1j w b l) (hl:l.length ≤ 8):w.cell? ⟨b,16,none⟩ = some (.int .i64 (l.length:Nat)):=by rw [E8 h]; exact D0n hl
theorem B1j.at {w:World} {b:Nat} {l:List (Int × Int)} (h:B1j w b l) (hl:l.length ≤ 8) {i:Nat} (hi:i < l.length):w.cell? ⟨b,i * 2,none⟩ = some (.int .i64 (l.getD i (0,0)).1) ∧ w.cell? ⟨b,i * 2 + 1,none⟩ = some (.int .i64 (l.getD i (0,0)).2):=by
 rw [E8 h,E8 h]; exact C82 hl hi
theorem B1j.ks {κ:Bool} {w w':World} {b:Nat} {l:List (Int × Int)} {S:List Nat} (h:B1j w b l) (hk:KS κ S w w') (hS:b ∉ S):B1j w' b l:=hk.2.1 _ _ hS rfl h
theorem B1j.own {κ:Bool} {S:List Nat} {w0 w:World} {H:List Res} {b:Nat} {l:List (Int × Int)} (hw:LW κ S w0 H w) (hm:B1n b l ∈ H):B1j w b l:=hw.pt hm
theorem D1F (w:World) (n:Nat) (hn:n ≤ 8):Fn PR B8 71 #[.int .i64 (n:Nat)] w (Rn [] w (fun b u=> u = .pointer (some ⟨b,0,none⟩)) fun b=> [B1n b (List.replicate n (0,0))]):=by
 refine C0f (TW.go (κ:=false) (S := []) ?_)
 unfold B3c
 have h1:min ((n:Nat):Int) 8 = n:=by omega
 have h2:max 0 ((n:Nat):Int) = n:=by omega
 (have z:=trivial;repeat((first|clear z|with_reducible first|apply A3|refine A4 fun _=>?_|refine A5 fun _=>?_);try simp(disch:=solve|omega|assumption|repeat(first|exact A1|exact uH|apply A2|apply uT)|(simp;try omega)|fail)[h1,h2]))
 rename_i b
 have e:A73 (List.replicate n (0,0)) = #[.int .i64 0,.int .i64 0,.int .i64 0,.int .i64 0,.int .i64 0,.int .i64 0,.int .i64 0,.int .i64 0,.int .i64 0,.int .i64 0,.int .i64 0,.int .i64 0,.int .i64 0,.int .i64 0,.int .i64 0,.int .i64 0,.int .i64 (n:Nat)]:=by
  have h:n = 0 ∨ n = 1 ∨ n = 2 ∨ n = 3 ∨ n = 4 ∨ n = 5 ∨ n = 6 ∨ n = 7 ∨ n = 8:=by omega
  rcases h with rfl | rfl | rfl | rfl | rfl | rfl | rfl | rfl | rfl <;> rfl
 refine B1 b rfl ?_
 unfold B1n
 rw [e]
 (repeat' constructor)
end Go.Proofs.YtjobgnabneddjaaGreat
namespace Go.Proofs.YtjobgnabneddjaaGreat
open Go
section
open Instr
variable {X:Nat → Prop} {t0 t1 t2 t3 t4 t5 t6 t7:Value} {R:Value → WP} {w:World}
def A38 (X:Nat → Prop) (a b c:Value) (R:Value → WP):WP :=
 B5 PR X (box 89 c) fun d=>
 A0 PR (makeFunc (.func 110) #[] #[d]) fun e=>
 B3 PR X 109 [a,b,e] fun f=>
 A0 PR (extract f 0) fun g=>
 A0 PR (extract f 1) fun h=>
 R (.tuple #[g,h])
theorem B1q:B0 PR 48:=A7 Tryz.func48 (by kernel_rfl) rfl
theorem B2w (h:A38 X t0 t1 t2 R w):Fn PR X 48 #[t0,t1,t2] w R:=C4 (args := [t0,t1,t2]) mixed Tryz.func48 (by kernel_rfl) h
def A4C (X:Nat → Prop) (a b:Value) (R:Value → WP):WP :=
 B3 PR X 109 [a,b,(.func (.func 113) #[] #[])] fun c=>
 A0 PR (extract c 0) fun d=>
 A0 PR (extract c 1) fun e=>
 R (.tuple #[d,e])
theorem B04:B0 PR 50:=A7 Tryz.func50 (by kernel_rfl) rfl
theorem B2s (h:A4C X t0 t1 R w):Fn PR X 50 #[t0,t1] w R:=C4 (args := [t0,t1]) mixed Tryz.func50 (by kernel_rfl) h
def B3B (X:Nat → Prop) (a:Value) (R:Value → WP):WP :=
 A0 PR (A8 .min #[3,3] 0 [a,(.int .i64 8)]) fun b=>
 A0 PR (A8 .max #[3,3] 0 [(.int .i64 0),b]) fun c=>
 B5 PR X (makeSlice 229 c c) fun d=>
 A0 PR (build 231 #[(0,d)]) fun e=>
 B5 PR X (box 231 e) fun f=>
 R f
theorem B9T:B0 PR 70:=A7 Tryz.func70 (by kernel_rfl) rfl
theorem C04 (h:B3B X t0 R w):Fn PR X 70 #[t0] w R:=C4 (args := [t0]) mixed Tryz.func70 (by kernel_rfl) h
def A3Q (X:Nat → Prop) (a b:Value) (R:Value → WP):WP :=
 A0 PR (build 263 #[]) fun c=>
 A0 PR (makeInterface 263 c) fun d=>
 B3 PR X 150 [a,b,d] fun e=>
 R e
theorem A90:B0 PR 94:=A7 Tryz.func94 (by kernel_rfl) rfl
theorem B1y (h:A3Q X t0 t1 R w):Fn PR X 94 #[t0,t1] w R:=C4 (args := [t0,t1]) mixed Tryz.func94 (by kernel_rfl) h
def A34 (X:Nat → Prop) (a b c:Value) (R:Value → WP):WP :=
 jn (n:=1) (fun d=>
 jn (n:=1) (fun e=>
 B3 PR X 123 [c] fun f=>
 B3 PR X 112 [c] fun g=>
 A0 PR (build 195 #[(0,f),(1,g)]) fun h=>
 A0 PR (makeInterface 195 h) fun i=>
 B3 PR X 150 [a,b,i] fun j=>
 R j) fun J1=>
 A0 PR (B4 a) fun k=>
 A0 PR (fieldAt 231 k 0) fun l=>
 A6 PR (loadAt 229 l) fun m=>
 A0 PR (indexAt 229 m b) fun o=>
 A6 PR (loadAt 266 o) fun p=>
 A0 PR (typeAssert p 266 263 true) fun q=>
 A0 PR (extract q 0) fun r=>
 A0 PR (extract q 1) fun s=>
 B5 PR X (alloc 263 true (.tuple #[])) fun t=>
 C1 PR X (storeAt 263 t r) <|
 A0 PR (Op.unary .not s) fun u=>
 C0 u (
 R (.bool false)) (
 J1 d)) fun J2=>
 A0 PR (binOp .lss 3 b (.int .i64 0)) fun v=>
 gj v false (fun J=> J b) fun w=>
 gj v false (fun J=> J a) fun x=>
 gj v false (fun J=> A0 PR (B4 x) J) fun y=>
 gj v false (fun J=> A0 PR (fieldAt 231 y 0) J) fun z=>
 gj v false (fun J=> A6 PR (loadAt 229 z) J) fun aa=>
 gj v false (fun J=> A0 PR (A8 .len #[229] 0 [aa]) J) fun ab=>
 gj v false (fun J=> A0 PR (binOp .geq 3 w ab) J) fun ac=>
 A0 PR (do pure (if ← asBool v then (.bool true) else ac)) fun ad=>
 gj ad false (fun J=> J c) fun ae=>
 gj ad false (fun J=> B3 PR X 29 [ae] J) fun af=>
 gj ad false (fun J=> A0 PR (binOp .neq 27 af (.int .i64 0)) J) fun ag=>
 A0 PR (do pure (if ← asBool ad then (.bool true) else ag)) fun ah=>
 C0 ah (
 R (.bool false)) (
 J2 (.bool false))
theorem B1b:B0 PR 95:=A7 Tryz.func95 (by kernel_rfl) rfl
theorem B2g (h:A34 X t0 t1 t2 R w):Fn PR X 95 #[t0,t1,t2] w R:=C4 (args := [t0,t1,t2]) mixed Tryz.func95 (by kernel_rfl) h
def A3N (X:Nat → Prop) (a b:Value) (R:Value → WP):WP :=
 B3 PR X 150 [a,b,.nilIface] fun c=>
 R c
theorem A98:B0 PR 98:=A7 Tryz.func98 (by kernel_rfl) rfl
theorem B0x (h:A3N X t0 t1 R w):Fn PR X 98 #[t0,t1] w R:=C4 (args := [t0,t1]) mixed Tryz.func98 (by kernel_rfl) h
def A5d (X:Nat → Prop) (a b c:Value) (R:Value → WP):WP :=
 jn (n:=2) (fun d e=>
 A0 PR (B4 a) fun f=>
 A0 PR (fieldAt 231 f 0) fun g=>
 A6 PR (loadAt 229 g) fun h=>
 A0 PR (indexAt 229 h b) fun i=>
 A6 PR (loadAt 266 i) fun j=>
 A0 PR (typeAssert j 266 195 true) fun k=>
 A0 PR (extract k 0) fun l=>
 A0 PR (extract k 1) fun m=>
 B5 PR X (alloc 195 true (.tuple #[])) fun o=>
 C1 PR X (storeAt 195 o l) <|
 jn (n:=2) (fun p q=>
 A6 PR (loadAt 195 o) fun r=>
 N7 PR X c [r] fun s=>
 R (.tuple #[s,(.bool true)])) fun J1=>
 A0 PR (Op.unary .not m) fun t=>
 C0 t (
 R (.tuple #[(.int .i64 0),(.bool false)])) (
 J1 d e)) fun J2=>
 A0 PR (binOp .lss 3 b (.int .i64 0)) fun u=>
 gj u false (fun J=> J b) fun v=>
 gj u false (fun J=> J a) fun w=>
 gj u false (fun J=> A0 PR (B4 w) J) fun x=>
 gj u false (fun J=> A0 PR (fieldAt 231 x 0) J) fun y=>
 gj u false (fun J=> A6 PR (loadAt 229 y) J) fun z=>
 gj u false (fun J=> A0 PR (A8 .len #[229] 0 [z]) J) fun aa=>
 gj u false (fun J=> A0 PR (binOp .geq 3 v aa) J) fun ab=>
 A0 PR (do pure (if ← asBool u then (.bool true) else ab)) fun ac=>
 C0 ac (
 R (.tuple #[(.int .i64 0),(.bool false)])) (
 J2 (.int .i64 0) (.bool false))
theorem A4x:B0 PR 109:=A7 Tryz.func109 (by kernel_rfl) rfl
theorem B4u (h:A5d X t0 t1 t2 R w):Fn PR X 109 #[t0,t1,t2] w R:=C4 (args := [t0,t1,t2]) mixed Tryz.func109 (by kernel_rfl) h
def A2D (X:Nat → Prop) (a b:Value) (R:Value → WP):WP :=
 B5 PR X (box 195 a) fun c=>
 A0 PR (fieldAt 195 c 1) fun d=>
 A6 PR (loadAt 193 d) fun e=>
 A6 PR (loadAt 89 b) fun f=>
 B3 PR X 111 [e,f] fun g=>
 R g
theorem A7f:B0 PR 110:=A7 Tryz.func110 (by kernel_rfl) rfl
theorem A87 (h:A2D X t0 t1 R w):Fn PR X 110 #[t0,t1] w R:=C4 (args := [t0,t1]) mixed Tryz.func110 (by kernel_rfl) h
def A2G (X:Nat → Prop) (a:Value) (R:Value → WP):WP :=
 B5 PR X (box 195 a) fun b=>
 A0 PR (fieldAt 195 b 0) fun c=>
 A6 PR (loadAt 192 c) fun d=>
 A0 PR (A8 .len #[192] 0 [d]) fun e=>
 R e
theorem A7K:B0 PR 113:=A7 Tryz.func113 (by kernel_rfl) rfl
theorem A9f (h:A2G X t0 R w):Fn PR X 113 #[t0] w R:=C4 (args := [t0]) mixed Tryz.func113 (by kernel_rfl) h
def A5B (X:Nat → Prop) (a b c:Value) (R:Value → WP):WP :=
 B5 PR X (box 3 c) fun d=>
 A0 PR (makeFunc (.func 181) #[] #[d]) fun e=>
 B3 PR X 180 [a,b,e] fun f=>
 A0 PR (extract f 0) fun g=>
 A0 PR (extract f 1) fun h=>
 R (.tuple #[g,h])
theorem B2r:B0 PR 134:=A7 Tryz.func134 (by kernel_rfl) rfl
theorem B34 (h:A5B X t0 t1 t2 R w):Fn PR X 134 #[t0,t1,t2] w R:=C4 (args := [t0,t1,t2]) mixed Tryz.func134 (by kernel_rfl) h
def A48 (X:Nat → Prop) (a b c:Value) (R:Value → WP):WP :=
 jn (n:=1) (fun d=>
 A0 PR (B4 a) fun e=>
 A0 PR (fieldAt 231 e 0) fun f=>
 A6 PR (loadAt 229 f) fun g=>
 A0 PR (indexAt 229 g b) fun h=>
 C1 PR X (storeAt 266 h c) <|
 R (.bool true)) fun J1=>
 A0 PR (binOp .lss 3 b (.int .i64 0)) fun i=>
 gj i false (fun J=> J b) fun j=>
 gj i false (fun J=> J a) fun k=>
 gj i false (fun J=> A0 PR (B4 k) J) fun l=>
 gj i false (fun J=> A0 PR (fieldAt 231 l 0) J) fun m=>
 gj i false (fun J=> A6 PR (loadAt 229 m) J) fun o=>
 gj i false (fun J=> A0 PR (A8 .len #[229] 0 [o]) J) fun p=>
 gj i false (fun J=> A0 PR (binOp .geq 3 j p) J) fun q=>
 A0 PR (do pure (if ← asBool i then (.bool true) else q)) fun r=>
 C0 r (
 R (.bool false)) (
 J1 (.bool false))
theorem B2T:B0 PR 150:=A7 Tryz.func150 (by kernel_rfl) rfl
theorem B3r (h:A48 X t0 t1 t2 R w):Fn PR X 150 #[t0,t1,t2] w R:=C4 (args := [t0,t1,t2]) mixed Tryz.func150 (by kernel_rfl) h
def A5A (X:Nat → Prop) (a b c:Value) (R:Value → WP):WP :=
 jn (n:=2) (fun d e=>
 A0 PR (B4 a) fun f=>
 A0 PR (fieldAt 231 f 0) fun g=>
 A6 PR (loadAt 229 g) fun h=>
 A0 PR (indexAt 229 h b) fun i=>
 A6 PR (loadAt 266 i) fun j=>
 A0 PR (typeAssert j 266 195 true) fun k=>
 A0 PR (extract k 0) fun l=>
 A0 PR (extract k 1) fun m=>
 B5 PR X (alloc 195 true (.tuple #[])) fun o=>
 C1 PR X (storeAt 195 o l) <|
 jn (n:=2) (fun p q=>
 A6 PR (loadAt 195 o) fun r=>
 N7 PR X c [r] fun s=>
 R (.tuple #[s,(.bool true)])) fun J1=>
 A0 PR (Op.unary .not m) fun t=>
 C0 t (
 R (.tuple #[(.bool false),(.bool false)])) (
 J1 d e)) fun J2=>
 A0 PR (binOp .lss 3 b (.int .i64 0)) fun u=>
 gj u false (fun J=> J b) fun v=>
 gj u false (fun J=> J a) fun w=>
 gj u false (fun J=> A0 PR (B4 w) J) fun x=>
 gj u false (fun J=> A0 PR (fieldAt 231 x 0) J) fun y=>
 gj u false (fun J=> A6 PR (loadAt 229 y) J) fun z=>
 gj u false (fun J=> A0 PR (A8 .len #[229] 0 [z]) J) fun aa=>
 gj u false (fun J=> A0 PR (binOp .geq 3 v aa) J) fun ab=>
 A0 PR (do pure (if ← asBool u then (.bool true) else ab)) fun ac=>
 C0 ac (
 R (.tuple #[(.bool false),(.bool false)])) (
 J2 (.bool false) (.bool false))
theorem B2m:B0 PR 180:=A7 Tryz.func180 (by kernel_rfl) rfl
theorem B3H (h:A5A X t0 t1 t2 R w):Fn PR X 180 #[t0,t1,t2] w R:=C4 (args := [t0,t1,t2]) mixed Tryz.func180 (by kernel_rfl) h
def A2u (X:Nat → Prop) (a b:Value) (R:Value → WP):WP :=
 B5 PR X (box 195 a) fun c=>
 A0 PR (fieldAt 195 c 0) fun d=>
 A6 PR (loadAt 192 d) fun e=>
 A6 PR (loadAt 3 b) fun f=>
 B3 PR X 182 [e,f] fun g=>
 R g
theorem A8p:B0 PR 181:=A7 Tryz.func181 (by kernel_rfl) rfl
theorem B0g (h:A2u X t0 t1 R w):Fn PR X 181 #[t0,t1] w R:=C4 (args := [t0,t1]) mixed Tryz.func181 (by kernel_rfl) h
def A3C (X:Nat → Prop) (a b:Value) (R:Value → WP):WP :=
 B3 PR X 237 [a,b] fun c=>
 A0 PR (binOp .geq 3 c (.int .i64 0)) fun d=>
 R d
theorem A8s:B0 PR 182:=A7 Tryz.func182 (by kernel_rfl) rfl
theorem A97 (h:A3C X t0 t1 R w):Fn PR X 182 #[t0,t1] w R:=C4 (args := [t0,t1]) mixed Tryz.func182 (by kernel_rfl) h
end
section
variable {P:Program} {t x:TypeId} {d:TypeDesc} {n m:Nat} {z:Value} {K:Value → WP}
theorem C0g (h:TI P t d n m z) (hd:∀ ms,d ≠ .interface ms):A0 P (Instr.typeAssert .nilIface x t true) K = K (.tuple #[z,.bool false]) :=
 F9 (fun w=> by
  simp only [Instr.typeAssert,Sem.run_bind,h.run_und,Result.andThen_ok]
  cases d <;> first | (simp [h.run_zero]; done) | exact absurd rfl (hd _)) K
theorem C1w (h:TI P t d n m z) (hd:∀ ms,d ≠ .interface ms) (v:Value):A0 P (Instr.typeAssert (.iface t v) x t true) K = K (.tuple #[v,.bool true]) :=
 F9 (fun w=> by
  simp only [Instr.typeAssert,Sem.run_bind,h.run_und,Result.andThen_ok]
  cases d <;> first | (simp; done) | exact absurd rfl (hd _)) K
theorem C3G (h:TI P t d n m z) (hd:∀ ms,d ≠ .interface ms) {u:TypeId} (hu:u ≠ t) (v:Value):A0 P (Instr.typeAssert (.iface u v) x t true) K = K (.tuple #[z,.bool false]) :=
 F9 (fun w=> by
  simp only [Instr.typeAssert,Sem.run_bind,h.run_und,Result.andThen_ok]
  cases d <;> first | (simp [hu,h.run_zero]; done) | exact absurd rfl (hd _)) K
end
@[simp] theorem D5m (x:TypeId) (K:Value → WP):A0 PR (Instr.typeAssert .nilIface x 263 true) K = K (.tuple #[.agg #[],.bool false]):=C0g B4J (by intro ms h; cases h)
@[simp] theorem D5T (x:TypeId) (v:Value) (K:Value → WP):A0 PR (Instr.typeAssert (.iface 263 v) x 263 true) K = K (.tuple #[v,.bool true]):=C1w B4J (by intro ms h; cases h) v
@[simp] theorem D5s (x:TypeId) (v:Value) (K:Value → WP):A0 PR (Instr.typeAssert (.iface 195 v) x 263 true) K = K (.tuple #[.agg #[],.bool false]):=C3G B4J (by intro ms h; cases h) (by decide) v
@[simp] theorem D50 (x:TypeId) (K:Value → WP):A0 PR (Instr.typeAssert .nilIface x 195 true) K = K (.tuple #[.agg #[.slice none 0 0,.slice none 0 0],.bool false]):=C0g A8N (by intro ms h; cases h)
@[simp] theorem D4A (x:TypeId) (v:Value) (K:Value → WP):A0 PR (Instr.typeAssert (.iface 195 v) x 195 true) K = K (.tuple #[v,.bool true]):=C1w A8N (by intro ms h; cases h) v
@[simp] theorem D4x (x:TypeId) (v:Value) (K:Value → WP):A0 PR (Instr.typeAssert (.iface 263 v) x 195 true) K = K (.tuple #[.agg #[.slice none 0 0,.slice none 0 0],.bool false]):=C3G A8N (by intro ms h; cases h) (by decide) v
inductive SlH where
 | no
 | bld
 | rdy (p:List F8) (pv rv:Value)
def SlH.val:SlH → Value
 | .no=> .nilIface
 | .bld=> .iface 263 (.agg #[])
 | .rdy _ pv rv=> .iface 195 (.agg #[pv,rv])
def SlH.sp:SlH → SlV
 | .no=> .no
 | .bld=> .bld
 | .rdy p _ _=> .rdy p
def SlH.fo:SlH → List Nat
 | .rdy _ pv rv=> N5 pv ++ N5 rv
 | _=> []
def B7N (pv:Value) (p:List F8):Res:=.own 155 2 pv p.length (p.flatMap H5)
def B7A (rv:Value) (p:List F8):Res:=.own 290 2 rv (L9 (G9 p)).length ((L9 (G9 p)).flatMap F7)
def SlH.ok (w:World):SlH → Prop
 | .rdy p pv rv=> (B7N pv p).holds w ∧ (B7A rv p).holds w ∧ p.length ≤ 32
 | _=> True
theorem SlH.keep {w w':World} {s:SlH} (hk:∀ b ∈ s.fo,∀ o,B8L o = true → bl w b = some o → bl w' b = some o) (h:s.ok w):s.ok w':=by
 cases s with
 | no=> trivial
 | bld=> trivial
 | rdy p pv rv=>
  refine ⟨Res.stable (fun b hb=> hk b ?_) h.1,Res.stable (fun b hb=> hk b ?_) h.2.1,h.2.2⟩
  ·exact List.mem_append_left _ hb
  ·exact List.mem_append_right _ hb
def A2b (ls:List SlH):List Nat:=ls.flatMap SlH.fo
def B1x (ls:List SlH) (w:World):Prop := ∀ s ∈ ls,s.ok w
def A03 (ls:List SlH):Res:=.ab (A2b ls) (B1x ls) fun w w' hk h s hs=> SlH.keep (fun b hb=> hk b (by rw [A2b,List.mem_flatMap]; exact ⟨s,hs,hb⟩)) (h s hs)
def Y9 (ls:List SlH) (i:Int) (x:SlH):List SlH:=if 0 ≤ i ∧ i < ls.length then ls.set i.toNat x else ls
theorem B5w (ls:List SlH) (i:Int) (x:SlH):(Y9 ls i x).length = ls.length:=by unfold Y9; split <;> simp
theorem B4l (ls:List SlH) (i:Int) (x:SlH):(Y9 ls i x).map SlH.sp = A0W (ls.map SlH.sp) i x.sp:=by
 unfold Y9 A0W
 rw [List.length_map]
 split
 ·rw [List.map_set]
 ·rfl
theorem B1z {ls:List SlH} {i:Int} {x s:SlH} (h:s ∈ Y9 ls i x):s ∈ ls ∨ s = x:=by
 unfold Y9 at h
 split at h
 ·exact List.mem_or_eq_of_mem_set h
 ·exact Or.inl h
def J0 (b:Nat) (sv:Value) (ls:List SlH):List Res := [.pt b (.cells #[sv] 231),.own 266 1 sv ls.length (ls.map SlH.val),A03 ls]
section
variable {κ:Bool} {S:List Nat} {w0 w:World} {H Hk Hc:List Res} {K0:WP} {ls:List SlH}
theorem C3K {i:Int} {x:SlH} (hx:x.fo = [] ∧ ∀ w,x.ok w) (hp:Part [A03 ls] H Hk) (h:TW κ S w0 (A03 (Y9 ls i x) :: Hk) K0):TW κ S w0 H K0:=by
 refine A6q (r:=A03 (Y9 ls i x)) hp (fun w hh=> (fun s hs=> ?_:B1x (Y9 ls i x) w)) (fun b hb=> ?_) h
 ·rcases B1z hs with hs | rfl
  ·exact (hh _ (List.mem_cons_self ..):B1x ls w) s hs
  ·exact hx.2 w
 ·have hb':b ∈ A2b (Y9 ls i x):=hb
  rw [A2b,List.mem_flatMap] at hb'
  obtain ⟨s,hs,hbs⟩:=hb'
  rcases B1z hs with hs | rfl
  ·exact T8.2 ⟨A03 ls,by simp,by show b ∈ A2b ls; rw [A2b,List.mem_flatMap]; exact ⟨s,hs,hbs⟩⟩
  ·rw [hx.1] at hbs; cases hbs
theorem D04 {i:Int} {p:List F8} {pv rv:Value} (hl:p.length ≤ 32) (hp:Part [B7N pv p,B7A rv p,A03 ls] H Hk) (h:TW κ S w0 (A03 (Y9 ls i (.rdy p pv rv)) :: Hk) K0):TW κ S w0 H K0:=by
 refine A6q (r:=A03 (Y9 ls i (.rdy p pv rv))) hp (fun w hh=> (fun s hs=> ?_:B1x (Y9 ls i (.rdy p pv rv)) w)) (fun b hb=> ?_) h
 ·rcases B1z hs with hs | rfl
  ·exact (hh (A03 ls) (by simp):B1x ls w) s hs
  ·exact ⟨hh (B7N pv p) (by simp),hh (B7A rv p) (by simp),hl⟩
 ·have hb':b ∈ A2b (Y9 ls i (.rdy p pv rv)):=hb
  rw [A2b,List.mem_flatMap] at hb'
  obtain ⟨s,hs,hbs⟩:=hb'
  rcases B1z hs with hs | rfl
  ·exact T8.2 ⟨A03 ls,by simp,by show b ∈ A2b ls; rw [A2b,List.mem_flatMap]; exact ⟨s,hs,hbs⟩⟩
  ·rcases List.mem_append.1 hbs with hbs | hbs
   ·exact T8.2 ⟨B7N pv p,by simp,hbs⟩
   ·exact T8.2 ⟨B7A rv p,by simp,hbs⟩
end
theorem D05 (w:World) (b:Nat) (sv:Value) (xs:List Value) (i:Int) (x:Value) (hx:plain x = true) (hn:xs.length ≤ 1000) (hw:LW false (C3 [.pt b (.cells #[sv] 231),.own 266 1 sv xs.length xs]) w [.pt b (.cells #[sv] 231),.own 266 1 sv xs.length xs] w) :
  Fn PR B8 150 #[.pointer (some ⟨b,0,none⟩),.int .i64 i,x] w (Rn (C3 [.pt b (.cells #[sv] 231),.own 266 1 sv xs.length xs]) w (fun (_:Unit) u=> A6b u) fun _=> [.pt b (.cells #[sv] 231),.own 266 1 sv xs.length (if 0 ≤ i ∧ i < xs.length then xs.set i.toNat x else xs)]):=by
 refine B3r (TW.goH (κ:=false) ?_ hw)
 unfold A48
 refine U8 (e:=266) (k:=1) (v:=sv) (q:=xs.length) (xs:=xs) (by (repeat constructor)) fun a c e=> ?_
 subst e
 by_cases c1:i < 0
 ·(have z:=trivial;repeat((first|clear z|with_reducible first|apply A3|refine A4 fun _=>?_|refine A5 fun _=>?_);try simp(disch:=solve|omega|assumption|repeat(first|exact A1|exact uH|apply A2|apply uT)|(simp;try omega)|fail)[c1]))
  rw [if_neg (by omega)]
  exact B1 () (m4 _) (by (repeat' constructor))
 by_cases c2:(xs.length:Int) ≤ i
 ·(have z:=trivial;repeat((first|clear z|with_reducible first|apply A3|refine A4 fun _=>?_|refine A5 fun _=>?_);try simp(disch:=solve|omega|assumption|repeat(first|exact A1|exact uH|apply A2|apply uT)|(simp;try omega)|fail)[c1,c2]))
  rw [if_neg (by omega)]
  exact B1 () (m4 _) (by (repeat' constructor))
 obtain ⟨j,rfl⟩:∃ j:Nat,i = j:=⟨i.toNat,by omega⟩
 have hj:j < xs.length:=by omega
 have hj2:¬ xs.length ≤ j:=by omega
 rw [if_pos (by omega)]
 refine V5 (e:=266) (k:=1) (v:=.slice a xs.length c) (q:=xs.length) (xs:=xs) (by (repeat constructor)) (by omega) fun g gc hg=> ?_
 cases hg
 (have z:=trivial;repeat((first|clear z|with_reducible first|apply A3|refine A4 fun _=>?_|refine A5 fun _=>?_);try simp(disch:=solve|omega|assumption|repeat(first|exact A1|exact uH|apply A2|apply uT)|(simp;try omega)|fail)[c1,c2,hj,hj2]))
 have hxc:x.cells = #[x]:=by cases x <;> first | rfl | cases hx
 refine Q9 (by (repeat constructor)) (by rw [hxc]; rfl) (by omega) (by rw [hxc]; simpa using hx) ?_
 have e:Y8 xs j x.cells.toList = xs.set j x:=by
  rw [hxc,List.set_eq_take_append_cons_drop,if_pos hj]; simp [Y8]
 refine B1 () (m4 _) ?_
 rw [Int.toNat_natCast,← e]
 (repeat' constructor)
theorem D00 (ls:List SlH) (i:Int) (x:SlH):(if 0 ≤ i ∧ i < (ls.map SlH.val).length then (ls.map SlH.val).set i.toNat x.val else ls.map SlH.val) = (Y9 ls i x).map SlH.val:=by
 unfold Y9
 rw [List.length_map]
 split
 ·rw [List.map_set]
 ·rfl
theorem SlH.plain (x:SlH):Go.Proofs.YtjobgnabneddjaaGreat.plain x.val = true:=by cases x <;> rfl
theorem B3N {κ:Bool} {X:Nat → Prop} {S:List Nat} {w0:World} {H Hk:List Res} {K:Value → WP} {b:Nat} {sv:Value} {ls:List SlH} {i:Int} {x:SlH} (hl:ls.length ≤ 1000) (hp:Part [.pt b (.cells #[sv] 231),.own 266 1 sv ls.length (ls.map SlH.val)] H Hk)
  (hK:∀ u,A6b u → TW κ S w0 (.pt b (.cells #[sv] 231) :: .own 266 1 sv (Y9 ls i x).length ((Y9 ls i x).map SlH.val) :: Hk) (K u)) :
  TW κ S w0 H (B3 PR X 150 [.pointer (some ⟨b,0,none⟩),.int .i64 i,x.val] K):=by
 have hlm:(ls.map SlH.val).length = ls.length:=List.length_map ..
 refine C8 (Hc := [.pt b (.cells #[sv] 231),.own 266 1 sv ls.length (ls.map SlH.val)]) B2T (fun w' _ hs=> ?_) hp (fun _ u hu=> ?_) (α:=Unit) (φ:=fun _ u=> A6b u) (Hn:=fun _=> [.pt b (.cells #[sv] 231),.own 266 1 sv (Y9 ls i x).length ((Y9 ls i x).map SlH.val)])
 ·have:=D05 w' b sv (ls.map SlH.val) i x.val x.plain (by rw [hlm]; exact hl) (by rw [hlm]; exact hs)
  rw [D00,hlm] at this
  rw [B5w]
  exact this
 ·exact hK u hu
theorem C5W (w:World) (b:Nat) (sv:Value) (ls:List SlH) (i:Int) (hl:ls.length ≤ 8) (hw:LW false (C3 (J0 b sv ls)) w (J0 b sv ls) w) :
  Fn PR B8 94 #[.pointer (some ⟨b,0,none⟩),.int .i64 i] w (Rn (C3 (J0 b sv ls)) w (fun (_:Unit) u=> A6b u) fun _=> J0 b sv (Y9 ls i .bld)):=by
 refine B1y (TW.goH (κ:=false) ?_ hw)
 unfold A3Q
 simp only [J0]
 (have z:=trivial;repeat((first|clear z|with_reducible first|apply A3|refine A4 fun _=>?_|refine A5 fun _=>?_);try simp(disch:=solve|omega|assumption|repeat(first|exact A1|exact uH|apply A2|apply uT)|(simp;try omega)|fail)[]))
 refine B3N (x:=.bld) (ls:=ls) (sv:=sv) (by omega) (by (repeat' constructor)) fun u hu=> ?_
 refine C3K (ls:=ls) (i:=i) (x:=.bld) ⟨rfl,fun _=> trivial⟩ (by (repeat' constructor)) ?_
 exact B1 () hu (by (repeat' constructor))
theorem C6r (w:World) (b:Nat) (sv:Value) (ls:List SlH) (i:Int) (hl:ls.length ≤ 8) (hw:LW false (C3 (J0 b sv ls)) w (J0 b sv ls) w) :
  Fn PR B8 98 #[.pointer (some ⟨b,0,none⟩),.int .i64 i] w (Rn (C3 (J0 b sv ls)) w (fun (_:Unit) u=> A6b u) fun _=> J0 b sv (Y9 ls i .no)):=by
 refine B0x (TW.goH (κ:=false) ?_ hw)
 unfold A3N
 simp only [J0]
 (have z:=trivial;repeat((first|clear z|with_reducible first|apply A3|refine A4 fun _=>?_|refine A5 fun _=>?_);try simp(disch:=solve|omega|assumption|repeat(first|exact A1|exact uH|apply A2|apply uT)|(simp;try omega)|fail)[]))
 refine B3N (x:=.no) (ls:=ls) (sv:=sv) (by omega) (by (repeat' constructor)) fun u hu=> ?_
 refine C3K (ls:=ls) (i:=i) (x:=.no) ⟨rfl,fun _=> trivial⟩ (by (repeat' constructor)) ?_
 exact B1 () hu (by (repeat' constructor))
theorem D0u {κ:Bool} {H:List Res} {r:Res} (h:r ∈ H):Up r r H H:=by
 induction H with
 | nil=> cases h
 | cons a H ih=>
  rcases List.mem_cons.1 h with rfl | h
  ·exact .here
  ·exact .there (ih h)
theorem C46 {κ:Bool} {X:Nat → Prop} {S:List Nat} {w0:World} {H:List Res} {K0:WP} {b:Nat} (hm:Res.pt b (.cells #[] 263) ∈ H) (hK:TW κ S w0 H K0) :
  TW κ S w0 H (C1 PR X (Instr.storeAt 263 (.pointer (some ⟨b,0,none⟩)) (.agg #[])) K0):=by
 have h:=D8z (κ:=κ) (X:=X) (S:=S) (w0:=w0) (K0:=K0) (t:=263) (v:=.agg #[]) (b:=b) (o:=0) (c:=#[]) (T:=263) rfl (D0u (κ:=κ) hm) (by simp) rfl
 exact h ▸ hK
def A4e (ls:List SlH) (i:Int):SlH:=if 0 ≤ i ∧ i < ls.length then ls.getD i.toNat .no else .no
theorem B8T (ls:List SlH) (i:Int):K3 (ls.map SlH.sp) i = (A4e ls i).sp:=by
 unfold K3 A4e
 rw [List.length_map]
 split
 ·rename_i h
  rw [List.getD_eq_getElem?_getD,List.getD_eq_getElem?_getD,List.getElem?_map,List.getElem?_eq_getElem (by omega)]; rfl
 ·rfl
theorem B8F {ls:List SlH} {i:Nat} (h:i < ls.length):(ls.map SlH.val)[i]? = some (ls.getD i .no).val:=by
 rw [List.getElem?_map,List.getD_eq_getElem?_getD,List.getElem?_eq_getElem h]; rfl
theorem C9G {l:List SlV} {i:Int} {p:List F8} (h:K3 l i ≠ .bld ∨ Q3 p ≠ 0):A06 l i p = l:=by
 unfold A06
 cases hg:K3 l i with
 | no=> rfl
 | rdy q=> rfl
 | bld=>
  rcases h with h | h
  ·exact absurd hg h
  ·simp [h]
set_option maxHeartbeats 400000 in
theorem C8s (w:World) (b:Nat) (sv:Value) (ls:List SlH) (i:Int) (pv:Value) (p:List F8) (hl:ls.length ≤ 8) (hp:p.length ≤ 1000) (hv:∀ w',KS false (C3 (J0 b sv ls)) w w' → F5 w' pv p.length (p.flatMap H5)) (hw:LW false (C3 (J0 b sv ls)) w (J0 b sv ls) w) :
  Fn PR B8 95 #[.pointer (some ⟨b,0,none⟩),.int .i64 i,pv] w (Rn (C3 (J0 b sv ls)) w (fun (ls':List SlH) u=> A6b u ∧ ls'.length = ls.length ∧ ls'.map SlH.sp = A06 (ls.map SlH.sp) i p) fun ls' => J0 b sv ls'):=by
 refine B2g (TW.goH (κ:=false) ?_ hw)
 unfold A34
 refine U8 (e:=266) (k:=1) (v:=sv) (q:=ls.length) (xs:=ls.map SlH.val) (by simp only [J0]; (repeat constructor)) fun a c e=> ?_
 subst e
 have no:K3 (ls.map SlH.sp) i ≠ .bld ∨ Q3 p ≠ 0 → ∀ u,A6b u → A6b u ∧ ls.length = ls.length ∧ ls.map SlH.sp = A06 (ls.map SlH.sp) i p:=fun h u hu=> ⟨hu,rfl,(C9G h).symm⟩
 simp only [J0] at hv ⊢
 by_cases c1:i < 0
 ·(have z:=trivial;repeat((first|clear z|with_reducible first|apply A3|refine A4 fun _=>?_|refine A5 fun _=>?_);try simp(disch:=solve|omega|assumption|repeat(first|exact A1|exact uH|apply A2|apply uT)|(simp;try omega)|fail)[c1]))
  exact B1 ls (no (Or.inl (by unfold K3; rw [if_neg (by omega)]; simp)) _ (m4 _)) (by (repeat' constructor))
 by_cases c2:(ls.length:Int) ≤ i
 ·(have z:=trivial;repeat((first|clear z|with_reducible first|apply A3|refine A4 fun _=>?_|refine A5 fun _=>?_);try simp(disch:=solve|omega|assumption|repeat(first|exact A1|exact uH|apply A2|apply uT)|(simp;try omega)|fail)[c1,c2]))
  exact B1 ls (no (Or.inl (by unfold K3; rw [if_neg (by simp; omega)]; simp)) _ (m4 _)) (by (repeat' constructor))
 obtain ⟨j,rfl⟩:∃ j:Nat,i = j:=⟨i.toNat,by omega⟩
 have hj:j < ls.length:=by omega
 have hj2:¬ ls.length ≤ j:=by omega
 refine V5 (e:=266) (k:=1) (v:=.slice a ls.length c) (q:=ls.length) (xs:=ls.map SlH.val) (by (repeat constructor)) (by omega) fun g gc hg=> ?_
 cases hg
 (have z:=trivial;repeat((first|clear z|with_reducible first|apply A3|refine A4 fun _=>?_|refine A5 fun _=>?_);try simp(disch:=solve|omega|assumption|repeat(first|exact A1|exact uH|apply A2|apply uT)|(simp;try omega)|fail)[c1,c2,hj,hj2]))
 refine B7 B7k (fun w' hw' => C1g w' pv p (by omega) (hv w' hw'.ks)) ?_
 by_cases c3:Q3 p = 0
 case neg=>
  (have z:=trivial;repeat((first|clear z|with_reducible first|apply A3|refine A4 fun _=>?_|refine A5 fun _=>?_);try simp(disch:=solve|omega|assumption|repeat(first|exact A1|exact uH|apply A2|apply uT)|(simp;try omega)|fail)[c3]))
  exact B1 ls (no (Or.inr c3) _ (m4 _)) (by (repeat' constructor))
 have hat:=B8F hj
 have hget:K3 (ls.map SlH.sp) j = (ls.getD j .no).sp:=by rw [B8T]; unfold A4e; rw [if_pos (by omega),Int.toNat_natCast]
 obtain ⟨x,hx⟩:∃ x,x = ls.getD j .no:=⟨_,rfl⟩
 rw [← hx] at hat hget
 have hatt:=(List.getElem?_eq_some_iff.1 hat).2
 cases x with
 | no=>
  simp only [SlH.val] at hat hatt
  (have z:=trivial;repeat((first|clear z|with_reducible first|apply A3|refine A4 fun _=>?_|refine A5 fun _=>?_);try simp(disch:=solve|omega|assumption|repeat(first|exact A1|exact uH|apply A2|apply uT)|(simp;try omega)|fail)[c3,hat,hatt,hj,hj2]))
  refine C46 (by (repeat constructor)) ?_
  (have z:=trivial;repeat((first|clear z|with_reducible first|apply A3|refine A4 fun _=>?_|refine A5 fun _=>?_);try simp(disch:=solve|omega|assumption|repeat(first|exact A1|exact uH|apply A2|apply uT)|(simp;try omega)|fail)[]))
  exact B1 ls (no (Or.inl (by rw [hget]; simp [SlH.sp])) _ (m4 _)) (by (repeat' constructor))
 | rdy q qv rv=>
  simp only [SlH.val] at hat hatt
  (have z:=trivial;repeat((first|clear z|with_reducible first|apply A3|refine A4 fun _=>?_|refine A5 fun _=>?_);try simp(disch:=solve|omega|assumption|repeat(first|exact A1|exact uH|apply A2|apply uT)|(simp;try omega)|fail)[c3,hat,hatt,hj,hj2]))
  refine C46 (by (repeat constructor)) ?_
  (have z:=trivial;repeat((first|clear z|with_reducible first|apply A3|refine A4 fun _=>?_|refine A5 fun _=>?_);try simp(disch:=solve|omega|assumption|repeat(first|exact A1|exact uH|apply A2|apply uT)|(simp;try omega)|fail)[]))
  exact B1 ls (no (Or.inl (by rw [hget]; simp [SlH.sp])) _ (m4 _)) (by (repeat' constructor))
 | bld=>
  simp only [SlH.val] at hat hatt
  have hp32:p.length ≤ 32:=by
   unfold Q3 at c3
   by_cases h:u4 p && decide (p.length ≤ 32)
   ·simp at h; exact h.2
   ·rw [if_neg h] at c3; omega
  (have z:=trivial;repeat((first|clear z|with_reducible first|apply A3|refine A4 fun _=>?_|refine A5 fun _=>?_);try simp(disch:=solve|omega|assumption|repeat(first|exact A1|exact uH|apply A2|apply uT)|(simp;try omega)|fail)[c3,hat,hatt,hj,hj2]))
  refine C46 (by (repeat constructor)) ?_
  (have z:=trivial;repeat((first|clear z|with_reducible first|apply A3|refine A4 fun _=>?_|refine A5 fun _=>?_);try simp(disch:=solve|omega|assumption|repeat(first|exact A1|exact uH|apply A2|apply uT)|(simp;try omega)|fail)[]))
  refine H3 A0A (fun w' hw' => C7l w' pv p.length (p.flatMap H5) (by omega) (T2 (k:=2) (fun _=> rfl) p) (C4J p) (hv w' hw'.ks)) ?_
  rintro _ qv rfl
  refine H3 B9V (fun w' hw' => D6G w' pv p (by omega) (hv w' hw'.ks)) ?_
  rintro _ rv rfl
  refine A6j (e:=155) (k:=2) (v:=qv) (q:=p.length) (xs:=p.flatMap H5) (by (repeat constructor)) fun hq1 hq2 hq3=> ?_
  refine A6j (e:=290) (k:=2) (v:=rv) (q:=(L9 (G9 p)).length) (xs:=(L9 (G9 p)).flatMap F7) (by (repeat constructor)) fun hr1 hr2 hr3=> ?_
  (have z:=trivial;repeat((first|clear z|with_reducible first|apply A3|refine A4 fun _=>?_|refine A5 fun _=>?_);try simp(disch:=solve|omega|assumption|repeat(first|exact A1|exact uH|apply A2|apply uT)|(simp;try omega)|fail)[hq1,hq2,hr1,hr2]))
  refine B3N (x:=.rdy p qv rv) (ls:=ls) (by omega) (by (repeat' constructor)) fun u hu=> ?_
  refine D04 (ls:=ls) (i:=(j:Nat)) (p:=p) (pv:=qv) (rv:=rv) hp32 (by unfold B7N B7A; (repeat' constructor)) ?_
  refine B1 (Y9 ls (j:Nat) (.rdy p qv rv)) ⟨hu,B5w _ _ _,?_⟩ (by (repeat' constructor))
  rw [B4l]
  unfold A06
  rw [hget]
  show A0W _ _ (.rdy p) = (if Q3 p = 0 then A0W _ _ (.rdy p) else _)
  rw [if_pos c3]
def SlH.rd (w:World):SlH → Prop
 | .rdy p pv rv=> F5 w pv p.length (p.flatMap H5) ∧ F5 w rv (L9 (G9 p)).length ((L9 (G9 p)).flatMap F7) ∧ p.length ≤ 32
 | _=> True
structure SlAt (w:World) (b:Nat) (sv:Value) (ls:List SlH):Prop where
 blk:bl w b = some (.cells #[sv] 231 (0,0))
 rd:F5 w sv ls.length (ls.map SlH.val)
 all:∀ s ∈ ls,s.rd w
theorem SlAt.own {κ:Bool} {S:List Nat} {w0 w:World} {H:List Res} {b:Nat} {sv:Value} {ls:List SlH} (hw:LW κ S w0 H w) (h1:Res.pt b (.cells #[sv] 231) ∈ H) (h2:Res.own 266 1 sv ls.length (ls.map SlH.val) ∈ H) (h3:A03 ls ∈ H):SlAt w b sv ls:=by
 refine ⟨hw.pt h1,M0.own (e:=266) (k:=1) h2 w hw,fun s hs=> ?_⟩
 have:=(hw.hold _ h3:B1x ls w) s hs
 cases s with
 | no=> trivial
 | bld=> trivial
 | rdy p pv rv=> exact ⟨U4.rd this.1,U4.rd this.2.1,this.2.2⟩
theorem SlAt.at {w:World} {b:Nat} {sv:Value} {ls:List SlH} (h:SlAt w b sv ls) {i:Nat} (hi:i < ls.length):(ls.getD i .no).rd w:=by
 apply h.all
 rw [List.getD_eq_getElem?_getD,List.getElem?_eq_getElem hi]
 exact List.getElem_mem hi
def A4g (l:List SlH) (i:Int) (f:List F8 → Int):Int × Bool :=
 match A4e l i with
 | .rdy p _ _=> (f p,true)
 | _=> (0,false)
theorem C3V (w:World) (b:Nat) (sv:Value) (ls:List SlH) (i:Int) (g:FuncId) (cap:List Value) (f:List F8 → Int) (hl:ls.length ≤ 8) (h:SlAt w b sv ls) (he:B0 PR g)
  (hg:∀ p pv rv,(SlH.rdy p pv rv).rd w → ∀ w',KS false [] w w' → Fn PR B8 g (Value.agg #[pv,rv] :: cap).toArray w' (fun u w'' => u = .int .i64 (f p) ∧ C7 [] w' w'')) :
  Fn PR B8 109 #[.pointer (some ⟨b,0,none⟩),.int .i64 i,.func (.func g) #[] cap.toArray] w (fun u w' => u = .tuple #[.int .i64 (A4g ls i f).1,.bool (A4g ls i f).2] ∧ C7 [] w w'):=by
 refine Fn.pure (B4u (TW.go (κ:=false) (S := []) ?_))
 unfold A5d
 obtain ⟨a,c,rfl,hr⟩:=h.rd.form
 have h0:w.cell? ⟨b,0,none⟩ = some (.slice a ls.length c):=by rw [E8 h.blk]; rfl
 by_cases c1:i < 0
 ·have e:A4g ls i f = (0,false):=by unfold A4g A4e; rw [if_neg (by omega)]
  rw [e]
  (have z:=trivial;repeat((first|clear z|with_reducible first|apply A3|refine A4 fun _=>?_|refine A5 fun _=>?_);try simp(disch:=solve|omega|assumption|repeat(first|exact A1|exact uH|apply A2|apply uT)|(simp;try omega)|fail)[c1]))
  exact A9 rfl
 by_cases c2:(ls.length:Int) ≤ i
 ·have e:A4g ls i f = (0,false):=by unfold A4g A4e; rw [if_neg (by omega)]
  rw [e]
  (have z:=trivial;repeat((first|clear z|with_reducible first|apply A3|refine A4 fun _=>?_|refine A5 fun _=>?_);try simp(disch:=solve|omega|assumption|repeat(first|exact A1|exact uH|apply A2|apply uT)|(simp;try omega)|fail)[c1,c2,h0]))
  exact A9 rfl
 obtain ⟨j,rfl⟩:∃ j:Nat,i = j:=⟨i.toNat,by omega⟩
 have hj:j < ls.length:=by omega
 have hj2:¬ ls.length ≤ j:=by omega
 obtain ⟨gb,o,rfl,hrow⟩:=hr (by omega)
 have hrd:=h.at hj
 have hx:w.cell? ⟨gb,o + j,none⟩ = some (ls.getD j .no).val:=hrow.get (B8F hj)
 have e:A4g ls j f = match ls.getD j .no with | .rdy p _ _=> (f p,true) | _=> (0,false):=by unfold A4g A4e; rw [if_pos (by omega),Int.toNat_natCast]
 rw [e]
 generalize ls.getD j .no = x at *
 cases x with
 | no=>
  simp only [SlH.val] at hx
  (have z:=trivial;repeat((first|clear z|with_reducible first|apply A3|refine A4 fun _=>?_|refine A5 fun _=>?_);try simp(disch:=solve|omega|assumption|repeat(first|exact A1|exact uH|apply A2|apply uT)|(simp;try omega)|fail)[c1,c2,hj,hj2,h0,hx]))
  exact A9 rfl
 | bld=>
  simp only [SlH.val] at hx
  (have z:=trivial;repeat((first|clear z|with_reducible first|apply A3|refine A4 fun _=>?_|refine A5 fun _=>?_);try simp(disch:=solve|omega|assumption|repeat(first|exact A1|exact uH|apply A2|apply uT)|(simp;try omega)|fail)[c1,c2,hj,hj2,h0,hx]))
  exact A9 rfl
 | rdy p pv rv=>
  simp only [SlH.val] at hx
  have hpv:=hrd.1.form
  have hrv:=hrd.2.1.form
  obtain ⟨pa,pc,hpe,_⟩:=hpv
  obtain ⟨ra,rc,hre,_⟩:=hrv
  subst hpe hre
  (have z:=trivial;repeat((first|clear z|with_reducible first|apply A3|refine A4 fun _=>?_|refine A5 fun _=>?_);try simp(disch:=solve|omega|assumption|repeat(first|exact A1|exact uH|apply A2|apply uT)|(simp;try omega)|fail)[c1,c2,hj,hj2,h0,hx]))
  refine B7 he (fun w' hw' => hg _ _ _ hrd w' hw'.ks) ?_
  exact A9 rfl
def A4p (l:List SlH) (i:Int) (f:List F8 → Bool):Bool × Bool :=
 match A4e l i with
 | .rdy p _ _=> (f p,true)
 | _=> (false,false)
theorem D1D (w:World) (b:Nat) (sv:Value) (ls:List SlH) (i:Int) (g:FuncId) (cap:List Value) (f:List F8 → Bool) (hl:ls.length ≤ 8) (h:SlAt w b sv ls) (he:B0 PR g)
  (hg:∀ p pv rv,(SlH.rdy p pv rv).rd w → ∀ w',KS false [] w w' → Fn PR B8 g (Value.agg #[pv,rv] :: cap).toArray w' (fun u w'' => u = .bool (f p) ∧ C7 [] w' w'')) :
  Fn PR B8 180 #[.pointer (some ⟨b,0,none⟩),.int .i64 i,.func (.func g) #[] cap.toArray] w (fun u w' => u = .tuple #[.bool (A4p ls i f).1,.bool (A4p ls i f).2] ∧ C7 [] w w'):=by
 refine Fn.pure (B3H (TW.go (κ:=false) (S := []) ?_))
 unfold A5A
 obtain ⟨a,c,rfl,hr⟩:=h.rd.form
 have h0:w.cell? ⟨b,0,none⟩ = some (.slice a ls.length c):=by rw [E8 h.blk]; rfl
 by_cases c1:i < 0
 ·have e:A4p ls i f = (false,false):=by unfold A4p A4e; rw [if_neg (by omega)]
  rw [e]
  (have z:=trivial;repeat((first|clear z|with_reducible first|apply A3|refine A4 fun _=>?_|refine A5 fun _=>?_);try simp(disch:=solve|omega|assumption|repeat(first|exact A1|exact uH|apply A2|apply uT)|(simp;try omega)|fail)[c1]))
  exact A9 rfl
 by_cases c2:(ls.length:Int) ≤ i
 ·have e:A4p ls i f = (false,false):=by unfold A4p A4e; rw [if_neg (by omega)]
  rw [e]
  (have z:=trivial;repeat((first|clear z|with_reducible first|apply A3|refine A4 fun _=>?_|refine A5 fun _=>?_);try simp(disch:=solve|omega|assumption|repeat(first|exact A1|exact uH|apply A2|apply uT)|(simp;try omega)|fail)[c1,c2,h0]))
  exact A9 rfl
 obtain ⟨j,rfl⟩:∃ j:Nat,i = j:=⟨i.toNat,by omega⟩
 have hj:j < ls.length:=by omega
 have hj2:¬ ls.length ≤ j:=by omega
 obtain ⟨gb,o,rfl,hrow⟩:=hr (by omega)
 have hrd:=h.at hj
 have hx:w.cell? ⟨gb,o + j,none⟩ = some (ls.getD j .no).val:=hrow.get (B8F hj)
 have e:A4p ls j f = match ls.getD j .no with | .rdy p _ _=> (f p,true) | _=> (false,false):=by unfold A4p A4e; rw [if_pos (by omega),Int.toNat_natCast]
 rw [e]
 generalize ls.getD j .no = x at *
 cases x with
 | no=>
  simp only [SlH.val] at hx
  (have z:=trivial;repeat((first|clear z|with_reducible first|apply A3|refine A4 fun _=>?_|refine A5 fun _=>?_);try simp(disch:=solve|omega|assumption|repeat(first|exact A1|exact uH|apply A2|apply uT)|(simp;try omega)|fail)[c1,c2,hj,hj2,h0,hx]))
  exact A9 rfl
 | bld=>
  simp only [SlH.val] at hx
  (have z:=trivial;repeat((first|clear z|with_reducible first|apply A3|refine A4 fun _=>?_|refine A5 fun _=>?_);try simp(disch:=solve|omega|assumption|repeat(first|exact A1|exact uH|apply A2|apply uT)|(simp;try omega)|fail)[c1,c2,hj,hj2,h0,hx]))
  exact A9 rfl
 | rdy p pv rv=>
  simp only [SlH.val] at hx
  have hpv:=hrd.1.form
  have hrv:=hrd.2.1.form
  obtain ⟨pa,pc,hpe,_⟩:=hpv
  obtain ⟨ra,rc,hre,_⟩:=hrv
  subst hpe hre
  (have z:=trivial;repeat((first|clear z|with_reducible first|apply A3|refine A4 fun _=>?_|refine A5 fun _=>?_);try simp(disch:=solve|omega|assumption|repeat(first|exact A1|exact uH|apply A2|apply uT)|(simp;try omega)|fail)[c1,c2,hj,hj2,h0,hx]))
  refine B7 he (fun w' hw' => hg _ _ _ hrd w' hw'.ks) ?_
  exact A9 rfl
theorem C1s (ls:List SlH) (i:Int) (f:List F8 → Int):A4g ls i f = match K3 (ls.map SlH.sp) i with | .rdy p=> (f p,true) | _=> (0,false):=by
 rw [B8T]; unfold A4g; cases A4e ls i <;> rfl
theorem C9p (ls:List SlH) (i:Int) (f:List F8 → Bool):A4p ls i f = match K3 (ls.map SlH.sp) i with | .rdy p=> (f p,true) | _=> (false,false):=by
 rw [B8T]; unfold A4p; cases A4e ls i <;> rfl
theorem SlH.rdks {κ:Bool} {w w':World} {s:SlH} (hk:KS κ [] w w') (h:s.rd w):s.rd w':=by
 cases s with
 | no=> trivial
 | bld=> trivial
 | rdy p pv rv=> exact ⟨h.1.ks hk (by simp),h.2.1.ks hk (by simp),h.2.2⟩
theorem SlAt.ks {κ:Bool} {w w':World} {b:Nat} {sv:Value} {ls:List SlH} (h:SlAt w b sv ls) (hk:KS κ [] w w'):SlAt w' b sv ls :=
 ⟨hk.2.1 _ _ (by simp) rfl h.blk,h.rd.ks hk (by simp),fun s hs=> SlH.rdks hk (h.all s hs)⟩
theorem C5y (w:World) (p:List F8) (pv rv:Value) (bh h:Nat) (hx:(SlH.rdy p pv rv).rd w) (hb:w.cell? ⟨bh,0,none⟩ = some (.int .u64 (h:Nat))) :
  Fn PR B8 110 #[.agg #[pv,rv],.pointer (some ⟨bh,0,none⟩)] w (fun u w' => u = .int .i64 (B1L p h) ∧ C7 [] w w'):=by
 refine Fn.pure (A87 (TW.go (κ:=false) (S := []) ?_))
 unfold A2D
 obtain ⟨h1,h2,h3⟩:=hx
 obtain ⟨pa,pc,rfl,_⟩:=h1.form
 obtain ⟨ra,rc,rfl,_⟩:=h2.form
 have hll:=B4g p
 have hpl:(L9 (G9 p)).length = (G9 p).length:=j1 _
 (have z:=trivial;repeat((first|clear z|with_reducible first|apply A3|refine A4 fun _=>?_|refine A5 fun _=>?_);try simp(disch:=solve|omega|assumption|repeat(first|exact A1|exact uH|apply A2|apply uT)|(simp;try omega)|fail)[hb]))
 refine B7 B9p (fun w' hw' => D07 w' _ (L9 (G9 p)) h (by omega) (h2.ks hw'.ks (by simp))) ?_
 exact A9 rfl
theorem C8f (w:World) (b:Nat) (sv:Value) (ls:List SlH) (i:Int) (h:Nat) (hl:ls.length ≤ 8) (hs:SlAt w b sv ls) :
  Fn PR B8 48 #[.pointer (some ⟨b,0,none⟩),.int .i64 i,.int .u64 (h:Nat)] w (fun u w' => u = .tuple #[.int .i64 (A8B (ls.map SlH.sp) i h).1,.bool (A8B (ls.map SlH.sp) i h).2] ∧ C7 [] w w'):=by
 refine Fn.pure (B2w (TW.go (κ:=false) (S := []) ?_))
 unfold A38
 (have z:=trivial;repeat((first|clear z|with_reducible first|apply A3|refine A4 fun _=>?_|refine A5 fun _=>?_);try simp(disch:=solve|omega|assumption|repeat(first|exact A1|exact uH|apply A2|apply uT)|(simp;try omega)|fail)[]))
 rename_i bh
 refine B7 A4x (fun w' hw' => C3V w' b sv ls i 110 [.pointer (some ⟨bh,0,none⟩)] (fun p=> B1L p h) hl (hs.ks hw'.ks) A7f fun p pv rv hrd w'' hk=> C5y w'' p pv rv bh h (SlH.rdks hk hrd) (hk.cell (by simp) (hw'.cell1 (by (repeat constructor))))) ?_
 (have z:=trivial;repeat((first|clear z|with_reducible first|apply A3|refine A4 fun _=>?_|refine A5 fun _=>?_);try simp(disch:=solve|omega|assumption|repeat(first|exact A1|exact uH|apply A2|apply uT)|(simp;try omega)|fail)[]))
 exact A9 (by rw [C1s]; unfold A8B; cases K3 (ls.map SlH.sp) i <;> rfl)
theorem C6y (w:World) (p:List F8) (pv rv:Value) (hx:(SlH.rdy p pv rv).rd w) :
  Fn PR B8 113 #[.agg #[pv,rv]] w (fun u w' => u = .int .i64 (p.length:Nat) ∧ C7 [] w w'):=by
 refine Fn.pure (A9f (TW.go (κ:=false) (S := []) ?_))
 unfold A2G
 obtain ⟨h1,h2,h3⟩:=hx
 obtain ⟨pa,pc,rfl,_⟩:=h1.form
 obtain ⟨ra,rc,rfl,_⟩:=h2.form
 (have z:=trivial;repeat((first|clear z|with_reducible first|apply A3|refine A4 fun _=>?_|refine A5 fun _=>?_);try simp(disch:=solve|omega|assumption|repeat(first|exact A1|exact uH|apply A2|apply uT)|(simp;try omega)|fail)[]))
 exact A9 rfl
theorem C9B (w:World) (b:Nat) (sv:Value) (ls:List SlH) (i:Int) (hl:ls.length ≤ 8) (hs:SlAt w b sv ls) :
  Fn PR B8 50 #[.pointer (some ⟨b,0,none⟩),.int .i64 i] w (fun u w' => u = .tuple #[.int .i64 (B1v (ls.map SlH.sp) i).1,.bool (B1v (ls.map SlH.sp) i).2] ∧ C7 [] w w'):=by
 refine Fn.pure (B2s (TW.go (κ:=false) (S := []) ?_))
 unfold A4C
 refine B7 A4x (fun w' hw' => C3V w' b sv ls i 113 [] (fun p=> (p.length:Nat)) hl (hs.ks hw'.ks) A7K fun p pv rv hrd w'' hk=> C6y w'' p pv rv (SlH.rdks hk hrd)) ?_
 (have z:=trivial;repeat((first|clear z|with_reducible first|apply A3|refine A4 fun _=>?_|refine A5 fun _=>?_);try simp(disch:=solve|omega|assumption|repeat(first|exact A1|exact uH|apply A2|apply uT)|(simp;try omega)|fail)[]))
 exact A9 (by rw [C1s]; unfold B1v; cases K3 (ls.map SlH.sp) i <;> rfl)
theorem C8a (w:World) (p:List F8) (pv:Value) (id:Int) (hv:F5 w pv p.length (p.flatMap H5)) (hp:p.length ≤ 32) :
  Fn PR B8 182 #[pv,.int .i64 id] w (fun u w' => u = .bool (decide (0 ≤ Q5 p id)) ∧ C7 [] w w'):=by
 refine Fn.pure (A97 (TW.go (κ:=false) (S := []) ?_))
 unfold A3C
 refine B7 B9F (fun w' hw' => C2n w' pv p id (by omega) (hv.ks hw'.ks (by simp))) ?_
 by_cases c1:0 ≤ Q5 p id
 ·(have z:=trivial;repeat((first|clear z|with_reducible first|apply A3|refine A4 fun _=>?_|refine A5 fun _=>?_);try simp(disch:=solve|omega|assumption|repeat(first|exact A1|exact uH|apply A2|apply uT)|(simp;try omega)|fail)[c1]))
  exact A9 rfl
 ·(have z:=trivial;repeat((first|clear z|with_reducible first|apply A3|refine A4 fun _=>?_|refine A5 fun _=>?_);try simp(disch:=solve|omega|assumption|repeat(first|exact A1|exact uH|apply A2|apply uT)|(simp;try omega)|fail)[c1]))
  exact A9 rfl
theorem C7z (w:World) (p:List F8) (pv rv:Value) (bh:Nat) (id:Int) (hx:(SlH.rdy p pv rv).rd w) (hb:w.cell? ⟨bh,0,none⟩ = some (.int .i64 id)) :
  Fn PR B8 181 #[.agg #[pv,rv],.pointer (some ⟨bh,0,none⟩)] w (fun u w' => u = .bool (decide (0 ≤ Q5 p id)) ∧ C7 [] w w'):=by
 refine Fn.pure (B0g (TW.go (κ:=false) (S := []) ?_))
 unfold A2u
 obtain ⟨h1,h2,h3⟩:=hx
 obtain ⟨pa,pc,rfl,_⟩:=h1.form
 obtain ⟨ra,rc,rfl,_⟩:=h2.form
 (have z:=trivial;repeat((first|clear z|with_reducible first|apply A3|refine A4 fun _=>?_|refine A5 fun _=>?_);try simp(disch:=solve|omega|assumption|repeat(first|exact A1|exact uH|apply A2|apply uT)|(simp;try omega)|fail)[hb]))
 refine B7 A8s (fun w' hw' => C8a w' p _ id (h1.ks hw'.ks (by simp)) h3) ?_
 exact A9 rfl
theorem D1j (w:World) (b:Nat) (sv:Value) (ls:List SlH) (i id:Int) (hl:ls.length ≤ 8) (hs:SlAt w b sv ls) :
  Fn PR B8 134 #[.pointer (some ⟨b,0,none⟩),.int .i64 i,.int .i64 id] w (fun u w' => u = .tuple #[.bool (C0F (ls.map SlH.sp) i id).1,.bool (C0F (ls.map SlH.sp) i id).2] ∧ C7 [] w w'):=by
 refine Fn.pure (B34 (TW.go (κ:=false) (S := []) ?_))
 unfold A5B
 (have z:=trivial;repeat((first|clear z|with_reducible first|apply A3|refine A4 fun _=>?_|refine A5 fun _=>?_);try simp(disch:=solve|omega|assumption|repeat(first|exact A1|exact uH|apply A2|apply uT)|(simp;try omega)|fail)[]))
 rename_i bh
 refine B7 B2m (fun w' hw' => D1D w' b sv ls i 181 [.pointer (some ⟨bh,0,none⟩)] (fun p=> decide (0 ≤ Q5 p id)) hl (hs.ks hw'.ks) A8p fun p pv rv hrd w'' hk=> C7z w'' p pv rv bh id (SlH.rdks hk hrd) (hk.cell (by simp) (hw'.cell1 (by (repeat constructor))))) ?_
 (have z:=trivial;repeat((first|clear z|with_reducible first|apply A3|refine A4 fun _=>?_|refine A5 fun _=>?_);try simp(disch:=solve|omega|assumption|repeat(first|exact A1|exact uH|apply A2|apply uT)|(simp;try omega)|fail)[]))
 exact A9 (by rw [C9p]; unfold C0F; cases K3 (ls.map SlH.sp) i <;> rfl)
theorem D20 (n:Nat):(Builtin.zeroCells Value.nilIface.cells n).toList = (List.replicate n SlH.no).map SlH.val:=by
 have hz:(Builtin.zeroCells Value.nilIface.cells n).toList.length = n:=by simp [size_zeroCells,Value.cells]
 apply List.ext_getElem (by rw [hz]; simp)
 intro i h1 h2
 simp [Builtin.zeroCells,Value.cells,SlH.val,Nat.mod_one]
theorem D1Y (w:World) (n:Nat) (hn:n ≤ 8):Fn PR B8 70 #[.int .i64 (n:Nat)] w (Rn [] w (fun (x:Nat × Value) u=> u = .pointer (some ⟨x.1,0,none⟩)) fun x=> J0 x.1 x.2 (List.replicate n SlH.no)):=by
 refine C04 (TW.go (κ:=false) (S := []) ?_)
 unfold B3B
 have h1:min ((n:Nat):Int) 8 = n:=by omega
 have h2:max 0 ((n:Nat):Int) = n:=by omega
 (have z:=trivial;repeat((first|clear z|with_reducible first|apply A3|refine A4 fun _=>?_|refine A5 fun _=>?_);try simp(disch:=solve|omega|assumption|repeat(first|exact A1|exact uH|apply A2|apply uT)|(simp;try omega)|fail)[h1,h2]))
 refine A1m (by omega) (by omega) (by omega) (by omega) fun bs=> ?_
 rw [Int.toNat_natCast,D20]
 (have z:=trivial;repeat((first|clear z|with_reducible first|apply A3|refine A4 fun _=>?_|refine A5 fun _=>?_);try simp(disch:=solve|omega|assumption|repeat(first|exact A1|exact uH|apply A2|apply uT)|(simp;try omega)|fail)[]))
 rename_i b
 refine A6q (r:=A03 (List.replicate n SlH.no)) (Hc := []) Part.nil (fun w _=> (fun s hs=> by rw [List.eq_of_mem_replicate hs]; trivial:B1x _ w)) (fun b hb=> ?_) ?_
 ·have hb':b ∈ A2b (List.replicate n SlH.no):=hb
  rw [A2b,List.mem_flatMap] at hb'
  obtain ⟨s,hs,hbs⟩:=hb'
  rw [List.eq_of_mem_replicate hs] at hbs; cases hbs
 ·refine B1 (b,.slice (some ⟨bs,0,none⟩) n n) rfl ?_
  simp only [J0,List.length_replicate,List.map_replicate]
  (repeat' constructor)
def B5l (c:CfgV):Array Value:=#[.int .i64 c.wk,.int .i64 c.sh,.int .i64 c.cp,.int .i64 c.idle,.int .i64 c.sl]
def E5 (c:CfgV) (pc ps pk tv pv now:Value):Array Value:=#[.int .i64 c.wk,.int .i64 c.sh,.int .i64 c.cp,.int .i64 c.idle,.int .i64 c.sl,pc,ps,pk,tv,pv,now]
def D2 (b:Nat) (c:CfgV) (pc ps pk tv pv now:Value):Res:=.pt b (.cells (E5 c pc ps pk tv pv now) 39)
theorem C8G (w:World) (b b1:Nat) (c:CfgV) (pc ps pk tv pv now:Value) (hw1:0 ≤ c.wk ∧ c.wk ≤ 64) (hs1:0 ≤ c.sh ∧ c.sh ≤ 16) (hb1:bl w b1 = some (.cells (B5l c) 23 (0,0))) (hne:b1 ≠ b) (hw:LW false [b] w [D2 b c pc ps pk tv pv now] w) :
  Fn PR B8 67 #[.pointer (some ⟨b,0,none⟩),.pointer (some ⟨b1,0,none⟩)] w (Rn [b] w (fun (x:Nat × Value × Value) u=> u = .tuple #[]) fun x=> D2 b c (.pointer (some ⟨x.1,0,none⟩)) ps pk tv pv now :: D8 x.1 0 x.2.1 x.2.2 (List.replicate (2 + c.wk.toNat) 0) (List.replicate c.sh.toNat (-1))):=by
 refine B7Q (TW.goH (κ:=false) (S := [b]) ?_ hw)
 unfold A8l
 have h0:w.cell? ⟨b1,0,none⟩ = some (.int .i64 c.wk):=by rw [E8 hb1]; rfl
 have h1:w.cell? ⟨b1,1,none⟩ = some (.int .i64 c.sh):=by rw [E8 hb1]; rfl
 obtain ⟨n,hn⟩:∃ n:Nat,c.wk = n:=⟨c.wk.toNat,by omega⟩
 obtain ⟨k,hk⟩:∃ k:Nat,c.sh = k:=⟨c.sh.toNat,by omega⟩
 rw [hn] at h0
 rw [hk] at h1
 simp only [D2,E5,hn,hk,Int.toNat_natCast]
 (have z:=trivial;repeat((first|clear z|with_reducible first|apply A3|refine A4 fun _=>?_|refine A5 fun _=>?_);try simp(disch:=solve|omega|assumption|repeat(first|exact A1|exact uH|apply A2|apply uT)|(simp;try omega)|fail)[h0,h1,hne]))
 rw [show (2 + (n:Int)) = ((2 + n:Nat):Int) by omega]
 refine H3 B9B (fun w' _=> C16 w' (2 + n) k (by omega) (by omega)) ?_
 rintro x v rfl
 simp only [D8]
 (have z:=trivial;repeat((first|clear z|with_reducible first|apply A3|refine A4 fun _=>?_|refine A5 fun _=>?_);try simp(disch:=solve|omega|assumption|repeat(first|exact A1|exact uH|apply A2|apply uT)|(simp;try omega)|fail)[]))
 exact B1 x rfl (by (repeat' constructor))
theorem C8p (w:World) (b b1:Nat) (c:CfgV) (pc ps pk tv pv now:Value) (hsl:0 ≤ c.sl ∧ c.sl ≤ 8) (hb1:bl w b1 = some (.cells (B5l c) 23 (0,0))) (hne:b1 ≠ b) (hw:LW false [b] w [D2 b c pc ps pk tv pv now] w) :
  Fn PR B8 69 #[.pointer (some ⟨b,0,none⟩),.pointer (some ⟨b1,0,none⟩)] w (Rn [b] w (fun (x:Nat × Value × Nat) u=> u = .tuple #[]) fun x=> D2 b c pc (.pointer (some ⟨x.1,0,none⟩)) (.pointer (some ⟨x.2.2,0,none⟩)) tv pv now :: B1n x.2.2 (List.replicate c.sl.toNat (0,0)) :: J0 x.1 x.2.1 (List.replicate c.sl.toNat SlH.no)):=by
 refine B66 (TW.goH (κ:=false) (S := [b]) ?_ hw)
 unfold A76
 have h0:w.cell? ⟨b1,4,none⟩ = some (.int .i64 c.sl):=by rw [E8 hb1]; rfl
 obtain ⟨n,hn⟩:∃ n:Nat,c.sl = n:=⟨c.sl.toNat,by omega⟩
 rw [hn] at h0
 simp only [D2,E5,hn,Int.toNat_natCast]
 (have z:=trivial;repeat((first|clear z|with_reducible first|apply A3|refine A4 fun _=>?_|refine A5 fun _=>?_);try simp(disch:=solve|omega|assumption|repeat(first|exact A1|exact uH|apply A2|apply uT)|(simp;try omega)|fail)[h0,hne]))
 refine H3 B9T (fun w' _=> D1Y w' n (by omega)) ?_
 rintro x v rfl
 simp only [J0]
 (have z:=trivial;repeat((first|clear z|with_reducible first|apply A3|refine A4 fun _=>?_|refine A5 fun _=>?_);try simp(disch:=solve|omega|assumption|repeat(first|exact A1|exact uH|apply A2|apply uT)|(simp;try omega)|fail)[h0,hne]))
 refine H3 B9N (fun w' _=> D1F w' n (by omega)) ?_
 rintro bk v rfl
 (have z:=trivial;repeat((first|clear z|with_reducible first|apply A3|refine A4 fun _=>?_|refine A5 fun _=>?_);try simp(disch:=solve|omega|assumption|repeat(first|exact A1|exact uH|apply A2|apply uT)|(simp;try omega)|fail)[]))
 refine B1 (x.1,x.2,bk) rfl ?_
 simp only [List.length_replicate,List.map_replicate]
 (repeat' constructor)
def A0V (l:List Nat):List Value:=l.map fun n:Nat=> .int .i64 (n:Int)
@[simp] theorem D8Z (l:List Nat):(A0V l).length = l.length:=by unfold A0V; rw [List.length_map]
theorem C75 (w:World) (b b1:Nat) (c:CfgV) (pc ps pk now:Value) (hs1:1 ≤ c.sh ∧ c.sh ≤ 16) (hc1:1 ≤ c.cp ∧ c.cp ≤ 64) (hb1:bl w b1 = some (.cells (B5l c) 23 (0,0))) (hne:b1 ≠ b) (hw:LW false [b] w [D2 b c pc ps pk (.slice none 0 0) (.slice none 0 0) now] w) :
  Fn PR B8 72 #[.pointer (some ⟨b,0,none⟩),.pointer (some ⟨b1,0,none⟩)] w (Rn [b] w (fun (x:Value × Value × List (Value × List EnV)) u=> u = .tuple #[] ∧ x.2.2.map (·.2) = List.replicate c.sh.toNat (newE c.cp.toNat)) fun x=> [D2 b c pc ps pk x.1 x.2.1 now,.own 84 1 x.1 x.2.2.length (x.2.2.map (·.1)),.own 3 1 x.2.1 x.2.2.length (A0V (List.replicate c.sh.toNat 0)),M9 x.2.2]):=by
 refine B6y (TW.goH (κ:=false) (S := [b]) ?_ hw)
 unfold A8W
 have h0:w.cell? ⟨b1,1,none⟩ = some (.int .i64 c.sh):=by rw [E8 hb1]; rfl
 have h1:w.cell? ⟨b1,2,none⟩ = some (.int .i64 c.cp):=by rw [E8 hb1]; rfl
 obtain ⟨n,hn⟩:∃ n:Nat,c.sh = n:=⟨c.sh.toNat,by omega⟩
 obtain ⟨k,hk⟩:∃ k:Nat,c.cp = k:=⟨c.cp.toNat,by omega⟩
 rw [hn] at h0
 rw [hk] at h1
 simp only [D2,E5,hn,hk,Int.toNat_natCast]
 (have z:=trivial;repeat((first|clear z|with_reducible first|apply A3|refine A4 fun _=>?_|refine A5 fun _=>?_);try simp(disch:=solve|omega|assumption|repeat(first|exact A1|exact uH|apply A2|apply uT)|(simp;try omega)|fail)[h0,h1,hne]))
 refine l7 84 1 ?_
 refine l7 3 1 ?_
 refine C1n ?_
 refine Sels.tw (rs := [.pt b (.cells #[.int .i64 c.wk,.int .i64 (n:Nat),.int .i64 (k:Nat),.int .i64 c.idle,.int .i64 c.sl,pc,ps,pk,.slice none 0 0,.slice none 0 0,now] 39),.own 84 1 (.slice none 0 0) 0 [],.own 3 1 (.slice none 0 0) 0 [],M9 []]) (by (repeat' constructor)) ?_
 refine B4H (α:=Option Addr × Nat × Option Addr × Nat × List (Value × List EnV)) n (fun i x=> [.pt b (.cells #[.int .i64 c.wk,.int .i64 (n:Nat),.int .i64 (k:Nat),.int .i64 c.idle,.int .i64 c.sl,pc,ps,pk,.slice x.1 i x.2.1,.slice x.2.2.1 i x.2.2.2.1,now] 39),.own 84 1 (.slice x.1 i x.2.1) i (x.2.2.2.2.map (·.1)),.own 3 1 (.slice x.2.2.1 i x.2.2.2.1) i (A0V (List.replicate i 0)),M9 x.2.2.2.2]) (fun i x=> x.2.2.2.2.length = i ∧ x.2.2.2.2.map (·.2) = List.replicate i (newE k)) (none,0,none,0,[]) ⟨rfl,rfl⟩ ?_
 ·rintro i ⟨ta,tc,pa,qc,ts⟩ hi ⟨hlen,hmap⟩ L hL
  simp only at hlen hmap ⊢
  by_cases hlt:i < n
  ·(have z:=trivial;repeat((first|clear z|with_reducible first|apply A3|refine A4 fun _=>?_|refine A5 fun _=>?_);try simp(disch:=solve|omega|assumption|repeat(first|exact A1|exact uH|apply A2|apply uT)|(simp;try omega)|fail)[h1,hne,hlt]))
   refine H3 B2F (fun w' _=> B5G w' k (by omega)) ?_
   intro y u hu
   subst hu
   refine U8 (e:=218) (k:=4) (v:=u) (q:=(newE k).length) (xs:=(newE k).flatMap F1) (by (repeat constructor)) fun ua uc hu=> ?_
   subst hu
   (have zz:=trivial;repeat((first|clear zz|with_reducible first|refine A3 ?_|refine A4 fun _=>?_|refine A5 fun _=>?_|refine D5 fun _=>?_|refine E0 (hK:=fun _=>?_)|refine D6 (hK:=fun _=>?_)|refine D4 (hK:=fun _=>?_)|refine D9 (hK:=fun _=>?_)|refine D7 (hK:=fun _=>?_));try simp(disch:=first|omega|assumption|((repeat(first|exact A1|exact uH|apply A2|apply uT));first|done|fail)|(simp;first|done|omega|fail))[h1,hne,hlt]))
   refine r9 (e:=84) (k:=1) (q:=i) (r:=1) (xs:=ts.map (·.1)) (news := [.slice ua (newE k).length uc]) (by (repeat constructor)) (M0.own (by (repeat constructor))) (by decide) (by simp [hlen]) (by simp) (by simp only [maxLen]; omega) (by omega) fun a' c' => ?_
   (have zz:=trivial;repeat((first|clear zz|with_reducible first|refine A3 ?_|refine A4 fun _=>?_|refine A5 fun _=>?_|refine D5 fun _=>?_|refine E0 (hK:=fun _=>?_)|refine D6 (hK:=fun _=>?_)|refine D4 (hK:=fun _=>?_)|refine D9 (hK:=fun _=>?_)|refine D7 (hK:=fun _=>?_));try simp(disch:=first|omega|assumption|((repeat(first|exact A1|exact uH|apply A2|apply uT));first|done|fail)|(simp;first|done|omega|fail))[h1,hne,hlt]))
   refine r9 (e:=3) (k:=1) (q:=i) (r:=1) (xs:=A0V (List.replicate i 0)) (news := [.int .i64 0]) (by (repeat constructor)) (M0.own (by (repeat constructor))) (by decide) (by simp) (by simp) (by simp only [maxLen]; omega) (by omega) fun a'' c'' => ?_
   (have z:=trivial;repeat((first|clear z|with_reducible first|apply A3|refine A4 fun _=>?_|refine A5 fun _=>?_);try simp(disch:=solve|omega|assumption|repeat(first|exact A1|exact uH|apply A2|apply uT)|(simp;try omega)|fail)[]))
   refine V3 (r:=.slice ua (newE k).length uc) (l:=newE k) (ts:=ts) (by (repeat' constructor)) ?_
   have h:=hL hlt (a',c',a'',c'',ts ++ [(.slice ua (newE k).length uc,newE k)]) ⟨by simp [hlen],by rw [List.map_append,hmap,List.replicate_succ']; rfl⟩
   have e:A0V (List.replicate (i + 1) 0) = A0V (List.replicate i 0) ++ [.int .i64 0]:=by rw [List.replicate_succ',A0V,List.map_append]; rfl
   simp only [List.map_append,List.map_cons,List.map_nil,e] at h
   exact Sels.tw (by (repeat' constructor)) h
  ·obtain rfl:i = n:=by omega
   (have z:=trivial;repeat((first|clear z|with_reducible first|apply A3|refine A4 fun _=>?_|refine A5 fun _=>?_);try simp(disch:=solve|omega|assumption|repeat(first|exact A1|exact uH|apply A2|apply uT)|(simp;try omega)|fail)[]))
   refine B1 (.slice ta i tc,.slice pa i qc,ts) ⟨rfl,hmap⟩ ?_
   simp only [hlen]
   (repeat' constructor)
structure WoH where
 b:Nat
 bc:Nat
 bs:Nat
 bk:Nat
 cn:Int
 cv:Value
 ov:Value
 sv:Value
 tv:Value
 pv:Value
 c:CfgV
 cells:List Int
 own:List Int
 ls:List SlH
 keep:List (Int × Int)
 ts:List (Value × List EnV)
 pl:List Nat
 now:Int
def C6 (m:WoH):List Res := [D2 m.b m.c (.pointer (some ⟨m.bc,0,none⟩)) (.pointer (some ⟨m.bs,0,none⟩)) (.pointer (some ⟨m.bk,0,none⟩)) m.tv m.pv (.int .i64 m.now),
 .pt m.bc (.cells #[.int .i64 m.cn,m.cv,m.ov] 141),.own 3 1 m.cv m.cells.length (F2 m.cells),.own 3 1 m.ov m.own.length (F2 m.own),
 .pt m.bs (.cells #[m.sv] 231),.own 266 1 m.sv m.ls.length (m.ls.map SlH.val),A03 m.ls,B1n m.bk m.keep,
 .own 84 1 m.tv m.ts.length (m.ts.map (·.1)),.own 3 1 m.pv m.pl.length (A0V m.pl)]
def WoH.ws (m:WoH):WS:=⟨m.c,m.cells,m.own,m.ls.map SlH.sp,m.keep,m.ts.map (·.2),m.pl,m.now⟩
def N2 (c:CfgV):WS:=⟨c,List.replicate (2 + c.wk.toNat) 0,List.replicate c.sh.toNat (-1),List.replicate c.sl.toNat .no,List.replicate c.sl.toNat (0,0),List.replicate c.sh.toNat (newE c.cp.toNat),List.replicate c.sh.toNat 0,0⟩
abbrev C93:=(Nat × Value × Value) × (Nat × Value × Nat) × (Value × Value × List (Value × List EnV))
def Z1:Value:=.pointer none
def M1:Value:=.slice none 0 0
def B4U (b:Nat) (c:CfgV):Nat → C93 → List Res
 | 0,x=> [D2 b c Z1 Z1 Z1 M1 M1 (.int .i64 0)]
 | 1,x=> D2 b c (.pointer (some ⟨x.1.1,0,none⟩)) Z1 Z1 M1 M1 (.int .i64 0) :: D8 x.1.1 0 x.1.2.1 x.1.2.2 (List.replicate (2 + c.wk.toNat) 0) (List.replicate c.sh.toNat (-1))
 | 2,x=> D2 b c (.pointer (some ⟨x.1.1,0,none⟩)) (.pointer (some ⟨x.2.1.1,0,none⟩)) (.pointer (some ⟨x.2.1.2.2,0,none⟩)) M1 M1 (.int .i64 0) :: (D8 x.1.1 0 x.1.2.1 x.1.2.2 (List.replicate (2 + c.wk.toNat) 0) (List.replicate c.sh.toNat (-1)) ++ B1n x.2.1.2.2 (List.replicate c.sl.toNat (0,0)) :: J0 x.2.1.1 x.2.1.2.1 (List.replicate c.sl.toNat SlH.no))
 | _,x=> D2 b c (.pointer (some ⟨x.1.1,0,none⟩)) (.pointer (some ⟨x.2.1.1,0,none⟩)) (.pointer (some ⟨x.2.1.2.2,0,none⟩)) x.2.2.1 x.2.2.2.1 (.int .i64 0) :: (D8 x.1.1 0 x.1.2.1 x.1.2.2 (List.replicate (2 + c.wk.toNat) 0) (List.replicate c.sh.toNat (-1)) ++ B1n x.2.1.2.2 (List.replicate c.sl.toNat (0,0)) :: (J0 x.2.1.1 x.2.1.2.1 (List.replicate c.sl.toNat SlH.no) ++ [.own 84 1 x.2.2.1 x.2.2.2.2.length (x.2.2.2.2.map (·.1)),.own 3 1 x.2.2.2.1 x.2.2.2.2.length (A0V (List.replicate c.sh.toNat 0)),M9 x.2.2.2.2]))
theorem C9M (w:World) (b1:Nat) (c:CfgV) (pv:Value) (hok:Q8 c = true) (hb1:bl w b1 = some (.cells (B5l c) 23 (0,0)))
  (hv:F5 w pv 3 [.func (.func 67) #[] #[.pointer (some ⟨b1,0,none⟩)],.func (.func 69) #[] #[.pointer (some ⟨b1,0,none⟩)],.func (.func 72) #[] #[.pointer (some ⟨b1,0,none⟩)]]) :
  Fn PR B8 66 #[c.val,pv] w (Rn [] w (fun (y:WoH) u=> u = .pointer (some ⟨y.b,0,none⟩) ∧ y.c = c ∧ y.ws = N2 c) fun y=> C6 y ++ [M9 y.ts]):=by
 refine B9e (TW.go (κ:=false) (S := []) ?_)
 unfold B15
 have hb:(1 ≤ c.wk ∧ c.wk ≤ 64) ∧ (1 ≤ c.sh ∧ c.sh ≤ 16) ∧ (1 ≤ c.cp ∧ c.cp ≤ 64) ∧ (2 ≤ c.sl ∧ c.sl ≤ 8):=by
  simp [Q8,k9] at hok; omega
 obtain ⟨a,cap,rfl,hr⟩:=hv.form
 obtain ⟨g,o,rfl,hrow⟩:=hr (by omega)
 simp only [CfgV.val]
 (have z:=trivial;repeat((first|clear z|with_reducible first|apply A3|refine A4 fun _=>?_|refine A5 fun _=>?_);try simp(disch:=solve|omega|assumption|repeat(first|exact A1|exact uH|apply A2|apply uT)|(simp;try omega)|fail)[]))
 rename_i b2 b
 refine B4H (α:=C93) 3 (fun i x=> B4U b c i x ++ [.pt b2 (.cells (B5l c) 23)]) (fun i x=> i = 3 → x.2.2.2.2.map (·.2) = List.replicate c.sh.toNat (newE c.cp.toNat)) ((0,Z1,Z1),(0,Z1,0),(Z1,Z1,[])) (by omega) ?_ (by simp [B4U,D2,E5,B5l,Z1,M1])
 have r0:w.cell? ⟨g,o,none⟩ = some (.func (.func 67) #[] #[.pointer (some ⟨b1,0,none⟩)]):=hrow 0 (by simp)
 have r1:w.cell? ⟨g,o + 1,none⟩ = some (.func (.func 69) #[] #[.pointer (some ⟨b1,0,none⟩)]):=hrow 1 (by simp)
 have r2:w.cell? ⟨g,o + 2,none⟩ = some (.func (.func 72) #[] #[.pointer (some ⟨b1,0,none⟩)]):=hrow 2 (by simp)
 have hne:∀ {w':World} {A:List Res},LW false [] w A w' → ∀ pc ps pk tv pv now,D2 b c pc ps pk tv pv now ∈ A → b1 ≠ b:=fun {w' A} hw' pc ps pk tv pv now hm e=> by
  have:=(hw'.own _ hm b (by simp [D2,Res.foot])).1
  have h1:=M2 hb1
  rcases this with h | h
  ·cases h
  ·omega
 have hbb:∀ w',KS false [] w w' → bl w' b1 = some (.cells (B5l c) 23 (0,0)):=fun w' hk=> hk.2.1 _ _ (by simp) rfl hb1
 rintro i ⟨⟨bc,cv,ov⟩,⟨bs,sv,bk⟩,⟨tv,pv',ts⟩⟩ hi hφ L hL
 have hi4:i = 0 ∨ i = 1 ∨ i = 2 ∨ i = 3:=by omega
 rcases hi4 with rfl | rfl | rfl | rfl
 ·simp only [B4U,List.cons_append,List.nil_append,D8] at hL ⊢
  (have z:=trivial;repeat((first|clear z|with_reducible first|apply A3|refine A4 fun _=>?_|refine A5 fun _=>?_);try simp(disch:=solve|omega|assumption|repeat(first|exact A1|exact uH|apply A2|apply uT)|(simp;try omega)|fail)[r0]))
  refine C8 (Hc := [D2 b c Z1 Z1 Z1 M1 M1 (.int .i64 0)]) B5b (fun w' hw' hs=> C8G w' b b1 c _ _ _ _ _ _ (by omega) (by omega) (hbb w' hw'.ks) (hne hw' _ _ _ _ _ _ (List.mem_cons_self ..)) hs) (by (repeat' constructor)) ?_
  rintro x v rfl
  simp only [D8,List.cons_append,List.nil_append]
  (have z:=trivial;repeat((first|clear z|with_reducible first|apply A3|refine A4 fun _=>?_|refine A5 fun _=>?_);try simp(disch:=solve|omega|assumption|repeat(first|exact A1|exact uH|apply A2|apply uT)|(simp;try omega)|fail)[]))
  have h:=hL (by omega) (x,(0,Z1,0),(Z1,Z1,[])) (by omega)
  simp only [List.length_replicate,List.map_replicate] at h ⊢
  exact Sels.tw (by (repeat' constructor)) h
 ·simp only [B4U,List.cons_append,List.nil_append,D8,J0] at hL ⊢
  (have z:=trivial;repeat((first|clear z|with_reducible first|apply A3|refine A4 fun _=>?_|refine A5 fun _=>?_);try simp(disch:=solve|omega|assumption|repeat(first|exact A1|exact uH|apply A2|apply uT)|(simp;try omega)|fail)[r1]))
  refine C8 (Hc := [D2 b c (.pointer (some ⟨bc,0,none⟩)) Z1 Z1 M1 M1 (.int .i64 0)]) B5r (fun w' hw' hs=> C8p w' b b1 c _ _ _ _ _ _ (by omega) (hbb w' hw'.ks) (hne hw' _ _ _ _ _ _ (List.mem_cons_self ..)) hs) (by (repeat' constructor)) ?_
  rintro x v rfl
  simp only [J0,List.cons_append,List.nil_append]
  (have z:=trivial;repeat((first|clear z|with_reducible first|apply A3|refine A4 fun _=>?_|refine A5 fun _=>?_);try simp(disch:=solve|omega|assumption|repeat(first|exact A1|exact uH|apply A2|apply uT)|(simp;try omega)|fail)[]))
  have h:=hL (by omega) ((bc,cv,ov),x,(Z1,Z1,[])) (by omega)
  simp only [List.length_replicate,List.map_replicate] at h ⊢
  exact Sels.tw (by (repeat' constructor)) h
 ·simp only [B4U,List.cons_append,List.nil_append,D8,J0] at hL ⊢
  (have z:=trivial;repeat((first|clear z|with_reducible first|apply A3|refine A4 fun _=>?_|refine A5 fun _=>?_);try simp(disch:=solve|omega|assumption|repeat(first|exact A1|exact uH|apply A2|apply uT)|(simp;try omega)|fail)[r2]))
  refine C8 (Hc := [D2 b c (.pointer (some ⟨bc,0,none⟩)) (.pointer (some ⟨bs,0,none⟩)) (.pointer (some ⟨bk,0,none⟩)) M1 M1 (.int .i64 0)]) B59 (fun w' hw' hs=> C75 w' b b1 c _ _ _ _ (by omega) (by omega) (hbb w' hw'.ks) (hne hw' _ _ _ _ _ _ (List.mem_cons_self ..)) hs) (by (repeat' constructor)) ?_
  rintro x v ⟨rfl,hx⟩
  simp only [List.cons_append,List.nil_append]
  (have z:=trivial;repeat((first|clear z|with_reducible first|apply A3|refine A4 fun _=>?_|refine A5 fun _=>?_);try simp(disch:=solve|omega|assumption|repeat(first|exact A1|exact uH|apply A2|apply uT)|(simp;try omega)|fail)[]))
  have h:=hL (by omega) ((bc,cv,ov),(bs,sv,bk),x) (fun _=> hx)
  simp only [List.length_replicate,List.map_replicate] at h ⊢
  exact Sels.tw (by (repeat' constructor)) h
 ·have ht:=hφ rfl
  simp only [B4U,List.cons_append,List.nil_append,D8,J0] at ht ⊢
  have hlen:ts.length = c.sh.toNat:=by
   have:=congrArg List.length ht
   simpa using this
  (have z:=trivial;repeat((first|clear z|with_reducible first|apply A3|refine A4 fun _=>?_|refine A5 fun _=>?_);try simp(disch:=solve|omega|assumption|repeat(first|exact A1|exact uH|apply A2|apply uT)|(simp;try omega)|fail)[]))
  refine B1 ⟨b,bc,bs,bk,0,cv,ov,sv,tv,pv',c,List.replicate (2 + c.wk.toNat) 0,List.replicate c.sh.toNat (-1),List.replicate c.sl.toNat SlH.no,List.replicate c.sl.toNat (0,0),ts,List.replicate c.sh.toNat 0,0⟩ ⟨rfl,rfl,by simp [WoH.ws,N2,ht,SlH.sp]⟩ ?_
  simp only [C6,List.cons_append,List.nil_append,List.length_replicate,List.map_replicate,hlen]
  (repeat' constructor)
theorem C22 (w:World) (c:CfgV):Fn PR B8 16 #[c.val] w (Rn [] w (fun (y:WoH) u=> if Q8 c then u = .tuple #[.pointer (some ⟨y.b,0,none⟩),.int .i64 0] ∧ y.c = c ∧ y.ws = N2 c else u = .tuple #[.pointer none,.int .i64 1]) fun y=> if Q8 c then C6 y ++ [M9 y.ts] else []):=by
 refine C1J (TW.go (κ:=false) (S := []) ?_)
 unfold B26
 simp only [CfgV.val]
 (have z:=trivial;repeat((first|clear z|with_reducible first|apply A3|refine A4 fun _=>?_|refine A5 fun _=>?_);try simp(disch:=solve|omega|assumption|repeat(first|exact A1|exact uH|apply A2|apply uT)|(simp;try omega)|fail)[]))
 rename_i b1
 refine B7 B6g (fun w' _=> C7n w' c) ?_
 cases hok:Q8 c with
 | false=>
  (have z:=trivial;repeat((first|clear z|with_reducible first|apply A3|refine A4 fun _=>?_|refine A5 fun _=>?_);try simp(disch:=solve|omega|assumption|repeat(first|exact A1|exact uH|apply A2|apply uT)|(simp;try omega)|fail)[]))
  exact B1 ⟨0,0,0,0,0,Z1,Z1,Z1,Z1,Z1,c,[],[],[],[],[],[],0⟩ (by simp) Sels.nil
 | true=>
  (have zz:=trivial;repeat((first|clear zz|with_reducible first|refine A3 ?_|refine A4 fun _=>?_|refine A5 fun _=>?_|refine D5 fun _=>?_|refine E0 (hK:=fun _=>?_)|refine D6 (hK:=fun _=>?_)|refine D4 (hK:=fun _=>?_)|refine D9 (hK:=fun _=>?_)|refine D7 (hK:=fun _=>?_));try simp(disch:=first|omega|assumption|((repeat(first|exact A1|exact uH|apply A2|apply uT));first|done|fail)|(simp;first|done|omega|fail))[]))
  rename_i g
  refine H3 B8S (fun w' hw' => C9M w' b1 c _ hok (hw'.pt (by (repeat constructor))) (M0.own (e:=124) (k:=1) (by (repeat constructor)) w' hw')) ?_
  rintro y v ⟨rfl,hy⟩
  (have z:=trivial;repeat((first|clear z|with_reducible first|apply A3|refine A4 fun _=>?_|refine A5 fun _=>?_);try simp(disch:=solve|omega|assumption|repeat(first|exact A1|exact uH|apply A2|apply uT)|(simp;try omega)|fail)[]))
  refine B1 y ⟨rfl,hy⟩ ?_
  simp only [C6,List.cons_append,List.nil_append]
  (repeat' constructor)
theorem A6C (w:World) (b:Nat) (c:CfgV) (pc ps pk tv pv now:Value) (who:Int) (hwk:c.wk ≤ 64) (hb:bl w b = some (.cells (E5 c pc ps pk tv pv now) 39 (0,0))) :
  Fn PR B8 57 #[.pointer (some ⟨b,0,none⟩),.int .i64 who] w (fun u w' => u = .int .i64 (G5 c who) ∧ C7 [] w w'):=by
 refine Fn.pure (B3a (TW.go (κ:=false) (S := []) ?_))
 unfold A5E
 have h0:w.cell? ⟨b,0,none⟩ = some (.int .i64 c.wk):=by rw [E8 hb]; rfl
 unfold G5
 by_cases c1:who < 1
 ·rw [if_pos (Or.inl c1)]
  (have z:=trivial;repeat((first|clear z|with_reducible first|apply A3|refine A4 fun _=>?_|refine A5 fun _=>?_);try simp(disch:=solve|omega|assumption|repeat(first|exact A1|exact uH|apply A2|apply uT)|(simp;try omega)|fail)[c1]))
  exact A9 rfl
 by_cases c2:c.wk < who
 ·rw [if_pos (Or.inr c2)]
  (have z:=trivial;repeat((first|clear z|with_reducible first|apply A3|refine A4 fun _=>?_|refine A5 fun _=>?_);try simp(disch:=solve|omega|assumption|repeat(first|exact A1|exact uH|apply A2|apply uT)|(simp;try omega)|fail)[c1,c2,h0]))
  exact A9 rfl
 rw [if_neg (by omega)]
 (have z:=trivial;repeat((first|clear z|with_reducible first|apply A3|refine A4 fun _=>?_|refine A5 fun _=>?_);try simp(disch:=solve|omega|assumption|repeat(first|exact A1|exact uH|apply A2|apply uT)|(simp;try omega)|fail)[c1,c2,h0]))
 exact A9 (by congr 1; omega)
abbrev U5:=SlV × Option Addr × Nat × Nat
def rsP (x:U5):Value:=.slice x.2.1 x.2.2.1 x.2.2.2
def V0 (x:U5):List Value:=match x.1 with
 | .no=> [.int .i64 0,.slice none 0 0]
 | .bld=> [.int .i64 1,.slice none 0 0]
 | .rdy _=> [.int .i64 2,rsP x]
theorem A0L (x:U5):(V0 x).length = 2:=by unfold V0; split <;> rfl
def noR:U5:=(.no,none,0,0)
def kpC (x:Int × Int):List Value := [.int .i64 x.1,.int .i64 x.2]
structure XH where
 b:Nat
 piv:Value
 lov:Value
 slv:Value
 kev:Value
 tav:Value
 plv:Value
 c:CfgV
 ep:Int
 cur:Int
 pins:List Int
 locks:List Int
 sl:List U5
 keep:List (Int × Int)
 ts:List (Value × List EnV)
 pl:List Nat
 now:Int
def F4 (c:CfgV) (ep cur:Int) (piv lov slv kev tav plv:Value) (now:Int):Array Value:=#[.int .i64 c.wk,.int .i64 c.sh,.int .i64 c.cp,.int .i64 c.idle,.int .i64 c.sl,.int .i64 ep,.int .i64 cur,piv,lov,slv,kev,tav,plv,.int .i64 now]
def G2 (b:Nat) (c:CfgV) (ep cur:Int) (piv lov slv kev tav plv:Value) (now:Int):Res:=.pt b (.cells (F4 c ep cur piv lov slv kev tav plv now) 106)
def G0 (x:XH):List Res := [G2 x.b x.c x.ep x.cur x.piv x.lov x.slv x.kev x.tav x.plv x.now,.own 3 1 x.piv x.pins.length (F2 x.pins),.own 3 1 x.lov x.locks.length (F2 x.locks),
 .own 270 2 x.slv x.sl.length (x.sl.flatMap V0),.own 277 2 x.kev x.keep.length (x.keep.flatMap kpC),.own 84 1 x.tav x.ts.length (x.ts.map (·.1)),.own 3 1 x.plv x.pl.length (A0V x.pl)]
theorem D0Y {α:Type} (v:Value) (a b:Value) (x:α) (f:α → List Value) (hv:v.cells = #[a,b]) (hf:f x = [a,b]) (hl:∀ y,(f y).length = 2) (n:Nat):(Builtin.zeroCells v.cells n).toList = (List.replicate n x).flatMap f:=by
 have h2:v.cells.size = 2:=by rw [hv]; rfl
 have hz:(Builtin.zeroCells v.cells n).toList.length = n * 2:=by simp [size_zeroCells,h2]
 have hr:((List.replicate n x).flatMap f).length = n * 2:=by rw [T2 (k:=2) hl]; simp
 apply List.ext_getElem (by rw [hz,hr])
 intro i h1 h3
 rw [hz] at h1
 have hg:=l0 (f:=f) (k:=2) hl (List.replicate n x) (i / 2) (i % 2) (by omega)
 rw [show i / 2 * 2 + i % 2 = i by omega,List.getElem?_eq_getElem h3,List.getElem?_replicate_of_lt (by omega)] at hg
 have e:(Builtin.zeroCells v.cells n).toList[i]'(by rw [hz]; exact h1) = v.cells[i % 2]! := by
  simp [Builtin.zeroCells,h2]
 rw [e,hv]
 have h4:i % 2 = 0 ∨ i % 2 = 1:=by omega
 rcases h4 with h4 | h4 <;> (rw [h4] at hg ⊢; simp [hf] at hg ⊢; exact hg.symm)
theorem D0l (n:Nat):(Builtin.zeroCells (Value.agg #[.int .i64 0,.slice none 0 0]).cells n).toList = (List.replicate n noR).flatMap V0:=D0Y _ _ _ noR V0 rfl rfl A0L n
theorem D0j (n:Nat):(Builtin.zeroCells (Value.agg #[.int .i64 0,.int .i64 0]).cells n).toList = (List.replicate n ((0,0):Int × Int)).flatMap kpC:=D0Y _ _ _ _ kpC rfl rfl (fun _=> rfl) n
theorem C8C (w:World) (n:Nat) (hn:n ≤ 8):Fn PR B8 91 #[.int .i64 (n:Int)] w (Rn [] w (fun r u=> u = r) fun r=> [.own 270 2 r (List.replicate n noR).length ((List.replicate n noR).flatMap V0)]):=by
 refine B0T (TW.go (κ:=false) (S := []) ?_)
 unfold A2n
 have e:max 0 (min (n:Int) 8) = (n:Int):=by omega
 (have z:=trivial;repeat((first|clear z|with_reducible first|apply A3|refine A4 fun _=>?_|refine A5 fun _=>?_);try simp(disch:=solve|omega|assumption|repeat(first|exact A1|exact uH|apply A2|apply uT)|(simp;try omega)|fail)[]))
 rw [e]
 refine A1m (by omega) (by omega) (by omega) (by omega) fun b=> ?_
 rw [Int.toNat_natCast,D0l]
 refine B1 _ rfl ?_
 simp only [List.length_replicate]
 (repeat' constructor)
theorem C9x (w:World) (n:Nat) (hn:n ≤ 8):Fn PR B8 92 #[.int .i64 (n:Int)] w (Rn [] w (fun r u=> u = r) fun r=> [.own 277 2 r (List.replicate n ((0,0):Int × Int)).length ((List.replicate n ((0,0):Int × Int)).flatMap kpC)]):=by
 refine B0p (TW.go (κ:=false) (S := []) ?_)
 unfold A22
 have e:max 0 (min (n:Int) 8) = (n:Int):=by omega
 (have z:=trivial;repeat((first|clear z|with_reducible first|apply A3|refine A4 fun _=>?_|refine A5 fun _=>?_);try simp(disch:=solve|omega|assumption|repeat(first|exact A1|exact uH|apply A2|apply uT)|(simp;try omega)|fail)[]))
 rw [e]
 refine A1m (by omega) (by omega) (by omega) (by omega) fun b=> ?_
 rw [Int.toNat_natCast,D0j]
 refine B1 _ rfl ?_
 simp only [List.length_replicate]
 (repeat' constructor)
theorem C1k (n:Nat):(Builtin.zeroCells (Value.int .i64 0).cells n).toList = F2 (List.replicate n 0):=by
 rw [C3M]; simp [C30,F2]
theorem C02 (n:Nat):(Builtin.zeroCells (Value.int .i64 0).cells n).toList = A0V (List.replicate n 0):=C3M n
def C4u (b b1 bp bs wn n k sn:Nat) (idle:Int) (lov tav:Value):List Res := [.pt b (.cells #[.int .i64 wn,.int .i64 n,.int .i64 k,.int .i64 idle,.int .i64 sn,.int .i64 0,.int .i64 0,.slice (some ⟨bp,0,none⟩) (wn + 1) (wn + 1),lov,.slice none 0 0,.slice none 0 0,tav,.slice (some ⟨bs,0,none⟩) n n,.int .i64 0] 106),
 .own 3 1 (.slice (some ⟨bp,0,none⟩) (wn + 1) (wn + 1)) (wn + 1) (F2 (List.replicate (wn + 1) 0)),.own 3 1 (.slice (some ⟨bs,0,none⟩) n n) n (A0V (List.replicate n 0)),
 .pt b1 (.cells #[.int .i64 wn,.int .i64 n,.int .i64 k,.int .i64 idle,.int .i64 sn] 23)]
set_option maxHeartbeats 1000000 in
theorem C78 (w:World) (c:CfgV) (hok:Q8 c = true):Fn PR B8 42 #[c.val] w (Rn [] w (fun (x:XH) u=> u = .pointer (some ⟨x.b,0,none⟩) ∧ x.c = c ∧ x.ep = 0 ∧ x.cur = 0 ∧ x.pins = List.replicate (c.wk.toNat + 1) 0 ∧ x.locks = List.replicate c.sh.toNat (-1) ∧ x.sl = List.replicate c.sl.toNat noR ∧ x.keep = List.replicate c.sl.toNat (0,0) ∧ x.ts.map (·.2) = List.replicate c.sh.toNat (newE c.cp.toNat) ∧ x.pl = List.replicate c.sh.toNat 0 ∧ x.now = 0)
  fun x=> M9 x.ts :: G0 x):=by
 refine B0A (TW.go (κ:=false) (S := []) ?_)
 unfold A3B
 simp only [CfgV.val]
 obtain ⟨cwk,csh,ccp,cid,csl⟩:=c
 have hb:(1 ≤ cwk ∧ cwk ≤ 64) ∧ (1 ≤ csh ∧ csh ≤ 16) ∧ (1 ≤ ccp ∧ ccp ≤ 64) ∧ 0 ≤ csl ∧ csl ≤ 8:=by
  simp [Q8,k9] at hok; omega
 simp only
 obtain ⟨wn,rfl⟩:∃ n:Nat,cwk = n:=⟨cwk.toNat,by omega⟩
 obtain ⟨n,rfl⟩:∃ n:Nat,csh = n:=⟨csh.toNat,by omega⟩
 obtain ⟨k,rfl⟩:∃ n:Nat,ccp = n:=⟨ccp.toNat,by omega⟩
 obtain ⟨sn,rfl⟩:∃ n:Nat,csl = n:=⟨csl.toNat,by omega⟩
 have e1:((wn:Nat):Int) + 1 = ((wn + 1:Nat):Int):=by omega
 (have z:=trivial;repeat((first|clear z|with_reducible first|apply A3|refine A4 fun _=>?_|refine A5 fun _=>?_);try simp(disch:=solve|omega|assumption|repeat(first|exact A1|exact uH|apply A2|apply uT)|(simp;try omega)|fail)[]))
 rename_i b1
 refine D0d (α:=Nat × Nat × Nat) (fun _=> True) (fun y=> C4u y.1 b1 y.2.1 y.2.2 wn n k sn cid (.slice none 0 0) (.slice none 0 0)) (fun y=> .pointer (some ⟨y.1,0,none⟩)) ?_ ?_
 ·rintro ⟨bm,bp,bs⟩ _
  simp only [C4u]
  (have z:=trivial;repeat((first|clear z|with_reducible first|apply A3|refine A4 fun _=>?_|refine A5 fun _=>?_);try simp(disch:=solve|omega|assumption|repeat(first|exact A1|exact uH|apply A2|apply uT)|(simp;try omega)|fail)[]))
  refine l7 3 1 ?_
  refine C1n ?_
  refine l7 84 1 ?_
  refine B4H n (fun i (y:(List (Value × List EnV) × Option Addr × Nat) × Option Addr × Nat)=> [.own 84 1 (.slice y.1.2.1 i y.1.2.2) i (y.1.1.map (·.1)),M9 y.1.1,.own 3 1 (.slice y.2.1 i y.2.2) i (F2 (List.replicate i (-1))),
   .pt bm (.cells #[.int .i64 wn,.int .i64 n,.int .i64 k,.int .i64 cid,.int .i64 sn,.int .i64 0,.int .i64 0,.slice (some ⟨bp,0,none⟩) (wn + 1) (wn + 1),.slice y.2.1 i y.2.2,.slice none 0 0,.slice none 0 0,.slice y.1.2.1 i y.1.2.2,.slice (some ⟨bs,0,none⟩) n n,.int .i64 0] 106),
   .own 3 1 (.slice (some ⟨bp,0,none⟩) (wn + 1) (wn + 1)) (wn + 1) (F2 (List.replicate (wn + 1) 0)),.own 3 1 (.slice (some ⟨bs,0,none⟩) n n) n (A0V (List.replicate n 0)),
   .pt b1 (.cells #[.int .i64 wn,.int .i64 n,.int .i64 k,.int .i64 cid,.int .i64 sn] 23)]) (fun i y=> y.1.1.length = i ∧ y.1.1.map (·.2) = List.replicate i (newE k)) (([],none,0),none,0) ⟨rfl,rfl⟩ ?_
  ·rintro i ⟨⟨ts,ya,yc⟩,la,lc⟩ hi ⟨hlen,hmap⟩ L hL
   simp only at hlen hmap ⊢
   obtain ⟨lz,hlz⟩:∃ z,z = F2 (List.replicate i (-1)):=⟨_,rfl⟩
   rw [← hlz]
   by_cases hlt:i < n
   ·have hlt':((i:Nat):Int) < (n:Nat):=by omega
    (have zz:=trivial;repeat((first|clear zz|with_reducible first|refine A3 ?_|refine A4 fun _=>?_|refine A5 fun _=>?_|refine D5 fun _=>?_|refine E0 (hK:=fun _=>?_)|refine D6 (hK:=fun _=>?_)|refine D4 (hK:=fun _=>?_)|refine D9 (hK:=fun _=>?_)|refine D7 (hK:=fun _=>?_));try simp(disch:=first|omega|assumption|((repeat(first|exact A1|exact uH|apply A2|apply uT));first|done|fail)|(simp;first|done|omega|fail))[hlt,hlt']))
    refine r9 (e:=3) (k:=1) (q:=i) (r:=1) (xs:=lz) (news := [.int .i64 (-1)]) (by (repeat constructor)) (M0.own (by (repeat constructor))) (by decide) (by simp) (by simp) (by simp only [maxLen]; omega) (by omega) fun a1 c1=> ?_
    (have z:=trivial;repeat((first|clear z|with_reducible first|apply A3|refine A4 fun _=>?_|refine A5 fun _=>?_);try simp(disch:=solve|omega|assumption|repeat(first|exact A1|exact uH|apply A2|apply uT)|(simp;try omega)|fail)[]))
    refine H3 A11 (fun w' _=> C0w w' k (by omega)) ?_
    intro y u hu
    subst hu
    refine U8 (e:=218) (k:=4) (v:=u) (q:=(newE k).length) (xs:=(newE k).flatMap F1) (by (repeat constructor)) fun ua uc hu=> ?_
    subst hu
    (have zz:=trivial;repeat((first|clear zz|with_reducible first|refine A3 ?_|refine A4 fun _=>?_|refine A5 fun _=>?_|refine D5 fun _=>?_|refine E0 (hK:=fun _=>?_)|refine D6 (hK:=fun _=>?_)|refine D4 (hK:=fun _=>?_)|refine D9 (hK:=fun _=>?_)|refine D7 (hK:=fun _=>?_));try simp(disch:=first|omega|assumption|((repeat(first|exact A1|exact uH|apply A2|apply uT));first|done|fail)|(simp;first|done|omega|fail))[]))
    refine r9 (e:=84) (k:=1) (q:=i) (r:=1) (xs:=ts.map (·.1)) (news := [.slice ua (newE k).length uc]) (by (repeat constructor)) (M0.own (by (repeat constructor))) (by decide) rfl (by simp) (by simp only [maxLen]; omega) (by omega) fun a' c' => ?_
    (have z:=trivial;repeat((first|clear z|with_reducible first|apply A3|refine A4 fun _=>?_|refine A5 fun _=>?_);try simp(disch:=solve|omega|assumption|repeat(first|exact A1|exact uH|apply A2|apply uT)|(simp;try omega)|fail)[]))
    refine V3 (r:=.slice ua (newE k).length uc) (l:=newE k) (ts:=ts) (by (repeat' constructor)) ?_
    have h:=hL hlt ((ts ++ [(.slice ua (newE k).length uc,newE k)],a',c'),a1,c1) ⟨by simp [hlen],by rw [List.map_append,hmap,List.replicate_succ']; rfl⟩
    have hz:lz ++ [Value.int .i64 (-1)] = F2 (List.replicate (i + 1) (-1)):=by rw [hlz,List.replicate_succ']; simp [F2]
    simp only [List.map_append,List.map_cons,List.map_nil] at h
    rw [← hz] at h
    exact Sels.tw (by (repeat' constructor)) h
   ·obtain rfl:i = n:=by omega
    (have z:=trivial;repeat((first|clear z|with_reducible first|apply A3|refine A4 fun _=>?_|refine A5 fun _=>?_);try simp(disch:=solve|omega|assumption|repeat(first|exact A1|exact uH|apply A2|apply uT)|(simp;try omega)|fail)[Int.lt_irrefl]))
    refine H3 A9k (fun w' _=> C8C w' sn (by omega)) ?_
    rintro _ slv rfl
    refine U8 (e:=270) (k:=2) (v:=slv) (q:=(List.replicate sn noR).length) (xs:=(List.replicate sn noR).flatMap V0) (by (repeat constructor)) fun sa sc hu=> ?_
    subst hu
    (have z:=trivial;repeat((first|clear z|with_reducible first|apply A3|refine A4 fun _=>?_|refine A5 fun _=>?_);try simp(disch:=solve|omega|assumption|repeat(first|exact A1|exact uH|apply A2|apply uT)|(simp;try omega)|fail)[]))
    refine H3 A8z (fun w' _=> C9x w' sn (by omega)) ?_
    rintro _ kev rfl
    refine U8 (e:=277) (k:=2) (v:=kev) (q:=(List.replicate sn ((0,0):Int × Int)).length) (xs:=(List.replicate sn ((0,0):Int × Int)).flatMap kpC) (by (repeat constructor)) fun ka kc hu=> ?_
    subst hu
    (have z:=trivial;repeat((first|clear z|with_reducible first|apply A3|refine A4 fun _=>?_|refine A5 fun _=>?_);try simp(disch:=solve|omega|assumption|repeat(first|exact A1|exact uH|apply A2|apply uT)|(simp;try omega)|fail)[]))
    refine B1 ⟨bm,.slice (some ⟨bp,0,none⟩) (wn + 1) (wn + 1),.slice la i lc,.slice sa (List.replicate sn noR).length sc,.slice ka (List.replicate sn ((0,0):Int × Int)).length kc,.slice ya i yc,.slice (some ⟨bs,0,none⟩) i i,⟨wn,i,k,cid,sn⟩,0,0,List.replicate (wn + 1) 0,List.replicate i (-1),List.replicate sn noR,List.replicate sn (0,0),ts,List.replicate i 0,0⟩ ⟨rfl,rfl,rfl,rfl,rfl,rfl,rfl,rfl,hmap,rfl,rfl⟩ ?_
    simp only [G0,G2,F4,hlen,List.length_replicate,← hlz]
    (repeat' constructor)
 ·intro J hJ
  have e2:Int.toNat ((wn:Nat) + 1:Int) = wn + 1:=by omega
  (have z:=trivial;repeat((first|clear z|with_reducible first|apply A3|refine A4 fun _=>?_|refine A5 fun _=>?_);try simp(disch:=solve|omega|assumption|repeat(first|exact A1|exact uH|apply A2|apply uT)|(simp;try omega)|fail)[]))
  refine ⟨?_,?_,fun _ _=> trivial⟩
  ·refine A1m (by omega) (by omega) (by omega) (by omega) fun bp=> ?_
   rw [e2,C1k]
   (have z:=trivial;repeat((first|clear z|with_reducible first|apply A3|refine A4 fun _=>?_|refine A5 fun _=>?_);try simp(disch:=solve|omega|assumption|repeat(first|exact A1|exact uH|apply A2|apply uT)|(simp;try omega)|fail)[]))
   rw [A4L (by (repeat constructor)) (by rfl)]
   refine A1m (by omega) (by omega) (by omega) (by omega) fun bs=> ?_
   rw [Int.toNat_natCast,C02,A4L (by (repeat constructor)) (by rfl)]
   (have z:=trivial;repeat((first|clear z|with_reducible first|apply A3|refine A4 fun _=>?_|refine A5 fun _=>?_);try simp(disch:=solve|omega|assumption|repeat(first|exact A1|exact uH|apply A2|apply uT)|(simp;try omega)|fail)[]))
   rename_i bm
   exact Sels.tw (by simp only [C4u]; (repeat' constructor)) (hJ (bm,bp,bs) trivial)
  ·refine A1m (by omega) (by omega) (by omega) (by omega) fun bs=> ?_
   rw [Int.toNat_natCast,C02]
   (have z:=trivial;repeat((first|clear z|with_reducible first|apply A3|refine A4 fun _=>?_|refine A5 fun _=>?_);try simp(disch:=solve|omega|assumption|repeat(first|exact A1|exact uH|apply A2|apply uT)|(simp;try omega)|fail)[]))
   rw [A4L (by (repeat constructor)) (by rfl)]
   rw [N3 (by omega) (by omega)]
   refine A1m (by omega) (by omega) (by omega) (by omega) fun bp=> ?_
   rw [e2,C1k,A4L (by (repeat constructor)) (by rfl)]
   (have z:=trivial;repeat((first|clear z|with_reducible first|apply A3|refine A4 fun _=>?_|refine A5 fun _=>?_);try simp(disch:=solve|omega|assumption|repeat(first|exact A1|exact uH|apply A2|apply uT)|(simp;try omega)|fail)[]))
   rename_i bm
   exact Sels.tw (by simp only [C4u]; (repeat' constructor)) (hJ (bm,bp,bs) trivial)
abbrev rsV (l:List U5):List SlV:=l.map (·.1)
def l2 (n:Nat) (i:Int):Bool:=decide (0 ≤ i) && decide (i < n)
def A1D (l:List U5) (i:Int) (x:U5):List U5:=if 0 ≤ i ∧ i < l.length then l.set i.toNat x else l
theorem A8g (l:List U5) (i:Int) (x:U5):(A1D l i x).length = l.length:=by unfold A1D; split <;> simp
def rsA (x:U5):Value:=match x.1 with
 | .no=> .agg #[.int .i64 0,.slice none 0 0]
 | .bld=> .agg #[.int .i64 1,.slice none 0 0]
 | .rdy _=> .agg #[.int .i64 2,rsP x]
theorem B4N (w:World) (a:Option Addr) (n c:Nat) (i:Int):Fn PR B8 151 #[.slice a n c,.int .i64 i] w (fun u w' => u = .bool (l2 n i) ∧ C7 [] w w'):=by
 refine Fn.pure (B1P (TW.go (κ:=false) (S := []) ?_))
 unfold A3T
 by_cases c1:0 ≤ i
 ·(have z:=trivial;repeat((first|clear z|with_reducible first|apply A3|refine A4 fun _=>?_|refine A5 fun _=>?_);try simp(disch:=solve|omega|assumption|repeat(first|exact A1|exact uH|apply A2|apply uT)|(simp;try omega)|fail)[c1]))
  exact A9 (by simp [l2,c1])
 ·(have z:=trivial;repeat((first|clear z|with_reducible first|apply A3|refine A4 fun _=>?_|refine A5 fun _=>?_);try simp(disch:=solve|omega|assumption|repeat(first|exact A1|exact uH|apply A2|apply uT)|(simp;try omega)|fail)[c1]))
  exact A9 (by simp [l2,c1])
theorem C9A (l:List U5):(l.flatMap V0).all plain = true:=by
 rw [List.all_flatMap,List.all_eq_true]
 rintro ⟨y1,y2⟩ hy
 cases y1 <;> rfl
theorem B3W (w:World) (v:Value) (l:List U5) (i:Nat) (x:U5) (hn:l.length ≤ 8) (hi:i < l.length) (hv:F5 w v l.length (l.flatMap V0)) :
  Fn PR B8 152 #[v,.int .i64 (i:Nat),rsA x] w (Rn [] w (fun r u=> u = r) fun r=> [.own 270 2 r (l.set i x).length ((l.set i x).flatMap V0)]):=by
 refine A9N (TW.go (κ:=false) (S := []) ?_)
 unfold A13
 obtain ⟨a,c,rfl,_⟩:=hv.form
 obtain ⟨s,pa,pn,pc,hs⟩:∃ s a n c,rsA x = .agg #[.int .i64 s,.slice a n c] ∧ V0 x = [.int .i64 s,.slice a n c]:=by
  obtain ⟨x1,x2⟩:=x
  cases x1
  ·exact ⟨0,_,_,_,rfl,rfl⟩
  ·exact ⟨1,_,_,_,rfl,rfl⟩
  ·exact ⟨2,_,_,_,rfl,rfl⟩
 rw [hs.1]
 (have zz:=trivial;repeat((first|clear zz|with_reducible first|refine A3 ?_|refine A4 fun _=>?_|refine A5 fun _=>?_|refine D5 fun _=>?_|refine E0 (hK:=fun _=>?_)|refine D6 (hK:=fun _=>?_)|refine D4 (hK:=fun _=>?_)|refine D9 (hK:=fun _=>?_)|refine D7 (hK:=fun _=>?_));try simp(disch:=first|omega|assumption|((repeat(first|exact A1|exact uH|apply A2|apply uT));first|done|fail)|(simp;first|done|omega|fail))[]))
 refine r9 (e:=270) (k:=2) (q:=0) (r:=l.length) (xs := []) (news:=l.flatMap V0) (by (repeat constructor)) (fun w' hw' => hv.ks hw'.ks (by simp)) (by decide) (T2 A0L l) (C9A l) (by simp only [maxLen]; omega) (by omega) fun a' c' => ?_
 rw [List.nil_append,Nat.zero_add]
 refine V5 (e:=270) (k:=2) (v:=.slice a' l.length c') (q:=l.length) (xs:=l.flatMap V0) (by (repeat constructor)) (by omega) fun g gc hg=> ?_
 cases hg
 (have z:=trivial;repeat((first|clear z|with_reducible first|apply A3|refine A4 fun _=>?_|refine A5 fun _=>?_);try simp(disch:=solve|omega|assumption|repeat(first|exact A1|exact uH|apply A2|apply uT)|(simp;try omega)|fail)[hi]))
 refine Q9 (by (repeat constructor)) (by simp) (by rw [T2 A0L]; show i * 2 + 2 ≤ _; omega) (by simp) ?_
 refine B1 _ rfl ?_
 have:=B3Z (f:=V0) (k:=2) A0L l i x hi
 rw [List.length_set,← this,hs.2]
 (repeat' constructor)
theorem U5.cell {w:World} {a:Option Addr} {c:Nat} {l:List U5} (hv:F5 w (.slice a l.length c) l.length (l.flatMap V0)) {i:Nat} (hi:i < l.length):∃ b o,a = some ⟨b,o,none⟩ ∧ w.cell? ⟨b,o + i * 2,none⟩ = (V0 l[i])[0]? ∧ w.cell? ⟨b,o + i * 2 + 1,none⟩ = (V0 l[i])[1]? := by
 rcases hv with ⟨h0,_⟩ | ⟨b,o,c',e,hr⟩
 ·omega
 cases e
 have h0:=l0 A0L l i 0 (by omega)
 have h1:=l0 A0L l i 1 (by omega)
 rw [List.getElem?_eq_getElem hi] at h0 h1
 have hc:=A0L l[i]
 simp only [Option.bind_some] at h0 h1
 refine ⟨b,o,rfl,?_,?_⟩
 ·obtain ⟨v,hv⟩:∃ v,(V0 l[i])[0]? = some v:=⟨_,List.getElem?_eq_getElem (show _ < (V0 l[i]).length by rw [A0L]; omega)⟩
  rw [hv] at h0 ⊢
  exact hr.get h0
 ·obtain ⟨v,hv⟩:∃ v,(V0 l[i])[1]? = some v:=⟨_,List.getElem?_eq_getElem (show _ < (V0 l[i]).length by rw [A0L]; omega)⟩
  rw [hv] at h1 ⊢
  have:=hr.get h1
  rwa [← Nat.add_assoc] at this
def T0 (l:List U5) (i:Int):List U5:=A1D l i (.bld,none,0,0)
def u6 (l:List U5) (i:Int):List U5:=A1D l i noR
def B6F (l:List U5) (i:Int):Bool:=match K3 (rsV l) i with | .bld=> true | _=> false
def flR (l:List U5) (i:Int) (p:List F8):Bool:=B6F l i && decide (Q3 p = 0)
def m8 (l:List U5) (i:Int) (p:List F8) (x:Option Addr × Nat × Nat):List U5:=if flR l i p then A1D l i (.rdy p,x) else l
theorem C0d {l:List U5} {k:Nat} (h:k < l.length):K3 (rsV l) (k:Nat) = l[k].1:=by
 unfold K3 rsV
 rw [if_pos (by simp only [List.length_map]; omega),Int.toNat_natCast,List.getD_eq_getElem?_getD,List.getElem?_map,List.getElem?_eq_getElem h]; rfl
theorem C48 (w:World) (v:Value) (l:List U5) (i:Int) (hn:l.length ≤ 8) (hv:F5 w v l.length (l.flatMap V0)) :
  Fn PR B8 96 #[v,.int .i64 i] w (Rn [] w (fun r u=> u = .tuple #[if l2 l.length i then r else v,.bool (l2 l.length i)]) fun r=> if l2 l.length i then [.own 270 2 r (T0 l i).length ((T0 l i).flatMap V0)] else []):=by
 refine A7a (TW.go (κ:=false) (S := []) ?_)
 unfold A1k
 obtain ⟨a,c,rfl,_⟩:=hv.form
 (have z:=trivial;repeat((first|clear z|with_reducible first|apply A3|refine A4 fun _=>?_|refine A5 fun _=>?_);try simp(disch:=solve|omega|assumption|repeat(first|exact A1|exact uH|apply A2|apply uT)|(simp;try omega)|fail)[]))
 refine B7 Z7 (fun w' _=> B4N w' a l.length c i) ?_
 cases hi:l2 l.length i with
 | false=>
  (have z:=trivial;repeat((first|clear z|with_reducible first|apply A3|refine A4 fun _=>?_|refine A5 fun _=>?_);try simp(disch:=solve|omega|assumption|repeat(first|exact A1|exact uH|apply A2|apply uT)|(simp;try omega)|fail)[]))
  exact B1 (.slice a l.length c) (by simp) Sels.nil
 | true=>
  obtain ⟨k,rfl⟩:∃ k:Nat,i = k:=⟨i.toNat,by simp [l2] at hi; omega⟩
  have hk:k < l.length:=by simp [l2] at hi; exact hi
  have e:T0 l k = l.set k (.bld,none,0,0):=by unfold T0 A1D; rw [if_pos (by omega)]; rfl
  rw [e]
  (have z:=trivial;repeat((first|clear z|with_reducible first|apply A3|refine A4 fun _=>?_|refine A5 fun _=>?_);try simp(disch:=solve|omega|assumption|repeat(first|exact A1|exact uH|apply A2|apply uT)|(simp;try omega)|fail)[]))
  refine H3 l9 (fun w' hw' => B3W w' _ l k (.bld,none,0,0) hn hk (hv.ks hw'.ks (by simp))) ?_
  rintro _ r rfl
  (have z:=trivial;repeat((first|clear z|with_reducible first|apply A3|refine A4 fun _=>?_|refine A5 fun _=>?_);try simp(disch:=solve|omega|assumption|repeat(first|exact A1|exact uH|apply A2|apply uT)|(simp;try omega)|fail)[]))
  exact B1 r (by simp) (Sels.cons Sel.here Sels.nil)
theorem C4p (w:World) (v:Value) (l:List U5) (i:Int) (hn:l.length ≤ 8) (hv:F5 w v l.length (l.flatMap V0)) :
  Fn PR B8 99 #[v,.int .i64 i] w (Rn [] w (fun r u=> u = .tuple #[if l2 l.length i then r else v,.bool (l2 l.length i)]) fun r=> if l2 l.length i then [.own 270 2 r (u6 l i).length ((u6 l i).flatMap V0)] else []):=by
 refine A7G (TW.go (κ:=false) (S := []) ?_)
 unfold A1Q
 obtain ⟨a,c,rfl,_⟩:=hv.form
 (have z:=trivial;repeat((first|clear z|with_reducible first|apply A3|refine A4 fun _=>?_|refine A5 fun _=>?_);try simp(disch:=solve|omega|assumption|repeat(first|exact A1|exact uH|apply A2|apply uT)|(simp;try omega)|fail)[]))
 refine B7 Z7 (fun w' _=> B4N w' a l.length c i) ?_
 cases hi:l2 l.length i with
 | false=>
  (have z:=trivial;repeat((first|clear z|with_reducible first|apply A3|refine A4 fun _=>?_|refine A5 fun _=>?_);try simp(disch:=solve|omega|assumption|repeat(first|exact A1|exact uH|apply A2|apply uT)|(simp;try omega)|fail)[]))
  exact B1 (.slice a l.length c) (by simp) Sels.nil
 | true=>
  obtain ⟨k,rfl⟩:∃ k:Nat,i = k:=⟨i.toNat,by simp [l2] at hi; omega⟩
  have hk:k < l.length:=by simp [l2] at hi; exact hi
  have e:u6 l k = l.set k noR:=by unfold u6 A1D; rw [if_pos (by omega)]; rfl
  rw [e]
  (have z:=trivial;repeat((first|clear z|with_reducible first|apply A3|refine A4 fun _=>?_|refine A5 fun _=>?_);try simp(disch:=solve|omega|assumption|repeat(first|exact A1|exact uH|apply A2|apply uT)|(simp;try omega)|fail)[]))
  refine H3 l9 (fun w' hw' => B3W w' _ l k noR hn hk (hv.ks hw'.ks (by simp))) ?_
  rintro _ r rfl
  (have z:=trivial;repeat((first|clear z|with_reducible first|apply A3|refine A4 fun _=>?_|refine A5 fun _=>?_);try simp(disch:=solve|omega|assumption|repeat(first|exact A1|exact uH|apply A2|apply uT)|(simp;try omega)|fail)[]))
  exact B1 r (by simp) (Sels.cons Sel.here Sels.nil)
theorem C5M (w:World) (v:Value) (l:List U5) (i:Int) (p:List F8) (pa:Option Addr) (pc:Nat) (hn:l.length ≤ 8) (hp:p.length ≤ 1000000) (hv:F5 w v l.length (l.flatMap V0)) (hpv:F5 w (.slice pa p.length pc) p.length (p.flatMap H5)) :
  Fn PR B8 97 #[v,.int .i64 i,.slice pa p.length pc] w (Rn [] w (fun r u=> u = .tuple #[if flR l i p then r else v,.bool (flR l i p)]) fun r=> if flR l i p then [.own 270 2 r (m8 l i p (pa,p.length,pc)).length ((m8 l i p (pa,p.length,pc)).flatMap V0)] else []):=by
 refine A86 (TW.go (κ:=false) (S := []) ?_)
 unfold A15
 obtain ⟨a,c,rfl,_⟩:=hv.form
 (have z:=trivial;repeat((first|clear z|with_reducible first|apply A3|refine A4 fun _=>?_|refine A5 fun _=>?_);try simp(disch:=solve|omega|assumption|repeat(first|exact A1|exact uH|apply A2|apply uT)|(simp;try omega)|fail)[]))
 refine B7 Z7 (fun w' _=> B4N w' a l.length c i) ?_
 cases hi:l2 l.length i with
 | false=>
  have hb:flR l i p = false:=by unfold flR B6F K3; rw [if_neg (by simp [l2] at hi; simp; omega)]; rfl
  rw [hb]
  (have z:=trivial;repeat((first|clear z|with_reducible first|apply A3|refine A4 fun _=>?_|refine A5 fun _=>?_);try simp(disch:=solve|omega|assumption|repeat(first|exact A1|exact uH|apply A2|apply uT)|(simp;try omega)|fail)[]))
  exact B1 (.slice a l.length c) rfl Sels.nil
 | true=>
  obtain ⟨k,rfl⟩:∃ k:Nat,i = k:=⟨i.toNat,by simp [l2] at hi; omega⟩
  have hk:k < l.length:=by simp [l2] at hi; exact hi
  have hk':¬ l.length ≤ k:=by omega
  obtain ⟨b,o,rfl,h0,_⟩:=U5.cell hv hk
  have hgs:=C0d hk
  obtain ⟨⟨x1,x2⟩,hlk⟩:∃ x,x = l[k]:=⟨_,rfl⟩
  rw [← hlk] at h0 hgs
  cases x1 with
  | no=>
   have hb:flR l k p = false:=by unfold flR B6F; rw [hgs]; rfl
   have h0':w.cell? ⟨b,o + k * 2,none⟩ = some (.int .i64 0):=h0
   rw [hb]
   (have z:=trivial;repeat((first|clear z|with_reducible first|apply A3|refine A4 fun _=>?_|refine A5 fun _=>?_);try simp(disch:=solve|omega|assumption|repeat(first|exact A1|exact uH|apply A2|apply uT)|(simp;try omega)|fail)[h0',hk,hk']))
   exact B1 (.slice none 0 0) rfl Sels.nil
  | rdy q=>
   have hb:flR l k p = false:=by unfold flR B6F; rw [hgs]; rfl
   have h0':w.cell? ⟨b,o + k * 2,none⟩ = some (.int .i64 2):=h0
   rw [hb]
   (have z:=trivial;repeat((first|clear z|with_reducible first|apply A3|refine A4 fun _=>?_|refine A5 fun _=>?_);try simp(disch:=solve|omega|assumption|repeat(first|exact A1|exact uH|apply A2|apply uT)|(simp;try omega)|fail)[h0',hk,hk']))
   exact B1 (.slice none 0 0) rfl Sels.nil
  | bld=>
   have h0':w.cell? ⟨b,o + k * 2,none⟩ = some (.int .i64 1):=h0
   (have z:=trivial;repeat((first|clear z|with_reducible first|apply A3|refine A4 fun _=>?_|refine A5 fun _=>?_);try simp(disch:=solve|omega|assumption|repeat(first|exact A1|exact uH|apply A2|apply uT)|(simp;try omega)|fail)[h0',hk,hk']))
   refine B7 A6e (fun w' hw' => C7j w' _ p hp (hpv.ks hw'.ks (by simp))) ?_
   by_cases hc:Q3 p = 0
   ·have hb:flR l k p = true:=by unfold flR B6F; rw [hgs,decide_eq_true hc]; rfl
    have e:m8 l k p (pa,p.length,pc) = l.set k (.rdy p,pa,p.length,pc):=by unfold m8 A1D; rw [hb,if_pos rfl,if_pos (by omega)]; rfl
    rw [hb,e,hc]
    (have z:=trivial;repeat((first|clear z|with_reducible first|apply A3|refine A4 fun _=>?_|refine A5 fun _=>?_);try simp(disch:=solve|omega|assumption|repeat(first|exact A1|exact uH|apply A2|apply uT)|(simp;try omega)|fail)[]))
    refine H3 l9 (fun w' hw' => B3W w' _ l k (.rdy p,pa,p.length,pc) hn hk (hv.ks hw'.ks (by simp))) ?_
    rintro _ r rfl
    (have z:=trivial;repeat((first|clear z|with_reducible first|apply A3|refine A4 fun _=>?_|refine A5 fun _=>?_);try simp(disch:=solve|omega|assumption|repeat(first|exact A1|exact uH|apply A2|apply uT)|(simp;try omega)|fail)[]))
    exact B1 r rfl (Sels.cons Sel.here Sels.nil)
   ·have hb:flR l k p = false:=by unfold flR B6F; rw [hgs,decide_eq_false hc]; rfl
    rw [hb]
    (have z:=trivial;repeat((first|clear z|with_reducible first|apply A3|refine A4 fun _=>?_|refine A5 fun _=>?_);try simp(disch:=solve|omega|assumption|repeat(first|exact A1|exact uH|apply A2|apply uT)|(simp;try omega)|fail)[hc]))
    exact B1 (.slice none 0 0) rfl Sels.nil
end Go.Proofs.YtjobgnabneddjaaGreat
namespace Go.Proofs.YtjobgnabneddjaaGreat
open Go
def L8 (t:A4f):Value:=.agg #[.bool t.1,.bool t.2.1,.bool t.2.2]
structure WsOk (x:WS):Prop where
 wk:1 ≤ x.c.wk ∧ x.c.wk ≤ 64
 cells:x.cells.length = 2 + x.c.wk.toNat
 own:x.own.length ≤ 16
 sl:x.sl.length ≤ 8
 keep:x.keep.length ≤ 8
def WoH.sk (m:WoH) (ls:List SlH) (keep:List (Int × Int)):WoH := { m with ls:=ls,keep:=keep }
structure WoD where
 cn:Int
 cells:List Int
 ls:List SlH
 keep:List (Int × Int)
def WoH.up (m:WoH) (d:WoD):WoH := { m with cn:=d.cn,cells:=d.cells,ls:=d.ls,keep:=d.keep }
end Go.Proofs.YtjobgnabneddjaaGreat
namespace Go.Proofs.YtjobgnabneddjaaGreat
open Go
abbrev P4:=List (Value × List EnV)
def A0U (a b:P4):Prop := ∀ t ∈ a,t ∈ b
theorem A0U.left {a b:P4} (h:A0U a b) (c:P4):A0U a (b ++ c):=fun t ht=> List.mem_append_left _ (h t ht)
def B1u (a b:P4) (t:List EnV):Prop:=A0U a b ∧ ∀ x ∈ b,x ∈ a ∨ x.2 = t
theorem B1u.same (a:P4) (t:List EnV):B1u a a t:=⟨fun x hx=> hx,fun x hx=> Or.inl hx⟩
theorem B1u.push (a:P4) (v:Value) (t:List EnV):B1u a (a ++ [(v,t)]) t:=⟨fun x hx=> List.mem_append_left _ hx,fun x hx=> by
 rcases List.mem_append.1 hx with hx | hx
 ·exact Or.inl hx
 ·rw [List.mem_singleton.1 hx]; exact Or.inr rfl⟩
structure TabsOk (m:WoH) (P:P4):Prop where
 few:m.ts.length ≤ 1000
 pl:m.pl.length = m.ts.length
 len:∀ t ∈ m.ts,t.2.length ≤ 1000000
 keys:∀ t ∈ m.ts,N4 t.2
 own:m.own.length ≤ 1024
 pool:A0U m.ts P
theorem C3S {l:List Nat} {i:Nat} (h:i < l.length):(A0V l)[i]? = some (.int .i64 (l.getD i 0:Nat)):=by
 unfold A0V; rw [List.getElem?_map,List.getElem?_eq_getElem h,List.getD_eq_getElem?_getD,List.getElem?_eq_getElem h]; rfl
theorem C0E {α:Type} {f:α → Value} (l:List α) (i:Nat) (x:α) (h:i < l.length):Y8 (l.map f) i [f x] = (l.set i x).map f:=by rw [C0K (by simpa using h),List.map_set]
theorem g6 {κ:Bool} {S:List Nat} {w0:World} {H:List Res} {K0:WP} {P:P4} {v:Value} {l:List EnV} (hm:M9 P ∈ H) (ht:(v,l) ∈ P) (h:∀ a c,v = .slice a l.length c → TW κ S w0 H K0):TW κ S w0 H K0:=fun w hw=> by
 obtain ⟨a,c,e⟩:=U4.form ((hw.hold _ hm:B7c P w) _ ht)
 exact h a c e w hw
end Go.Proofs.YtjobgnabneddjaaGreat
namespace Go.Proofs.YtjobgnabneddjaaGreat
open Go
def A4Q:Nat → RunV → RunV → Prop
 | 0,r,r' => r = r'
 | k + 1,r,r' => r.j.ready r.x = true ∧ A4Q k r.next r'
theorem A4Q.trans {r r' r'':RunV}:∀ {k m:Nat},A4Q k r r' → A4Q m r' r'' → A4Q (k + m) r r''
 | 0,m,h,h' => by cases h; simpa using h'
 | k + 1,m,h,h' => by
  rw [show k + 1 + m = k + m + 1 by omega]
  exact ⟨h.1,A4Q.trans h.2 h'⟩
theorem A4Q.run {r r':RunV}:∀ {k:Nat} (f:Nat),A4Q k r r' → B6D (k + f) r = B6D f r'
 | 0,f,h=> by cases h; simp
 | k + 1,f,h=> by
  rw [show k + 1 + f = k + f + 1 by omega,B6D,if_pos h.1]
  exact A4Q.run f h.2
theorem D01 {r:RunV} (h:r.j.b.st = -1):∀ f,B6D f r = r
 | 0=> rfl
 | f + 1=> by rw [B6D,if_neg (by simp [JV.ready,h])]
theorem A4Q.ends {r r':RunV} {k:Nat} (h:A4Q k r r') (hk:k ≤ 200) (he:r'.j.b.st = -1):B6D 200 r = r':=by
 have:=h.run (200 - k)
 rw [show k + (200 - k) = 200 by omega] at this
 rw [this,D01 he]
theorem A4Q.one {r:RunV} (h:r.j.ready r.x = true):A4Q 1 r r.next:=⟨h,rfl⟩
def D0V (x:WS) (k:Nat):List Int:=(List.range k).map fun i:Nat=> D3 x.cells (G5 x.c (((i:Nat):Int) + 1))
def B32 (P:List Int) (l:List (Int × Int)):List (Int × Int):=l.map fun s=> if A0F P s then (0,0) else s
def B3C (P:List Int) (l:List (Int × Int)) (s:List SlV):List SlV:=List.zipWith (fun k s=> if A0F P k then .no else s) l s
theorem D3x (P:List Int):A0F P (0,0) = false:=rfl
theorem B1H (l:List SlV) (i:Int) (x:SlV):(A0W l i x).length = l.length:=by unfold A0W; split <;> simp
theorem C7g (l:List SlV) (i:Int) (p:List F8):(A06 l i p).length = l.length:=by
 unfold A06; split
 ·split
  ·exact B1H _ _ _
  ·rfl
 ·rfl
theorem C6w (l:List (Int × Int)) (i a:Int) (s:Int × Int):(B63 l i a s).length = l.length:=by unfold B63; split <;> simp
theorem B6P (l:List (Int × Int)):(A3v l).length = l.length:=by unfold A3v; split <;> simp
theorem A26 (l:List Int) (i v:Int):(N0 l i v).length = l.length:=by unfold N0; split <;> simp
theorem A27 (l:List Int) (i v:Int):D3 (N0 l i v) i = if 0 ≤ i ∧ i < l.length then v else 0:=by
 unfold D3 N0
 by_cases h:0 ≤ i ∧ i < l.length
 ·rw [if_pos h,if_pos h,if_pos (by rw [List.length_set]; exact h),List.getD_eq_getElem?_getD,List.getElem?_set_self (by omega)]; rfl
 ·rw [if_neg h,if_neg h,if_neg h]
theorem W2 {i k:Int} (l:List Int) (v:Int) (h:i ≠ k):D3 (N0 l i v) k = D3 l k:=by
 unfold D3 N0
 by_cases h1:0 ≤ i ∧ i < l.length
 ·rw [if_pos h1,List.length_set]
  by_cases h2:0 ≤ k ∧ k < l.length
  ·rw [if_pos h2,if_pos h2,List.getD_eq_getElem?_getD,List.getD_eq_getElem?_getD,List.getElem?_set_ne (by omega)]
  ·rw [if_neg h2,if_neg h2]
 ·rw [if_neg h1]
theorem A8L:∀ A:List Res,Sels A A
 | []=> Sels.nil
 | r :: A=> Sels.cons Sel.here (A8L A)
theorem A7A (B:List Res):∀ A:List Res,Part A (A ++ B) B
 | []=> Part.nil
 | r :: A=> Part.cons Sel.here (A7A B A)
theorem Fn.frame {f:FuncId} {args:Array Value} {w:World} {α:Type} {φ:α → Value → Prop} {Hn:α → List Res} {Hc Hk:List Res} (h:Fn PR B8 f args w (Rn (C3 Hc) w φ Hn)) (hw:LW false (C3 (Hc ++ Hk)) w (Hc ++ Hk) w) :
  Fn PR B8 f args w (Rn (C3 (Hc ++ Hk)) w φ fun a=> Hn a ++ Hk):=h.mono fun v w' ⟨a,h1,h2⟩=> ⟨a,h1,hw.part h2⟩
structure WoAt (w:World) (m:WoH):Prop where
 b:bl w m.b = some (.cells (E5 m.c (.pointer (some ⟨m.bc,0,none⟩)) (.pointer (some ⟨m.bs,0,none⟩)) (.pointer (some ⟨m.bk,0,none⟩)) m.tv m.pv (.int .i64 m.now)) 39 (0,0))
 c:bl w m.bc = some (.cells #[.int .i64 m.cn,m.cv,m.ov] 141 (0,0))
 v:F5 w m.ov m.own.length (F2 m.own)
theorem WoAt.own {κ:Bool} {S:List Nat} {w0 w:World} {H:List Res} {m:WoH} (hw:LW κ S w0 H w) (h:∀ r ∈ C6 m,r ∈ H):WoAt w m :=
 ⟨hw.pt (h _ (by unfold C6 D2; (repeat constructor))),hw.pt (h _ (by unfold C6; (repeat constructor))),M0.own (e:=3) (k:=1) (h _ (by unfold C6; (repeat constructor))) w hw⟩
theorem WoAt.ks {w w':World} {m:WoH} (h:WoAt w m) (hk:KS false [] w w'):WoAt w' m:=⟨hk.2.1 _ _ (by simp) rfl h.b,hk.2.1 _ _ (by simp) rfl h.c,h.v.ks hk (by simp)⟩
def p6 (now d:Int):Int:=if 0 ≤ d ∧ d ≤ 1000000 ∧ now + d ≤ 1000000000 then now + d else now
theorem C1F {now d:Int} (h:0 ≤ now ∧ now ≤ 1000000000):0 ≤ p6 now d ∧ p6 now d ≤ 1000000000:=by unfold p6; split <;> omega
theorem C8x (w:World) (b:Nat) (c:CfgV) (pc ps pk tv pv:Value) (now d:Int) (hn:0 ≤ now ∧ now ≤ 1000000000) (hw:LW false [b] w [D2 b c pc ps pk tv pv (.int .i64 now)] w) :
  Fn PR B8 100 #[.pointer (some ⟨b,0,none⟩),.int .i64 d] w (Rn [b] w (fun (_:Unit) u=> u = .tuple #[]) fun _=> [D2 b c pc ps pk tv pv (.int .i64 (p6 now d))]):=by
 refine B2u (TW.goH (κ:=false) (S := [b]) ?_ hw)
 unfold A4E
 simp only [D2,E5]
 by_cases c1:0 ≤ d
 case neg=>
  (have z:=trivial;repeat((first|clear z|with_reducible first|apply A3|refine A4 fun _=>?_|refine A5 fun _=>?_);try simp(disch:=solve|omega|assumption|repeat(first|exact A1|exact uH|apply A2|apply uT)|(simp;try omega)|fail)[c1]))
  refine B1 () rfl ?_
  simp only [p6,if_neg (show ¬ (0 ≤ d ∧ d ≤ 1000000 ∧ now + d ≤ 1000000000) by omega)]
  (repeat' constructor)
 by_cases c2:d ≤ 1000000
 case neg=>
  have c2':1000000 < d:=by omega
  (have z:=trivial;repeat((first|clear z|with_reducible first|apply A3|refine A4 fun _=>?_|refine A5 fun _=>?_);try simp(disch:=solve|omega|assumption|repeat(first|exact A1|exact uH|apply A2|apply uT)|(simp;try omega)|fail)[c1,c2,c2']))
  refine B1 () rfl ?_
  simp only [p6,if_neg (show ¬ (0 ≤ d ∧ d ≤ 1000000 ∧ now + d ≤ 1000000000) by omega)]
  (repeat' constructor)
 have c2':¬ 1000000 < d:=by omega
 by_cases c3:now ≤ 1000000000 - d
 case neg=>
  (have z:=trivial;repeat((first|clear z|with_reducible first|apply A3|refine A4 fun _=>?_|refine A5 fun _=>?_);try simp(disch:=solve|omega|assumption|repeat(first|exact A1|exact uH|apply A2|apply uT)|(simp;try omega)|fail)[c1,c2,c2',c3]))
  refine B1 () rfl ?_
  simp only [p6,if_neg (show ¬ (0 ≤ d ∧ d ≤ 1000000 ∧ now + d ≤ 1000000000) by omega)]
  (repeat' constructor)
 ·(have z:=trivial;repeat((first|clear z|with_reducible first|apply A3|refine A4 fun _=>?_|refine A5 fun _=>?_);try simp(disch:=solve|omega|assumption|repeat(first|exact A1|exact uH|apply A2|apply uT)|(simp;try omega)|fail)[c1,c2,c2',c3]))
  refine B1 () rfl ?_
  simp only [p6,if_pos (show (0 ≤ d ∧ d ≤ 1000000 ∧ now + d ≤ 1000000000) by omega)]
  (repeat' constructor)
theorem C6L (w:World) (b:Nat) (c:CfgV) (ep cur:Int) (piv lov slv kev tav plv:Value) (now d:Int) (hn:0 ≤ now ∧ now ≤ 1000000000) (hw:LW false [b] w [G2 b c ep cur piv lov slv kev tav plv now] w) :
  Fn PR B8 101 #[.pointer (some ⟨b,0,none⟩),.int .i64 d] w (Rn [b] w (fun (_:Unit) u=> u = .tuple #[]) fun _=> [G2 b c ep cur piv lov slv kev tav plv (p6 now d)]):=by
 refine A4P (TW.goH (κ:=false) (S := [b]) ?_ hw)
 unfold s6
 simp only [G2,F4]
 by_cases c1:0 ≤ d
 case neg=>
  (have z:=trivial;repeat((first|clear z|with_reducible first|apply A3|refine A4 fun _=>?_|refine A5 fun _=>?_);try simp(disch:=solve|omega|assumption|repeat(first|exact A1|exact uH|apply A2|apply uT)|(simp;try omega)|fail)[c1]))
  refine B1 () rfl ?_
  simp only [p6,if_neg (show ¬ (0 ≤ d ∧ d ≤ 1000000 ∧ now + d ≤ 1000000000) by omega)]
  (repeat' constructor)
 by_cases c2:d ≤ 1000000
 case neg=>
  have c2':1000000 < d:=by omega
  (have z:=trivial;repeat((first|clear z|with_reducible first|apply A3|refine A4 fun _=>?_|refine A5 fun _=>?_);try simp(disch:=solve|omega|assumption|repeat(first|exact A1|exact uH|apply A2|apply uT)|(simp;try omega)|fail)[c1,c2,c2']))
  refine B1 () rfl ?_
  simp only [p6,if_neg (show ¬ (0 ≤ d ∧ d ≤ 1000000 ∧ now + d ≤ 1000000000) by omega)]
  (repeat' constructor)
 have c2':¬ 1000000 < d:=by omega
 by_cases c3:now + d ≤ 1000000000
 case neg=>
  (have z:=trivial;repeat((first|clear z|with_reducible first|apply A3|refine A4 fun _=>?_|refine A5 fun _=>?_);try simp(disch:=solve|omega|assumption|repeat(first|exact A1|exact uH|apply A2|apply uT)|(simp;try omega)|fail)[c1,c2,c2',c3]))
  refine B1 () rfl ?_
  simp only [p6,if_neg (show ¬ (0 ≤ d ∧ d ≤ 1000000 ∧ now + d ≤ 1000000000) by omega)]
  (repeat' constructor)
 ·(have z:=trivial;repeat((first|clear z|with_reducible first|apply A3|refine A4 fun _=>?_|refine A5 fun _=>?_);try simp(disch:=solve|omega|assumption|repeat(first|exact A1|exact uH|apply A2|apply uT)|(simp;try omega)|fail)[c1,c2,c2',c3]))
  refine B1 () rfl ?_
  simp only [p6,if_pos (show (0 ≤ d ∧ d ≤ 1000000 ∧ now + d ≤ 1000000000) by omega)]
  (repeat' constructor)
theorem C7d (w:World) (m:WoH) (hn:m.ts.length ≤ 1000) (ho:m.own.length = m.ts.length) (hm:WoAt w m) (htv:∃ a c,m.tv = .slice a m.ts.length c) :
  Fn PR B8 56 #[.pointer (some ⟨m.b,0,none⟩)] w (Rn [] w (fun r u=> u = r) fun r=> [.own 3 1 r m.own.length (F2 m.own)]):=by
 refine B0n (TW.go (κ:=false) (S := []) ?_)
 unfold A2q
 obtain ⟨ta,tc,htv⟩:=htv
 have h5:w.cell? ⟨m.b,5,none⟩ = some (.pointer (some ⟨m.bc,0,none⟩)):=by rw [E8 hm.b]; rfl
 have h8:w.cell? ⟨m.b,8,none⟩ = some (.slice ta m.ts.length tc):=by rw [E8 hm.b,← htv]; rfl
 (have z:=trivial;repeat((first|clear z|with_reducible first|apply A3|refine A4 fun _=>?_|refine A5 fun _=>?_);try simp(disch:=solve|omega|assumption|repeat(first|exact A1|exact uH|apply A2|apply uT)|(simp;try omega)|fail)[h8]))
 refine l7 3 1 ?_
 refine P5 m.own.length (fun i (y:Option Addr × Nat)=> .slice y.1 i y.2) (fun i y=> [.own 3 1 (.slice y.1 i y.2) i ((F2 m.own).take i)]) (fun _ _=> True) (none,0) trivial ?_
 rintro i ⟨ya,yc⟩ hi _ L hL
 by_cases hlt:i < m.own.length
 ·have hlt':((i:Nat):Int) < (m.ts.length:Nat):=by omega
  have hlt2:i < m.ts.length:=by omega
  have hst:(F2 m.own).take (i + 1) = (F2 m.own).take i ++ [Value.int .i64 (m.own.getD i 0)]:=by
   rw [List.take_add_one,m5 hlt]; rfl
  have how:A1q m.own (i:Nat) = m.own.getD i 0:=by unfold A1q; rw [if_pos (by omega),Int.toNat_natCast]
  (have z:=trivial;repeat((first|clear z|with_reducible first|apply A3|refine A4 fun _=>?_|refine A5 fun _=>?_);try simp(disch:=solve|omega|assumption|repeat(first|exact A1|exact uH|apply A2|apply uT)|(simp;try omega)|fail)[hlt',hlt2,h5]))
  refine B7 A2r (fun w' hw' => let g:=hm.ks hw'.ks; B8a w' m.bc m.cn m.cv m.ov m.own (i:Nat) g.c g.v) ?_
  rw [how]
  have h:=hL hlt
  rw [hst] at h
  generalize m.own.getD i 0 = o at *
  (have zz:=trivial;repeat((first|clear zz|with_reducible first|refine A3 ?_|refine A4 fun _=>?_|refine A5 fun _=>?_|refine D5 fun _=>?_|refine E0 (hK:=fun _=>?_)|refine D6 (hK:=fun _=>?_)|refine D4 (hK:=fun _=>?_)|refine D9 (hK:=fun _=>?_)|refine D7 (hK:=fun _=>?_));try simp(disch:=first|omega|assumption|((repeat(first|exact A1|exact uH|apply A2|apply uT));first|done|fail)|(simp;first|done|omega|fail))[]))
  refine r9 (e:=3) (k:=1) (q:=i) (r:=1) (xs:=(F2 m.own).take i) (news := [.int .i64 o]) (by (repeat constructor)) (M0.own (by (repeat constructor))) (by decide) (by simp) (by simp) (by simp only [maxLen]; omega) (by omega) fun a' c' => ?_
  (have z:=trivial;repeat((first|clear z|with_reducible first|apply A3|refine A4 fun _=>?_|refine A5 fun _=>?_);try simp(disch:=solve|omega|assumption|repeat(first|exact A1|exact uH|apply A2|apply uT)|(simp;try omega)|fail)[]))
  exact Sels.tw (by (repeat' constructor)) (h (a',c') trivial)
 ·obtain rfl:i = m.own.length:=by omega
  have e:(m.own.length:Int) = (m.ts.length:Nat):=by omega
  rw [List.take_of_length_le (by rw [C7r]; omega)]
  (have z:=trivial;repeat((first|clear z|with_reducible first|apply A3|refine A4 fun _=>?_|refine A5 fun _=>?_);try simp(disch:=solve|omega|assumption|repeat(first|exact A1|exact uH|apply A2|apply uT)|(simp;try omega)|fail)[e,Int.lt_irrefl]))
  exact B1 _ rfl (by (repeat' constructor))
structure ActV where
 k:Int
 n:Int
 pool:List F8
 pa:Option Addr
 pc:Nat
def ActV.pv (a:ActV):Value:=.slice a.pa a.pool.length a.pc
def ActV.val (a:ActV):Value:=.agg #[.int .i64 a.k,.int .i64 a.n,a.pv]
structure WoG where
 cn:Int
 cells:List Int
 own:List Int
 tv:Value
 pv:Value
 ls:List SlH
 keep:List (Int × Int)
 ts:List (Value × List EnV)
 pl:List Nat
 now:Int
def WoH.ug (m:WoH) (d:WoG):WoH := { m with cn:=d.cn,cells:=d.cells,own:=d.own,tv:=d.tv,pv:=d.pv,ls:=d.ls,keep:=d.keep,ts:=d.ts,pl:=d.pl,now:=d.now }
def WoH.dg (m:WoH):WoG:=⟨m.cn,m.cells,m.own,m.tv,m.pv,m.ls,m.keep,m.ts,m.pl,m.now⟩
structure XS where
 c:CfgV
 ep:Int
 cur:Int
 pins:List Int
 locks:List Int
 sl:List U5
 keep:List (Int × Int)
 tabs:List (List EnV)
 pl:List Nat
 now:Int
def XH.xs (x:XH):XS:=⟨x.c,x.ep,x.cur,x.pins,x.locks,x.sl,x.keep,x.ts.map (·.2),x.pl,x.now⟩
def S8 (a:ActV) (x:WS) (y:XS):WS :=
 if a.k = 1 then { x with cells:=N0 x.cells 0 (IntKind.i64.wrap (D3 x.cells 0 + 1)) }
 else if a.k = 2 then if (0 ≤ a.n ∧ a.n < y.c.sh) ∧ y.locks.getD a.n.toNat 0 < 0 then { x with own:=Y4 x.own a.n 99 } else x
 else if a.k = 3 then if (0 ≤ a.n ∧ a.n < y.c.sh) ∧ y.locks.getD a.n.toNat 0 = 99 then { x with own:=N9 x.own a.n 99 } else x
 else if a.k = 4 then { x with sl:=A06 (A0W x.sl a.n .bld) a.n a.pool }
 else if a.k = 5 then { x with sl:=A0W x.sl a.n .no }
 else if a.k = 6 then if -1 ≤ a.n ∧ a.n < y.c.sl then { x with cells:=N0 x.cells 1 (a.n + 1) } else x
 else if a.k = 7 then { x with now:=p6 x.now a.n }
 else x
def S9 (a:ActV) (y:XS):XS :=
 if a.k = 1 then { y with ep:=y.ep + 1 }
 else if a.k = 2 then if (0 ≤ a.n ∧ a.n < y.c.sh) ∧ y.locks.getD a.n.toNat 0 < 0 then { y with locks:=y.locks.set a.n.toNat 99 } else y
 else if a.k = 3 then if (0 ≤ a.n ∧ a.n < y.c.sh) ∧ y.locks.getD a.n.toNat 0 = 99 then { y with locks:=y.locks.set a.n.toNat (-1) } else y
 else if a.k = 4 then { y with sl:=if l2 y.sl.length a.n then m8 (T0 y.sl a.n) a.n a.pool (a.pa,a.pool.length,a.pc) else y.sl }
 else if a.k = 5 then { y with sl:=u6 y.sl a.n }
 else if a.k = 6 then if -1 ≤ a.n ∧ a.n < y.c.sl then { y with cur:=a.n + 1 } else y
 else if a.k = 7 then { y with now:=p6 y.now a.n }
 else y
structure HapOk (m:WoH) (x:XH) (a:ActV):Prop where
 cells:2 ≤ m.cells.length ∧ m.cells.length ≤ 1024
 own:m.own.length ≤ 1024
 ls:m.ls.length ≤ 8
 now:0 ≤ m.now ∧ m.now ≤ 1000000000
 xnow:0 ≤ x.now ∧ x.now ≤ 1000000000
 locks:x.locks.length = x.c.sh
 sh:x.c.sh ≤ 16
 csl:x.c.sl ≤ 8
 sl:x.sl.length ≤ 8
 ep:0 ≤ x.ep ∧ x.ep ≤ 1000000
 pool:a.pool.length ≤ 1000
theorem B4k {S:List Nat} {w0 w':World} {Hc Hk:List Res} {P:World → Prop} (h:∀ w1,KS false S w0 w1 → P w1) (hw':LW false S w0 (Hc ++ Hk) w'):∀ w'',KS false (C3 Hc) w' w'' → P w'':=fun w'' hk=> by
 refine h _ (hw'.ks.then hk fun x hx=> ?_)
 obtain ⟨r,hr,hxr⟩:=T8.1 hx
 exact (hw'.own r (List.mem_append_left _ hr) x hxr).1
def D87 (m:WoH) (x:XH) (a:ActV) (y:WoG × XH):Prop:=(m.ug y.1).ws = S8 a m.ws x.xs ∧ y.2.b = x.b ∧ y.2.xs = S9 a x.xs ∧ y.1.ts = m.ts ∧ y.2.ts = x.ts
set_option maxHeartbeats 2000000 in
theorem C6T (w:World) (m:WoH) (x:XH) (a:ActV) (h:HapOk m x a) (hv:∀ w',KS false (C3 (C6 m ++ G0 x)) w w' → F5 w' a.pv a.pool.length (a.pool.flatMap H5)) (hw:LW false (C3 (C6 m ++ G0 x)) w (C6 m ++ G0 x) w) :
  Fn PR B8 44 #[.pointer (some ⟨m.b,0,none⟩),.pointer (some ⟨x.b,0,none⟩),a.val] w (Rn (C3 (C6 m ++ G0 x)) w (fun (y:WoG × XH) u=> u = .tuple #[] ∧ D87 m x a y) fun y=> C6 (m.ug y.1) ++ G0 y.2):=by
 refine A6L (TW.goH (κ:=false) ?_ hw)
 unfold A0j
 obtain ⟨hcl,how,hls,hnow,hxnow,hlo,hsh,hcsl,hsl,hep,hpl⟩:=h
 obtain ⟨k,n,p,pa,pc⟩:=a
 simp only [ActV.pv] at hv
 simp only at hpl
 generalize hS:C3 (C6 m ++ G0 x) = S at *
 simp only [C6,G0,D2,E5,G2,F4,ActV.val,ActV.pv,List.cons_append,List.nil_append]
 (have z:=trivial;repeat((first|clear z|with_reducible first|apply A3|refine A4 fun _=>?_|refine A5 fun _=>?_);try simp(disch:=solve|omega|assumption|repeat(first|exact A1|exact uH|apply A2|apply uT)|(simp;try omega)|fail)[]))
 rename_i ba
 by_cases k1:k = 1
 ·subst k1
  (have z:=trivial;repeat((first|clear z|with_reducible first|apply A3|refine A4 fun _=>?_|refine A5 fun _=>?_);try simp(disch:=solve|omega|assumption|repeat(first|exact A1|exact uH|apply A2|apply uT)|(simp;try omega)|fail)[]))
  refine C8 (Hc:=D8 m.bc m.cn m.cv m.ov m.cells m.own) B2a (fun w' _ hs=> D1Z w' m.bc m.cn m.cv m.ov m.cells m.own 0 1 hcl.2 (by omega) hs) (by unfold D8; (repeat' constructor)) ?_
  rintro n1 v rfl
  simp only [D8,List.cons_append,List.nil_append]
  (have z:=trivial;repeat((first|clear z|with_reducible first|apply A3|refine A4 fun _=>?_|refine A5 fun _=>?_);try simp(disch:=solve|omega|assumption|repeat(first|exact A1|exact uH|apply A2|apply uT)|(simp;try omega)|fail)[]))
  refine B1 ({ m.dg with cn:=n1,cells:=N0 m.cells 0 (IntKind.i64.wrap (D3 m.cells 0 + 1)) },{ x with ep:=x.ep + 1 }) ⟨rfl,rfl,rfl,rfl,rfl,rfl⟩ ?_
  simp only [C6,G0,D2,E5,G2,F4,WoH.ug,WoH.dg,List.cons_append,List.nil_append]
  (repeat' constructor)
 by_cases k2:k = 2
 ·subst k2
  by_cases g1:0 ≤ n
  case neg=>
   (have z:=trivial;repeat((first|clear z|with_reducible first|apply A3|refine A4 fun _=>?_|refine A5 fun _=>?_);try simp(disch:=solve|omega|assumption|repeat(first|exact A1|exact uH|apply A2|apply uT)|(simp;try omega)|fail)[g1]))
   refine B1 (m.dg,x) ⟨rfl,by unfold S8; simp [g1]; rfl,rfl,by unfold S9; simp [g1],rfl,rfl⟩ ?_
   simp only [C6,G0,D2,E5,G2,F4,WoH.ug,WoH.dg,List.cons_append,List.nil_append]
   (repeat' constructor)
  by_cases g2:n < x.c.sh
  case neg=>
   (have z:=trivial;repeat((first|clear z|with_reducible first|apply A3|refine A4 fun _=>?_|refine A5 fun _=>?_);try simp(disch:=solve|omega|assumption|repeat(first|exact A1|exact uH|apply A2|apply uT)|(simp;try omega)|fail)[g1,g2]))
   refine B1 (m.dg,x) ⟨rfl,by unfold S8; simp [XH.xs,g2]; rfl,rfl,by unfold S9; simp [XH.xs,g2],rfl,rfl⟩ ?_
   simp only [C6,G0,D2,E5,G2,F4,WoH.ug,WoH.dg,List.cons_append,List.nil_append]
   (repeat' constructor)
  obtain ⟨i,rfl⟩:∃ i:Nat,n = i:=⟨n.toNat,by omega⟩
  have hi:i < x.locks.length:=by omega
  have hi':¬ x.locks.length ≤ i:=by omega
  have hg:=m5 hi
  refine V5 (e:=3) (k:=1) (v:=x.lov) (q:=x.locks.length) (xs:=F2 x.locks) (by (repeat constructor)) (by omega) fun g gc hgl=> ?_
  rw [hgl]
  obtain ⟨z,hz⟩:∃ z,z = x.locks.getD i 0:=⟨_,rfl⟩
  rw [← hz] at hg
  have hgg:=(List.getElem?_eq_some_iff.1 hg).2
  by_cases g3:z < 0
  case neg=>
   (have z:=trivial;repeat((first|clear z|with_reducible first|apply A3|refine A4 fun _=>?_|refine A5 fun _=>?_);try simp(disch:=solve|omega|assumption|repeat(first|exact A1|exact uH|apply A2|apply uT)|(simp;try omega)|fail)[g1,g2,g3,hg,hgg,hi,hi']))
   refine B1 (m.dg,{ x with lov:=.slice (some ⟨g,0,none⟩) x.locks.length gc }) ⟨rfl,?_,rfl,?_,rfl,rfl⟩ ?_
   ·unfold S8; simp only [XH.xs,Int.toNat_natCast,← hz]; simp [g3]; rfl
   ·unfold S9; simp only [XH.xs,Int.toNat_natCast,← hz]; simp [g3]
   simp only [C6,G0,D2,E5,G2,F4,WoH.ug,WoH.dg,List.cons_append,List.nil_append]
   (repeat' constructor)
  (have z:=trivial;repeat((first|clear z|with_reducible first|apply A3|refine A4 fun _=>?_|refine A5 fun _=>?_);try simp(disch:=solve|omega|assumption|repeat(first|exact A1|exact uH|apply A2|apply uT)|(simp;try omega)|fail)[g1,g2,g3,hg,hgg,hi,hi']))
  refine C8 (Hc:=D8 m.bc m.cn m.cv m.ov m.cells m.own) A3J (fun w' _ hs=> C0N w' m.bc m.cn m.cv m.ov m.cells m.own (i:Nat) 99 how hs) (by unfold D8; (repeat' constructor)) ?_
  rintro n1 v ⟨r,rfl⟩
  simp only [D8,List.cons_append,List.nil_append]
  (have z:=trivial;repeat((first|clear z|with_reducible first|apply A3|refine A4 fun _=>?_|refine A5 fun _=>?_);try simp(disch:=solve|omega|assumption|repeat(first|exact A1|exact uH|apply A2|apply uT)|(simp;try omega)|fail)[g1,hi,hi']))
  refine Q9 (by (repeat constructor)) (by simp) (by simp; omega) (by simp) ?_
  have e:Y8 (F2 x.locks) i (Value.int .i64 (99)).cells.toList = F2 (x.locks.set i (99)):=q7 hi _
  rw [e]
  refine B1 ({ m.dg with cn:=n1,own:=Y4 m.own (i:Nat) 99 },{ x with lov:=.slice (some ⟨g,0,none⟩) x.locks.length gc,locks:=x.locks.set i (99) }) ⟨rfl,?_,rfl,?_,rfl,rfl⟩ ?_
  ·unfold S8; simp only [XH.xs,Int.toNat_natCast,← hz]; simp [g2,g3]; rfl
  ·unfold S9; simp only [XH.xs,Int.toNat_natCast,← hz]; simp [g2,g3]
  simp only [C6,G0,D2,E5,G2,F4,WoH.ug,WoH.dg,List.cons_append,List.nil_append,List.length_set]
  (repeat' constructor)
 by_cases k3:k = 3
 ·subst k3
  by_cases g1:0 ≤ n
  case neg=>
   (have z:=trivial;repeat((first|clear z|with_reducible first|apply A3|refine A4 fun _=>?_|refine A5 fun _=>?_);try simp(disch:=solve|omega|assumption|repeat(first|exact A1|exact uH|apply A2|apply uT)|(simp;try omega)|fail)[g1]))
   refine B1 (m.dg,x) ⟨rfl,by unfold S8; simp [g1]; rfl,rfl,by unfold S9; simp [g1],rfl,rfl⟩ ?_
   simp only [C6,G0,D2,E5,G2,F4,WoH.ug,WoH.dg,List.cons_append,List.nil_append]
   (repeat' constructor)
  by_cases g2:n < x.c.sh
  case neg=>
   (have z:=trivial;repeat((first|clear z|with_reducible first|apply A3|refine A4 fun _=>?_|refine A5 fun _=>?_);try simp(disch:=solve|omega|assumption|repeat(first|exact A1|exact uH|apply A2|apply uT)|(simp;try omega)|fail)[g1,g2]))
   refine B1 (m.dg,x) ⟨rfl,by unfold S8; simp [XH.xs,g2]; rfl,rfl,by unfold S9; simp [XH.xs,g2],rfl,rfl⟩ ?_
   simp only [C6,G0,D2,E5,G2,F4,WoH.ug,WoH.dg,List.cons_append,List.nil_append]
   (repeat' constructor)
  obtain ⟨i,rfl⟩:∃ i:Nat,n = i:=⟨n.toNat,by omega⟩
  have hi:i < x.locks.length:=by omega
  have hi':¬ x.locks.length ≤ i:=by omega
  have hg:=m5 hi
  refine V5 (e:=3) (k:=1) (v:=x.lov) (q:=x.locks.length) (xs:=F2 x.locks) (by (repeat constructor)) (by omega) fun g gc hgl=> ?_
  rw [hgl]
  obtain ⟨z,hz⟩:∃ z,z = x.locks.getD i 0:=⟨_,rfl⟩
  rw [← hz] at hg
  have hgg:=(List.getElem?_eq_some_iff.1 hg).2
  by_cases g3:z = 99
  case neg=>
   (have z:=trivial;repeat((first|clear z|with_reducible first|apply A3|refine A4 fun _=>?_|refine A5 fun _=>?_);try simp(disch:=solve|omega|assumption|repeat(first|exact A1|exact uH|apply A2|apply uT)|(simp;try omega)|fail)[g1,g2,g3,hg,hgg,hi,hi']))
   refine B1 (m.dg,{ x with lov:=.slice (some ⟨g,0,none⟩) x.locks.length gc }) ⟨rfl,?_,rfl,?_,rfl,rfl⟩ ?_
   ·unfold S8; simp only [XH.xs,Int.toNat_natCast,← hz]; simp [g3]; rfl
   ·unfold S9; simp only [XH.xs,Int.toNat_natCast,← hz]; simp [g3]
   simp only [C6,G0,D2,E5,G2,F4,WoH.ug,WoH.dg,List.cons_append,List.nil_append]
   (repeat' constructor)
  (have z:=trivial;repeat((first|clear z|with_reducible first|apply A3|refine A4 fun _=>?_|refine A5 fun _=>?_);try simp(disch:=solve|omega|assumption|repeat(first|exact A1|exact uH|apply A2|apply uT)|(simp;try omega)|fail)[g1,g2,g3,hg,hgg,hi,hi']))
  refine C8 (Hc:=D8 m.bc m.cn m.cv m.ov m.cells m.own) A1w (fun w' _ hs=> B7E w' m.bc m.cn m.cv m.ov m.cells m.own (i:Nat) 99 how hs) (by unfold D8; (repeat' constructor)) ?_
  rintro n1 v ⟨r,rfl⟩
  simp only [D8,List.cons_append,List.nil_append]
  (have z:=trivial;repeat((first|clear z|with_reducible first|apply A3|refine A4 fun _=>?_|refine A5 fun _=>?_);try simp(disch:=solve|omega|assumption|repeat(first|exact A1|exact uH|apply A2|apply uT)|(simp;try omega)|fail)[g1,hi,hi']))
  refine Q9 (by (repeat constructor)) (by simp) (by simp; omega) (by simp) ?_
  have e:Y8 (F2 x.locks) i (Value.int .i64 (-1)).cells.toList = F2 (x.locks.set i (-1)):=q7 hi _
  rw [e]
  refine B1 ({ m.dg with cn:=n1,own:=N9 m.own (i:Nat) 99 },{ x with lov:=.slice (some ⟨g,0,none⟩) x.locks.length gc,locks:=x.locks.set i (-1) }) ⟨rfl,?_,rfl,?_,rfl,rfl⟩ ?_
  ·unfold S8; simp only [XH.xs,Int.toNat_natCast,← hz]; simp [g2,g3]; rfl
  ·unfold S9; simp only [XH.xs,Int.toNat_natCast,← hz]; simp [g2,g3]
  simp only [C6,G0,D2,E5,G2,F4,WoH.ug,WoH.dg,List.cons_append,List.nil_append,List.length_set]
  (repeat' constructor)
 by_cases k4:k = 4
 ·subst k4
  (have z:=trivial;repeat((first|clear z|with_reducible first|apply A3|refine A4 fun _=>?_|refine A5 fun _=>?_);try simp(disch:=solve|omega|assumption|repeat(first|exact A1|exact uH|apply A2|apply uT)|(simp;try omega)|fail)[]))
  refine C8 (Hc:=J0 m.bs m.sv m.ls) A90 (fun w' _ hs=> C5W w' m.bs m.sv m.ls n hls hs) (by unfold J0; (repeat' constructor)) ?_
  rintro _ v hv'
  simp only [J0,List.cons_append,List.nil_append]
  (have z:=trivial;repeat((first|clear z|with_reducible first|apply A3|refine A4 fun _=>?_|refine A5 fun _=>?_);try simp(disch:=solve|omega|assumption|repeat(first|exact A1|exact uH|apply A2|apply uT)|(simp;try omega)|fail)[]))
  refine C8 (Hc:=J0 m.bs m.sv (Y9 m.ls n .bld)) B1b (fun w' hw' hs=> C8s w' m.bs m.sv (Y9 m.ls n .bld) n (.slice pa p.length pc) p (by rw [B5w]; exact hls) hpl (B4k hv hw') hs) (by unfold J0; (repeat' constructor)) ?_
  rintro ls2 v2 ⟨hv2,hl2,hsp⟩
  rw [B4l] at hsp
  simp only [J0,List.cons_append,List.nil_append]
  (have z:=trivial;repeat((first|clear z|with_reducible first|apply A3|refine A4 fun _=>?_|refine A5 fun _=>?_);try simp(disch:=solve|omega|assumption|repeat(first|exact A1|exact uH|apply A2|apply uT)|(simp;try omega)|fail)[]))
  refine H3 A6P (fun w' hw' => C48 w' x.slv x.sl n hsl (M0.own (e:=270) (k:=2) (by (repeat constructor)) w' hw')) ?_
  rintro r1 v3 rfl
  cases hi:l2 x.sl.length n with
  | false=>
   (have z:=trivial;repeat((first|clear z|with_reducible first|apply A3|refine A4 fun _=>?_|refine A5 fun _=>?_);try simp(disch:=solve|omega|assumption|repeat(first|exact A1|exact uH|apply A2|apply uT)|(simp;try omega)|fail)[]))
   refine B1 ({ m.dg with ls:=ls2 },x) ⟨rfl,?_,rfl,?_,rfl,rfl⟩ ?_
   ·unfold S8; simp [WoH.ws,WoH.ug,WoH.dg,hsp]; rfl
   ·unfold S9; simp [XH.xs,hi]
   simp only [C6,G0,D2,E5,G2,F4,WoH.ug,WoH.dg,List.cons_append,List.nil_append]
   (repeat' constructor)
  | true=>
   simp only [if_true]
   have hbl:(T0 x.sl n).length = x.sl.length:=A8g _ _ _
   refine U8 (e:=270) (k:=2) (v:=r1) (q:=(T0 x.sl n).length) (xs:=(T0 x.sl n).flatMap V0) (by (repeat constructor)) fun sa sc hu=> ?_
   subst hu
   (have z:=trivial;repeat((first|clear z|with_reducible first|apply A3|refine A4 fun _=>?_|refine A5 fun _=>?_);try simp(disch:=solve|omega|assumption|repeat(first|exact A1|exact uH|apply A2|apply uT)|(simp;try omega)|fail)[]))
   refine H3 A7d (fun w' hw' => C5M w' (.slice sa (T0 x.sl n).length sc) (T0 x.sl n) n p pa pc (by omega) (by omega) (M0.own (e:=270) (k:=2) (by (repeat constructor)) w' hw') (hv w' hw'.ks)) ?_
   rintro r2 v4 rfl
   cases hfl:flR (T0 x.sl n) n p with
   | false=>
    (have z:=trivial;repeat((first|clear z|with_reducible first|apply A3|refine A4 fun _=>?_|refine A5 fun _=>?_);try simp(disch:=solve|omega|assumption|repeat(first|exact A1|exact uH|apply A2|apply uT)|(simp;try omega)|fail)[]))
    refine B1 ({ m.dg with ls:=ls2 },{ x with slv:=.slice sa (T0 x.sl n).length sc,sl:=T0 x.sl n }) ⟨rfl,?_,rfl,?_,rfl,rfl⟩ ?_
    ·unfold S8; simp [WoH.ws,WoH.ug,WoH.dg,hsp]; rfl
    ·unfold S9; simp [XH.xs,hi,m8,hfl]
    simp only [C6,G0,D2,E5,G2,F4,WoH.ug,WoH.dg,List.cons_append,List.nil_append]
    (repeat' constructor)
   | true=>
    simp only [if_true]
    refine U8 (e:=270) (k:=2) (v:=r2) (q:=(m8 (T0 x.sl n) n p (pa,p.length,pc)).length) (xs:=(m8 (T0 x.sl n) n p (pa,p.length,pc)).flatMap V0) (by (repeat constructor)) fun ra rc hu=> ?_
    subst hu
    (have z:=trivial;repeat((first|clear z|with_reducible first|apply A3|refine A4 fun _=>?_|refine A5 fun _=>?_);try simp(disch:=solve|omega|assumption|repeat(first|exact A1|exact uH|apply A2|apply uT)|(simp;try omega)|fail)[]))
    refine B1 ({ m.dg with ls:=ls2 },{ x with slv:=.slice ra (m8 (T0 x.sl n) n p (pa,p.length,pc)).length rc,sl:=m8 (T0 x.sl n) n p (pa,p.length,pc) }) ⟨rfl,?_,rfl,?_,rfl,rfl⟩ ?_
    ·unfold S8; simp [WoH.ws,WoH.ug,WoH.dg,hsp]; rfl
    ·unfold S9; simp [XH.xs,hi]
    simp only [C6,G0,D2,E5,G2,F4,WoH.ug,WoH.dg,List.cons_append,List.nil_append]
    (repeat' constructor)
 by_cases k5:k = 5
 ·subst k5
  (have z:=trivial;repeat((first|clear z|with_reducible first|apply A3|refine A4 fun _=>?_|refine A5 fun _=>?_);try simp(disch:=solve|omega|assumption|repeat(first|exact A1|exact uH|apply A2|apply uT)|(simp;try omega)|fail)[]))
  refine C8 (Hc:=J0 m.bs m.sv m.ls) A98 (fun w' _ hs=> C6r w' m.bs m.sv m.ls n hls hs) (by unfold J0; (repeat' constructor)) ?_
  rintro _ v hv'
  simp only [J0,List.cons_append,List.nil_append]
  (have z:=trivial;repeat((first|clear z|with_reducible first|apply A3|refine A4 fun _=>?_|refine A5 fun _=>?_);try simp(disch:=solve|omega|assumption|repeat(first|exact A1|exact uH|apply A2|apply uT)|(simp;try omega)|fail)[]))
  refine H3 A6n (fun w' hw' => C4p w' x.slv x.sl n hsl (M0.own (e:=270) (k:=2) (by (repeat constructor)) w' hw')) ?_
  rintro r1 v3 rfl
  cases hi:l2 x.sl.length n with
  | false=>
   refine U8 (e:=270) (k:=2) (v:=x.slv) (q:=x.sl.length) (xs:=x.sl.flatMap V0) (by (repeat constructor)) fun sa sc hu=> ?_
   rw [hu]
   (have z:=trivial;repeat((first|clear z|with_reducible first|apply A3|refine A4 fun _=>?_|refine A5 fun _=>?_);try simp(disch:=solve|omega|assumption|repeat(first|exact A1|exact uH|apply A2|apply uT)|(simp;try omega)|fail)[]))
   refine B1 ({ m.dg with ls:=Y9 m.ls n .no },{ x with slv:=.slice sa x.sl.length sc }) ⟨rfl,?_,rfl,?_,rfl,rfl⟩ ?_
   ·unfold S8; simp [WoH.ws,WoH.ug,WoH.dg,B4l]; rfl
   ·have e:u6 x.sl n = x.sl:=by unfold u6 A1D; simp [l2] at hi; rw [if_neg (by omega)]
    unfold S9; simp [XH.xs,e]
   simp only [C6,G0,D2,E5,G2,F4,WoH.ug,WoH.dg,List.cons_append,List.nil_append]
   (repeat' constructor)
  | true=>
   simp only [if_true]
   refine U8 (e:=270) (k:=2) (v:=r1) (q:=(u6 x.sl n).length) (xs:=(u6 x.sl n).flatMap V0) (by (repeat constructor)) fun sa sc hu=> ?_
   subst hu
   (have z:=trivial;repeat((first|clear z|with_reducible first|apply A3|refine A4 fun _=>?_|refine A5 fun _=>?_);try simp(disch:=solve|omega|assumption|repeat(first|exact A1|exact uH|apply A2|apply uT)|(simp;try omega)|fail)[]))
   refine B1 ({ m.dg with ls:=Y9 m.ls n .no },{ x with slv:=.slice sa (u6 x.sl n).length sc,sl:=u6 x.sl n }) ⟨rfl,?_,rfl,?_,rfl,rfl⟩ ?_
   ·unfold S8; simp [WoH.ws,WoH.ug,WoH.dg,B4l]; rfl
   ·unfold S9; simp [XH.xs]
   simp only [C6,G0,D2,E5,G2,F4,WoH.ug,WoH.dg,List.cons_append,List.nil_append]
   (repeat' constructor)
 by_cases k6:k = 6
 ·subst k6
  by_cases g1 : -1 ≤ n
  case neg=>
   (have z:=trivial;repeat((first|clear z|with_reducible first|apply A3|refine A4 fun _=>?_|refine A5 fun _=>?_);try simp(disch:=solve|omega|assumption|repeat(first|exact A1|exact uH|apply A2|apply uT)|(simp;try omega)|fail)[g1]))
   refine B1 (m.dg,x) ⟨rfl,by unfold S8; simp [g1]; rfl,rfl,by unfold S9; simp [g1],rfl,rfl⟩ ?_
   simp only [C6,G0,D2,E5,G2,F4,WoH.ug,WoH.dg,List.cons_append,List.nil_append]
   (repeat' constructor)
  by_cases g2:n < x.c.sl
  case neg=>
   (have z:=trivial;repeat((first|clear z|with_reducible first|apply A3|refine A4 fun _=>?_|refine A5 fun _=>?_);try simp(disch:=solve|omega|assumption|repeat(first|exact A1|exact uH|apply A2|apply uT)|(simp;try omega)|fail)[g1,g2]))
   refine B1 (m.dg,x) ⟨rfl,by unfold S8; simp [XH.xs,g2]; rfl,rfl,by unfold S9; simp [XH.xs,g2],rfl,rfl⟩ ?_
   simp only [C6,G0,D2,E5,G2,F4,WoH.ug,WoH.dg,List.cons_append,List.nil_append]
   (repeat' constructor)
  (have z:=trivial;repeat((first|clear z|with_reducible first|apply A3|refine A4 fun _=>?_|refine A5 fun _=>?_);try simp(disch:=solve|omega|assumption|repeat(first|exact A1|exact uH|apply A2|apply uT)|(simp;try omega)|fail)[g1,g2]))
  refine C8 (Hc:=D8 m.bc m.cn m.cv m.ov m.cells m.own) u3 (fun w' _ hs=> B36 w' m.bc m.cn m.cv m.ov m.cells m.own 1 (n + 1) hcl.2 hs) (by unfold D8; (repeat' constructor)) ?_
  rintro n1 v rfl
  simp only [D8,List.cons_append,List.nil_append]
  (have z:=trivial;repeat((first|clear z|with_reducible first|apply A3|refine A4 fun _=>?_|refine A5 fun _=>?_);try simp(disch:=solve|omega|assumption|repeat(first|exact A1|exact uH|apply A2|apply uT)|(simp;try omega)|fail)[]))
  refine B1 ({ m.dg with cn:=n1,cells:=N0 m.cells 1 (n + 1) },{ x with cur:=n + 1 }) ⟨rfl,?_,rfl,?_,rfl,rfl⟩ ?_
  ·unfold S8; simp [XH.xs,g1,g2]; rfl
  ·unfold S9; simp [XH.xs,g1,g2]
  simp only [C6,G0,D2,E5,G2,F4,WoH.ug,WoH.dg,List.cons_append,List.nil_append]
  (repeat' constructor)
 by_cases k7:k = 7
 ·subst k7
  (have z:=trivial;repeat((first|clear z|with_reducible first|apply A3|refine A4 fun _=>?_|refine A5 fun _=>?_);try simp(disch:=solve|omega|assumption|repeat(first|exact A1|exact uH|apply A2|apply uT)|(simp;try omega)|fail)[]))
  refine C8 (Hc := [D2 m.b m.c (.pointer (some ⟨m.bc,0,none⟩)) (.pointer (some ⟨m.bs,0,none⟩)) (.pointer (some ⟨m.bk,0,none⟩)) m.tv m.pv (.int .i64 m.now)]) B0y (fun w' _ hs=> C8x w' m.b m.c _ _ _ m.tv m.pv m.now n hnow hs) (by unfold D2 E5; (repeat' constructor)) ?_
  rintro _ v rfl
  simp only [D2,E5,List.cons_append,List.nil_append]
  (have z:=trivial;repeat((first|clear z|with_reducible first|apply A3|refine A4 fun _=>?_|refine A5 fun _=>?_);try simp(disch:=solve|omega|assumption|repeat(first|exact A1|exact uH|apply A2|apply uT)|(simp;try omega)|fail)[]))
  refine C8 (Hc := [G2 x.b x.c x.ep x.cur x.piv x.lov x.slv x.kev x.tav x.plv x.now]) A3w (fun w' _ hs=> C6L w' x.b x.c x.ep x.cur x.piv x.lov x.slv x.kev x.tav x.plv x.now n hxnow hs) (by unfold G2 F4; (repeat' constructor)) ?_
  rintro _ v rfl
  simp only [G2,F4,List.cons_append,List.nil_append]
  (have z:=trivial;repeat((first|clear z|with_reducible first|apply A3|refine A4 fun _=>?_|refine A5 fun _=>?_);try simp(disch:=solve|omega|assumption|repeat(first|exact A1|exact uH|apply A2|apply uT)|(simp;try omega)|fail)[]))
  refine B1 ({ m.dg with now:=p6 m.now n },{ x with now:=p6 x.now n }) ⟨rfl,?_,rfl,?_,rfl,rfl⟩ ?_
  ·unfold S8; simp; rfl
  ·unfold S9; simp [XH.xs]
  simp only [C6,G0,D2,E5,G2,F4,WoH.ug,WoH.dg,List.cons_append,List.nil_append]
  (repeat' constructor)
 ·(have z:=trivial;repeat((first|clear z|with_reducible first|apply A3|refine A4 fun _=>?_|refine A5 fun _=>?_);try simp(disch:=solve|omega|assumption|repeat(first|exact A1|exact uH|apply A2|apply uT)|(simp;try omega)|fail)[k1,k2,k3,k4,k5,k6,k7]))
  refine B1 (m.dg,x) ⟨rfl,by unfold S8; simp [k1,k2,k3,k4,k5,k6,k7]; rfl,rfl,by unfold S9; simp [k1,k2,k3,k4,k5,k6,k7],rfl,rfl⟩ ?_
  simp only [C6,G0,D2,E5,G2,F4,WoH.ug,WoH.dg,List.cons_append,List.nil_append]
  (repeat' constructor)
def A6r (a:ActV):List Value := [.int .i64 a.k,.int .i64 a.n,a.pv]
def A3k (l:List ActV):Bool:=decide (l.length ≤ 40) && l.all fun a=> decide (a.pool.length ≤ 8)
theorem C9m (w:World) (v:Value) (l:List ActV) (hn:l.length ≤ 9223372036854775807) (hv:F5 w v l.length (l.flatMap A6r)) :
  Fn PR B8 41 #[v] w (fun r w' => r = .bool (A3k l) ∧ C7 [] w w'):=by
 refine Fn.pure (A96 (TW.go (κ:=false) (S := []) ?_))
 unfold A2s
 obtain ⟨a,c,rfl,hr⟩:=hv.form
 by_cases c0:l.length ≤ 40
 case neg=>
  have c0':(40:Int) < (l.length:Int):=by omega
  have c1:40 < l.length:=by omega
  (have z:=trivial;repeat((first|clear z|with_reducible first|apply A3|refine A4 fun _=>?_|refine A5 fun _=>?_);try simp(disch:=solve|omega|assumption|repeat(first|exact A1|exact uH|apply A2|apply uT)|(simp;try omega)|fail)[c0,c0',c1]))
  exact A9 (by simp [A3k]; intro h; omega)
 have c0':¬ (40:Int) < (l.length:Int):=by omega
 have c1:¬ 40 < l.length:=by omega
 (have z:=trivial;repeat((first|clear z|with_reducible first|apply A3|refine A4 fun _=>?_|refine A5 fun _=>?_);try simp(disch:=solve|omega|assumption|repeat(first|exact A1|exact uH|apply A2|apply uT)|(simp;try omega)|fail)[c0,c0',c1]))
 refine P5 l.length (fun _ _=> .bool false) (fun _ (_:Unit)=> []) (fun i _=> ∀ (j:Nat) x,j < i → l[j]? = some x → x.pool.length ≤ 8) () (by intros; omega) ?_
 rintro i _ hi hφ L hL
 by_cases hlt:i < l.length
 ·have hx:=List.getElem?_eq_getElem hlt
  obtain ⟨b,o,rfl,hrow⟩:=hr (by omega)
  have h2:=hrow.cellAt (f:=A6r) (k:=3) (j:=2) (fun _=> rfl) hx rfl
  unfold ActV.pv at h2
  by_cases c2:l[i].pool.length ≤ 8
  case neg=>
   have c2':(8:Int) < (l[i].pool.length:Int):=by omega
   have c3:8 < l[i].pool.length:=by omega
   (have z:=trivial;repeat((first|clear z|with_reducible first|apply A3|refine A4 fun _=>?_|refine A5 fun _=>?_);try simp(disch:=solve|omega|assumption|repeat(first|exact A1|exact uH|apply A2|apply uT)|(simp;try omega)|fail)[hlt,h2,c2,c2',c3]))
   refine A9 ?_
   have:A3k l = false:=by
    unfold A3k
    rw [Bool.and_eq_false_iff]; right
    rw [List.all_eq_false]
    exact ⟨l[i],List.getElem_mem hlt,by simp; omega⟩
   rw [this]
  have c2':¬ (8:Int) < (l[i].pool.length:Int):=by omega
  have c3:¬ 8 < l[i].pool.length:=by omega
  (have z:=trivial;repeat((first|clear z|with_reducible first|apply A3|refine A4 fun _=>?_|refine A5 fun _=>?_);try simp(disch:=solve|omega|assumption|repeat(first|exact A1|exact uH|apply A2|apply uT)|(simp;try omega)|fail)[hlt,h2,c2,c2',c3]))
  refine hL hlt () fun j x hj hx' => ?_
  by_cases e:j < i
  ·exact hφ j x e hx'
  ·obtain rfl:j = i:=by omega
   rw [hx] at hx'; injection hx' with hx'; subst hx'
   exact c2
 ·(have z:=trivial;repeat((first|clear z|with_reducible first|apply A3|refine A4 fun _=>?_|refine A5 fun _=>?_);try simp(disch:=solve|omega|assumption|repeat(first|exact A1|exact uH|apply A2|apply uT)|(simp;try omega)|fail)[hlt]))
  refine A9 ?_
  have:A3k l = true:=by
   unfold A3k
   rw [Bool.and_eq_true]
   refine ⟨by simp; omega,?_⟩
   rw [List.all_eq_true]
   intro x hx
   obtain ⟨j,hj,e⟩:=List.getElem_of_mem hx
   simp only [decide_eq_true_eq]
   exact hφ j x (by omega) (by simp [hj,e])
  rw [this]
theorem C7P {l:List ActV} (h:A3k l = true):l.length ≤ 40:=by simp [A3k] at h; exact h.1
theorem C9K {l:List ActV} (h:A3k l = true) {a:ActV} (ha:a ∈ l):a.pool.length ≤ 8:=by simp [A3k] at h; exact h.2 a ha
end Go.Proofs.YtjobgnabneddjaaGreat
namespace Go.Proofs.YtjobgnabneddjaaGreat
open Go Go.ChangeShapes Go.WideShapes Go.ChangeAt Go.RowKit
set_option maxRecDepth 10000
section
variable {H:Type} {enc:TypeId × Value → H} {w:World} {base:Nat} {spare:Nat → Bool} {held:Bool} {fuel:Nat} {cs:List Value} {x:DataW H × List MemPlace}
theorem C4N (h:DataW.trod enc PR w base spare held fuel 79 cs = some x):∃ a:ActV,cs = A6r a ∧ F5 w a.pv a.pool.length (a.pool.flatMap H5):=by
 obtain ⟨xs,n,_,rfl,hl,hxl,hf⟩:=DataW.trod_struct B7q.und h
 have hl4:cs.length = 3:=hl.trans (by kernel_rfl)
 have hx4:xs.length = 3:=hxl.trans (by kernel_rfl)
 match cs,hl4 with
 | [c0,c1,c2],_=>
  have f0:=hf 0 _ rfl
  have f1:=hf 1 _ rfl
  have f2:=hf 2 _ rfl
  rw [List.getElem?_eq_getElem (by omega)] at f0 f1 f2
  obtain ⟨a0,e0,_⟩:=n5 Tryz.underlying3 f0
  obtain ⟨a1,e1,_⟩:=n5 Tryz.underlying3 f1
  obtain ⟨v,l,e2,hv,_⟩:=C9j f2
  obtain ⟨pa,pc,rfl,_⟩:=hv.form
  have e0 : [c0] = [.int .i64 a0]:=e0
  have e1 : [c1] = [.int .i64 a1]:=e1
  have e2 : [c2] = [.slice pa l.length pc]:=e2
  cases e0; cases e1; cases e2
  exact ⟨⟨a0,a1,l,pa,pc⟩,rfl,hv⟩
theorem B6W {r:Reach} {b0:Nat} {v:Value} {d:DataW H} {ps:List MemPlace} (hval:Value.okWide PR w r b0 71 v) (hd:DataW.Trod enc PR w base spare held 71 v d ps) :
  ∃ l:List ActV,F5 w v l.length (l.flatMap A6r) ∧ (∀ a ∈ l,F5 w a.pv a.pool.length (a.pool.flatMap H5)) ∧ l.length ≤ maxLen :=
 C4Q Tryz.underlying71 hval hd fun _ _ _ h=> C3U (f:=A6r) (k:=3) (Q:=fun a=> F5 w a.pv a.pool.length (a.pool.flatMap H5)) (fun _=> rfl) (by omega) Tryz.underlying71 (by kernel_rfl) h (fun n cs' y hy=> C4N hy)
end
section
open Instr
variable {X:Nat → Prop} {t0 t1 t2 t3 t4 t5 t6 t7:Value} {R:Value → WP} {w:World}
def r7 (X:Nat → Prop) (a b c d:Value) (R:Value → WP):WP :=
 B5 PR X (box 23 a) fun e=>
 B3 PR X 14 [] fun f=>
 jn (n:=1) (fun g=>
 A6 PR (loadAt 23 e) fun h=>
 B3 PR X 15 [h] fun i=>
 jn (n:=1) (fun j=>
 A6 PR (loadAt 23 e) fun k=>
 B3 PR X 16 [k] fun l=>
 A0 PR (extract l 0) fun m=>
 A0 PR (extract l 1) fun o=>
 jn (n:=1) (fun p=>
 B3 PR X 17 [b,c] fun q=>
 jn (n:=1) (fun r=>
 A6 PR (loadAt 23 e) fun s=>
 B3 PR X 42 [s] fun t=>
 B3 PR X 52 [b,c] fun u=>
 jn (n:=2) (fun v w=>
 R f) fun J1=>
 lp (n:=2) (fun L2 x y=>
 jn (n:=0) (
 jn (n:=1) (fun z=>
 A0 PR (binOp .add 3 y (.int .i64 1)) fun aa=>
 L2 z aa) fun J3=>
 jn (n:=0) (
 jn (n:=1) (fun ab=>
 B3 PR X 20 [q,m] fun ac=>
 B3 PR X 54 [u,t] fun ad=>
 B5 PR X (alloc 42 true (.tuple #[])) fun ae=>
 B5 PR X (alloc 82 true (.tuple #[])) fun af=>
 C1 PR X (storeAt 42 ae ac) <|
 C1 PR X (storeAt 82 af ad) <|
 drw <|
 A6 PR (loadAt 42 ae) fun ag=>
 A6 PR (loadAt 82 af) fun ah=>
 A6 PR (H9 .neq 42 (.tmp 96) (.tmp 97) ag ah) fun ai=>
 gj ai false (fun J=> J q) fun aj=>
 gj ai false (fun J=> J u) fun ak=>
 gj ai false (fun J=> A0 PR (B4 ak) J) fun al=>
 gj ai false (fun J=> A0 PR (fieldAt 100 al 2) J) fun am=>
 gj ai false (fun J=> A6 PR (loadAt 3 am) J) fun an=>
 gj ai false (fun J=> B3 PR X 22 [aj] J) fun ao=>
 watch PR [((some (ai,false)),(loadAt 3 am),an)] <|
 gj ai false (fun J=> A0 PR (binOp .neq 3 ao an) J) fun ap=>
 A0 PR (do pure (if ← asBool ai then (.bool true) else ap)) fun aq=>
 gj aq false (fun J=> J u) fun ar=>
 gj aq false (fun J=> A0 PR (B4 ar) J) fun au=>
 gj aq false (fun J=> A0 PR (fieldAt 100 au 2) J) fun av=>
 gj aq false (fun J=> A6 PR (loadAt 3 av) J) fun aw=>
 gj aq false (fun J=> A0 PR (binOp .geq 3 aw (.int .i64 7)) J) fun ax=>
 gj aq false (fun J=> J ax) fun ay=>
 gj ay true (fun J=> J q) fun az=>
 gj ay true (fun J=> J u) fun a0=>
 gj ay true (fun J=> A0 PR (B4 a0) J) fun a1=>
 gj ay true (fun J=> A0 PR (fieldAt 100 a1 7) J) fun a2=>
 gj ay true (fun J=> A6 PR (loadAt 55 a2) J) fun a3=>
 gj ay true (fun J=> B3 PR X 27 [az] J) fun a4=>
 watch PR [((some (ay,true)),(loadAt 55 a2),a3)] <|
 gj ay true (fun J=> A6 PR (H9 .neq 55 (.tmp 116) (.tmp 120) a4 a3) J) fun a5=>
 gj aq false (fun J=> A0 PR (do pure (if ← asBool ay then a5 else (.bool false))) J) fun a6=>
 A0 PR (do pure (if ← asBool aq then (.bool true) else a6)) fun a7=>
 gj a7 false (fun J=> J m) fun a8=>
 gj a7 false (fun J=> J t) fun a9=>
 gj a7 false (fun J=> B3 PR X 55 [a8,a9] J) fun ba=>
 gj a7 false (fun J=> A0 PR (Op.unary .not ba) J) fun bb=>
 A0 PR (do pure (if ← asBool a7 then (.bool true) else bb)) fun bc=>
 C0 bc (
 R (.bool false)) (
 J3 ab)) fun J4=>
 B3 PR X 23 [q,m] fun bd=>
 B3 PR X 53 [u,t] fun be=>
 A0 PR (binOp .neq 4 bd be) fun bf=>
 C0 bf (
 R (.bool false)) (
 J4 x)) fun J5=>
 A0 PR (indexAt 71 d y) fun bg=>
 A0 PR (fieldAt 79 bg 0) fun bh=>
 A6 PR (loadAt 3 bh) fun bi=>
 A0 PR (binOp .neq 3 bi (.int .i64 0)) fun bj=>
 C0 bj (
 A0 PR (indexAt 71 d y) fun bk=>
 A6 PR (loadAt 79 bk) fun bl=>
 B3 PR X 44 [m,t,bl] fun bm=>
 J3 x) (
 J5)) fun J6=>
 A0 PR (A8 .len #[71] 0 [d]) fun bn=>
 A0 PR (binOp .lss 3 y bn) fun bo=>
 C0 bo (
 J6) (
 J1 x y)) r (.int .i64 0)) fun J7=>
 B3 PR X 18 [m] fun bp=>
 A0 PR (Op.unary .not bp) fun bq=>
 gj bq false (fun J=> J q) fun br=>
 gj bq false (fun J=> A6 PR (H9 .eql 30 (.tmp 56) (.const (.pointer none)) br (.pointer none)) J) fun bs=>
 A0 PR (do pure (if ← asBool bq then (.bool true) else bs)) fun bt=>
 C0 bt (
 R (.bool false)) (
 J7 p)) fun J8=>
 A0 PR (binOp .neq 27 o (.int .i64 0)) fun bu=>
 C0 bu (
 gj f true (fun J=> J m) fun bv=>
 gj f true (fun J=> A6 PR (H9 .eql 26 (.tmp 46) (.const (.pointer none)) bv (.pointer none)) J) fun bw=>
 A0 PR (do pure (if ← asBool f then bw else (.bool false))) fun bx=>
 R bx) (
 J8 j)) fun J9=>
 A0 PR (Op.unary .not i) fun bz=>
 gj bz false (fun J=> J d) fun b0=>
 gj bz false (fun J=> B3 PR X 41 [b0] J) fun b1=>
 gj bz false (fun J=> A0 PR (Op.unary .not b1) J) fun b2=>
 A0 PR (do pure (if ← asBool bz then (.bool true) else b2)) fun b3=>
 gj b3 false (fun J=> J c) fun b4=>
 gj b3 false (fun J=> A0 PR (A8 .len #[9] 0 [b4]) J) fun b5=>
 gj b3 false (fun J=> A0 PR (binOp .gtr 3 b5 (.int .i64 100)) J) fun b6=>
 A0 PR (do pure (if ← asBool b3 then (.bool true) else b6)) fun b7=>
 C0 b7 (
 R f) (
 J9 g)) fun J10=>
 A0 PR (Op.unary .not f) fun b8=>
 C0 b8 (
 R (.bool false)) (
 J10 (.bool false))
theorem A3y (h:r7 X t0 t1 t2 t3 R w):Fn PR X 9 #[t0,t1,t2,t3] w R:=C4 (args := [t0,t1,t2,t3]) mixed Tryz.func9 (by kernel_rfl) h
def B2B (X:Nat → Prop) (a b:Value) (R:Value → WP):WP :=
 A0 PR (build 128 #[(0,b)]) fun c=>
 A0 PR (build 130 #[(0,c),(1,a)]) fun d=>
 B5 PR X (box 130 d) fun e=>
 R e
theorem A4T:B0 PR 17:=A7 Tryz.func17 (by kernel_rfl) rfl
theorem B9L (h:B2B X t0 t1 R w):Fn PR X 17 #[t0,t1] w R:=C4 (args := [t0,t1]) mixed Tryz.func17 (by kernel_rfl) h
def A4s (X:Nat → Prop) (a b:Value) (R:Value → WP):WP :=
 B5 PR X (alloc 42 true (.tuple #[])) fun d=>
 jn (n:=0) (
 A0 PR (build 144 #[(0,(.func (.func 76) #[] #[])),(1,(.func (.func 77) #[] #[])),(2,(.func (.func 78) #[] #[])),(3,(.func (.func 79) #[] #[])),(4,(.func (.func 80) #[] #[])),(5,(.func (.func 81) #[] #[])),(6,(.func (.func 82) #[] #[])),(7,(.func (.func 83) #[] #[])),(8,(.func (.func 84) #[] #[])),(9,(.func (.func 85) #[] #[]))]) fun e=>
 B5 PR X (alloc 144 true (.tuple #[])) fun f=>
 C1 PR X (storeAt 144 f e) <|
 A0 PR (B4 a) fun g=>
 A0 PR (fieldAt 130 g 2) fun h=>
 A6 PR (loadAt 3 h) fun i=>
 A0 PR (B4 a) fun j=>
 A0 PR (fieldAt 130 j 2) fun k=>
 A6 PR (loadAt 3 k) fun l=>
 A0 PR (binOp .add 3 l (.int .i64 1)) fun m=>
 A0 PR (B4 a) fun o=>
 A0 PR (fieldAt 130 o 2) fun p=>
 C1 PR X (storeAt 3 p m) <|
 A0 PR (indexAt 144 f i) fun q=>
 A6 PR (loadAt 143 q) fun r=>
 N7 PR X r [a,b] fun s=>
 C1 PR X (storeAt 42 d s) <|
 A6 PR (E1 [.c 42 d]) R) fun J1=>
 B3 PR X 23 [a,b] fun t=>
 A0 PR (Op.unary .not t) fun u=>
 C0 u (
 A0 PR (build 42 #[]) fun v=>
 C1 PR X (storeAt 42 d v) <|
 A6 PR (E1 [.c 42 d]) R) (
 J1)
theorem A0S:B0 PR 20:=A7 Tryz.func20 (by kernel_rfl) rfl
theorem B3n (h:A4s X t0 t1 R w):Fn PR X 20 #[t0,t1] w R:=C4 (args := [t0,t1]) mixed Tryz.func20 (by kernel_rfl) h
def A30 (X:Nat → Prop) (a:Value) (R:Value → WP):WP :=
 A0 PR (B4 a) fun b=>
 A0 PR (fieldAt 130 b 2) fun c=>
 A6 PR (loadAt 3 c) fun d=>
 R d
theorem y9:B0 PR 22:=A7 Tryz.func22 (by kernel_rfl) rfl
theorem B2l (h:A30 X t0 R w):Fn PR X 22 #[t0] w R:=C4 (args := [t0]) mixed Tryz.func22 (by kernel_rfl) h
def A33 (X:Nat → Prop) (a b:Value) (R:Value → WP):WP :=
 drw <|
 A0 PR (B4 a) fun c=>
 A0 PR (fieldAt 130 c 2) fun d=>
 A6 PR (loadAt 3 d) fun e=>
 A0 PR (binOp .lss 3 e (.int .i64 10)) fun f=>
 gj f true (fun J=> J a) fun g=>
 gj f true (fun J=> A0 PR (B4 g) J) fun h=>
 gj f true (fun J=> A0 PR (fieldAt 130 h 2) J) fun i=>
 gj f true (fun J=> A6 PR (loadAt 3 i) J) fun j=>
 gj f true (fun J=> A0 PR (binOp .neq 3 j (.int .i64 3)) J) fun k=>
 gj f true (fun J=> J k) fun l=>
 gj l false (fun J=> J b) fun m=>
 gj l false (fun J=> A0 PR (B4 m) J) fun n=>
 gj l false (fun J=> A0 PR (fieldAt 39 n 1) J) fun o=>
 gj l false (fun J=> A6 PR (loadAt 33 o) J) fun p=>
 gj l false (fun J=> J a) fun q=>
 gj l false (fun J=> A0 PR (B4 q) J) fun r=>
 gj l false (fun J=> A0 PR (fieldAt 130 r 0) J) fun s=>
 gj l false (fun J=> A0 PR (fieldAt 128 s 2) J) fun t=>
 gj l false (fun J=> A6 PR (loadAt 3 t) J) fun u=>
 gj l false (fun J=> B3 PR X 37 [p,u] J) fun v=>
 gj l false (fun J=> A0 PR (binOp .lss 3 v (.int .i64 0)) J) fun w=>
 gj f true (fun J=> A0 PR (do pure (if ← asBool l then (.bool true) else w)) J) fun x=>
 A0 PR (do pure (if ← asBool f then x else (.bool false))) fun y=>
 R y
theorem S7:B0 PR 23:=A7 Tryz.func23 (by kernel_rfl) rfl
theorem B2V (h:A33 X t0 t1 R w):Fn PR X 23 #[t0,t1] w R:=C4 (args := [t0,t1]) mixed Tryz.func23 (by kernel_rfl) h
def A3L (X:Nat → Prop) (a:Value) (R:Value → WP):WP :=
 B5 PR X (alloc 55 true (.tuple #[])) fun b=>
 A0 PR (B4 a) fun d=>
 A0 PR (fieldAt 130 d 7) fun e=>
 A6 PR (loadAt 55 e) fun f=>
 C1 PR X (storeAt 55 b f) <|
 A6 PR (E1 [.c 55 b]) R
theorem s8:B0 PR 27:=A7 Tryz.func27 (by kernel_rfl) rfl
theorem B0v (h:A3L X t0 R w):Fn PR X 27 #[t0] w R:=C4 (args := [t0]) mixed Tryz.func27 (by kernel_rfl) h
def A4K (X:Nat → Prop) (a b:Value) (R:Value → WP):WP :=
 B5 PR X (alloc 42 true (.tuple #[])) fun d=>
 jn (n:=0) (
 jn (n:=0) (
 A0 PR (B4 b) fun e=>
 A0 PR (fieldAt 39 e 1) fun f=>
 A6 PR (loadAt 33 f) fun g=>
 B3 PR X 35 [g,(.int .i64 0)] fun h=>
 A0 PR (B4 a) fun i=>
 A0 PR (fieldAt 130 i 3) fun j=>
 C1 PR X (storeAt 3 j h) <|
 A0 PR (build 42 #[]) fun k=>
 C1 PR X (storeAt 42 d k) <|
 A6 PR (E1 [.c 42 d]) R) fun J1=>
 drw <|
 A0 PR (B4 a) fun l=>
 A0 PR (fieldAt 130 l 0) fun m=>
 A0 PR (B4 b) fun o=>
 A0 PR (fieldAt 39 o 0) fun p=>
 A0 PR (fieldAt 23 p 1) fun q=>
 A6 PR (loadAt 3 q) fun r=>
 B3 PR X 131 [m,r] fun s=>
 A0 PR (Op.unary .not s) fun t=>
 C0 t (
 B3 PR X 130 [a,(.int .i64 9)] fun u=>
 C1 PR X (storeAt 42 d u) <|
 A6 PR (E1 [.c 42 d]) R) (
 J1)) fun J2=>
 A0 PR (B4 a) fun v=>
 A0 PR (fieldAt 130 v 1) fun w=>
 A6 PR (loadAt 3 w) fun x=>
 B3 PR X 57 [b,x] fun y=>
 A0 PR (binOp .lss 3 y (.int .i64 0)) fun z=>
 C0 z (
 B3 PR X 130 [a,(.int .i64 1)] fun aa=>
 C1 PR X (storeAt 42 d aa) <|
 A6 PR (E1 [.c 42 d]) R) (
 J2)
theorem B1J:B0 PR 76:=A7 Tryz.func76 (by kernel_rfl) rfl
theorem B2x (h:A4K X t0 t1 R w):Fn PR X 76 #[t0,t1] w R:=C4 (args := [t0,t1]) mixed Tryz.func76 (by kernel_rfl) h
def A5V (X:Nat → Prop) (a b:Value) (R:Value → WP):WP :=
 B5 PR X (alloc 42 true (.tuple #[])) fun d=>
 drw <|
 A0 PR (B4 b) fun e=>
 A0 PR (fieldAt 39 e 1) fun f=>
 A6 PR (loadAt 33 f) fun g=>
 A0 PR (B4 a) fun h=>
 A0 PR (fieldAt 130 h 1) fun i=>
 A6 PR (loadAt 3 i) fun j=>
 A0 PR (B4 a) fun k=>
 A0 PR (fieldAt 130 k 3) fun l=>
 A6 PR (loadAt 3 l) fun m=>
 A0 PR (binOp .add 3 m (.int .i64 1)) fun n=>
 B3 PR X 57 [b,j] fun o=>
 watch PR [(none,(loadAt 3 l),m),(none,(loadAt 33 f),g)] <|
 B3 PR X 31 [g,o,n] fun p=>
 A0 PR (build 42 #[]) fun q=>
 C1 PR X (storeAt 42 d q) <|
 A6 PR (E1 [.c 42 d]) R
theorem B20:B0 PR 77:=A7 Tryz.func77 (by kernel_rfl) rfl
theorem B4x (h:A5V X t0 t1 R w):Fn PR X 77 #[t0,t1] w R:=C4 (args := [t0,t1]) mixed Tryz.func77 (by kernel_rfl) h
def A31 (X:Nat → Prop) (a b:Value) (R:Value → WP):WP :=
 B5 PR X (alloc 42 true (.tuple #[])) fun d=>
 jn (n:=0) (
 A0 PR (build 42 #[]) fun e=>
 C1 PR X (storeAt 42 d e) <|
 A6 PR (E1 [.c 42 d]) R) fun J1=>
 A0 PR (B4 b) fun f=>
 A0 PR (fieldAt 39 f 1) fun g=>
 A6 PR (loadAt 33 g) fun h=>
 B3 PR X 35 [h,(.int .i64 0)] fun i=>
 A0 PR (B4 a) fun j=>
 A0 PR (fieldAt 130 j 3) fun k=>
 A6 PR (loadAt 3 k) fun l=>
 A0 PR (binOp .neq 3 i l) fun m=>
 C0 m (
 A0 PR (B4 a) fun o=>
 A0 PR (fieldAt 130 o 3) fun p=>
 C1 PR X (storeAt 3 p i) <|
 A0 PR (B4 a) fun q=>
 A0 PR (fieldAt 130 q 2) fun r=>
 C1 PR X (storeAt 3 r (.int .i64 1)) <|
 J1) (
 J1)
theorem B1d:B0 PR 78:=A7 Tryz.func78 (by kernel_rfl) rfl
theorem B2U (h:A31 X t0 t1 R w):Fn PR X 78 #[t0,t1] w R:=C4 (args := [t0,t1]) mixed Tryz.func78 (by kernel_rfl) h
def A4v (X:Nat → Prop) (a b:Value) (R:Value → WP):WP :=
 B5 PR X (alloc 42 true (.tuple #[])) fun d=>
 drw <|
 A0 PR (B4 b) fun e=>
 A0 PR (fieldAt 39 e 1) fun f=>
 A6 PR (loadAt 33 f) fun g=>
 A0 PR (B4 a) fun h=>
 A0 PR (fieldAt 130 h 0) fun i=>
 A0 PR (fieldAt 128 i 2) fun j=>
 A6 PR (loadAt 3 j) fun k=>
 A0 PR (B4 a) fun l=>
 A0 PR (fieldAt 130 l 1) fun m=>
 A6 PR (loadAt 3 m) fun n=>
 B3 PR X 19 [g,k,n] fun o=>
 A0 PR (build 42 #[]) fun p=>
 C1 PR X (storeAt 42 d p) <|
 A6 PR (E1 [.c 42 d]) R
theorem B2d:B0 PR 79:=A7 Tryz.func79 (by kernel_rfl) rfl
theorem B3A (h:A4v X t0 t1 R w):Fn PR X 79 #[t0,t1] w R:=C4 (args := [t0,t1]) mixed Tryz.func79 (by kernel_rfl) h
def A29 (X:Nat → Prop) (a b:Value) (R:Value → WP):WP :=
 B5 PR X (alloc 42 true (.tuple #[])) fun d=>
 drw <|
 A0 PR (B4 b) fun e=>
 A0 PR (fieldAt 39 e 1) fun f=>
 A6 PR (loadAt 33 f) fun g=>
 A0 PR (B4 b) fun h=>
 A0 PR (fieldAt 39 h 6) fun i=>
 A6 PR (loadAt 3 i) fun j=>
 B3 PR X 35 [g,(.int .i64 1)] fun k=>
 watch PR [(none,(loadAt 3 i),j)] <|
 A0 PR (binOp .sub 3 k (.int .i64 1)) fun l=>
 A0 PR (B4 a) fun m=>
 A0 PR (fieldAt 130 m 4) fun n=>
 C1 PR X (storeAt 3 n l) <|
 A0 PR (B4 a) fun o=>
 A0 PR (fieldAt 130 o 5) fun p=>
 C1 PR X (storeAt 3 p j) <|
 A0 PR (build 42 #[(0,(.bool true))]) fun q=>
 C1 PR X (storeAt 42 d q) <|
 A6 PR (E1 [.c 42 d]) R
theorem A9a:B0 PR 80:=A7 Tryz.func80 (by kernel_rfl) rfl
theorem B0D (h:A29 X t0 t1 R w):Fn PR X 80 #[t0,t1] w R:=C4 (args := [t0,t1]) mixed Tryz.func80 (by kernel_rfl) h
def A5F (X:Nat → Prop) (a b:Value) (R:Value → WP):WP :=
 B5 PR X (alloc 42 true (.tuple #[])) fun d=>
 drw <|
 A0 PR (B4 b) fun e=>
 A0 PR (fieldAt 39 e 4) fun f=>
 A6 PR (loadAt 36 f) fun g=>
 A0 PR (B4 a) fun h=>
 A0 PR (fieldAt 130 h 0) fun i=>
 A0 PR (fieldAt 128 i 2) fun j=>
 A6 PR (loadAt 3 j) fun k=>
 A0 PR (indexAt 36 g k) fun l=>
 A6 PR (loadAt 84 l) fun m=>
 A0 PR (B4 a) fun n=>
 A0 PR (fieldAt 130 n 6) fun o=>
 C1 PR X (storeAt 84 o m) <|
 A0 PR (build 42 #[]) fun p=>
 C1 PR X (storeAt 42 d p) <|
 A6 PR (E1 [.c 42 d]) R
theorem B2n:B0 PR 81:=A7 Tryz.func81 (by kernel_rfl) rfl
theorem B3d (h:A5F X t0 t1 R w):Fn PR X 81 #[t0,t1] w R:=C4 (args := [t0,t1]) mixed Tryz.func81 (by kernel_rfl) h
def A3M (X:Nat → Prop) (a b:Value) (R:Value → WP):WP :=
 B5 PR X (box 30 a) fun d=>
 B5 PR X (box 26 b) fun e=>
 B5 PR X (alloc 42 true (.tuple #[])) fun f=>
 drw <|
 A6 PR (loadAt 26 e) fun g=>
 A0 PR (B4 g) fun h=>
 A0 PR (fieldAt 39 h 2) fun i=>
 A6 PR (loadAt 34 i) fun j=>
 A6 PR (loadAt 30 d) fun k=>
 A0 PR (B4 k) fun l=>
 A0 PR (fieldAt 130 l 4) fun m=>
 A6 PR (loadAt 3 m) fun o=>
 B3 PR X 50 [j,o] fun p=>
 A0 PR (extract p 0) fun q=>
 A0 PR (extract p 1) fun r=>
 A0 PR (makeFunc (.func 132) #[] #[d,e]) fun s=>
 N7 PR X s [] fun t=>
 A0 PR (extract t 0) fun u=>
 A0 PR (extract t 1) fun v=>
 jn (n:=1) (fun w=>
 A6 PR (loadAt 30 d) fun x=>
 A0 PR (B4 x) fun y=>
 A0 PR (fieldAt 130 y 4) fun z=>
 A6 PR (loadAt 3 z) fun aa=>
 A0 PR (binOp .geq 3 aa (.int .i64 0)) fun ab=>
 gj ab true (fun J=> J r) fun ac=>
 gj ab true (fun J=> A0 PR (Op.unary .not ac) J) fun ad=>
 A0 PR (do pure (if ← asBool ab then ad else (.bool false))) fun ae=>
 A0 PR (build 42 #[(2,ae)]) fun af=>
 B5 PR X (alloc 42 true (.tuple #[])) fun ag=>
 C1 PR X (storeAt 42 ag af) <|
 jn (n:=0) (
 A6 PR (loadAt 42 ag) fun ah=>
 C1 PR X (storeAt 42 f ah) <|
 A6 PR (E1 [.c 42 f]) R) fun J1=>
 A0 PR (Op.unary .not v) fun ai=>
 gj ai true (fun J=> J q) fun aj=>
 gj ai true (fun J=> A0 PR (binOp .eql 3 aj (.int .i64 0)) J) fun ak=>
 A0 PR (do pure (if ← asBool ai then ak else (.bool false))) fun al=>
 C0 al (
 A6 PR (loadAt 30 d) fun am=>
 A0 PR (build 55 #[(0,(.int .i64 11))]) fun an=>
 A0 PR (B4 am) fun ao=>
 A0 PR (fieldAt 130 ao 7) fun ap=>
 C1 PR X (storeAt 55 ap an) <|
 J1) (
 A6 PR (loadAt 30 d) fun aq=>
 A0 PR (B4 aq) fun ar=>
 A0 PR (fieldAt 130 ar 0) fun au=>
 A0 PR (fieldAt 128 au 3) fun av=>
 A6 PR (loadAt 4 av) fun aw=>
 C0 aw (
 drw <|
 A6 PR (loadAt 30 d) fun ax=>
 A6 PR (loadAt 30 d) fun ay=>
 A0 PR (B4 ay) fun az=>
 A0 PR (fieldAt 130 az 6) fun a0=>
 A6 PR (loadAt 84 a0) fun a1=>
 A6 PR (loadAt 30 d) fun a2=>
 A0 PR (B4 a2) fun a3=>
 A0 PR (fieldAt 130 a3 0) fun a4=>
 A0 PR (fieldAt 128 a4 1) fun a5=>
 A6 PR (loadAt 9 a5) fun a6=>
 B3 PR X 136 [a1,a6] fun a7=>
 watch PR [(none,(loadAt 30 d),ax)] <|
 A0 PR (extract a7 0) fun a8=>
 A0 PR (extract a7 1) fun a9=>
 A0 PR (B4 ax) fun ba=>
 A0 PR (fieldAt 130 ba 6) fun bb=>
 C1 PR X (storeAt 84 bb a8) <|
 A6 PR (loadAt 30 d) fun bc=>
 A0 PR (build 55 #[(1,w)]) fun bd=>
 A0 PR (B4 bc) fun be=>
 A0 PR (fieldAt 130 be 7) fun bf=>
 C1 PR X (storeAt 55 bf bd) <|
 J1) (
 drw <|
 A6 PR (loadAt 30 d) fun bg=>
 A0 PR (B4 bg) fun bh=>
 A0 PR (fieldAt 130 bh 6) fun bi=>
 A6 PR (loadAt 84 bi) fun bj=>
 A6 PR (loadAt 30 d) fun bk=>
 A0 PR (B4 bk) fun bl=>
 A0 PR (fieldAt 130 bl 0) fun bm=>
 A0 PR (fieldAt 128 bm 1) fun bn=>
 A6 PR (loadAt 9 bn) fun bo=>
 A6 PR (loadAt 30 d) fun bp=>
 A0 PR (B4 bp) fun bq=>
 A0 PR (fieldAt 130 bq 5) fun br=>
 A6 PR (loadAt 3 br) fun bs=>
 A6 PR (loadAt 26 e) fun bt=>
 A0 PR (B4 bt) fun bu=>
 A0 PR (fieldAt 39 bu 0) fun bv=>
 A0 PR (fieldAt 23 bv 3) fun bw=>
 A6 PR (loadAt 3 bw) fun bx=>
 A0 PR (binOp .add 3 bs bx) fun bz=>
 B3 PR X 137 [bj,bo,w,bz] fun b0=>
 A0 PR (extract b0 0) fun b1=>
 A0 PR (extract b0 1) fun b2=>
 drw <|
 A6 PR (loadAt 30 d) fun b3=>
 A6 PR (loadAt 30 d) fun b4=>
 A0 PR (Op.unary .not v) fun b5=>
 A0 PR (build 55 #[(1,w),(2,b5)]) fun b6=>
 A0 PR (B4 b3) fun b7=>
 A0 PR (fieldAt 130 b7 6) fun b8=>
 C1 PR X (storeAt 84 b8 b1) <|
 watch PR [(none,(loadAt 30 d),b4)] <|
 A0 PR (B4 b4) fun b9=>
 A0 PR (fieldAt 130 b9 7) fun ca=>
 C1 PR X (storeAt 55 ca b6) <|
 A0 PR (binOp .neq 27 b2 (.int .i64 0)) fun cb=>
 C0 cb (
 A6 PR (loadAt 30 d) fun cc=>
 A0 PR (build 55 #[(0,b2)]) fun cd=>
 A0 PR (B4 cc) fun ce=>
 A0 PR (fieldAt 130 ce 7) fun cf=>
 C1 PR X (storeAt 55 cf cd) <|
 J1) (
 J1)))) fun J2=>
 A0 PR (Op.unary .not v) fun cg=>
 C0 cg (
 drw <|
 A6 PR (loadAt 26 e) fun ch=>
 A0 PR (B4 ch) fun ci=>
 A0 PR (fieldAt 39 ci 2) fun cj=>
 A6 PR (loadAt 34 cj) fun ck=>
 A6 PR (loadAt 30 d) fun cl=>
 A0 PR (B4 cl) fun cm=>
 A0 PR (fieldAt 130 cm 4) fun cn=>
 A6 PR (loadAt 3 cn) fun co=>
 A6 PR (loadAt 30 d) fun cp=>
 A0 PR (B4 cp) fun cq=>
 A0 PR (fieldAt 130 cq 0) fun cr=>
 A0 PR (fieldAt 128 cr 1) fun cs=>
 A6 PR (loadAt 9 cs) fun ct=>
 B3 PR X 135 [ct] fun cu=>
 watch PR [(none,(loadAt 3 cn),co),(none,(loadAt 30 d),cl),(none,(loadAt 34 cj),ck),(none,(loadAt 26 e),ch)] <|
 B3 PR X 48 [ck,co,cu] fun cv=>
 A0 PR (extract cv 0) fun cw=>
 A0 PR (extract cv 1) fun cx=>
 J2 cw) (
 J2 u)
theorem B0e:B0 PR 82:=A7 Tryz.func82 (by kernel_rfl) rfl
theorem B1N (h:A3M X t0 t1 R w):Fn PR X 82 #[t0,t1] w R:=C4 (args := [t0,t1]) mixed Tryz.func82 (by kernel_rfl) h
def A4A (X:Nat → Prop) (a b:Value) (R:Value → WP):WP :=
 B5 PR X (alloc 42 true (.tuple #[])) fun d=>
 drw <|
 A0 PR (B4 b) fun e=>
 A0 PR (fieldAt 39 e 4) fun f=>
 A6 PR (loadAt 36 f) fun g=>
 A0 PR (B4 a) fun h=>
 A0 PR (fieldAt 130 h 0) fun i=>
 A0 PR (fieldAt 128 i 2) fun j=>
 A6 PR (loadAt 3 j) fun k=>
 A0 PR (B4 a) fun l=>
 A0 PR (fieldAt 130 l 6) fun m=>
 A6 PR (loadAt 84 m) fun n=>
 A0 PR (indexAt 36 g k) fun o=>
 C1 PR X (storeAt 84 o n) <|
 A0 PR (build 42 #[]) fun p=>
 C1 PR X (storeAt 42 d p) <|
 A6 PR (E1 [.c 42 d]) R
theorem B1e:B0 PR 83:=A7 Tryz.func83 (by kernel_rfl) rfl
theorem B2p (h:A4A X t0 t1 R w):Fn PR X 83 #[t0,t1] w R:=C4 (args := [t0,t1]) mixed Tryz.func83 (by kernel_rfl) h
def A3U (X:Nat → Prop) (a b:Value) (R:Value → WP):WP :=
 B5 PR X (alloc 42 true (.tuple #[])) fun d=>
 drw <|
 A0 PR (B4 b) fun e=>
 A0 PR (fieldAt 39 e 1) fun f=>
 A6 PR (loadAt 33 f) fun g=>
 A0 PR (B4 a) fun h=>
 A0 PR (fieldAt 130 h 0) fun i=>
 A0 PR (fieldAt 128 i 2) fun j=>
 A6 PR (loadAt 3 j) fun k=>
 A0 PR (B4 a) fun l=>
 A0 PR (fieldAt 130 l 1) fun m=>
 A6 PR (loadAt 3 m) fun n=>
 B3 PR X 25 [g,k,n] fun o=>
 A0 PR (build 42 #[]) fun p=>
 C1 PR X (storeAt 42 d p) <|
 A6 PR (E1 [.c 42 d]) R
theorem A95:B0 PR 84:=A7 Tryz.func84 (by kernel_rfl) rfl
theorem B1B (h:A3U X t0 t1 R w):Fn PR X 84 #[t0,t1] w R:=C4 (args := [t0,t1]) mixed Tryz.func84 (by kernel_rfl) h
def A32 (X:Nat → Prop) (a b:Value) (R:Value → WP):WP :=
 B5 PR X (alloc 42 true (.tuple #[])) fun d=>
 drw <|
 A0 PR (B4 b) fun e=>
 A0 PR (fieldAt 39 e 1) fun f=>
 A6 PR (loadAt 33 f) fun g=>
 A0 PR (B4 a) fun h=>
 A0 PR (fieldAt 130 h 1) fun i=>
 A6 PR (loadAt 3 i) fun j=>
 B3 PR X 57 [b,j] fun k=>
 watch PR [(none,(loadAt 33 f),g)] <|
 B3 PR X 31 [g,k,(.int .i64 0)] fun l=>
 A0 PR (build 42 #[(1,(.bool true))]) fun m=>
 C1 PR X (storeAt 42 d m) <|
 A6 PR (E1 [.c 42 d]) R
theorem B1c:B0 PR 85:=A7 Tryz.func85 (by kernel_rfl) rfl
theorem B2Y (h:A32 X t0 t1 R w):Fn PR X 85 #[t0,t1] w R:=C4 (args := [t0,t1]) mixed Tryz.func85 (by kernel_rfl) h
def A3H (X:Nat → Prop) (a b:Value) (R:Value → WP):WP :=
 B5 PR X (alloc 42 true (.tuple #[])) fun d=>
 A0 PR (build 55 #[(0,b)]) fun e=>
 A0 PR (B4 a) fun f=>
 A0 PR (fieldAt 130 f 2) fun g=>
 C1 PR X (storeAt 3 g (.int .i64 10)) <|
 A0 PR (B4 a) fun h=>
 A0 PR (fieldAt 130 h 7) fun i=>
 C1 PR X (storeAt 55 i e) <|
 A0 PR (build 42 #[(0,(.bool true)),(1,(.bool true))]) fun j=>
 C1 PR X (storeAt 42 d j) <|
 A6 PR (E1 [.c 42 d]) R
theorem A23:B0 PR 130:=A7 Tryz.func130 (by kernel_rfl) rfl
theorem B0w (h:A3H X t0 t1 R w):Fn PR X 130 #[t0,t1] w R:=C4 (args := [t0,t1]) mixed Tryz.func130 (by kernel_rfl) h
def A4B (X:Nat → Prop) (a b:Value) (R:Value → WP):WP :=
 A0 PR (B4 a) fun c=>
 A0 PR (fieldAt 128 c 0) fun d=>
 A6 PR (loadAt 9 d) fun e=>
 B3 PR X 21 [e] fun f=>
 A0 PR (extract f 0) fun g=>
 A0 PR (extract f 1) fun h=>
 B5 PR X (alloc 47 true (.tuple #[])) fun i=>
 C1 PR X (storeAt 47 i g) <|
 jn (n:=1) (fun j=>
 A0 PR (fieldAt 47 i 0) fun k=>
 A6 PR (loadAt 45 k) fun l=>
 B3 PR X 166 [l] fun m=>
 A0 PR (extract m 0) fun o=>
 A0 PR (extract m 1) fun p=>
 A0 PR (B4 a) fun q=>
 A0 PR (fieldAt 128 q 1) fun r=>
 C1 PR X (storeAt 9 r o) <|
 drw <|
 A0 PR (B4 a) fun s=>
 A0 PR (fieldAt 128 s 1) fun t=>
 A6 PR (loadAt 9 t) fun u=>
 A6 PR (loadAt 47 i) fun v=>
 B3 PR X 167 [u,b] fun w=>
 watch PR [(none,(loadAt 47 i),v)] <|
 B3 PR X 58 [v] fun x=>
 A0 PR (B4 a) fun y=>
 A0 PR (fieldAt 128 y 2) fun z=>
 C1 PR X (storeAt 3 z w) <|
 A0 PR (B4 a) fun aa=>
 A0 PR (fieldAt 128 aa 3) fun ab=>
 C1 PR X (storeAt 4 ab x) <|
 R (.bool true)) fun J1=>
 A0 PR (binOp .neq 27 h (.int .i64 0)) fun ac=>
 C0 ac (
 R (.bool false)) (
 J1 (.bool false))
theorem A3P:B0 PR 131:=A7 Tryz.func131 (by kernel_rfl) rfl
theorem B2c (h:A4B X t0 t1 R w):Fn PR X 131 #[t0,t1] w R:=C4 (args := [t0,t1]) mixed Tryz.func131 (by kernel_rfl) h
def A1W (X:Nat → Prop) (a b:Value) (R:Value → WP):WP :=
 drw <|
 A6 PR (loadAt 30 a) fun c=>
 A0 PR (B4 c) fun d=>
 A0 PR (fieldAt 130 d 6) fun e=>
 A6 PR (loadAt 84 e) fun f=>
 A6 PR (loadAt 30 a) fun g=>
 A0 PR (B4 g) fun h=>
 A0 PR (fieldAt 130 h 0) fun i=>
 A0 PR (fieldAt 128 i 1) fun j=>
 A6 PR (loadAt 9 j) fun k=>
 B3 PR X 133 [f,k] fun l=>
 jn (n:=2) (fun m o=>
 drw <|
 A6 PR (loadAt 26 b) fun p=>
 A0 PR (B4 p) fun q=>
 A0 PR (fieldAt 39 q 2) fun r=>
 A6 PR (loadAt 34 r) fun s=>
 A6 PR (loadAt 30 a) fun t=>
 A0 PR (B4 t) fun u=>
 A0 PR (fieldAt 130 u 4) fun v=>
 A6 PR (loadAt 3 v) fun w=>
 A6 PR (loadAt 30 a) fun x=>
 A0 PR (B4 x) fun y=>
 A0 PR (fieldAt 130 y 6) fun z=>
 A6 PR (loadAt 84 z) fun aa=>
 A0 PR (indexAt 84 aa l) fun ab=>
 A0 PR (fieldAt 218 ab 2) fun ac=>
 A6 PR (loadAt 3 ac) fun ad=>
 B3 PR X 134 [s,w,ad] fun ae=>
 A0 PR (extract ae 0) fun af=>
 A0 PR (extract ae 1) fun ag=>
 A6 PR (loadAt 30 a) fun ah=>
 A0 PR (B4 ah) fun ai=>
 A0 PR (fieldAt 130 ai 6) fun aj=>
 A6 PR (loadAt 84 aj) fun ak=>
 A0 PR (indexAt 84 ak l) fun al=>
 A0 PR (fieldAt 218 al 2) fun am=>
 A6 PR (loadAt 3 am) fun an=>
 R (.tuple #[an,af])) fun J1=>
 drw <|
 A0 PR (binOp .lss 3 l (.int .i64 0)) fun ao=>
 gj ao false (fun J=> A6 PR (loadAt 30 a) J) fun ap=>
 gj ao false (fun J=> A0 PR (B4 ap) J) fun aq=>
 gj ao false (fun J=> A0 PR (fieldAt 130 aq 6) J) fun ar=>
 gj ao false (fun J=> A6 PR (loadAt 84 ar) J) fun au=>
 gj ao false (fun J=> J l) fun av=>
 gj ao false (fun J=> A0 PR (indexAt 84 au av) J) fun aw=>
 gj ao false (fun J=> A0 PR (fieldAt 218 aw 3) J) fun ax=>
 gj ao false (fun J=> A6 PR (loadAt 3 ax) J) fun ay=>
 gj ao false (fun J=> A6 PR (loadAt 30 a) J) fun az=>
 gj ao false (fun J=> A0 PR (B4 az) J) fun a0=>
 gj ao false (fun J=> A0 PR (fieldAt 130 a0 5) J) fun a1=>
 gj ao false (fun J=> A6 PR (loadAt 3 a1) J) fun a2=>
 gj ao false (fun J=> A0 PR (binOp .lss 3 ay a2) J) fun a3=>
 A0 PR (do pure (if ← asBool ao then (.bool true) else a3)) fun a4=>
 C0 a4 (
 R (.tuple #[(.int .i64 0),(.bool false)])) (
 J1 (.int .i64 0) (.bool false))
theorem A6s:B0 PR 132:=A7 Tryz.func132 (by kernel_rfl) rfl
theorem A7J (h:A1W X t0 t1 R w):Fn PR X 132 #[t0,t1] w R:=C4 (args := [t0,t1]) mixed Tryz.func132 (by kernel_rfl) h
end
structure JW where
 text:ByteArray
 key:ByteArray
 shard:Int
 closing:Bool
 who:Int
 st:Int
 ep:Int
 slot:Int
 now:Int
 table:List EnV
 ans:AnsV
def K4 (x:WS) (i:Int):List F8:=match K3 x.sl i with | .rdy p=> p | _=> []
def A2g (x:WS) (i:Int):Bool:=match K3 x.sl i with | .rdy _=> true | _=> false
def JW.refuse (j:JW) (e:Int):JW := { j with st:=10,ans:=⟨e,0,false,0⟩ }
def JW.rd (j:JW) (sh:Int):JW := { j with key:=A2j (D1 j.text).1,shard:=(V1 (A2j (D1 j.text).1) sh:Nat),closing:=x8 (D1 j.text).1 (D1 j.text).2.1 }
abbrev JwR:=JW × WS × A4f
def noT:A4f:=(false,false,false)
def l3 (j:JW) (x:WS):JwR :=
 if G5 x.c j.who < 0 then (j.refuse 1,x,true,true,false)
 else if (D1 j.text).2.2 ≠ 0 then (j.refuse 9,x,true,true,false)
 else ({ j.rd x.c.sh with ep:=D3 x.cells 0 },x,noT)
def jw1 (j:JW) (x:WS):JwR:=(j,{ x with cells:=N0 x.cells (G5 x.c j.who) (IntKind.i64.wrap (j.ep + 1)) },noT)
def u9 (j:JW) (x:WS):JwR:=if D3 x.cells 0 = j.ep then (j,x,noT) else ({ j with ep:=D3 x.cells 0,st:=1 },x,noT)
def jw3 (j:JW) (x:WS):JwR:=(j,{ x with own:=Y4 x.own j.shard j.who },noT)
def jw4 (j:JW) (x:WS):JwR:=({ j with slot:=IntKind.i64.wrap (D3 x.cells 1 - 1),now:=x.now },x,true,false,false)
def jw5 (j:JW) (x:WS):JwR:=({ j with table:=x.tabs.getD j.shard.toNat [] },x,noT)
def jw6 (j:JW) (x:WS):JwR :=
 let r:=G1 j.table (K4 x j.slot) j.key j.closing j.now x.c.idle
 ({ j with table:=r.1,ans:=r.2.1 },x,false,false,decide (0 ≤ j.slot) && !A2g x j.slot)
def jw7 (j:JW) (x:WS):JwR:=(j,{ x with tabs:=x.tabs.set j.shard.toNat j.table },noT)
def jw8 (j:JW) (x:WS):JwR:=(j,{ x with own:=N9 x.own j.shard j.who },noT)
def jw9 (j:JW) (x:WS):JwR:=(j,{ x with cells:=N0 x.cells (G5 x.c j.who) 0 },false,true,false)
def D0:Nat → JW → WS → JwR
 | 0=> l3
 | 1=> jw1
 | 2=> u9
 | 3=> jw3
 | 4=> jw4
 | 5=> jw5
 | 6=> jw6
 | 7=> jw7
 | 8=> jw8
 | _=> jw9
def JW.ready (j:JW) (x:WS):Bool:=decide (j.st < 10) && (!decide (j.st = 3) || decide (A1q x.own j.shard < 0))
def JW.step (j:JW) (x:WS):JwR:=if j.ready x then D0 j.st.toNat { j with st:=j.st + 1 } x else (j,x,noT)
def G4 (who:Int) (text:ByteArray):JW:=⟨text,M6,0,false,who,0,0,0,0,[],noA⟩
def L5 (j:JW) (tv:Value):Array Value:=#[.string j.text,.string j.key,.int .i64 j.shard,.bool j.closing,.int .i64 j.who,.int .i64 j.st,.int .i64 j.ep,.int .i64 j.slot,.int .i64 j.now,tv,.int .i64 j.ans.err,.int .i64 j.ans.bk,.bool j.ans.made,.int .i64 j.ans.count]
def G6 (b:Nat) (j:JW) (tv:Value):Res:=.pt b (.cells (L5 j tv) 130)
theorem B6C (w:World) (who:Int) (text:ByteArray) :
  Fn PR B8 17 #[.int .i64 who,.string text] w (Rn [] w (fun (b:Nat) u=> u = .pointer (some ⟨b,0,none⟩)) fun b=> [G6 b (G4 who text) M1]):=by
 refine B9L (TW.go (κ:=false) (S := []) ?_)
 unfold B2B
 (have z:=trivial;repeat((first|clear z|with_reducible first|apply A3|refine A4 fun _=>?_|refine A5 fun _=>?_);try simp(disch:=solve|omega|assumption|repeat(first|exact A1|exact uH|apply A2|apply uT)|(simp;try omega)|fail)[]))
 rename_i b
 refine B1 b rfl ?_
 simp only [G6,L5,G4,M1,noA,M6]
 (repeat' constructor)
theorem D3G {w:World} {b:Nat} {j:JW} {tv:Value} (h:bl w b = some (.cells (L5 j tv) 130 (0,0))):w.cell? ⟨b,5,none⟩ = some (.int .i64 j.st):=by rw [E8 h]; rfl
theorem B1M (w:World) (b:Nat) (j:JW) (tv:Value) (h:bl w b = some (.cells (L5 j tv) 130 (0,0))) :
  Fn PR B8 22 #[.pointer (some ⟨b,0,none⟩)] w (fun u w' => u = .int .i64 j.st ∧ C7 [] w w'):=by
 refine Fn.pure (B2l (TW.go (κ:=false) (S := []) ?_))
 unfold A30
 have h5:=D3G h
 (have z:=trivial;repeat((first|clear z|with_reducible first|apply A3|refine A4 fun _=>?_|refine A5 fun _=>?_);try simp(disch:=solve|omega|assumption|repeat(first|exact A1|exact uH|apply A2|apply uT)|(simp;try omega)|fail)[h5]))
 exact A9 rfl
theorem A9B (w:World) (b:Nat) (j:JW) (tv:Value) (h:bl w b = some (.cells (L5 j tv) 130 (0,0))) :
  Fn PR B8 27 #[.pointer (some ⟨b,0,none⟩)] w (fun u w' => u = j.ans.val ∧ C7 [] w w'):=by
 refine Fn.pure (B0v (TW.go (κ:=false) (S := []) ?_))
 unfold A3L
 have e2:v8 w b 10 4 = some [.int .i64 j.ans.err,.int .i64 j.ans.bk,.bool j.ans.made,.int .i64 j.ans.count]:=A08 (by rfl) (P3.bl h)
 (have z:=trivial;repeat((first|clear z|with_reducible first|apply A3|refine A4 fun _=>?_|refine A5 fun _=>?_);try simp(disch:=solve|omega|assumption|repeat(first|exact A1|exact uH|apply A2|apply uT)|(simp;try omega)|fail)[e2]))
 exact A9 rfl
theorem C5H (w:World) (b:Nat) (j:JW) (tv:Value) (m:WoH) (h:bl w b = some (.cells (L5 j tv) 130 (0,0))) (hm:WoAt w m) :
  Fn PR B8 23 #[.pointer (some ⟨b,0,none⟩),.pointer (some ⟨m.b,0,none⟩)] w (fun u w' => u = .bool (j.ready m.ws) ∧ C7 [] w w'):=by
 refine Fn.pure (B2V (TW.go (κ:=false) (S := []) ?_))
 unfold A33
 have h5:=D3G h
 have h2:w.cell? ⟨b,2,none⟩ = some (.int .i64 j.shard):=by rw [E8 h]; rfl
 have hc:w.cell? ⟨m.b,5,none⟩ = some (.pointer (some ⟨m.bc,0,none⟩)):=by rw [E8 hm.b]; rfl
 have ho:m.ws.own = m.own:=rfl
 unfold JW.ready
 by_cases c1:j.st < 10
 case neg=>
  (have z:=trivial;repeat((first|clear z|with_reducible first|apply A3|refine A4 fun _=>?_|refine A5 fun _=>?_);try simp(disch:=solve|omega|assumption|repeat(first|exact A1|exact uH|apply A2|apply uT)|(simp;try omega)|fail)[h5,c1]))
  exact A9 (by simp [c1])
 by_cases c2:j.st = 3
 case neg=>
  (have z:=trivial;repeat((first|clear z|with_reducible first|apply A3|refine A4 fun _=>?_|refine A5 fun _=>?_);try simp(disch:=solve|omega|assumption|repeat(first|exact A1|exact uH|apply A2|apply uT)|(simp;try omega)|fail)[h5,c1,c2]))
  exact A9 (by simp [c1,c2])
 (have z:=trivial;repeat((first|clear z|with_reducible first|apply A3|refine A4 fun _=>?_|refine A5 fun _=>?_);try simp(disch:=solve|omega|assumption|repeat(first|exact A1|exact uH|apply A2|apply uT)|(simp;try omega)|fail)[h5,c1,c2,h2,hc]))
 refine B7 A2r (fun w' hw' => let g:=hm.ks hw'.ks; B8a w' m.bc m.cn m.cv m.ov m.own j.shard g.c g.v) ?_
 (have z:=trivial;repeat((first|clear z|with_reducible first|apply A3|refine A4 fun _=>?_|refine A5 fun _=>?_);try simp(disch:=solve|omega|assumption|repeat(first|exact A1|exact uH|apply A2|apply uT)|(simp;try omega)|fail)[c1,c2]))
 exact A9 (by simp [c2,ho])
theorem B5J (w:World) (b:Nat) (j:JW) (tv:Value) (e:Int) (hw:LW false [b] w [G6 b j tv] w) :
  Fn PR B8 130 #[.pointer (some ⟨b,0,none⟩),.int .i64 e] w (Rn [b] w (fun (_:Unit) u=> u = L8 (true,true,false)) fun _=> [G6 b (j.refuse e) tv]):=by
 refine B0w (TW.goH (κ:=false) (S := [b]) ?_ hw)
 unfold A3H
 simp only [G6,L5,JW.refuse]
 (have z:=trivial;repeat((first|clear z|with_reducible first|apply A3|refine A4 fun _=>?_|refine A5 fun _=>?_);try simp(disch:=solve|omega|assumption|repeat(first|exact A1|exact uH|apply A2|apply uT)|(simp;try omega)|fail)[]))
 exact B1 () rfl (by (repeat' constructor))
theorem B8z (w:World) (b:Nat) (j:JW) (tv:Value) (sh:Int) (ht:j.text.size < 2 ^ 40) (hsh:sh < 2 ^ 63) (hw:LW false [b] w [G6 b j tv] w) :
  Fn PR B8 131 #[.pointer (some ⟨b,0,none⟩),.int .i64 sh] w (Rn [b] w (fun (_:Unit) u=> u = .bool (decide ((D1 j.text).2.2 = 0))) fun _=> [G6 b (if (D1 j.text).2.2 = 0 then j.rd sh else j) tv]):=by
 refine B2c (TW.goH (κ:=false) (S := [b]) ?_ hw)
 unfold A4B
 simp only [G6,L5]
 (have z:=trivial;repeat((first|clear z|with_reducible first|apply A3|refine A4 fun _=>?_|refine A5 fun _=>?_);try simp(disch:=solve|omega|assumption|repeat(first|exact A1|exact uH|apply A2|apply uT)|(simp;try omega)|fail)[]))
 refine B7 B5m (fun w' hw' => B8P w' j.text ht) ?_
 by_cases c1:(D1 j.text).2.2 = 0
 case neg=>
  simp only [if_neg c1,decide_eq_false c1]
  (have z:=trivial;repeat((first|clear z|with_reducible first|apply A3|refine A4 fun _=>?_|refine A5 fun _=>?_);try simp(disch:=solve|omega|assumption|repeat(first|exact A1|exact uH|apply A2|apply uT)|(simp;try omega)|fail)[packet.val,T9,c1]))
  exact B1 () rfl (by (repeat' constructor))
 simp only [if_pos c1,decide_eq_true c1]
 have hk:=A8k (D1 j.text).1
 (have z:=trivial;repeat((first|clear z|with_reducible first|apply A3|refine A4 fun _=>?_|refine A5 fun _=>?_);try simp(disch:=solve|omega|assumption|repeat(first|exact A1|exact uH|apply A2|apply uT)|(simp;try omega)|fail)[packet.val,T9,c1]))
 refine B7 (u:=A0z (D1 j.text).1) B5u (fun w' hw' => C8g w' (D1 j.text).1) ?_
 (have z:=trivial;repeat((first|clear z|with_reducible first|apply A3|refine A4 fun _=>?_|refine A5 fun _=>?_);try simp(disch:=solve|omega|assumption|repeat(first|exact A1|exact uH|apply A2|apply uT)|(simp;try omega)|fail)[A0z]))
 rw [show (if U1 (D1 j.text).1 = true then A2K (D1 j.text).1 else M6) = A2j (D1 j.text).1 from rfl]
 refine B7 B6p (fun w' hw' => C9v w' _ sh hk hsh) ?_
 (have z:=trivial;repeat((first|clear z|with_reducible first|apply A3|refine A4 fun _=>?_|refine A5 fun _=>?_);try simp(disch:=solve|omega|assumption|repeat(first|exact A1|exact uH|apply A2|apply uT)|(simp;try omega)|fail)[]))
 rw [A4L (by (repeat constructor)) (by rfl)]
 refine B7 B31 (fun w' _=> C4V w' (D1 j.text).1 (D1 j.text).2.1) ?_
 (have z:=trivial;repeat((first|clear z|with_reducible first|apply A3|refine A4 fun _=>?_|refine A5 fun _=>?_);try simp(disch:=solve|omega|assumption|repeat(first|exact A1|exact uH|apply A2|apply uT)|(simp;try omega)|fail)[]))
 refine B1 () rfl ?_
 simp only [JW.rd]
 (repeat' constructor)
structure WoZ where
 cn:Int
 cells:List Int
 own:List Int
 tv:Value
 ts:P4
def WoH.uz (m:WoH) (d:WoZ):WoH := { m with cn:=d.cn,cells:=d.cells,own:=d.own,tv:=d.tv,ts:=d.ts }
def WoH.dz (m:WoH):WoZ:=⟨m.cn,m.cells,m.own,m.tv,m.ts⟩
structure JwOk (j:JW) (tv:Value) (m:WoH) (P:P4):Prop where
 ws:WsOk m.ws
 tabs:TabsOk m P
 tb:(tv,j.table) ∈ P
 shn:m.ts.length = m.c.sh
 text:j.text.size < 2 ^ 40
 key:j.key.size < 2 ^ 60
 shard:0 ≤ j.shard ∧ j.shard < m.ts.length
 keys:N4 j.table
 len:j.table.length ≤ 1000000
 slot : -1 ≤ j.slot ∧ j.slot ≤ 1000
 ep:0 ≤ D3 m.cells 0 ∧ D3 m.cells 0 ≤ 1000000
 cur:0 ≤ D3 m.cells 1 ∧ D3 m.cells 1 ≤ 1000
abbrev JwY:=Value × WoZ × P4
def jwF (m:WoH) (P:P4) (r:JwR) (y:JwY):Prop:=(m.uz y.2.1).ws = r.2.1 ∧ A0U y.2.1.ts y.2.2 ∧ (y.1,r.1.table) ∈ y.2.2 ∧ B1u P y.2.2 r.1.table
def T7 (b:Nat) (m:WoH) (r:JwR) (y:JwY):List Res:=G6 b r.1 y.1 :: M9 y.2.2 :: C6 (m.uz y.2.1)
def G3 (b:Nat) (j:JW) (tv:Value) (m:WoH) (P:P4):List Res:=G6 b j tv :: M9 P :: C6 m
abbrev A67 (f:FuncId) (w:World) (b:Nat) (j:JW) (tv:Value) (m:WoH) (P:P4) (r:JwR):Prop :=
 Fn PR B8 f #[.pointer (some ⟨b,0,none⟩),.pointer (some ⟨m.b,0,none⟩)] w (Rn (C3 (G3 b j tv m P)) w (fun (y:JwY) u=> u = L8 r.2.2 ∧ jwF m P r y) (T7 b m r))
theorem Q2 {m:WoH} {P:P4} {tv:Value} {r:JwR} {d:WoZ} (h1:(m.uz d).ws = r.2.1) (h2:d.ts = m.ts) (hP:A0U m.ts P) (h3:(tv,r.1.table) ∈ P):jwF m P r (tv,d,P):=⟨h1,by rw [h2]; exact hP,h3,.same _ _⟩
theorem D2A (w:World) (b:Nat) (j:JW) (tv:Value) (m:WoH) (P:P4) (h:JwOk j tv m P) (hw:LW false (C3 (G3 b j tv m P)) w (G3 b j tv m P) w):A67 77 w b j tv m P (jw1 j m.ws):=by
 refine B4x (TW.goH (κ:=false) ?_ hw)
 unfold A5V
 have hwk:=h.ws.wk
 have hcl:m.cells.length ≤ 1024:=by have:=h.ws.cells; have e:m.ws.cells = m.cells:=rfl; rw [e] at this; omega
 generalize hS:C3 (G3 b j tv m P) = S at *
 simp only [G3,G6,L5,C6,D2,E5]
 (have z:=trivial;repeat((first|clear z|with_reducible first|apply A3|refine A4 fun _=>?_|refine A5 fun _=>?_);try simp(disch:=solve|omega|assumption|repeat(first|exact A1|exact uH|apply A2|apply uT)|(simp;try omega)|fail)[]))
 refine B7 U0 (fun w' hw' => A6C w' m.b m.c _ _ _ _ _ _ j.who hwk.2 (hw'.pt (b:=m.b) (by unfold E5; (repeat constructor)))) ?_
 (have z:=trivial;repeat((first|clear z|with_reducible first|apply A3|refine A4 fun _=>?_|refine A5 fun _=>?_);try simp(disch:=solve|omega|assumption|repeat(first|exact A1|exact uH|apply A2|apply uT)|(simp;try omega)|fail)[]))
 refine C8 (Hc:=D8 m.bc m.cn m.cv m.ov m.cells m.own) u3 (fun w' _ hs=> B36 w' m.bc m.cn m.cv m.ov m.cells m.own (G5 m.c j.who) (IntKind.i64.wrap (j.ep + 1)) hcl hs) (by unfold D8; (repeat' constructor)) ?_
 rintro n' v rfl
 simp only [D8,List.cons_append,List.nil_append]
 (have z:=trivial;repeat((first|clear z|with_reducible first|apply A3|refine A4 fun _=>?_|refine A5 fun _=>?_);try simp(disch:=solve|omega|assumption|repeat(first|exact A1|exact uH|apply A2|apply uT)|(simp;try omega)|fail)[]))
 refine B1 (tv,{ m.dz with cn:=n',cells:=N0 m.cells (G5 m.c j.who) (IntKind.i64.wrap (j.ep + 1)) },P) ⟨rfl,Q2 rfl rfl h.tabs.pool h.tb⟩ ?_
 simp only [T7,jw1,G6,L5,C6,D2,E5,WoH.uz,WoH.dz]
 (repeat' constructor)
theorem D3P (w:World) (b:Nat) (j:JW) (tv:Value) (m:WoH) (P:P4) (h:JwOk j tv m P) (hw:LW false (C3 (G3 b j tv m P)) w (G3 b j tv m P) w):A67 85 w b j tv m P (jw9 j m.ws):=by
 refine B2Y (TW.goH (κ:=false) ?_ hw)
 unfold A32
 have hwk:=h.ws.wk
 have hcl:m.cells.length ≤ 1024:=by have:=h.ws.cells; have e:m.ws.cells = m.cells:=rfl; rw [e] at this; omega
 generalize hS:C3 (G3 b j tv m P) = S at *
 simp only [G3,G6,L5,C6,D2,E5]
 (have z:=trivial;repeat((first|clear z|with_reducible first|apply A3|refine A4 fun _=>?_|refine A5 fun _=>?_);try simp(disch:=solve|omega|assumption|repeat(first|exact A1|exact uH|apply A2|apply uT)|(simp;try omega)|fail)[]))
 refine B7 U0 (fun w' hw' => A6C w' m.b m.c _ _ _ _ _ _ j.who hwk.2 (hw'.pt (b:=m.b) (by unfold E5; (repeat constructor)))) ?_
 (have z:=trivial;repeat((first|clear z|with_reducible first|apply A3|refine A4 fun _=>?_|refine A5 fun _=>?_);try simp(disch:=solve|omega|assumption|repeat(first|exact A1|exact uH|apply A2|apply uT)|(simp;try omega)|fail)[]))
 refine C8 (Hc:=D8 m.bc m.cn m.cv m.ov m.cells m.own) u3 (fun w' _ hs=> B36 w' m.bc m.cn m.cv m.ov m.cells m.own (G5 m.c j.who) 0 hcl hs) (by unfold D8; (repeat' constructor)) ?_
 rintro n' v rfl
 simp only [D8,List.cons_append,List.nil_append]
 (have z:=trivial;repeat((first|clear z|with_reducible first|apply A3|refine A4 fun _=>?_|refine A5 fun _=>?_);try simp(disch:=solve|omega|assumption|repeat(first|exact A1|exact uH|apply A2|apply uT)|(simp;try omega)|fail)[]))
 refine B1 (tv,{ m.dz with cn:=n',cells:=N0 m.cells (G5 m.c j.who) 0 },P) ⟨rfl,Q2 rfl rfl h.tabs.pool h.tb⟩ ?_
 simp only [T7,jw9,G6,L5,C6,D2,E5,WoH.uz,WoH.dz]
 (repeat' constructor)
theorem D26 (w:World) (b:Nat) (j:JW) (tv:Value) (m:WoH) (P:P4) (h:JwOk j tv m P) (hw:LW false (C3 (G3 b j tv m P)) w (G3 b j tv m P) w):A67 79 w b j tv m P (jw3 j m.ws):=by
 refine B3A (TW.goH (κ:=false) ?_ hw)
 unfold A4v
 have hol:=h.tabs.own
 generalize hS:C3 (G3 b j tv m P) = S at *
 simp only [G3,G6,L5,C6,D2,E5]
 (have z:=trivial;repeat((first|clear z|with_reducible first|apply A3|refine A4 fun _=>?_|refine A5 fun _=>?_);try simp(disch:=solve|omega|assumption|repeat(first|exact A1|exact uH|apply A2|apply uT)|(simp;try omega)|fail)[]))
 refine C8 (Hc:=D8 m.bc m.cn m.cv m.ov m.cells m.own) A3J (fun w' _ hs=> C0N w' m.bc m.cn m.cv m.ov m.cells m.own j.shard j.who hol hs) (by unfold D8; (repeat' constructor)) ?_
 rintro n' v ⟨r,rfl⟩
 simp only [D8,List.cons_append,List.nil_append]
 (have z:=trivial;repeat((first|clear z|with_reducible first|apply A3|refine A4 fun _=>?_|refine A5 fun _=>?_);try simp(disch:=solve|omega|assumption|repeat(first|exact A1|exact uH|apply A2|apply uT)|(simp;try omega)|fail)[]))
 refine B1 (tv,{ m.dz with cn:=n',own:=Y4 m.own j.shard j.who },P) ⟨rfl,Q2 rfl rfl h.tabs.pool h.tb⟩ ?_
 simp only [T7,jw3,G6,L5,C6,D2,E5,WoH.uz,WoH.dz]
 (repeat' constructor)
theorem D2b (w:World) (b:Nat) (j:JW) (tv:Value) (m:WoH) (P:P4) (h:JwOk j tv m P) (hw:LW false (C3 (G3 b j tv m P)) w (G3 b j tv m P) w):A67 84 w b j tv m P (jw8 j m.ws):=by
 refine B1B (TW.goH (κ:=false) ?_ hw)
 unfold A3U
 have hol:=h.tabs.own
 generalize hS:C3 (G3 b j tv m P) = S at *
 simp only [G3,G6,L5,C6,D2,E5]
 (have z:=trivial;repeat((first|clear z|with_reducible first|apply A3|refine A4 fun _=>?_|refine A5 fun _=>?_);try simp(disch:=solve|omega|assumption|repeat(first|exact A1|exact uH|apply A2|apply uT)|(simp;try omega)|fail)[]))
 refine C8 (Hc:=D8 m.bc m.cn m.cv m.ov m.cells m.own) A1w (fun w' _ hs=> B7E w' m.bc m.cn m.cv m.ov m.cells m.own j.shard j.who hol hs) (by unfold D8; (repeat' constructor)) ?_
 rintro n' v ⟨r,rfl⟩
 simp only [D8,List.cons_append,List.nil_append]
 (have z:=trivial;repeat((first|clear z|with_reducible first|apply A3|refine A4 fun _=>?_|refine A5 fun _=>?_);try simp(disch:=solve|omega|assumption|repeat(first|exact A1|exact uH|apply A2|apply uT)|(simp;try omega)|fail)[]))
 refine B1 (tv,{ m.dz with cn:=n',own:=N9 m.own j.shard j.who },P) ⟨rfl,Q2 rfl rfl h.tabs.pool h.tb⟩ ?_
 simp only [T7,jw8,G6,L5,C6,D2,E5,WoH.uz,WoH.dz]
 (repeat' constructor)
theorem D2S (w:World) (b:Nat) (j:JW) (tv:Value) (m:WoH) (P:P4) (h:JwOk j tv m P) (hw:LW false (C3 (G3 b j tv m P)) w (G3 b j tv m P) w):A67 78 w b j tv m P (u9 j m.ws):=by
 refine B2U (TW.goH (κ:=false) ?_ hw)
 unfold A31
 have hwk:=h.ws.wk
 have hcl:m.cells.length ≤ 1024:=by have:=h.ws.cells; have e:m.ws.cells = m.cells:=rfl; rw [e] at this; omega
 generalize hS:C3 (G3 b j tv m P) = S at *
 have e0:D3 m.ws.cells 0 = D3 m.cells 0:=rfl
 unfold u9
 rw [e0]
 by_cases c1:D3 m.cells 0 = j.ep
 ·rw [if_pos c1]
  simp only [G3,G6,L5,C6,D2,E5]
  (have z:=trivial;repeat((first|clear z|with_reducible first|apply A3|refine A4 fun _=>?_|refine A5 fun _=>?_);try simp(disch:=solve|omega|assumption|repeat(first|exact A1|exact uH|apply A2|apply uT)|(simp;try omega)|fail)[]))
  refine C8 (Hc:=D8 m.bc m.cn m.cv m.ov m.cells m.own) W1 (fun w' _ hs=> A7C w' m.bc m.cn m.cv m.ov m.cells m.own 0 hcl hs) (by unfold D8; (repeat' constructor)) ?_
  rintro n' v rfl
  rw [c1]
  simp only [D8,List.cons_append,List.nil_append]
  (have z:=trivial;repeat((first|clear z|with_reducible first|apply A3|refine A4 fun _=>?_|refine A5 fun _=>?_);try simp(disch:=solve|omega|assumption|repeat(first|exact A1|exact uH|apply A2|apply uT)|(simp;try omega)|fail)[]))
  refine B1 (tv,{ m.dz with cn:=n' },P) ⟨rfl,Q2 rfl rfl h.tabs.pool h.tb⟩ ?_
  simp only [T7,G6,L5,C6,D2,E5,WoH.uz,WoH.dz]
  (repeat' constructor)
 ·rw [if_neg c1]
  simp only [G3,G6,L5,C6,D2,E5]
  (have z:=trivial;repeat((first|clear z|with_reducible first|apply A3|refine A4 fun _=>?_|refine A5 fun _=>?_);try simp(disch:=solve|omega|assumption|repeat(first|exact A1|exact uH|apply A2|apply uT)|(simp;try omega)|fail)[]))
  refine C8 (Hc:=D8 m.bc m.cn m.cv m.ov m.cells m.own) W1 (fun w' _ hs=> A7C w' m.bc m.cn m.cv m.ov m.cells m.own 0 hcl hs) (by unfold D8; (repeat' constructor)) ?_
  rintro n' v rfl
  simp only [D8,List.cons_append,List.nil_append]
  (have z:=trivial;repeat((first|clear z|with_reducible first|apply A3|refine A4 fun _=>?_|refine A5 fun _=>?_);try simp(disch:=solve|omega|assumption|repeat(first|exact A1|exact uH|apply A2|apply uT)|(simp;try omega)|fail)[c1]))
  refine B1 (tv,{ m.dz with cn:=n' },P) ⟨rfl,Q2 rfl rfl h.tabs.pool h.tb⟩ ?_
  simp only [T7,G6,L5,C6,D2,E5,WoH.uz,WoH.dz]
  (repeat' constructor)
theorem D19 (w:World) (b:Nat) (j:JW) (tv:Value) (m:WoH) (P:P4) (h:JwOk j tv m P) (hw:LW false (C3 (G3 b j tv m P)) w (G3 b j tv m P) w):A67 80 w b j tv m P (jw4 j m.ws):=by
 refine B0D (TW.goH (κ:=false) ?_ hw)
 unfold A29
 have hwk:=h.ws.wk
 have hcl:m.cells.length ≤ 1024:=by have:=h.ws.cells; have e:m.ws.cells = m.cells:=rfl; rw [e] at this; omega
 generalize hS:C3 (G3 b j tv m P) = S at *
 simp only [G3,G6,L5,C6,D2,E5]
 (have z:=trivial;repeat((first|clear z|with_reducible first|apply A3|refine A4 fun _=>?_|refine A5 fun _=>?_);try simp(disch:=solve|omega|assumption|repeat(first|exact A1|exact uH|apply A2|apply uT)|(simp;try omega)|fail)[]))
 refine C8 (Hc:=D8 m.bc m.cn m.cv m.ov m.cells m.own) W1 (fun w' _ hs=> A7C w' m.bc m.cn m.cv m.ov m.cells m.own 1 hcl hs) (by unfold D8; (repeat' constructor)) ?_
 rintro n' v rfl
 obtain ⟨z,hz⟩:∃ z,z = IntKind.i64.wrap (D3 m.cells 1 - 1):=⟨_,rfl⟩
 have e4:jw4 j m.ws = ({ j with slot:=z,now:=m.now },m.ws,true,false,false):=by rw [hz]; rfl
 rw [e4]
 simp only [D8,List.cons_append,List.nil_append,D5a,← hz]
 (have z:=trivial;repeat((first|clear z|with_reducible first|apply A3|refine A4 fun _=>?_|refine A5 fun _=>?_);try simp(disch:=solve|omega|assumption|repeat(first|exact A1|exact uH|apply A2|apply uT)|(simp;try omega)|fail)[← hz]))
 refine B1 (tv,{ m.dz with cn:=n' },P) ⟨rfl,Q2 rfl rfl h.tabs.pool h.tb⟩ ?_
 simp only [T7,G6,L5,C6,D2,E5,WoH.uz,WoH.dz]
 (repeat' constructor)
theorem D2T (w:World) (b:Nat) (j:JW) (tv:Value) (m:WoH) (P:P4) (h:JwOk j tv m P) (hsh:m.c.sh ≤ 1000) (hw:LW false (C3 (G3 b j tv m P)) w (G3 b j tv m P) w):A67 76 w b j tv m P (l3 j m.ws):=by
 refine B2x (TW.goH (κ:=false) ?_ hw)
 unfold A4K
 have hwk:=h.ws.wk
 have hcl:m.cells.length ≤ 1024:=by have:=h.ws.cells; have e:m.ws.cells = m.cells:=rfl; rw [e] at this; omega
 generalize hS:C3 (G3 b j tv m P) = S at *
 have e0:m.ws.c = m.c:=rfl
 have e1:D3 m.ws.cells 0 = D3 m.cells 0:=rfl
 unfold l3
 rw [e0,e1]
 by_cases c1:G5 m.c j.who < 0
 ·rw [if_pos c1]
  simp only [G3,G6,L5,C6,D2,E5]
  (have z:=trivial;repeat((first|clear z|with_reducible first|apply A3|refine A4 fun _=>?_|refine A5 fun _=>?_);try simp(disch:=solve|omega|assumption|repeat(first|exact A1|exact uH|apply A2|apply uT)|(simp;try omega)|fail)[]))
  refine B7 U0 (fun w' hw' => A6C w' m.b m.c _ _ _ _ _ _ j.who hwk.2 (hw'.pt (b:=m.b) (by unfold E5; (repeat constructor)))) ?_
  (have z:=trivial;repeat((first|clear z|with_reducible first|apply A3|refine A4 fun _=>?_|refine A5 fun _=>?_);try simp(disch:=solve|omega|assumption|repeat(first|exact A1|exact uH|apply A2|apply uT)|(simp;try omega)|fail)[c1]))
  refine C8 (Hc := [G6 b j tv]) A23 (fun w' _ hs=> B5J w' b j tv 1 hs) (by unfold G6 L5; (repeat' constructor)) ?_
  rintro _ v rfl
  simp only [List.cons_append,List.nil_append,L8,G6,L5]
  (have z:=trivial;repeat((first|clear z|with_reducible first|apply A3|refine A4 fun _=>?_|refine A5 fun _=>?_);try simp(disch:=solve|omega|assumption|repeat(first|exact A1|exact uH|apply A2|apply uT)|(simp;try omega)|fail)[]))
  refine B1 (tv,m.dz,P) ⟨rfl,Q2 rfl rfl h.tabs.pool h.tb⟩ ?_
  simp only [T7,G6,L5,C6,D2,E5,WoH.uz,WoH.dz]
  (repeat' constructor)
 rw [if_neg c1]
 by_cases c2:(D1 j.text).2.2 = 0
 case neg=>
  rw [if_pos c2]
  simp only [G3,G6,L5,C6,D2,E5]
  (have z:=trivial;repeat((first|clear z|with_reducible first|apply A3|refine A4 fun _=>?_|refine A5 fun _=>?_);try simp(disch:=solve|omega|assumption|repeat(first|exact A1|exact uH|apply A2|apply uT)|(simp;try omega)|fail)[]))
  refine B7 U0 (fun w' hw' => A6C w' m.b m.c _ _ _ _ _ _ j.who hwk.2 (hw'.pt (b:=m.b) (by unfold E5; (repeat constructor)))) ?_
  (have z:=trivial;repeat((first|clear z|with_reducible first|apply A3|refine A4 fun _=>?_|refine A5 fun _=>?_);try simp(disch:=solve|omega|assumption|repeat(first|exact A1|exact uH|apply A2|apply uT)|(simp;try omega)|fail)[c1]))
  refine C8 (Hc := [G6 b j tv]) A3P (fun w' _ hs=> B8z w' b j tv m.c.sh h.text (by omega) hs) (by unfold G6 L5; (repeat' constructor)) ?_
  rintro _ v rfl
  rw [decide_eq_false c2,if_neg c2]
  simp only [List.cons_append,List.nil_append]
  (have z:=trivial;repeat((first|clear z|with_reducible first|apply A3|refine A4 fun _=>?_|refine A5 fun _=>?_);try simp(disch:=solve|omega|assumption|repeat(first|exact A1|exact uH|apply A2|apply uT)|(simp;try omega)|fail)[]))
  refine C8 (Hc := [G6 b j tv]) A23 (fun w' _ hs=> B5J w' b j tv 9 hs) (by (repeat' constructor)) ?_
  rintro _ v rfl
  simp only [List.cons_append,List.nil_append,L8,G6,L5]
  (have z:=trivial;repeat((first|clear z|with_reducible first|apply A3|refine A4 fun _=>?_|refine A5 fun _=>?_);try simp(disch:=solve|omega|assumption|repeat(first|exact A1|exact uH|apply A2|apply uT)|(simp;try omega)|fail)[]))
  refine B1 (tv,m.dz,P) ⟨rfl,Q2 rfl rfl h.tabs.pool h.tb⟩ ?_
  simp only [T7,G6,L5,C6,D2,E5,WoH.uz,WoH.dz]
  (repeat' constructor)
 rw [if_neg (by simpa using c2)]
 simp only [G3,G6,L5,C6,D2,E5]
 (have z:=trivial;repeat((first|clear z|with_reducible first|apply A3|refine A4 fun _=>?_|refine A5 fun _=>?_);try simp(disch:=solve|omega|assumption|repeat(first|exact A1|exact uH|apply A2|apply uT)|(simp;try omega)|fail)[]))
 refine B7 U0 (fun w' hw' => A6C w' m.b m.c _ _ _ _ _ _ j.who hwk.2 (hw'.pt (b:=m.b) (by unfold E5; (repeat constructor)))) ?_
 (have z:=trivial;repeat((first|clear z|with_reducible first|apply A3|refine A4 fun _=>?_|refine A5 fun _=>?_);try simp(disch:=solve|omega|assumption|repeat(first|exact A1|exact uH|apply A2|apply uT)|(simp;try omega)|fail)[c1]))
 refine C8 (Hc := [G6 b j tv]) A3P (fun w' _ hs=> B8z w' b j tv m.c.sh h.text (by omega) hs) (by unfold G6 L5; (repeat' constructor)) ?_
 rintro _ v rfl
 rw [decide_eq_true c2,if_pos c2]
 have hrt:(j.rd m.c.sh).table = j.table:=rfl
 generalize j.rd m.c.sh = j2 at *
 simp only [List.cons_append,List.nil_append,G6,L5]
 (have z:=trivial;repeat((first|clear z|with_reducible first|apply A3|refine A4 fun _=>?_|refine A5 fun _=>?_);try simp(disch:=solve|omega|assumption|repeat(first|exact A1|exact uH|apply A2|apply uT)|(simp;try omega)|fail)[]))
 refine C8 (Hc:=D8 m.bc m.cn m.cv m.ov m.cells m.own) W1 (fun w' _ hs=> A7C w' m.bc m.cn m.cv m.ov m.cells m.own 0 hcl hs) (by unfold D8; (repeat' constructor)) ?_
 rintro n' v rfl
 simp only [D8,List.cons_append,List.nil_append]
 (have z:=trivial;repeat((first|clear z|with_reducible first|apply A3|refine A4 fun _=>?_|refine A5 fun _=>?_);try simp(disch:=solve|omega|assumption|repeat(first|exact A1|exact uH|apply A2|apply uT)|(simp;try omega)|fail)[]))
 refine B1 (tv,{ m.dz with cn:=n' },P) ⟨rfl,Q2 rfl rfl h.tabs.pool (by simp only; rw [hrt]; exact h.tb)⟩ ?_
 simp only [T7,G6,L5,C6,D2,E5,WoH.uz,WoH.dz]
 (repeat' constructor)
abbrev pW (x:WS):List Int:=D0V x x.c.wk.toNat
abbrev kF (x:WS):List (Int × Int):=B32 (pW x) x.keep
abbrev sF (x:WS):List SlV:=B3C (pW x) x.keep x.sl
theorem W0 (P:List Int) (l:List (Int × Int)):(B32 P l).length = l.length:=by unfold B32; simp
theorem A3l {P:List Int} {l:List (Int × Int)} {s:List SlV} (h:l.length = s.length):(B3C P l s).length = s.length:=by unfold B3C; simp [h]
theorem D09 {l:List SlV} {i:Int} {x:SlV} (h:0 ≤ i ∧ i < l.length):A0W l i x = l.set i.toNat x:=if_pos h
def epW (x:WS):Int:=IntKind.i64.wrap (D3 x.cells 0 + 1)
def M8 (x:WS) (p:List F8):WS :=
 { x with cells:=N0 (N0 x.cells 1 (f8 (kF x) + 1)) 0 (epW x),sl:=A0W (sF x) (f8 (kF x)) (.rdy p),keep:=if 0 < D3 x.cells 1 then C1W (A3v (kF x)) (D3 x.cells 1 - 1) (epW x) else A3v (kF x) }
theorem C3D {α:Type} {l:List α} {d:α} {i:Nat} (h:i < l.length):l.getD i d = l[i]:=by rw [List.getD_eq_getElem?_getD,List.getElem?_eq_getElem h]; rfl
theorem C7Q {x:WS} {i:Nat} (h:(i:Int) < x.c.wk):G5 x.c (((i:Nat):Int) + 1) = (i:Nat) + 2:=by unfold G5; rw [if_neg (by omega)]; omega
theorem D29 {x:WS} {p:Int}:p ∈ pW x ↔ ∃ i:Nat,(i:Int) < x.c.wk ∧ p = D3 x.cells ((i:Nat) + 2):=by
 unfold pW D0V
 rw [List.mem_map]
 constructor
 ·rintro ⟨i,hi,rfl⟩
  rw [List.mem_range] at hi
  exact ⟨i,by omega,by rw [C7Q (by omega)]⟩
 ·rintro ⟨i,hi,rfl⟩
  exact ⟨i,List.mem_range.2 (by omega),by rw [C7Q hi]⟩
theorem C4q {x:WS} (h:∀ i:Nat,D3 x.cells ((i:Nat) + 2) = 0) (e:Int):C03 (pW x) e = true:=by
 unfold C03
 rw [List.all_eq_true]
 intro p hp
 obtain ⟨i,hi,rfl⟩:=D29.1 hp
 simp [h i]
def C3u (n t:Nat):List (Int × Int):=(List.range n).map fun k=> if k + 1 < t then (2,(k:Int) + 2) else if k + 1 = t then (1,0) else (0,0)
theorem C58 (n t:Nat):(C3u n t).length = n:=by simp [C3u]
theorem C0r {l:List (Int × Int)} {i:Nat} (h:i < l.length):stK l (i:Nat) = l[i].1:=by
 unfold stK
 rw [if_pos (by omega),Int.toNat_natCast,List.getD_eq_getElem?_getD,List.getElem?_eq_getElem h]; rfl
structure BusyI (n t:Nat) (x:WS):Prop where
 ok:WsOk x
 ep:D3 x.cells 0 = (t:Nat)
 cur:D3 x.cells 1 = (t:Nat)
 keep:x.keep = C3u n t
 sl:x.sl.length = n
 le:t ≤ n
theorem BusyI.kl {n t:Nat} {x:WS} (h:BusyI n t x):x.keep.length = x.sl.length:=by rw [h.sl,h.keep,C58]
theorem C9S {x:WS} {p:List F8} (h:WsOk x) (hl:x.keep.length = x.sl.length):WsOk (M8 x p):=by
 obtain ⟨w1,w2,w3,w4,w5⟩:=h
 refine ⟨w1,by simp only [M8,A26]; exact w2,w3,by simp only [M8,B1H]; rw [A3l hl]; exact w4,?_⟩
 simp only [M8]
 split
 ·simp only [C1W,C6w,B6P,W0]; exact w5
 ·simp only [B6P,W0]; exact w5
theorem C6V {x:WS} {p:List F8} (h:WsOk x):D3 (M8 x p).cells 1 = f8 (kF x) + 1:=by
 have h1:=h.wk; have h2:=h.cells
 simp only [M8]
 rw [W2 _ _ (by omega),A27,if_pos (by omega)]
theorem B81 {x:WS} {p:List F8} (i:Nat):D3 (M8 x p).cells ((i:Nat) + 2) = D3 x.cells ((i:Nat) + 2):=by
 simp only [M8]
 rw [W2 _ _ (by omega),W2 _ _ (by omega)]
abbrev L7 (x:WS):Int:=D3 x.cells 1
theorem C0Q {l:List (Int × Int)} {k:Nat} (hk:k < l.length) (h:l[k] = (0,0)):¬ f8 l < 0:=by
 unfold f8
 have:l.findIdx (fun s=> decide (s = (0,0))) < l.length:=List.findIdx_lt_length.2 ⟨_,List.getElem_mem hk,by simp [h]⟩
 rw [if_pos this]; omega
theorem C6E {l:List (Int × Int)} (h:¬ f8 l < 0):∃ k:Nat,∃ hk:k < l.length,f8 l = (k:Nat) ∧ l[k] = (0,0):=by
 unfold f8 at *
 by_cases c:l.findIdx (fun s=> decide (s = (0,0))) < l.length
 ·rw [if_pos c]
  refine ⟨_,c,rfl,?_⟩
  have:=List.findIdx_getElem (w:=c)
  simpa using this
 ·rw [if_neg c] at h; omega
theorem C55 {l:List (Int × Int)} {k:Nat} (hk:k < l.length) (h:f8 l = (k:Nat)) (h0:l[k] = (0,0)):A3v l = l.set k (1,0):=by
 unfold A3v
 rw [h,if_neg (by omega),Int.toNat_natCast,C3D hk,h0]
theorem B0B {l:List SlV} {k:Nat} (h:k < l.length):K3 l (k:Nat) = l[k]:=by
 unfold K3; rw [if_pos (by omega),Int.toNat_natCast,C3D h]
structure CurI (x:WS):Prop where
 ok:WsOk x
 kl:x.keep.length = x.sl.length
 two:2 ≤ x.keep.length
 cur:0 ≤ L7 x ∧ L7 x ≤ x.keep.length
 at1:∀ (k:Nat) (h:k < x.keep.length),(k:Int) + 1 = L7 x → (x.keep[k]).1 = 1 ∧ ∃ p,K3 x.sl (k:Nat) = .rdy p
 at2:∀ (k:Nat) (h:k < x.keep.length),(k:Int) + 1 ≠ L7 x → x.keep[k] = (0,0) ∨ (x.keep[k]).1 = 2
theorem B2y {P:List Int} {l:List (Int × Int)} {k:Nat} (h:k < l.length):(B32 P l)[k]'(by rw [W0]; exact h) = if A0F P l[k] then (0,0) else l[k]:=by simp [B32]
theorem C7E {P:List Int} {l:List (Int × Int)} {s:List SlV} {k:Nat} (h:k < l.length) (h2:k < s.length) (hl:l.length = s.length):(B3C P l s)[k]'(by rw [A3l hl]; exact h2) = if A0F P l[k] then .no else s[k]:=by simp [B3C]
theorem C2w {P:List Int} {s:Int × Int} (h:s.1 ≠ 2):A0F P s = false:=by unfold A0F; rw [decide_eq_false h]; rfl
theorem CurI.freed {x:WS} (h:CurI x):CurI { x with sl:=sF x,keep:=kF x } ∧ K3 (sF x) (L7 x - 1) = K3 x.sl (L7 x - 1):=by
 have hg:∀ (k:Nat) (hk:k < x.keep.length),(k:Int) + 1 = L7 x → K3 (sF x) (k:Nat) = K3 x.sl (k:Nat):=fun k hk hc=> by
  have h1:=(h.at1 k hk hc).1
  have hs:k < x.sl.length:=by rw [← h.kl]; exact hk
  rw [B0B (by rw [A3l h.kl]; exact hs),B0B hs,C7E hk hs h.kl,C2w (by omega)]; rfl
 have hok:=h.ok
 refine ⟨⟨⟨hok.wk,hok.cells,hok.own,by simp only; rw [A3l h.kl]; exact hok.sl,by simp only; rw [W0]; exact hok.keep⟩,by simp only; rw [W0,A3l h.kl]; exact h.kl,by simp only; rw [W0]; exact h.two,by simp only; rw [W0]; exact h.cur,fun k hk hc=> ?_,fun k hk hc=> ?_⟩,?_⟩
 ·simp only [W0] at hk
  have h1:=h.at1 k hk hc
  simp only
  rw [B2y hk,C2w (by omega)]
  exact ⟨h1.1,by rw [hg k hk hc]; exact h1.2⟩
 ·simp only [W0] at hk
  simp only
  rw [B2y hk]
  cases hr:A0F (pW x) x.keep[k] with
  | true=> left; rfl
  | false=> simpa using h.at2 k hk hc
 ·by_cases hc:L7 x = 0
  ·rw [hc]; rfl
  ·have h1:=h.cur
   obtain ⟨k,hk⟩:∃ k:Nat,L7 x - 1 = k:=⟨(L7 x - 1).toNat,by omega⟩
   rw [hk]
   exact hg k (by omega) (by omega)
theorem D1g {l:List (Int × Int)} {i k:Nat} {s:Int × Int} (hk:k < l.length):stK (l.set i s) (k:Nat) = if i = k then s.1 else l[k].1:=by
 rw [C0r (by rw [List.length_set]; exact hk),List.getElem_set]; split <;> rfl
theorem CurI.after {x:WS} (h:CurI x) (p:List F8) (ht:¬ f8 (kF x) < 0):CurI (M8 x p) ∧ L7 (M8 x p) ≠ L7 x ∧ 1 ≤ L7 (M8 x p) ∧ K3 (M8 x p).sl (L7 (M8 x p) - 1) = .rdy p ∧ stK (M8 x p).keep (L7 (M8 x p) - 1) = 1
  ∧ (0 < L7 x → stK (M8 x p).keep (L7 x - 1) = 2) ∧ K3 (M8 x p).sl (L7 x - 1) = K3 x.sl (L7 x - 1):=by
 obtain ⟨hf,hgf⟩:=h.freed
 obtain ⟨s,hs,hts,hs0⟩:=C6E ht
 have hsl:s < (sF x).length:=by have:=hf.kl; simp only at this; omega
 have hcur':L7 (M8 x p) = (s:Int) + 1:=by rw [show L7 (M8 x p) = D3 (M8 x p).cells 1 from rfl,C6V h.ok,hts]
 have hcf:L7 { x with sl:=sF x,keep:=kF x } = L7 x:=rfl
 have hne:(s:Int) + 1 ≠ L7 x:=fun hc=> by
  have:=(hf.at1 s hs (by rw [hcf]; exact hc)).1
  simp only at this
  rw [hs0] at this
  simp at this
 have htk:=C55 hs hts hs0
 have hlen:(kF x).length = x.keep.length:=W0 _ _
 have hsl':(M8 x p).sl = (sF x).set s (.rdy p):=by
  show A0W (sF x) (f8 (kF x)) (.rdy p) = _
  rw [hts,D09 (by omega),Int.toNat_natCast]
 have hkp:(M8 x p).keep = if 0 < L7 x then ((kF x).set s (1,0)).set (L7 x - 1).toNat (2,epW x) else (kF x).set s (1,0):=by
  show (if 0 < D3 x.cells 1 then C1W (A3v (kF x)) (D3 x.cells 1 - 1) (epW x) else A3v (kF x)) = _
  rw [htk]
  by_cases hc:0 < L7 x
  ·rw [if_pos hc,if_pos hc]
   obtain ⟨k,hk⟩:∃ k:Nat,L7 x - 1 = k:=⟨(L7 x - 1).toNat,by omega⟩
   have hkl:k < (kF x).length:=by have:=h.cur; omega
   have h1:=(hf.at1 k hkl (by rw [hcf]; omega)).1
   unfold C1W B63
   have e3:stK ((kF x).set s (1,0)) (k:Nat) = 1:=by rw [D1g hkl,if_neg (by omega)]; exact h1
   rw [show D3 x.cells 1 - 1 = (k:Int) from hk,e3,if_pos ⟨rfl,by omega⟩]
  ·rw [if_neg hc,if_neg hc]
 have hgs:∀ (k:Nat),k ≠ s → k < (sF x).length → K3 (M8 x p).sl (k:Nat) = K3 (sF x) (k:Nat):=fun k hk hl=> by
  rw [hsl',B0B (by rw [List.length_set]; exact hl),B0B hl,List.getElem_set_ne (by omega)]
 have hgs0:K3 (M8 x p).sl (s:Nat) = .rdy p:=by rw [hsl',B0B (by rw [List.length_set]; exact hsl),List.getElem_set_self]
 have hold:K3 (M8 x p).sl (L7 x - 1) = K3 x.sl (L7 x - 1):=by
  rw [← hgf]
  by_cases hc:L7 x = 0
  ·rw [hc]; rfl
  ·have h1:=h.cur
   obtain ⟨k,hk⟩:∃ k:Nat,L7 x - 1 = k:=⟨(L7 x - 1).toNat,by omega⟩
   rw [hk]
   exact hgs k (by omega) (by have:=hf.kl; simp only at this; omega)
 have hat:∀ (k:Nat) (hk:k < (kF x).length),∀ hk',(M8 x p).keep[k]'hk' = if (k:Int) + 1 = L7 x then (2,epW x) else if k = s then (1,0) else (kF x)[k]:=fun k hk hk' => by
  simp only [hkp]
  by_cases hc:0 < L7 x
  ·simp only [if_pos hc]
   rw [List.getElem_set,List.getElem_set]
   by_cases h1:(k:Int) + 1 = L7 x
   ·rw [if_pos h1,if_pos (by omega)]
   ·rw [if_neg h1,if_neg (by omega)]
    by_cases h2:k = s
    ·rw [if_pos h2,if_pos h2.symm]
    ·rw [if_neg h2,if_neg (by omega)]
  ·simp only [if_neg hc]
   rw [List.getElem_set,if_neg (show ¬ (k:Int) + 1 = L7 x by omega)]
   by_cases h2:k = s
   ·rw [if_pos h2,if_pos h2.symm]
   ·rw [if_neg h2,if_neg (by omega)]
 have hkl':(M8 x p).keep.length = (kF x).length:=by
  rw [hkp]; split <;> simp
 have hsll:(M8 x p).sl.length = (sF x).length:=by rw [hsl',List.length_set]
 refine ⟨⟨C9S h.ok h.kl,by rw [hkl',hsll]; exact hf.kl,by rw [hkl']; exact hf.two,by rw [hcur',hkl']; omega,fun k hk hc=> ?_,fun k hk hc=> ?_⟩,by rw [hcur']; exact hne,by rw [hcur']; omega,?_,?_,fun hc=> ?_,hold⟩
 ·rw [hcur'] at hc
  obtain rfl:k = s:=by omega
  rw [hat k (by rw [hkl'] at hk; exact hk),if_neg hne,if_pos rfl]
  exact ⟨rfl,p,hgs0⟩
 ·rw [hcur'] at hc
  have hk2:k < (kF x).length:=by rw [hkl'] at hk; exact hk
  rw [hat k hk2]
  by_cases h1:(k:Int) + 1 = L7 x
  ·rw [if_pos h1]; right; rfl
  ·rw [if_neg h1,if_neg (by omega)]
   exact hf.at2 k hk2 (by rw [hcf]; exact h1)
 ·rw [hcur',show (s:Int) + 1 - 1 = (s:Nat) by omega]; exact hgs0
 ·rw [hcur',show (s:Int) + 1 - 1 = (s:Nat) by omega,C0r (by rw [hkl']; exact hs),hat s hs,if_neg hne,if_pos rfl]
 ·have h1:=h.cur
  obtain ⟨k,hk⟩:∃ k:Nat,L7 x - 1 = k:=⟨(L7 x - 1).toNat,by omega⟩
  rw [hk,C0r (by rw [hkl',hlen]; omega),hat k (by omega),if_pos (by omega)]
theorem CurI.free {x:WS} (h:CurI x) (hz:∀ i:Nat,D3 x.cells ((i:Nat) + 2) = 0):¬ f8 (kF x) < 0:=by
 have hlen:(kF x).length = x.keep.length:=W0 _ _
 have h2:=h.two
 have key:∀ (k:Nat) (hk:k < x.keep.length),(k:Int) + 1 ≠ L7 x → (kF x)[k]'(by rw [hlen]; exact hk) = (0,0):=fun k hk hc=> by
  rw [B2y hk]
  rcases h.at2 k hk hc with h0 | h0
  ·rw [h0,D3x]; rfl
  ·have:A0F (pW x) x.keep[k] = true:=by unfold A0F; rw [h0,C4q hz]; rfl
   rw [this]; rfl
 by_cases hc:L7 x = 1
 ·exact C0Q (k:=1) (by omega) (key 1 (by omega) (by omega))
 ·exact C0Q (k:=0) (by omega) (key 0 (by omega) (by omega))
theorem CurI.new {c:CfgV} (h:Q8 c = true) (hw:WsOk (N2 c)):CurI (N2 c):=by
 simp only [Q8,k9,Bool.and_eq_true,decide_eq_true_eq] at h
 have hcur:L7 (N2 c) = 0:=by
  show D3 (List.replicate _ 0) 1 = 0
  unfold D3; split
  ·rw [List.getD_eq_getElem?_getD,List.getElem?_replicate]; split <;> rfl
  ·rfl
 refine ⟨hw,by simp [N2],by simp only [N2,List.length_replicate]; omega,by rw [hcur]; omega,fun k hk hc=> ?_,fun k hk hc=> ?_⟩
 ·rw [hcur] at hc; omega
 ·left; simp [N2]
theorem D2w (w:World) (b:Nat) (j:JW) (tv:Value) (m:WoH) (P:P4) (h:JwOk j tv m P) (hw:LW false (C3 (G3 b j tv m P)) w (G3 b j tv m P) w):A67 81 w b j tv m P (jw5 j m.ws):=by
 refine B3d (TW.goH (κ:=false) ?_ hw)
 unfold A5F
 obtain ⟨h1,h2,h3,h4,h5,h6⟩:=h.tabs
 obtain ⟨i,hi⟩:∃ i:Nat,j.shard = i:=⟨j.shard.toNat,by have:=h.shard; omega⟩
 have hlt:i < m.ts.length:=by have:=h.shard; omega
 obtain ⟨⟨tv0,tl⟩,hx0⟩:∃ x,m.ts[i]? = some x:=⟨_,List.getElem?_eq_getElem hlt⟩
 have hxm:=List.mem_of_getElem? hx0
 have g0:(m.ts.map (·.1))[i]? = some tv0:=by rw [List.getElem?_map,hx0]; rfl
 have gg:m.ts[i]'hlt = (tv0,tl):=(List.getElem?_eq_some_iff.1 hx0).2
 have e5:jw5 j m.ws = ({ j with table:=tl },m.ws,noT):=by
  unfold jw5
  have:m.ws.tabs.getD j.shard.toNat [] = tl:=by simp [WoH.ws,hi,List.getD_eq_getElem?_getD,hx0]
  rw [this]
 rw [e5]
 generalize hS:C3 (G3 b j tv m P) = S at *
 simp only [G3,G6,L5,C6,D2,E5,hi]
 refine V5 (e:=84) (k:=1) (v:=m.tv) (q:=m.ts.length) (xs:=m.ts.map (·.1)) (by (repeat constructor)) (by omega) fun tg tc hta=> ?_
 refine g6 (P:=P) (v:=tv0) (l:=tl) (by (repeat constructor)) (h6 _ hxm) fun xa xc hxa=> ?_
 rw [hta]
 subst hxa
 (have z:=trivial;repeat((first|clear z|with_reducible first|apply A3|refine A4 fun _=>?_|refine A5 fun _=>?_);try simp(disch:=solve|omega|assumption|repeat(first|exact A1|exact uH|apply A2|apply uT)|(simp;try omega)|fail)[hlt,g0,gg]))
 refine B1 (.slice xa tl.length xc,{ m.dz with tv:=.slice (some ⟨tg,0,none⟩) m.ts.length tc },P) ⟨rfl,Q2 rfl rfl h6 (h6 _ hxm)⟩ ?_
 simp only [T7,G6,L5,C6,D2,E5,WoH.uz,WoH.dz,hi]
 (repeat' constructor)
theorem D3W (w:World) (b:Nat) (j:JW) (tv:Value) (m:WoH) (P:P4) (h:JwOk j tv m P) (hw:LW false (C3 (G3 b j tv m P)) w (G3 b j tv m P) w):A67 83 w b j tv m P (jw7 j m.ws):=by
 refine B2p (TW.goH (κ:=false) ?_ hw)
 unfold A4A
 obtain ⟨h1,h2,h3,h4,h5,h6⟩:=h.tabs
 have ht:=h.tb
 obtain ⟨i,hi⟩:∃ i:Nat,j.shard = i:=⟨j.shard.toNat,by have:=h.shard; omega⟩
 have hlt:i < m.ts.length:=by have:=h.shard; omega
 obtain ⟨⟨tv0,tl⟩,hx0⟩:∃ x,m.ts[i]? = some x:=⟨_,List.getElem?_eq_getElem hlt⟩
 have g0:(m.ts.map (·.1))[i]? = some tv0:=by rw [List.getElem?_map,hx0]; rfl
 have gg:m.ts[i]'hlt = (tv0,tl):=(List.getElem?_eq_some_iff.1 hx0).2
 have e7:jw7 j m.ws = (j,{ m.ws with tabs:=m.ws.tabs.set i j.table },noT):=by unfold jw7; rw [hi,Int.toNat_natCast]
 rw [e7]
 generalize hS:C3 (G3 b j tv m P) = S at *
 simp only [G3,G6,L5,C6,D2,E5,hi]
 refine V5 (e:=84) (k:=1) (v:=m.tv) (q:=m.ts.length) (xs:=m.ts.map (·.1)) (by (repeat constructor)) (by omega) fun tg tc hta=> ?_
 refine g6 (P:=P) (v:=tv) (l:=j.table) (by (repeat constructor)) ht fun xa xc hxa=> ?_
 rw [hta]
 subst hxa
 (have z:=trivial;repeat((first|clear z|with_reducible first|apply A3|refine A4 fun _=>?_|refine A5 fun _=>?_);try simp(disch:=solve|omega|assumption|repeat(first|exact A1|exact uH|apply A2|apply uT)|(simp;try omega)|fail)[hlt,g0,gg]))
 refine Q9 (by (repeat constructor)) (by simp) (by simp; omega) (by simp) ?_
 have e1:Y8 (m.ts.map (·.1)) i (Value.slice xa j.table.length xc).cells.toList = (m.ts.set i (.slice xa j.table.length xc,j.table)).map (·.1):=C0E (f:=(·.1)) m.ts i (.slice xa j.table.length xc,j.table) hlt
 rw [e1]
 (have z:=trivial;repeat((first|clear z|with_reducible first|apply A3|refine A4 fun _=>?_|refine A5 fun _=>?_);try simp(disch:=solve|omega|assumption|repeat(first|exact A1|exact uH|apply A2|apply uT)|(simp;try omega)|fail)[]))
 refine B1 (.slice xa j.table.length xc,{ m.dz with tv:=.slice (some ⟨tg,0,none⟩) m.ts.length tc,ts:=m.ts.set i (.slice xa j.table.length xc,j.table) },P) ⟨rfl,by simp only [WoH.ws,WoH.uz,WoH.dz,List.map_set],fun t ht' => ?_,ht,.same _ _⟩ ?_
 ·rcases List.mem_or_eq_of_mem_set ht' with ht' | rfl
  ·exact h6 t ht'
  ·exact ht
 simp only [T7,G6,L5,C6,D2,E5,WoH.uz,WoH.dz,List.length_set,List.map_set,hi]
 (repeat' constructor)
def A0J (l:List EnV) (p:List F8) (key:ByteArray) (now:Int):Int × Bool :=
 if E4 l key < 0 ∨ (W8 l key).dl < now then (0,false) else ((W8 l key).bk,decide (0 ≤ Q5 p (W8 l key).bk))
theorem C9s (l:List EnV) (p:List F8) (key:ByteArray) (now:Int):(A0J l p key now).2 = (K6 l p key now).2:=by
 unfold A0J K6
 by_cases c1:E4 l key < 0 ∨ (W8 l key).dl < now
 ·rw [if_pos c1,if_pos (by omega)]
 ·rw [if_neg c1]
  by_cases c2:Q5 p (W8 l key).bk < 0
  ·rw [if_pos (by omega)]; simp; omega
  ·rw [if_neg (by omega)]; simp; omega
theorem C8j (l:List EnV) (p:List F8) (key:ByteArray) (now:Int) (h:(K6 l p key now).2 = true):(A0J l p key now).1 = (K6 l p key now).1:=by
 unfold K6 at h ⊢
 by_cases c:E4 l key < 0 ∨ (W8 l key).dl < now ∨ Q5 p (W8 l key).bk < 0
 ·rw [if_pos c] at h; cases h
 ·rw [if_neg c]; unfold A0J; rw [if_neg (by omega)]
theorem C6u (x:WS) (i id:Int):(C0F x.sl i id).1 = decide (0 ≤ Q5 (K4 x i) id):=by
 unfold C0F K4
 cases K3 x.sl i with
 | rdy p=> rfl
 | no=> rfl
 | bld=> rfl
theorem C4j (x:WS) (i:Int):B1v x.sl i = ((((K4 x i).length:Nat):Int),A2g x i):=by
 unfold B1v K4 A2g
 cases K3 x.sl i <;> rfl
theorem C3p (x:WS) (i:Int) (h:Nat) (hp:K4 x i ≠ []):(A8B x.sl i h).1 = B1L (K4 x i) h:=by
 unfold A8B K4 at *
 cases hg:K3 x.sl i with
 | rdy p=> rfl
 | no=> rw [hg] at hp; exact absurd rfl hp
 | bld=> rw [hg] at hp; exact absurd rfl hp
theorem C4Y (w:World) (b b2 b3:Nat) (j:JW) (tv:Value) (m:WoH) (hk:j.key.size < 2 ^ 60) (hn:j.table.length ≤ 1000000) (hl8:m.ls.length ≤ 8)
  (h2:w.cell? ⟨b2,0,none⟩ = some (.pointer (some ⟨b,0,none⟩))) (h3:w.cell? ⟨b3,0,none⟩ = some (.pointer (some ⟨m.b,0,none⟩)))
  (hb:bl w b = some (.cells (L5 j tv) 130 (0,0))) (hm:WoAt w m) (hsl:SlAt w m.bs m.sv m.ls) (hv:F5 w tv j.table.length (j.table.flatMap F1)) :
  Fn PR B8 132 #[.pointer (some ⟨b2,0,none⟩),.pointer (some ⟨b3,0,none⟩)] w (fun u w' => u = .tuple #[.int .i64 (A0J j.table (K4 m.ws j.slot) j.key j.now).1,.bool (A0J j.table (K4 m.ws j.slot) j.key j.now).2] ∧ C7 [] w w'):=by
 refine Fn.pure (A7J (TW.go (κ:=false) (S := []) ?_))
 unfold A1W
 have g1:w.cell? ⟨b,1,none⟩ = some (.string j.key):=by rw [E8 hb]; rfl
 have g7:w.cell? ⟨b,7,none⟩ = some (.int .i64 j.slot):=by rw [E8 hb]; rfl
 have g8:w.cell? ⟨b,8,none⟩ = some (.int .i64 j.now):=by rw [E8 hb]; rfl
 have g9:w.cell? ⟨b,9,none⟩ = some tv:=by rw [E8 hb]; rfl
 have gs:w.cell? ⟨m.b,6,none⟩ = some (.pointer (some ⟨m.bs,0,none⟩)):=by rw [E8 hm.b]; rfl
 obtain ⟨a,c,rfl,hr⟩:=hv.form
 (have z:=trivial;repeat((first|clear z|with_reducible first|apply A3|refine A4 fun _=>?_|refine A5 fun _=>?_);try simp(disch:=solve|omega|assumption|repeat(first|exact A1|exact uH|apply A2|apply uT)|(simp;try omega)|fail)[h2,h3,g1,g9]))
 refine B7 A07 (fun w' hw' => A3Y w' _ j.table j.key hk hn (hv.ks hw'.ks (by simp))) ?_
 by_cases c1:E4 j.table j.key < 0
 ·(have z:=trivial;repeat((first|clear z|with_reducible first|apply A3|refine A4 fun _=>?_|refine A5 fun _=>?_);try simp(disch:=solve|omega|assumption|repeat(first|exact A1|exact uH|apply A2|apply uT)|(simp;try omega)|fail)[c1,h2,h3,g1,g9]))
  exact A9 (by simp [A0J,c1])
 obtain ⟨i,hi,hlt⟩:=C5q (l:=j.table) (key:=j.key) (by omega)
 have hx:j.table[i]? = some (W8 j.table j.key):=by rw [W8,hi,Int.toNat_natCast]; exact getD_some noE hlt
 obtain ⟨ba,o,rfl,hrow⟩:=hr (by omega)
 have k2:=hrow.cellAt (f:=F1) (k:=4) (j:=2) (fun _=> rfl) hx rfl
 have k3:=hrow.cellAt (f:=F1) (k:=4) (j:=3) (fun _=> rfl) hx rfl
 have hk1:A0J j.table (K4 m.ws j.slot) j.key j.now = if (W8 j.table j.key).dl < j.now then (0,false) else ((W8 j.table j.key).bk,decide (0 ≤ Q5 (K4 m.ws j.slot) (W8 j.table j.key).bk)):=by simp [A0J,c1]
 rw [hk1,hi]
 generalize W8 j.table j.key = x at *
 have hHas:=fun (w':World)=> D1j w' m.bs m.sv m.ls j.slot x.bk hl8
 rw [show m.ls.map SlH.sp = m.ws.sl from rfl,C6u] at hHas
 obtain ⟨Q,hQ⟩:∃ Q,Q = decide (0 ≤ Q5 (K4 m.ws j.slot) x.bk):=⟨_,rfl⟩
 rw [← hQ] at hHas ⊢
 clear hk1
 have n1:¬ ((i:Nat):Int) < 0:=by omega
 by_cases c2:x.dl < j.now
 ·(have z:=trivial;repeat((first|clear z|with_reducible first|apply A3|refine A4 fun _=>?_|refine A5 fun _=>?_);try simp(disch:=solve|omega|assumption|repeat(first|exact A1|exact uH|apply A2|apply uT)|(simp;try omega)|fail)[n1,hlt,h2,h3,g1,g7,g8,g9,k3,c2]))
  exact A9 (by simp [c2])
 (have z:=trivial;repeat((first|clear z|with_reducible first|apply A3|refine A4 fun _=>?_|refine A5 fun _=>?_);try simp(disch:=solve|omega|assumption|repeat(first|exact A1|exact uH|apply A2|apply uT)|(simp;try omega)|fail)[n1,hlt,h2,h3,g1,g7,g8,g9,gs,k3,k2,c2]))
 refine B7 B2r (fun w' hw' => hHas w' (hsl.ks hw'.ks)) ?_
 (have z:=trivial;repeat((first|clear z|with_reducible first|apply A3|refine A4 fun _=>?_|refine A5 fun _=>?_);try simp(disch:=solve|omega|assumption|repeat(first|exact A1|exact uH|apply A2|apply uT)|(simp;try omega)|fail)[hlt,h2,h3,g1,g7,g8,g9,k3,k2,c2]))
 exact A9 (by simp [c2])
end Go.Proofs.YtjobgnabneddjaaGreat
