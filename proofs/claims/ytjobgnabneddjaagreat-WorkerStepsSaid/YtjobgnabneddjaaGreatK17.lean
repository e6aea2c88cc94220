/- The proof of a given statement, a part of it. No condition but what each lemma says. -/
import Derived.Test.YtjobgnabneddjaaGreatK16
set_option maxHeartbeats 4000000
set_option linter.unusedVariables false
set_option linter.unusedSimpArgs false
namespace Go.Proofs.YtjobgnabneddjaaGreat
open Go
theorem D15 {κ:Bool} {S:List Nat} {w0:World} {H:List Res} {F:Value → WP} {A:(Value → WP) → WP} (v:Value) (hF:TW κ S w0 H (F v)) (hA:∀ J:Value → WP,TW κ S w0 H (J v) → TW κ S w0 H (A J)):TW κ S w0 H (jn (n:=1) F A):=hA F hF
def idW (l:List EnV) (x:WS) (slot:Int) (key:ByteArray) (now:Int):Int:=if (K6 l (K4 x slot) key now).2 then (A0J l (K4 x slot) key now).1 else (A8B x.sl slot (S5 key)).1
theorem D16 {l:List EnV} {x:WS} {slot:Int} {key:ByteArray} {now:Int} (h:¬ ((K6 l (K4 x slot) key now).2 = false ∧ K4 x slot = [])):idW l x slot key now = e9 l (K4 x slot) key now:=by
 unfold idW e9
 cases hk:(K6 l (K4 x slot) key now).2 with
 | true=> simp only [if_true]; exact C8j _ _ _ _ hk
 | false=>
  simp only [Bool.false_eq_true,if_false]
  exact C3p x slot _ fun hp=> h ⟨hk,hp⟩
set_option maxHeartbeats 4000000 in
theorem D2m (w:World) (b:Nat) (j:JW) (tv0:Value) (m:WoH) (P:P4) (h:JwOk j tv0 m P) (hw:LW false (C3 (G3 b j tv0 m P)) w (G3 b j tv0 m P) w):A67 82 w b j tv0 m P (jw6 j m.ws):=by
 refine B1N (TW.goH (κ:=false) ?_ hw)
 unfold A3M
 have ht:=h.tb
 have hP:=h.tabs.pool
 have hkey:=h.key
 have hkeys:=h.keys
 have hlen:=h.len
 have hslot:=h.slot
 have hl8:m.ls.length ≤ 8:=by have:=h.ws.sl; simpa [WoH.ws] using this
 generalize hS:C3 (G3 b j tv0 m P) = S at *
 simp only [G3,G6,L5,C6,D2,E5]
 refine g6 (P:=P) (v:=tv0) (l:=j.table) (by (repeat constructor)) ht fun xa xc hxa=> ?_
 have hSize:=fun (w':World)=> C9B w' m.bs m.sv m.ls j.slot hl8
 rw [show m.ls.map SlH.sp = m.ws.sl from rfl,C4j] at hSize
 have hPick:=fun (w':World)=> C8f w' m.bs m.sv m.ls j.slot (S5 j.key) hl8
 rw [show m.ls.map SlH.sp = m.ws.sl from rfl] at hPick
 have hid:=D16 (l:=j.table) (x:=m.ws) (slot:=j.slot) (key:=j.key) (now:=j.now)
 have hdef:idW j.table m.ws j.slot j.key j.now = if (K6 j.table (K4 m.ws j.slot) j.key j.now).2 then (A0J j.table (K4 m.ws j.slot) j.key j.now).1 else (A8B m.ws.sl j.slot (S5 j.key)).1:=rfl
 have hk2:=C9s j.table (K4 m.ws j.slot) j.key j.now
 have hKn:=fun (w':World) (b2 b3:Nat)=> C4Y w' b b2 b3 j tv0 m hkey hlen hl8
 unfold jw6
 rw [show m.ws.c.idle = m.c.idle from rfl]
 generalize hrd:A2g m.ws j.slot = rd at *
 generalize A8B m.ws.sl j.slot (S5 j.key) = pk at *
 generalize A0J j.table (K4 m.ws j.slot) j.key j.now = kw at *
 generalize idW j.table m.ws j.slot j.key j.now = idv at *
 generalize K4 m.ws j.slot = p at *
 subst hxa
 (have z:=trivial;repeat((first|clear z|with_reducible first|apply A3|refine A4 fun _=>?_|refine A5 fun _=>?_);try simp(disch:=solve|omega|assumption|repeat(first|exact A1|exact uH|apply A2|apply uT)|(simp;try omega)|fail)[]))
 rename_i b2 b3 b4
 refine B7 B04 (fun w' hw' => hSize w' (SlAt.own hw' (by (repeat constructor)) (by (repeat constructor)) (by (repeat constructor)))) ?_
 (have z:=trivial;repeat((first|clear z|with_reducible first|apply A3|refine A4 fun _=>?_|refine A5 fun _=>?_);try simp(disch:=solve|omega|assumption|repeat(first|exact A1|exact uH|apply A2|apply uT)|(simp;try omega)|fail)[]))
 refine B7 A6s (fun w' hw' => hKn w' b2 b3 (hw'.cell1 (by (repeat constructor))) (hw'.cell1 (by (repeat constructor))) (hw'.pt (b:=b) (by unfold L5; (repeat constructor))) ⟨hw'.pt (by unfold E5; (repeat constructor)),hw'.pt (by (repeat constructor)),M0.own (e:=3) (k:=1) (by (repeat constructor)) w' hw'⟩ (SlAt.own hw' (by (repeat constructor)) (by (repeat constructor)) (by (repeat constructor))) (A14 (ts:=P) (t:=(_,j.table)) hw' (by (repeat constructor)) ht)) ?_
 rw [hk2]
 clear hKn hk2 hSize
 obtain ⟨ok,hok⟩:∃ ok,ok = (K6 j.table p j.key j.now).2:=⟨_,rfl⟩
 rw [← hok] at hid hdef ⊢
 rw [C0G,C1l]
 refine D15 (.int .i64 idv) ?_ ?_
 case refine_2=>
  intro J hJ
  rw [hdef] at hJ
  clear hdef hid
  cases ok with
  | true=>
   simp only [if_true] at hJ
   (have z:=trivial;repeat((first|clear z|with_reducible first|apply A3|refine A4 fun _=>?_|refine A5 fun _=>?_);try simp(disch:=solve|omega|assumption|repeat(first|exact A1|exact uH|apply A2|apply uT)|(simp;try omega)|fail)[]))
   exact hJ
  | false=>
   simp only [Bool.false_eq_true,if_false] at hJ
   (have z:=trivial;repeat((first|clear z|with_reducible first|apply A3|refine A4 fun _=>?_|refine A5 fun _=>?_);try simp(disch:=solve|omega|assumption|repeat(first|exact A1|exact uH|apply A2|apply uT)|(simp;try omega)|fail)[]))
   refine B7 A4q (fun w' _=> A8G w' j.key hkey) ?_
   (have z:=trivial;repeat((first|clear z|with_reducible first|apply A3|refine A4 fun _=>?_|refine A5 fun _=>?_);try simp(disch:=solve|omega|assumption|repeat(first|exact A1|exact uH|apply A2|apply uT)|(simp;try omega)|fail)[]))
   refine B7 B1q (fun w' hw' => hPick w' (SlAt.own hw' (by (repeat constructor)) (by (repeat constructor)) (by (repeat constructor)))) ?_
   (have z:=trivial;repeat((first|clear z|with_reducible first|apply A3|refine A4 fun _=>?_|refine A5 fun _=>?_);try simp(disch:=solve|omega|assumption|repeat(first|exact A1|exact uH|apply A2|apply uT)|(simp;try omega)|fail)[]))
   exact hJ
 clear hPick hdef
 have htold:∀ (r:JW),L8 ((r,m.ws,false,false,decide (0 ≤ j.slot) && !rd):JwR).2.2 = .agg #[.bool false,.bool false,.bool (decide (0 ≤ j.slot) && !rd)]:=fun _=> rfl
 by_cases hne:ok = false ∧ p = []
 ·have hd:G1 j.table p j.key j.closing j.now m.c.idle = (j.table,⟨11,0,false,0⟩,false):=if_pos (by rw [← hok]; exact hne)
  rw [hd]
  simp only
  obtain ⟨rfl,rfl⟩:=hne
  by_cases hs0:0 ≤ j.slot
  ·(have z:=trivial;repeat((first|clear z|with_reducible first|apply A3|refine A4 fun _=>?_|refine A5 fun _=>?_);try simp(disch:=solve|omega|assumption|repeat(first|exact A1|exact uH|apply A2|apply uT)|(simp;try omega)|fail)[hs0]))
   refine B1 (.slice xa j.table.length xc,m.dz,P) ⟨by simp [L8,hs0],Q2 rfl rfl hP ht⟩ ?_
   simp only [T7,G6,L5,C6,D2,E5,WoH.uz,WoH.dz]
   (repeat' constructor)
  ·(have z:=trivial;repeat((first|clear z|with_reducible first|apply A3|refine A4 fun _=>?_|refine A5 fun _=>?_);try simp(disch:=solve|omega|assumption|repeat(first|exact A1|exact uH|apply A2|apply uT)|(simp;try omega)|fail)[hs0]))
   refine B1 (.slice xa j.table.length xc,m.dz,P) ⟨by simp [L8,hs0],Q2 rfl rfl hP ht⟩ ?_
   simp only [T7,G6,L5,C6,D2,E5,WoH.uz,WoH.dz]
   (repeat' constructor)
 have hd:G1 j.table p j.key j.closing j.now m.c.idle = if j.closing then (Y3 j.table j.key,⟨0,idv,false,0⟩,(U6 j.table j.key).isSome)
  else match H0 j.table ⟨1,j.key,idv,IntKind.i64.wrap (j.now + m.c.idle)⟩ with
   | none=> (j.table,⟨12,0,false,0⟩,false)
   | some u=> (u,⟨0,idv,!ok,0⟩,true):=by
  have hd0:G1 j.table p j.key j.closing j.now m.c.idle = if j.closing then (Y3 j.table j.key,⟨0,e9 j.table p j.key j.now,false,0⟩,(U6 j.table j.key).isSome)
   else match H0 j.table (A9W j.table p j.key j.now m.c.idle) with
    | none=> (j.table,⟨12,0,false,0⟩,false)
    | some u=> (u,⟨0,e9 j.table p j.key j.now,!(K6 j.table p j.key j.now).2,0⟩,true):=if_neg (by rw [← hok]; exact hne)
  rw [hd0,A9W,← hid hne,← hok]
 rw [hd]
 have hgo:ok = true ∨ ¬ (p.length:Int) = 0:=by
  cases ok with
  | true=> exact Or.inl rfl
  | false=> right; intro h0; exact hne ⟨rfl,List.length_eq_zero_iff.1 (by omega)⟩
 have hgo2:ok = true ∨ ¬ p = []:=by
  cases ok with
  | true=> exact Or.inl rfl
  | false=> right; intro h0; exact hne ⟨rfl,h0⟩
 clear hd hid hok hne
 obtain ⟨bad,hbad⟩:∃ bad,bad = (decide (0 ≤ j.slot) && !rd):=⟨_,rfl⟩
 rw [← hbad]
 have hstep:∀ (P0:Prop),(0 ≤ j.slot → bad = !rd → P0) → (¬ 0 ≤ j.slot → bad = false → P0) → P0:=fun P0 f g=> by
  by_cases hs0:0 ≤ j.slot
  ·exact f hs0 (by rw [hbad,decide_eq_true hs0]; rfl)
  ·exact g hs0 (by rw [hbad,decide_eq_false hs0]; rfl)
 cases hcl:j.closing with
 | true=>
  simp only [if_true]
  refine hstep _ (fun hs0 hb=> ?_) (fun hs0 hb=> ?_)
  all_goals
   rw [hb]
   cases ok with
   | true=>
    (have z:=trivial;repeat((first|clear z|with_reducible first|apply A3|refine A4 fun _=>?_|refine A5 fun _=>?_);try simp(disch:=solve|omega|assumption|repeat(first|exact A1|exact uH|apply A2|apply uT)|(simp;try omega)|fail)[hs0,hcl]))
    refine H3 A6H (fun w' hw' => B0m w' _ j.table j.key hkey hkeys hlen (A14 (ts:=P) (t:=(_,j.table)) hw' (by (repeat constructor)) ht)) ?_
    rintro r _ rfl
    refine A6j (e:=218) (k:=4) (v:=r) (q:=(Y3 j.table j.key).length) (xs:=(Y3 j.table j.key).flatMap F1) (by (repeat constructor)) fun hr1 hr2 hr3=> ?_
    have hr4:r.cells.toList = [r]:=by rw [hr1]
    cases h2:(U6 j.table j.key).isSome with
    | true=>
     (have z:=trivial;repeat((first|clear z|with_reducible first|apply A3|refine A4 fun _=>?_|refine A5 fun _=>?_);try simp(disch:=solve|omega|assumption|repeat(first|exact A1|exact uH|apply A2|apply uT)|(simp;try omega)|fail)[hs0,hcl,hr1,hr2,hr3,hr4]))
     refine V3 (r:=r) (l:=Y3 j.table j.key) (ts:=P) (by (repeat' constructor)) ?_
     refine B1 (r,m.dz,P ++ [(r,Y3 j.table j.key)]) ⟨by simp [L8],rfl,hP.left _,List.mem_append_right _ (List.mem_singleton.2 rfl),.push _ _ _⟩ ?_
     simp only [T7,G6,L5,C6,D2,E5,WoH.uz,WoH.dz]
     (repeat' constructor)
    | false=>
     have e:Y3 j.table j.key = j.table:=by
      unfold Y3
      cases hd:U6 j.table j.key with
      | none=> rfl
      | some u=> rw [hd] at h2; cases h2
     rw [e]
     (have z:=trivial;repeat((first|clear z|with_reducible first|apply A3|refine A4 fun _=>?_|refine A5 fun _=>?_);try simp(disch:=solve|omega|assumption|repeat(first|exact A1|exact uH|apply A2|apply uT)|(simp;try omega)|fail)[hs0,hcl,hr1,hr2,hr3,hr4]))
     refine B1 (.slice xa j.table.length xc,m.dz,P) ⟨by simp [L8],Q2 rfl rfl hP ht⟩ ?_
     simp only [T7,G6,L5,C6,D2,E5,WoH.uz,WoH.dz]
     (repeat' constructor)
   | false=>
    have hp1:¬ (p.length:Int) = 0:=by rcases hgo with g | g; cases g; exact g
    have hp2:¬ p = []:=by rcases hgo2 with g | g; cases g; exact g
    (have z:=trivial;repeat((first|clear z|with_reducible first|apply A3|refine A4 fun _=>?_|refine A5 fun _=>?_);try simp(disch:=solve|omega|assumption|repeat(first|exact A1|exact uH|apply A2|apply uT)|(simp;try omega)|fail)[hs0,hcl,hp1,hp2]))
    refine H3 A6H (fun w' hw' => B0m w' _ j.table j.key hkey hkeys hlen (A14 (ts:=P) (t:=(_,j.table)) hw' (by (repeat constructor)) ht)) ?_
    rintro r _ rfl
    refine A6j (e:=218) (k:=4) (v:=r) (q:=(Y3 j.table j.key).length) (xs:=(Y3 j.table j.key).flatMap F1) (by (repeat constructor)) fun hr1 hr2 hr3=> ?_
    have hr4:r.cells.toList = [r]:=by rw [hr1]
    cases h2:(U6 j.table j.key).isSome with
    | true=>
     (have z:=trivial;repeat((first|clear z|with_reducible first|apply A3|refine A4 fun _=>?_|refine A5 fun _=>?_);try simp(disch:=solve|omega|assumption|repeat(first|exact A1|exact uH|apply A2|apply uT)|(simp;try omega)|fail)[hs0,hcl,hp1,hp2,hr1,hr2,hr3,hr4]))
     refine V3 (r:=r) (l:=Y3 j.table j.key) (ts:=P) (by (repeat' constructor)) ?_
     refine B1 (r,m.dz,P ++ [(r,Y3 j.table j.key)]) ⟨by simp [L8],rfl,hP.left _,List.mem_append_right _ (List.mem_singleton.2 rfl),.push _ _ _⟩ ?_
     simp only [T7,G6,L5,C6,D2,E5,WoH.uz,WoH.dz]
     (repeat' constructor)
    | false=>
     have e:Y3 j.table j.key = j.table:=by
      unfold Y3
      cases hd:U6 j.table j.key with
      | none=> rfl
      | some u=> rw [hd] at h2; cases h2
     rw [e]
     (have z:=trivial;repeat((first|clear z|with_reducible first|apply A3|refine A4 fun _=>?_|refine A5 fun _=>?_);try simp(disch:=solve|omega|assumption|repeat(first|exact A1|exact uH|apply A2|apply uT)|(simp;try omega)|fail)[hs0,hcl,hp1,hp2,hr1,hr2,hr3,hr4]))
     refine B1 (.slice xa j.table.length xc,m.dz,P) ⟨by simp [L8],Q2 rfl rfl hP ht⟩ ?_
     simp only [T7,G6,L5,C6,D2,E5,WoH.uz,WoH.dz]
     (repeat' constructor)
 | false=>
  simp only [Bool.false_eq_true,if_false]
  refine hstep _ (fun hs0 hb=> ?_) (fun hs0 hb=> ?_)
  all_goals
   rw [hb]
   cases ok with
   | true=>
    (have z:=trivial;repeat((first|clear z|with_reducible first|apply A3|refine A4 fun _=>?_|refine A5 fun _=>?_);try simp(disch:=solve|omega|assumption|repeat(first|exact A1|exact uH|apply A2|apply uT)|(simp;try omega)|fail)[hs0,hcl]))
    refine H3 B2G (fun w' hw' => B5N w' _ j.table j.key idv (IntKind.i64.wrap (j.now + m.c.idle)) hkey hlen (A14 (ts:=P) (t:=(_,j.table)) hw' (by (repeat constructor)) ht)) ?_
    rintro r _ rfl
    cases h2:H0 j.table ⟨1,j.key,idv,IntKind.i64.wrap (j.now + m.c.idle)⟩ with
    | none=>
     simp only [Option.isSome_none,Bool.false_eq_true,if_false]
     (have z:=trivial;repeat((first|clear z|with_reducible first|apply A3|refine A4 fun _=>?_|refine A5 fun _=>?_);try simp(disch:=solve|omega|assumption|repeat(first|exact A1|exact uH|apply A2|apply uT)|(simp;try omega)|fail)[hs0,hcl]))
     refine B1 (.slice xa j.table.length xc,m.dz,P) ⟨by simp [L8],Q2 rfl rfl hP ht⟩ ?_
     simp only [T7,G6,L5,C6,D2,E5,WoH.uz,WoH.dz]
     (repeat' constructor)
    | some u=>
     simp only [Option.isSome_some,if_true,Option.getD_some]
     refine A6j (e:=218) (k:=4) (v:=r) (q:=u.length) (xs:=u.flatMap F1) (by (repeat constructor)) fun hr1 hr2 hr3=> ?_
     have hr4:r.cells.toList = [r]:=by rw [hr1]
     (have z:=trivial;repeat((first|clear z|with_reducible first|apply A3|refine A4 fun _=>?_|refine A5 fun _=>?_);try simp(disch:=solve|omega|assumption|repeat(first|exact A1|exact uH|apply A2|apply uT)|(simp;try omega)|fail)[hs0,hcl,hr1,hr2,hr3,hr4]))
     refine V3 (r:=r) (l:=u) (ts:=P) (by (repeat' constructor)) ?_
     refine B1 (r,m.dz,P ++ [(r,u)]) ⟨by simp [L8],rfl,hP.left _,List.mem_append_right _ (List.mem_singleton.2 rfl),.push _ _ _⟩ ?_
     simp only [T7,G6,L5,C6,D2,E5,WoH.uz,WoH.dz]
     (repeat' constructor)
   | false=>
    have hp1:¬ (p.length:Int) = 0:=by rcases hgo with g | g; cases g; exact g
    have hp2:¬ p = []:=by rcases hgo2 with g | g; cases g; exact g
    (have z:=trivial;repeat((first|clear z|with_reducible first|apply A3|refine A4 fun _=>?_|refine A5 fun _=>?_);try simp(disch:=solve|omega|assumption|repeat(first|exact A1|exact uH|apply A2|apply uT)|(simp;try omega)|fail)[hs0,hcl,hp1,hp2]))
    refine H3 B2G (fun w' hw' => B5N w' _ j.table j.key idv (IntKind.i64.wrap (j.now + m.c.idle)) hkey hlen (A14 (ts:=P) (t:=(_,j.table)) hw' (by (repeat constructor)) ht)) ?_
    rintro r _ rfl
    cases h2:H0 j.table ⟨1,j.key,idv,IntKind.i64.wrap (j.now + m.c.idle)⟩ with
    | none=>
     simp only [Option.isSome_none,Bool.false_eq_true,if_false]
     (have z:=trivial;repeat((first|clear z|with_reducible first|apply A3|refine A4 fun _=>?_|refine A5 fun _=>?_);try simp(disch:=solve|omega|assumption|repeat(first|exact A1|exact uH|apply A2|apply uT)|(simp;try omega)|fail)[hs0,hcl,hp1,hp2]))
     refine B1 (.slice xa j.table.length xc,m.dz,P) ⟨by simp [L8],Q2 rfl rfl hP ht⟩ ?_
     simp only [T7,G6,L5,C6,D2,E5,WoH.uz,WoH.dz]
     (repeat' constructor)
    | some u=>
     simp only [Option.isSome_some,if_true,Option.getD_some]
     refine A6j (e:=218) (k:=4) (v:=r) (q:=u.length) (xs:=u.flatMap F1) (by (repeat constructor)) fun hr1 hr2 hr3=> ?_
     have hr4:r.cells.toList = [r]:=by rw [hr1]
     (have z:=trivial;repeat((first|clear z|with_reducible first|apply A3|refine A4 fun _=>?_|refine A5 fun _=>?_);try simp(disch:=solve|omega|assumption|repeat(first|exact A1|exact uH|apply A2|apply uT)|(simp;try omega)|fail)[hs0,hcl,hp1,hp2,hr1,hr2,hr3,hr4]))
     refine V3 (r:=r) (l:=u) (ts:=P) (by (repeat' constructor)) ?_
     refine B1 (r,m.dz,P ++ [(r,u)]) ⟨by simp [L8],rfl,hP.left _,List.mem_append_right _ (List.mem_singleton.2 rfl),.push _ _ _⟩ ?_
     simp only [T7,G6,L5,C6,D2,E5,WoH.uz,WoH.dz]
     (repeat' constructor)
def A5L:Array Value:=#[.func (.func 76) #[] #[],.func (.func 77) #[] #[],.func (.func 78) #[] #[],.func (.func 79) #[] #[],.func (.func 80) #[] #[],.func (.func 81) #[] #[],.func (.func 82) #[] #[],.func (.func 83) #[] #[],.func (.func 84) #[] #[],.func (.func 85) #[] #[]]
theorem A0K (K:Value → WP):A0 PR (Instr.build 144 #[(0,.func (.func 76) #[] #[]),(1,.func (.func 77) #[] #[]),(2,.func (.func 78) #[] #[]),(3,.func (.func 79) #[] #[]),(4,.func (.func 80) #[] #[]),(5,.func (.func 81) #[] #[]),(6,.func (.func 82) #[] #[]),(7,.func (.func 83) #[] #[]),(8,.func (.func 84) #[] #[]),(9,.func (.func 85) #[] #[])]) K = K (.agg A5L):=F9 (fun w=> by unfold A5L; kernel_rfl) K
theorem JwOk.up {j:JW} {tv:Value} {m:WoH} {P:P4} (h:JwOk j tv m P) (st:Int):JwOk { j with st:=st } tv m P:=⟨h.ws,h.tabs,h.tb,h.shn,h.text,h.key,h.shard,h.keys,h.len,h.slot,h.ep,h.cur⟩
theorem C1j {w':World} {κ:Bool} {S:List Nat} {w0:World} {H:List Res} {b:Nat} {j:JW} {tv:Value} {m:WoH} (hw:LW κ S w0 H w') (h1:G6 b j tv ∈ H) (h2:∀ r ∈ C6 m,r ∈ H) :
  Fn PR B8 23 #[.pointer (some ⟨b,0,none⟩),.pointer (some ⟨m.b,0,none⟩)] w' (fun u w'' => u = .bool (j.ready m.ws) ∧ C7 [] w' w''):=C5H w' b j tv m (hw.pt h1) (WoAt.own hw h2)
set_option maxHeartbeats 4000000 in
theorem B87 (w:World) (b:Nat) (j:JW) (tv:Value) (m:WoH) (P:P4) (h:JwOk j tv m P) (hst:0 ≤ j.st ∧ j.st ≤ 10) (hw:LW false (C3 (G3 b j tv m P)) w (G3 b j tv m P) w):A67 20 w b j tv m P (j.step m.ws):=by
 refine B3n (TW.goH (κ:=false) ?_ hw)
 unfold A4s
 have hshn:m.c.sh ≤ 1000:=by have h1:=h.shn; have h2:=h.tabs.few; omega
 generalize hS:C3 (G3 b j tv m P) = S at *
 have hR:=fun (w':World) (H:List Res) (hw':LW false S w H w') (h1:G6 b j tv ∈ H) (h2:∀ r ∈ C6 m,r ∈ H)=> C1j hw' h1 h2
 unfold JW.step
 cases hr:j.ready m.ws with
 | false=>
  rw [hr] at hR
  simp only [Bool.false_eq_true,if_false]
  (have z:=trivial;repeat((first|clear z|with_reducible first|apply A3|refine A4 fun _=>?_|refine A5 fun _=>?_);try simp(disch:=solve|omega|assumption|repeat(first|exact A1|exact uH|apply A2|apply uT)|(simp;try omega)|fail)[]))
  rename_i bx
  refine B7 S7 (fun w' hw' => hR w' _ hw' (by unfold G3; (repeat constructor)) (fun r hr=> by unfold G3; exact List.mem_cons_of_mem _ (List.mem_cons_of_mem _ (List.mem_cons_of_mem _ hr)))) ?_
  (have z:=trivial;repeat((first|clear z|with_reducible first|apply A3|refine A4 fun _=>?_|refine A5 fun _=>?_);try simp(disch:=solve|omega|assumption|repeat(first|exact A1|exact uH|apply A2|apply uT)|(simp;try omega)|fail)[]))
  refine B1 (tv,m.dz,P) ⟨rfl,Q2 rfl rfl h.tabs.pool h.tb⟩ ?_
  simp only [T7,G3,C6,WoH.uz,WoH.dz]
  (repeat' constructor)
 | true=>
  rw [hr] at hR
  simp only [if_true]
  have hlt:j.st < 10:=by
   unfold JW.ready at hr
   simp only [Bool.and_eq_true,decide_eq_true_eq] at hr
   exact hr.1
  obtain ⟨k,hk⟩:∃ k:Nat,j.st = k:=⟨j.st.toNat,by omega⟩
  rw [hk,Int.toNat_natCast]
  clear hr
  have hcase:k = 0 ∨ k = 1 ∨ k = 2 ∨ k = 3 ∨ k = 4 ∨ k = 5 ∨ k = 6 ∨ k = 7 ∨ k = 8 ∨ k = 9:=by omega
  (have z:=trivial;repeat((first|clear z|with_reducible first|apply A3|refine A4 fun _=>?_|refine A5 fun _=>?_);try simp(disch:=solve|omega|assumption|repeat(first|exact A1|exact uH|apply A2|apply uT)|(simp;try omega)|fail)[]))
  rename_i bx
  refine B7 S7 (fun w' hw' => hR w' _ hw' (by unfold G3; (repeat constructor)) (fun r hr=> by unfold G3; exact List.mem_cons_of_mem _ (List.mem_cons_of_mem _ (List.mem_cons_of_mem _ hr)))) ?_
  clear hR
  simp only [G3,G6,L5,C6,D2,E5,hk]
  rcases hcase with rfl | rfl | rfl | rfl | rfl | rfl | rfl | rfl | rfl | rfl
  ·rw [show D0 0 = l3 from rfl,show (((0:Nat):Int) + 1) = 1 from rfl,show ((0:Nat):Int) = 0 from rfl]
   rw [A0K]
   unfold A5L
   (have z:=trivial;repeat((first|clear z|with_reducible first|apply A3|refine A4 fun _=>?_|refine A5 fun _=>?_);try simp(disch:=solve|omega|assumption|repeat(first|exact A1|exact uH|apply A2|apply uT)|(simp;try omega)|fail)[]))
   refine C8 (Hc:=G3 b { j with st:=1 } tv m P) B1J (fun w' _ hs=> D2T w' b { j with st:=1 } tv m P (h.up _) hshn hs) (by simp only [G3,G6,L5,C6,D2,E5]; (repeat' constructor)) ?_
   rintro y v ⟨rfl,hy⟩
   generalize l3 { j with st:=1 } m.ws = r at *
   obtain ⟨r1,r2,t1,t2,t3⟩:=r
   simp only [T7,List.cons_append,List.nil_append,L8,C6]
   (have z:=trivial;repeat((first|clear z|with_reducible first|apply A3|refine A4 fun _=>?_|refine A5 fun _=>?_);try simp(disch:=solve|omega|assumption|repeat(first|exact A1|exact uH|apply A2|apply uT)|(simp;try omega)|fail)[]))
   refine B1 y ⟨rfl,hy⟩ ?_
   simp only [T7,C6]
   (repeat' constructor)
  ·rw [show D0 1 = jw1 from rfl,show (((1:Nat):Int) + 1) = 2 from rfl,show ((1:Nat):Int) = 1 from rfl]
   rw [A0K]
   unfold A5L
   (have z:=trivial;repeat((first|clear z|with_reducible first|apply A3|refine A4 fun _=>?_|refine A5 fun _=>?_);try simp(disch:=solve|omega|assumption|repeat(first|exact A1|exact uH|apply A2|apply uT)|(simp;try omega)|fail)[]))
   refine C8 (Hc:=G3 b { j with st:=2 } tv m P) B20 (fun w' _ hs=> D2A w' b { j with st:=2 } tv m P (h.up _) hs) (by simp only [G3,G6,L5,C6,D2,E5]; (repeat' constructor)) ?_
   rintro y v ⟨rfl,hy⟩
   generalize jw1 { j with st:=2 } m.ws = r at *
   obtain ⟨r1,r2,t1,t2,t3⟩:=r
   simp only [T7,List.cons_append,List.nil_append,L8,C6]
   (have z:=trivial;repeat((first|clear z|with_reducible first|apply A3|refine A4 fun _=>?_|refine A5 fun _=>?_);try simp(disch:=solve|omega|assumption|repeat(first|exact A1|exact uH|apply A2|apply uT)|(simp;try omega)|fail)[]))
   refine B1 y ⟨rfl,hy⟩ ?_
   simp only [T7,C6]
   (repeat' constructor)
  ·rw [show D0 2 = u9 from rfl,show (((2:Nat):Int) + 1) = 3 from rfl,show ((2:Nat):Int) = 2 from rfl]
   rw [A0K]
   unfold A5L
   (have z:=trivial;repeat((first|clear z|with_reducible first|apply A3|refine A4 fun _=>?_|refine A5 fun _=>?_);try simp(disch:=solve|omega|assumption|repeat(first|exact A1|exact uH|apply A2|apply uT)|(simp;try omega)|fail)[]))
   refine C8 (Hc:=G3 b { j with st:=3 } tv m P) B1d (fun w' _ hs=> D2S w' b { j with st:=3 } tv m P (h.up _) hs) (by simp only [G3,G6,L5,C6,D2,E5]; (repeat' constructor)) ?_
   rintro y v ⟨rfl,hy⟩
   generalize u9 { j with st:=3 } m.ws = r at *
   obtain ⟨r1,r2,t1,t2,t3⟩:=r
   simp only [T7,List.cons_append,List.nil_append,L8,C6]
   (have z:=trivial;repeat((first|clear z|with_reducible first|apply A3|refine A4 fun _=>?_|refine A5 fun _=>?_);try simp(disch:=solve|omega|assumption|repeat(first|exact A1|exact uH|apply A2|apply uT)|(simp;try omega)|fail)[]))
   refine B1 y ⟨rfl,hy⟩ ?_
   simp only [T7,C6]
   (repeat' constructor)
  ·rw [show D0 3 = jw3 from rfl,show (((3:Nat):Int) + 1) = 4 from rfl,show ((3:Nat):Int) = 3 from rfl]
   rw [A0K]
   unfold A5L
   (have z:=trivial;repeat((first|clear z|with_reducible first|apply A3|refine A4 fun _=>?_|refine A5 fun _=>?_);try simp(disch:=solve|omega|assumption|repeat(first|exact A1|exact uH|apply A2|apply uT)|(simp;try omega)|fail)[]))
   refine C8 (Hc:=G3 b { j with st:=4 } tv m P) B2d (fun w' _ hs=> D26 w' b { j with st:=4 } tv m P (h.up _) hs) (by simp only [G3,G6,L5,C6,D2,E5]; (repeat' constructor)) ?_
   rintro y v ⟨rfl,hy⟩
   generalize jw3 { j with st:=4 } m.ws = r at *
   obtain ⟨r1,r2,t1,t2,t3⟩:=r
   simp only [T7,List.cons_append,List.nil_append,L8,C6]
   (have z:=trivial;repeat((first|clear z|with_reducible first|apply A3|refine A4 fun _=>?_|refine A5 fun _=>?_);try simp(disch:=solve|omega|assumption|repeat(first|exact A1|exact uH|apply A2|apply uT)|(simp;try omega)|fail)[]))
   refine B1 y ⟨rfl,hy⟩ ?_
   simp only [T7,C6]
   (repeat' constructor)
  ·rw [show D0 4 = jw4 from rfl,show (((4:Nat):Int) + 1) = 5 from rfl,show ((4:Nat):Int) = 4 from rfl]
   rw [A0K]
   unfold A5L
   (have z:=trivial;repeat((first|clear z|with_reducible first|apply A3|refine A4 fun _=>?_|refine A5 fun _=>?_);try simp(disch:=solve|omega|assumption|repeat(first|exact A1|exact uH|apply A2|apply uT)|(simp;try omega)|fail)[]))
   refine C8 (Hc:=G3 b { j with st:=5 } tv m P) A9a (fun w' _ hs=> D19 w' b { j with st:=5 } tv m P (h.up _) hs) (by simp only [G3,G6,L5,C6,D2,E5]; (repeat' constructor)) ?_
   rintro y v ⟨rfl,hy⟩
   generalize jw4 { j with st:=5 } m.ws = r at *
   obtain ⟨r1,r2,t1,t2,t3⟩:=r
   simp only [T7,List.cons_append,List.nil_append,L8,C6]
   (have z:=trivial;repeat((first|clear z|with_reducible first|apply A3|refine A4 fun _=>?_|refine A5 fun _=>?_);try simp(disch:=solve|omega|assumption|repeat(first|exact A1|exact uH|apply A2|apply uT)|(simp;try omega)|fail)[]))
   refine B1 y ⟨rfl,hy⟩ ?_
   simp only [T7,C6]
   (repeat' constructor)
  ·rw [show D0 5 = jw5 from rfl,show (((5:Nat):Int) + 1) = 6 from rfl,show ((5:Nat):Int) = 5 from rfl]
   rw [A0K]
   unfold A5L
   (have z:=trivial;repeat((first|clear z|with_reducible first|apply A3|refine A4 fun _=>?_|refine A5 fun _=>?_);try simp(disch:=solve|omega|assumption|repeat(first|exact A1|exact uH|apply A2|apply uT)|(simp;try omega)|fail)[]))
   refine C8 (Hc:=G3 b { j with st:=6 } tv m P) B2n (fun w' _ hs=> D2w w' b { j with st:=6 } tv m P (h.up _) hs) (by simp only [G3,G6,L5,C6,D2,E5]; (repeat' constructor)) ?_
   rintro y v ⟨rfl,hy⟩
   generalize jw5 { j with st:=6 } m.ws = r at *
   obtain ⟨r1,r2,t1,t2,t3⟩:=r
   simp only [T7,List.cons_append,List.nil_append,L8,C6]
   (have z:=trivial;repeat((first|clear z|with_reducible first|apply A3|refine A4 fun _=>?_|refine A5 fun _=>?_);try simp(disch:=solve|omega|assumption|repeat(first|exact A1|exact uH|apply A2|apply uT)|(simp;try omega)|fail)[]))
   refine B1 y ⟨rfl,hy⟩ ?_
   simp only [T7,C6]
   (repeat' constructor)
  ·rw [show D0 6 = jw6 from rfl,show (((6:Nat):Int) + 1) = 7 from rfl,show ((6:Nat):Int) = 6 from rfl]
   rw [A0K]
   unfold A5L
   (have z:=trivial;repeat((first|clear z|with_reducible first|apply A3|refine A4 fun _=>?_|refine A5 fun _=>?_);try simp(disch:=solve|omega|assumption|repeat(first|exact A1|exact uH|apply A2|apply uT)|(simp;try omega)|fail)[]))
   refine C8 (Hc:=G3 b { j with st:=7 } tv m P) B0e (fun w' _ hs=> D2m w' b { j with st:=7 } tv m P (h.up _) hs) (by simp only [G3,G6,L5,C6,D2,E5]; (repeat' constructor)) ?_
   rintro y v ⟨rfl,hy⟩
   generalize jw6 { j with st:=7 } m.ws = r at *
   obtain ⟨r1,r2,t1,t2,t3⟩:=r
   simp only [T7,List.cons_append,List.nil_append,L8,C6]
   (have z:=trivial;repeat((first|clear z|with_reducible first|apply A3|refine A4 fun _=>?_|refine A5 fun _=>?_);try simp(disch:=solve|omega|assumption|repeat(first|exact A1|exact uH|apply A2|apply uT)|(simp;try omega)|fail)[]))
   refine B1 y ⟨rfl,hy⟩ ?_
   simp only [T7,C6]
   (repeat' constructor)
  ·rw [show D0 7 = jw7 from rfl,show (((7:Nat):Int) + 1) = 8 from rfl,show ((7:Nat):Int) = 7 from rfl]
   rw [A0K]
   unfold A5L
   (have z:=trivial;repeat((first|clear z|with_reducible first|apply A3|refine A4 fun _=>?_|refine A5 fun _=>?_);try simp(disch:=solve|omega|assumption|repeat(first|exact A1|exact uH|apply A2|apply uT)|(simp;try omega)|fail)[]))
   refine C8 (Hc:=G3 b { j with st:=8 } tv m P) B1e (fun w' _ hs=> D3W w' b { j with st:=8 } tv m P (h.up _) hs) (by simp only [G3,G6,L5,C6,D2,E5]; (repeat' constructor)) ?_
   rintro y v ⟨rfl,hy⟩
   generalize jw7 { j with st:=8 } m.ws = r at *
   obtain ⟨r1,r2,t1,t2,t3⟩:=r
   simp only [T7,List.cons_append,List.nil_append,L8,C6]
   (have z:=trivial;repeat((first|clear z|with_reducible first|apply A3|refine A4 fun _=>?_|refine A5 fun _=>?_);try simp(disch:=solve|omega|assumption|repeat(first|exact A1|exact uH|apply A2|apply uT)|(simp;try omega)|fail)[]))
   refine B1 y ⟨rfl,hy⟩ ?_
   simp only [T7,C6]
   (repeat' constructor)
  ·rw [show D0 8 = jw8 from rfl,show (((8:Nat):Int) + 1) = 9 from rfl,show ((8:Nat):Int) = 8 from rfl]
   rw [A0K]
   unfold A5L
   (have z:=trivial;repeat((first|clear z|with_reducible first|apply A3|refine A4 fun _=>?_|refine A5 fun _=>?_);try simp(disch:=solve|omega|assumption|repeat(first|exact A1|exact uH|apply A2|apply uT)|(simp;try omega)|fail)[]))
   refine C8 (Hc:=G3 b { j with st:=9 } tv m P) A95 (fun w' _ hs=> D2b w' b { j with st:=9 } tv m P (h.up _) hs) (by simp only [G3,G6,L5,C6,D2,E5]; (repeat' constructor)) ?_
   rintro y v ⟨rfl,hy⟩
   generalize jw8 { j with st:=9 } m.ws = r at *
   obtain ⟨r1,r2,t1,t2,t3⟩:=r
   simp only [T7,List.cons_append,List.nil_append,L8,C6]
   (have z:=trivial;repeat((first|clear z|with_reducible first|apply A3|refine A4 fun _=>?_|refine A5 fun _=>?_);try simp(disch:=solve|omega|assumption|repeat(first|exact A1|exact uH|apply A2|apply uT)|(simp;try omega)|fail)[]))
   refine B1 y ⟨rfl,hy⟩ ?_
   simp only [T7,C6]
   (repeat' constructor)
  ·rw [show D0 9 = jw9 from rfl,show (((9:Nat):Int) + 1) = 10 from rfl,show ((9:Nat):Int) = 9 from rfl]
   rw [A0K]
   unfold A5L
   (have z:=trivial;repeat((first|clear z|with_reducible first|apply A3|refine A4 fun _=>?_|refine A5 fun _=>?_);try simp(disch:=solve|omega|assumption|repeat(first|exact A1|exact uH|apply A2|apply uT)|(simp;try omega)|fail)[]))
   refine C8 (Hc:=G3 b { j with st:=10 } tv m P) B1c (fun w' _ hs=> D3P w' b { j with st:=10 } tv m P (h.up _) hs) (by simp only [G3,G6,L5,C6,D2,E5]; (repeat' constructor)) ?_
   rintro y v ⟨rfl,hy⟩
   generalize jw9 { j with st:=10 } m.ws = r at *
   obtain ⟨r1,r2,t1,t2,t3⟩:=r
   simp only [T7,List.cons_append,List.nil_append,L8,C6]
   (have z:=trivial;repeat((first|clear z|with_reducible first|apply A3|refine A4 fun _=>?_|refine A5 fun _=>?_);try simp(disch:=solve|omega|assumption|repeat(first|exact A1|exact uH|apply A2|apply uT)|(simp;try omega)|fail)[]))
   refine B1 y ⟨rfl,hy⟩ ?_
   simp only [T7,C6]
   (repeat' constructor)
def B6B (t:List EnV):Prop:=(∀ x ∈ t,x = noE) ∧ t.length ≤ 64
theorem C3P (n:Nat):B6B (newE n):=⟨fun x hx=> by unfold newE at hx; exact (List.mem_replicate.1 hx).2,by unfold newE; simp; omega⟩
theorem C1H {t:List EnV} (h:B6B t):N4 t:=fun x hx=> by rw [h.1 x hx]; decide
theorem A0P {l:List Int} {i:Nat} {a b:Int} (h:i < l.length):A4m l (i:Nat) a b = if l.getD i 0 = a then l.set i b else l:=by
 unfold A4m
 rw [Int.toNat_natCast]
 by_cases c:l.getD i 0 = a
 ·rw [if_pos ⟨by omega,by omega,c⟩,if_pos c]
 ·rw [if_neg (fun h=> c h.2.2),if_neg c]
theorem C0y {l:List Int} {i:Nat} (h:i < l.length):A1q l (i:Nat) = l.getD i 0:=by unfold A1q; rw [if_pos (by omega),Int.toNat_natCast]
def B1s (N:Nat):List Int:=List.replicate N (-1)
theorem C8z {N j:Nat} (h:j < N):(B1s N).getD j 0 = -1:=by
 rw [List.getD_eq_getElem?_getD,List.getElem?_eq_getElem (by simp [B1s]; exact h)]; simp [B1s]
theorem C9z {l:List Int} (h:∀ j,j < l.length → l.getD j 0 = -1) (i:Int):A1q l i = -1:=by
 unfold A1q
 split
 ·rename_i hi; exact h _ (by omega)
 ·rfl
end Go.Proofs.YtjobgnabneddjaaGreat
namespace Go.Proofs.YtjobgnabneddjaaGreat
open Go
structure QI (N:Nat) (j:JW) (x:WS):Prop where
 ok:WsOk x
 n:1 ≤ N ∧ N ≤ 16
 sh:x.c.sh = (N:Nat)
 tl:x.tabs.length = N
 te:∀ t ∈ x.tabs,B6B t
 pl:x.places.length = N
 ow:x.own.length = N
 jt:B6B j.table
 sl:∀ i,K3 x.sl i = .no
 ep:D3 x.cells 0 = 0
 cur:D3 x.cells 1 = 0
 text:j.text.size ≤ 100
 key:j.key.size < 2 ^ 60
 shard:0 ≤ j.shard ∧ j.shard < N
 slot : -1 ≤ j.slot ∧ j.slot ≤ 0
 st:0 ≤ j.st ∧ j.st ≤ 10
theorem B8d (l:List EnV) (key:ByteArray) (c:Bool) (now idle:Int):G1 l [] key c now idle = (l,⟨11,0,false,0⟩,false):=by
 have hk:(K6 l [] key now).2 = false:=by
  unfold K6
  have hb:∀ id,Q5 [] id = -1:=fun _=> rfl
  rw [if_pos (Or.inr (Or.inr (by rw [hb]; omega)))]
 unfold G1
 rw [if_pos ⟨hk,rfl⟩]
theorem A2z (l:List Int) (i w:Int):(Y4 l i w).length = l.length:=by unfold Y4 A4m; split <;> (try split) <;> simp
theorem A0Q (l:List Int) (i w:Int):(N9 l i w).length = l.length:=by unfold N9 A4m; split <;> (try split) <;> simp
theorem D1e (c:CfgV) (who:Int):G5 c who = -1 ∨ 2 ≤ G5 c who:=by unfold G5; split <;> omega
theorem A1F (c:CfgV) (who v:Int) (l:List Int) (k:Int) (hk:k = 0 ∨ k = 1):D3 (N0 l (G5 c who) v) k = D3 l k:=W2 _ _ (by rcases D1e c who with h | h <;> omega)
theorem QI.stage {N:Nat} {j:JW} {x:WS} (h:QI N j x) (k:Nat) (hk:k < 10) (hs:j.st = (k:Nat)):QI N (D0 k { j with st:=j.st + 1 } x).1 (D0 k { j with st:=j.st + 1 } x).2.1:=by
 obtain ⟨⟨w1,w2,w3,w4,w5⟩,h2,h3,h4,h5,h6,h7,h8,h9,h10,h11,h12,h13,h14,h15,h16⟩:=h
 have hst:0 ≤ j.st + 1 ∧ j.st + 1 ≤ 10:=by omega
 have hok:WsOk x:=⟨w1,w2,w3,w4,w5⟩
 have hcase:k = 0 ∨ k = 1 ∨ k = 2 ∨ k = 3 ∨ k = 4 ∨ k = 5 ∨ k = 6 ∨ k = 7 ∨ k = 8 ∨ k = 9:=by omega
 rcases hcase with rfl | rfl | rfl | rfl | rfl | rfl | rfl | rfl | rfl | rfl
 ·show QI N (l3 _ x).1 (l3 _ x).2.1
  unfold l3
  by_cases c1:G5 x.c j.who < 0
  ·rw [if_pos c1]; exact ⟨hok,h2,h3,h4,h5,h6,h7,h8,h9,h10,h11,h12,h13,h14,h15,by simp [JW.refuse]⟩
  ·rw [if_neg c1]
   by_cases c2:(D1 j.text).2.2 = 0
   ·rw [if_neg (by simpa using c2)]
    refine ⟨hok,h2,h3,h4,h5,h6,h7,h8,h9,h10,h11,h12,A8k _,?_,h15,hst⟩
    show 0 ≤ ((V1 (A2j (D1 j.text).1) x.c.sh:Nat):Int) ∧ ((V1 (A2j (D1 j.text).1) x.c.sh:Nat):Int) < N
    have:V1 (A2j (D1 j.text).1) x.c.sh < N:=by
     unfold V1; rw [if_neg (by omega),h3,Int.toNat_natCast]; exact Nat.mod_lt _ (by omega)
    omega
   ·rw [if_pos c2]; exact ⟨hok,h2,h3,h4,h5,h6,h7,h8,h9,h10,h11,h12,h13,h14,h15,by simp [JW.refuse]⟩
 ·exact ⟨⟨w1,by simp only [D0,jw1,A26]; exact w2,w3,w4,w5⟩,h2,h3,h4,h5,h6,h7,h8,h9,by simp only [D0,jw1]; rw [A1F _ _ _ _ _ (Or.inl rfl)]; exact h10,by simp only [D0,jw1]; rw [A1F _ _ _ _ _ (Or.inr rfl)]; exact h11,h12,h13,h14,h15,hst⟩
 ·show QI N (u9 _ x).1 (u9 _ x).2.1
  unfold u9
  by_cases c1:D3 x.cells 0 = j.ep
  ·rw [if_pos c1]; exact ⟨hok,h2,h3,h4,h5,h6,h7,h8,h9,h10,h11,h12,h13,h14,h15,hst⟩
  ·rw [if_neg c1]; exact ⟨hok,h2,h3,h4,h5,h6,h7,h8,h9,h10,h11,h12,h13,h14,h15,by simp⟩
 ·exact ⟨⟨w1,w2,by simp only [D0,jw3,A2z]; exact w3,w4,w5⟩,h2,h3,h4,h5,h6,by simp only [D0,jw3,A2z]; exact h7,h8,h9,h10,h11,h12,h13,h14,h15,hst⟩
 ·refine ⟨hok,h2,h3,h4,h5,h6,h7,h8,h9,h10,h11,h12,h13,h14,?_,hst⟩
  show -1 ≤ IntKind.i64.wrap (D3 x.cells 1 - 1) ∧ IntKind.i64.wrap (D3 x.cells 1 - 1) ≤ 0
  rw [h11,N3 (by omega) (by omega)]; omega
 ·refine ⟨hok,h2,h3,h4,h5,h6,h7,?_,h9,h10,h11,h12,h13,h14,h15,hst⟩
  show B6B (x.tabs.getD j.shard.toNat [])
  rw [List.getD_eq_getElem?_getD,List.getElem?_eq_getElem (by omega)]
  exact h5 _ (List.getElem_mem _)
 ·have hp:K4 x j.slot = []:=by unfold K4; rw [h9]
  refine ⟨hok,h2,h3,h4,h5,h6,h7,?_,h9,h10,h11,h12,h13,h14,h15,hst⟩
  show B6B (G1 j.table (K4 x j.slot) j.key j.closing j.now x.c.idle).1
  rw [hp,B8d]; exact h8
 ·refine ⟨⟨w1,w2,w3,w4,w5⟩,h2,h3,by simp only [D0,jw7,List.length_set]; exact h4,fun t ht=> ?_,h6,h7,h8,h9,h10,h11,h12,h13,h14,h15,hst⟩
  rcases List.mem_or_eq_of_mem_set (show t ∈ x.tabs.set j.shard.toNat j.table from ht) with ht | rfl
  ·exact h5 t ht
  ·exact h8
 ·exact ⟨⟨w1,w2,by simp only [D0,jw8,A0Q]; exact w3,w4,w5⟩,h2,h3,h4,h5,h6,by simp only [D0,jw8,A0Q]; exact h7,h8,h9,h10,h11,h12,h13,h14,h15,hst⟩
 ·exact ⟨⟨w1,by simp only [D0,jw9,A26]; exact w2,w3,w4,w5⟩,h2,h3,h4,h5,h6,h7,h8,h9,by simp only [D0,jw9]; rw [A1F _ _ _ _ _ (Or.inl rfl)]; exact h10,by simp only [D0,jw9]; rw [A1F _ _ _ _ _ (Or.inr rfl)]; exact h11,h12,h13,h14,h15,hst⟩
theorem A6D {j:JW} {x:WS} (h:j.ready x = false):j.step x = (j,x,noT):=by unfold JW.step; rw [h]; rfl
theorem A0y {j:JW} {x:WS} (h:j.ready x = true):j.step x = D0 j.st.toNat { j with st:=j.st + 1 } x:=by unfold JW.step; rw [h]; rfl
theorem A6N {j:JW} {x:WS} (h:j.ready x = true):j.st < 10:=by
 unfold JW.ready at h
 simp only [Bool.and_eq_true,decide_eq_true_eq] at h
 exact h.1
theorem QI.step {N:Nat} {j:JW} {x:WS} (h:QI N j x):QI N (j.step x).1 (j.step x).2.1:=by
 cases hr:j.ready x with
 | false=> rw [A6D hr]; exact h
 | true=>
  have hs:=h.st
  have hl:=A6N hr
  rw [A0y hr]
  exact h.stage _ (by omega) (by omega)
theorem D2J {j:JW} {x:WS} (hs:j.st = 0) (hp:¬ G5 x.c j.who < 0) (hb:(D1 j.text).2.2 ≠ 0):j.step x = (({ j with st:=j.st + 1 }:JW).refuse 9,x,true,true,false):=by
 rw [A0y (by simp [JW.ready,hs])]
 rw [hs]
 exact (if_neg hp).trans (if_pos hb)
structure GoI (N:Nat) (who:Int) (text:ByteArray) (k:Nat) (j:JW) (x:WS):Prop where
 q:QI N j x
 ewho:j.who = who
 etext:j.text = text
 pin:0 ≤ G5 x.c who
 good:(D1 text).2.2 = 0
 st:j.st = (k:Nat)
 ep:1 ≤ k → k ≤ 3 → j.ep = 0
 slot:5 ≤ k → j.slot = -1
 ans:7 ≤ k → j.ans = ⟨11,0,false,0⟩
theorem D0m {N:Nat} {who:Int} {text:ByteArray} {k:Nat} {j:JW} {x:WS} (h:GoI N who text k j x) (hk:k < 10) (ho:k = 3 → A1q x.own j.shard < 0):j.ready x = true ∧ GoI N who text (k + 1) (j.step x).1 (j.step x).2.1:=by
 obtain ⟨h1,h2,h3,h4,h5,h6,h7,h8,h9⟩:=h
 have hr:j.ready x = true:=by
  unfold JW.ready
  rw [decide_eq_true (by omega),Bool.true_and]
  by_cases c:j.st = 3
  ·rw [decide_eq_true (ho (by omega))]; simp
  ·rw [decide_eq_false c]; rfl
 refine ⟨hr,?_⟩
 have hq:=h1.step
 rw [A0y hr] at hq ⊢
 rw [h6,Int.toNat_natCast] at hq ⊢
 have hp:K4 x j.slot = []:=by unfold K4; rw [h1.sl]
 have hcase:k = 0 ∨ k = 1 ∨ k = 2 ∨ k = 3 ∨ k = 4 ∨ k = 5 ∨ k = 6 ∨ k = 7 ∨ k = 8 ∨ k = 9:=by omega
 rcases hcase with rfl | rfl | rfl | rfl | rfl | rfl | rfl | rfl | rfl | rfl
 ·have e:D0 0 { j with st:=((0:Nat):Int) + 1 } x = ({ ({ j with st:=((0:Nat):Int) + 1 }:JW).rd x.c.sh with ep:=D3 x.cells 0 },x,noT):=by
   show l3 _ x = _
   unfold l3
   rw [if_neg (show ¬ G5 x.c j.who < 0 by rw [h2]; omega),if_neg (show ¬ (D1 j.text).2.2 ≠ 0 by rw [h3]; simpa using h5)]
  rw [e] at hq ⊢
  exact ⟨hq,h2,h3,h4,h5,rfl,fun _ _=> h1.ep,fun h=> by omega,fun h=> by omega⟩
 ·exact ⟨hq,h2,h3,h4,h5,rfl,fun _ _=> h7 (by omega) (by omega),fun h=> by omega,fun h=> by omega⟩
 ·have e:D0 2 { j with st:=((2:Nat):Int) + 1 } x = ({ j with st:=((2:Nat):Int) + 1 },x,noT):=by
   show u9 _ x = _
   unfold u9
   rw [if_pos (show D3 x.cells 0 = j.ep by rw [h1.ep,h7 (by omega) (by omega)])]
  rw [e] at hq ⊢
  exact ⟨hq,h2,h3,h4,h5,rfl,fun _ _=> h7 (by omega) (by omega),fun h=> by omega,fun h=> by omega⟩
 ·exact ⟨hq,h2,h3,h4,h5,rfl,fun _ h=> by omega,fun h=> by omega,fun h=> by omega⟩
 ·refine ⟨hq,h2,h3,h4,h5,rfl,fun _ h=> by omega,fun _=> ?_,fun h=> by omega⟩
  show IntKind.i64.wrap (D3 x.cells 1 - 1) = -1
  rw [h1.cur]; rfl
 ·exact ⟨hq,h2,h3,h4,h5,rfl,fun _ h=> by omega,fun _=> h8 (by omega),fun h=> by omega⟩
 ·refine ⟨hq,h2,h3,h4,h5,rfl,fun _ h=> by omega,fun _=> h8 (by omega),fun _=> ?_⟩
  show (G1 j.table (K4 x j.slot) j.key j.closing j.now x.c.idle).2.1 = _
  rw [hp,B8d]
 ·exact ⟨hq,h2,h3,h4,h5,rfl,fun _ h=> by omega,fun _=> h8 (by omega),fun _=> h9 (by omega)⟩
 ·exact ⟨hq,h2,h3,h4,h5,rfl,fun _ h=> by omega,fun _=> h8 (by omega),fun _=> h9 (by omega)⟩
 ·exact ⟨hq,h2,h3,h4,h5,rfl,fun _ h=> by omega,fun _=> h8 (by omega),fun _=> h9 (by omega)⟩
theorem C5j {c:CfgV} (h:Q8 c = true):WsOk (N2 c):=by
 simp only [Q8,k9,Bool.and_eq_true,decide_eq_true_eq] at h
 refine ⟨by simp only [N2]; omega,by simp only [N2,List.length_replicate],by simp only [N2,List.length_replicate]; omega,by simp only [N2,List.length_replicate]; omega,by simp only [N2,List.length_replicate]; omega⟩
theorem A1B (n:Nat) (i:Int):D3 (List.replicate n 0) i = 0:=by
 unfold D3
 split
 ·rw [List.getD_eq_getElem?_getD,List.getElem?_replicate]; split <;> rfl
 ·rfl
abbrev WA:=JW × JwY
def A0Z (b:Nat) (m:WoH) (a:WA):List Res:=G3 b a.1 a.2.1 (m.uz a.2.2.1) a.2.2.2
def wx (m:WoH) (a:WA):WS:=(m.uz a.2.2.1).ws
structure JwC (m:WoH) (a:WA):Prop where
 emp:∀ t ∈ a.2.2.2,B6B t.2
 sub:A0U a.2.2.1.ts a.2.2.2
 tb:(a.2.1,a.1.table) ∈ a.2.2.2
theorem JwC.ok {N:Nat} {m:WoH} {a:WA} (h:JwC m a) (hq:QI N a.1 (wx m a)):JwOk a.1 a.2.1 (m.uz a.2.2.1) a.2.2.2:=by
 obtain ⟨j,tv,d,P⟩:=a
 have hts:d.ts.length = N:=by have:=hq.tl; simpa [wx,WoH.ws,WoH.uz] using this
 have hn:=hq.n
 have hpl:m.pl.length = N:=hq.pl
 have how:d.own.length = N:=hq.ow
 have hsh:m.c.sh = (N:Nat):=hq.sh
 have hjt:=hq.jt
 have htx:j.text.size ≤ 100:=hq.text
 have hjl:j.table.length ≤ 64:=hjt.2
 have hsl : -1 ≤ j.slot ∧ j.slot ≤ 0:=hq.slot
 have hsd:0 ≤ j.shard ∧ j.shard < N:=hq.shard
 have h0:D3 d.cells 0 = 0:=hq.ep
 have h1:D3 d.cells 1 = 0:=hq.cur
 refine ⟨hq.ok,⟨by show d.ts.length ≤ _; omega,by show m.pl.length = d.ts.length; omega,fun t ht=> ?_,fun t ht=> C1H (h.emp _ (h.sub _ ht)),by show d.own.length ≤ _; omega,h.sub⟩,h.tb,by show (d.ts.length:Int) = m.c.sh; omega,by show j.text.size < _; omega,hq.key,by show 0 ≤ j.shard ∧ j.shard < (d.ts.length:Int); omega,C1H hjt,by show j.table.length ≤ _; omega,by show -1 ≤ j.slot ∧ j.slot ≤ _; omega,by show 0 ≤ D3 d.cells 0 ∧ D3 d.cells 0 ≤ _; omega,by show 0 ≤ D3 d.cells 1 ∧ D3 d.cells 1 ≤ _; omega⟩
 have:=(h.emp _ (h.sub _ ht)).2; omega
theorem B7D {N:Nat} (w':World) (b:Nat) (m:WoH) (a:WA) (hc:JwC m a) (hq:QI N a.1 (wx m a)) (hs:LW false (C3 (A0Z b m a)) w' (A0Z b m a) w') :
  Fn PR B8 20 #[.pointer (some ⟨b,0,none⟩),.pointer (some ⟨m.b,0,none⟩)] w' (Rn (C3 (A0Z b m a)) w' (fun (a':WA) u=> u = L8 (a.1.step (wx m a)).2.2 ∧ a'.1 = (a.1.step (wx m a)).1 ∧ wx m a' = (a.1.step (wx m a)).2.1 ∧ JwC m a' ∧ QI N a'.1 (wx m a')) (A0Z b m)):=by
 have hq':=hq.step
 obtain ⟨j,tv,d,P⟩:=a
 refine (B87 w' b j tv (m.uz d) P (hc.ok hq) hq.st hs).mono fun u w'' hr=> ?_
 obtain ⟨y,⟨h1,h2,h3,h4,h5⟩,h6⟩:=hr
 have e2:wx m ((j.step (m.uz d).ws).1,y) = (j.step (m.uz d).ws).2.1:=h2
 refine ⟨((j.step (m.uz d).ws).1,y),⟨h1,rfl,e2,⟨fun t ht=> ?_,h3,h4⟩,by rw [e2]; exact hq'⟩,h6⟩
 rcases h5.2 t ht with h | h
 ·exact hc.emp t h
 ·rw [h]; exact hq'.jt
theorem B5D (w w':World) (b:Nat) (m:WoH) (a:WA) {κ:Bool} {S:List Nat} {H:List Res} (hw:LW κ S w H w') (hs:∀ r ∈ A0Z b m a,r ∈ H) :
  Fn PR B8 23 #[.pointer (some ⟨b,0,none⟩),.pointer (some ⟨m.b,0,none⟩)] w' (fun u w'' => u = .bool (a.1.ready (wx m a)) ∧ C7 [] w' w'') :=
 C1j (m:=m.uz a.2.2.1) hw (hs _ (by unfold A0Z G3; (repeat constructor))) fun r hr=> hs _ (by unfold A0Z G3; exact List.mem_cons_of_mem _ (List.mem_cons_of_mem _ hr))
theorem C9Q (n:Nat) (i:Int):K3 (List.replicate n SlV.no) i = .no:=by
 unfold K3
 split
 ·rw [List.getD_eq_getElem?_getD,List.getElem?_replicate]; split <;> rfl
 ·rfl
theorem QI.job {N:Nat} {j:JW} {x:WS} (h:QI N j x) (who:Int) (text:ByteArray) (ht:text.size ≤ 100):QI N (G4 who text) x :=
 ⟨h.ok,h.n,h.sh,h.tl,h.te,h.pl,h.ow,⟨fun x hx=> by simp [G4] at hx,by simp [G4]⟩,h.sl,h.ep,h.cur,ht,by simp [G4,M6],by have:=h.n; simp only [G4]; omega,by simp [G4],by simp [G4]⟩
theorem QI.own {N:Nat} {j:JW} {x:WS} (h:QI N j x) (own:List Int) (ho:own.length = N):QI N j { x with own:=own } :=
 ⟨⟨h.ok.wk,h.ok.cells,by show own.length ≤ 16; have:=h.n; omega,h.ok.sl,h.ok.keep⟩,h.n,h.sh,h.tl,h.te,h.pl,ho,h.jt,h.sl,h.ep,h.cur,h.text,h.key,h.shard,h.slot,h.st⟩
theorem QI.new {c:CfgV} (hok:Q8 c = true) (who:Int) (text:ByteArray) (ht:text.size ≤ 100):QI c.sh.toNat (G4 who text) (N2 c):=by
 have hw:=C5j hok
 simp only [Q8,k9,Bool.and_eq_true,decide_eq_true_eq] at hok
 refine ⟨hw,by omega,by show c.sh = _; omega,by simp [N2],fun t h=> ?_,by simp [N2],by simp [N2],⟨fun x hx=> by simp [G4] at hx,by simp [G4]⟩,fun i=> C9Q _ i,A1B _ _,A1B _ _,ht,by simp [G4,M6],by simp only [G4]; omega,by simp [G4],by simp [G4]⟩
 rw [(List.mem_replicate.1 (show t ∈ List.replicate c.sh.toNat (newE c.cp.toNat) from h)).2]
 exact C3P _
theorem JwC.new {c:CfgV} {m:WoH} (hws:m.ws = N2 c) (who:Int) (text:ByteArray):JwC m (G4 who text,M1,m.dz,m.ts ++ [(M1,[])]):=by
 have e1:m.ts.map (·.2) = List.replicate c.sh.toNat (newE c.cp.toNat):=congrArg WS.tabs hws
 refine ⟨fun t ht=> ?_,fun t ht=> List.mem_append_left _ ht,List.mem_append_right _ (List.mem_singleton.2 rfl)⟩
 rcases List.mem_append.1 ht with ht | ht
 ·have:t.2 ∈ m.ts.map (·.2):=List.mem_map.2 ⟨t,ht,rfl⟩
  rw [e1] at this
  rw [(List.mem_replicate.1 this).2]; exact C3P _
 ·rw [List.mem_singleton.1 ht]; exact ⟨fun x hx=> by simp at hx,by simp⟩
theorem C8U {j:JW} {x:WS} {k:Nat} (hs:j.st = (k:Nat)) (hk:k < 3):(j.step x).2.1.own = x.own:=by
 cases hr:j.ready x with
 | false=> rw [A6D hr]
 | true=>
  rw [A0y hr,hs,Int.toNat_natCast]
  have:k = 0 ∨ k = 1 ∨ k = 2:=by omega
  rcases this with rfl | rfl | rfl
  ·show (l3 _ x).2.1.own = _
   unfold l3
   split
   ·rfl
   ·split <;> rfl
  ·rfl
  ·show (u9 _ x).2.1.own = _
   unfold u9
   split <;> rfl
theorem C41 (w:World) (m:WoH) (hb:bl w m.b = some (.cells (E5 m.c (.pointer (some ⟨m.bc,0,none⟩)) (.pointer (some ⟨m.bs,0,none⟩)) (.pointer (some ⟨m.bk,0,none⟩)) m.tv m.pv (.int .i64 m.now)) 39 (0,0))) :
  Fn PR B8 18 #[.pointer (some ⟨m.b,0,none⟩)] w (fun u w' => u = .bool true ∧ C7 [] w w'):=by
 refine Fn.pure (A7n (TW.go (κ:=false) (S := []) ?_))
 unfold A1P
 have h5:w.cell? ⟨m.b,5,none⟩ = some (.pointer (some ⟨m.bc,0,none⟩)):=by rw [E8 hb]; rfl
 have h6:w.cell? ⟨m.b,6,none⟩ = some (.pointer (some ⟨m.bs,0,none⟩)):=by rw [E8 hb]; rfl
 have h7:w.cell? ⟨m.b,7,none⟩ = some (.pointer (some ⟨m.bk,0,none⟩)):=by rw [E8 hb]; rfl
 (have z:=trivial;repeat((first|clear z|with_reducible first|apply A3|refine A4 fun _=>?_|refine A5 fun _=>?_);try simp(disch:=solve|omega|assumption|repeat(first|exact A1|exact uH|apply A2|apply uT)|(simp;try omega)|fail)[h5,h6,h7]))
 exact A9 rfl
def C97:CfgV:=⟨1,1,1,5,2⟩
def B92:KeyV:=⟨4,ByteArray.mk #[97,98,99,100],ByteArray.mk #[101,102,103,104],1,2,17⟩
def z6:ByteArray:=(A0N B92 0).1
theorem C4f:(D1 z6).2.2 = 0:=by kernel_rfl
theorem C4m:z6.size ≤ 100:=by decide +kernel
theorem D6T:(A0N B92 0).2 = 0:=by kernel_rfl
theorem D08:(D1 M6).2.2 ≠ 0:=by decide +kernel
theorem D2P:Q8 C97 = true:=by kernel_rfl
theorem C1u (r:Res):∀ A:List Res,Part A (r :: A) [r]
 | []=> Part.nil
 | t :: A=> Part.cons (.there .here) (C1u r A)
set_option maxHeartbeats 4000000 in
theorem C31 (w:World):Fn PR B8 14 #[] w (fun r w' => r = .bool true ∧ C7 [] w w'):=by
 refine Fn.pure (A7M (TW.go (κ:=false) (S := []) ?_))
 unfold A1N
 (have z:=trivial;repeat((first|clear z|with_reducible first|apply A3|refine A4 fun _=>?_|refine A5 fun _=>?_);try simp(disch:=solve|omega|assumption|repeat(first|exact A1|exact uH|apply A2|apply uT)|(simp;try omega)|fail)[]))
 refine H3 B2Q (fun w' hw' => C22 w' C97) ?_
 rw [D2P]
 simp only [if_true]
 rintro m v ⟨rfl,hmc,hws⟩
 (have z:=trivial;repeat((first|clear z|with_reducible first|apply A3|refine A4 fun _=>?_|refine A5 fun _=>?_);try simp(disch:=solve|omega|assumption|repeat(first|exact A1|exact uH|apply A2|apply uT)|(simp;try omega)|fail)[]))
 refine B7 (u:=.tuple #[.string z6,.int .i64 (A0N B92 0).2]) B8B (fun w' _=> C1C w' B92 0) ?_
 rw [D6T]
 (have z:=trivial;repeat((first|clear z|with_reducible first|apply A3|refine A4 fun _=>?_|refine A5 fun _=>?_);try simp(disch:=solve|omega|assumption|repeat(first|exact A1|exact uH|apply A2|apply uT)|(simp;try omega)|fail)[]))
 refine H3 A4T (fun w' hw' => B6C w' 1 z6) ?_
 rintro b v rfl
 (have z:=trivial;repeat((first|clear z|with_reducible first|apply A3|refine A4 fun _=>?_|refine A5 fun _=>?_);try simp(disch:=solve|omega|assumption|repeat(first|exact A1|exact uH|apply A2|apply uT)|(simp;try omega)|fail)[]))
 refine H3 A4T (fun w' hw' => B6C w' 1 M6) ?_
 rintro b2 v rfl
 simp only [List.cons_append,List.nil_append]
 refine l7 218 4 ?_
 have hmz:m.uz m.dz = m:=rfl
 refine V3 (r:=.slice none 0 0) (l := []) (ts:=m.ts) (by simp only [C6,List.cons_append,List.nil_append]; (repeat' constructor)) ?_
 refine Sels.tw (rs:=G6 b2 (G4 1 M6) M1 :: A0Z b m (G4 1 z6,M1,m.dz,m.ts ++ [(M1,[])])) (by simp only [A0Z,G3,hmz,C6,M1,List.cons_append,List.nil_append]; (repeat' constructor)) ?_
 have hq0:QI 1 (G4 1 z6) (wx m (G4 1 z6,M1,m.dz,m.ts ++ [(M1,[])])):=by
  have:=QI.new D2P 1 z6 C4m
  show QI 1 _ m.ws
  rw [hws]; exact this
 have hg0:GoI 1 1 z6 0 (G4 1 z6) (wx m (G4 1 z6,M1,m.dz,m.ts ++ [(M1,[])])) :=
  ⟨hq0,rfl,rfl,by show 0 ≤ G5 m.ws.c 1; rw [hws]; decide,C4f,rfl,fun h=> by omega,fun h=> by omega,fun h=> by omega⟩
 have ho0:(wx m (G4 1 z6,M1,m.dz,m.ts ++ [(M1,[])])).own = B1s 1:=by show m.ws.own = _; rw [hws]; rfl
 (have z:=trivial;repeat((first|clear z|with_reducible first|apply A3|refine A4 fun _=>?_|refine A5 fun _=>?_);try simp(disch:=solve|omega|assumption|repeat(first|exact A1|exact uH|apply A2|apply uT)|(simp;try omega)|fail)[]))
 refine B9y (fun (y:WA × Nat)=> G6 b2 (G4 1 M6) M1 :: A0Z b m y.1) (fun y=> y.2 ≤ 10 ∧ JwC m y.1 ∧ GoI 1 1 z6 y.2 y.1.1 (wx m y.1) ∧ (y.2 ≤ 3 → (wx m y.1).own = B1s 1)) (fun y=> 10 - y.2) ((G4 1 z6,M1,m.dz,m.ts ++ [(M1,[])]),0) (fun y=> .int .i64 (y.2:Nat)) ⟨Nat.zero_le _,JwC.new hws 1 z6,hg0,fun _=> ho0⟩ ?_
 rintro ⟨a,n⟩ ⟨h1,h2,h3,h4⟩ L hL
 simp only at h1 h2 h3 h4 hL ⊢
 have hR:=fun (w':World) (H:List Res) (hw':LW false [] w H w') (hs:∀ r ∈ A0Z b m a,r ∈ H)=> B5D w w' b m a hw' hs
 have c20:n < 20:=by omega
 have c20':((n:Nat):Int) < 20:=by omega
 by_cases hn:n < 10
 ·obtain ⟨hr,hg⟩:=D0m h3 hn fun h=> by
   rw [h4 (by omega)]
   have:A1q (B1s 1) a.1.shard = -1:=C9z (fun j hj=> C8z (by simpa [B1s] using hj)) _
   omega
  have hos:=C8U h3.st (x:=wx m a)
  rw [hr] at hR
  (have z:=trivial;repeat((first|clear z|with_reducible first|apply A3|refine A4 fun _=>?_|refine A5 fun _=>?_);try simp(disch:=solve|omega|assumption|repeat(first|exact A1|exact uH|apply A2|apply uT)|(simp;try omega)|fail)[c20,c20']))
  refine B7 S7 (fun w' hw' => hR w' _ hw' (fun r hr=> List.mem_cons_of_mem _ hr)) ?_
  (have z:=trivial;repeat((first|clear z|with_reducible first|apply A3|refine A4 fun _=>?_|refine A5 fun _=>?_);try simp(disch:=solve|omega|assumption|repeat(first|exact A1|exact uH|apply A2|apply uT)|(simp;try omega)|fail)[c20,c20']))
  refine C8 (Hc:=A0Z b m a) (Hk := [G6 b2 (G4 1 M6) M1]) A0S (fun w' hw' hs=> B7D w' b m a h2 h3.q hs) (C1u _ _) ?_
  rintro a' v ⟨rfl,k1,k2,k3,k4⟩
  refine TW.perm ?_ List.perm_append_comm
  simp only [List.cons_append,List.nil_append]
  (have z:=trivial;repeat((first|clear z|with_reducible first|apply A3|refine A4 fun _=>?_|refine A5 fun _=>?_);try simp(disch:=solve|omega|assumption|repeat(first|exact A1|exact uH|apply A2|apply uT)|(simp;try omega)|fail)[]))
  exact hL (a',n + 1) ⟨by simp only; omega,k3,by rw [← k1,← k2] at hg; exact hg,fun h=> by simp only at h ⊢; rw [k2,hos (by omega)]; exact h4 (by omega)⟩ (by simp only; omega)
 obtain rfl:n = 10:=by omega
 clear hL
 have hst:a.1.st = 10:=h3.st
 have hr:a.1.ready (wx m a) = false:=by unfold JW.ready; rw [decide_eq_false (by omega)]; rfl
 have hans:=h3.ans (by omega)
 rw [hr] at hR
 (have z:=trivial;repeat((first|clear z|with_reducible first|apply A3|refine A4 fun _=>?_|refine A5 fun _=>?_);try simp(disch:=solve|omega|assumption|repeat(first|exact A1|exact uH|apply A2|apply uT)|(simp;try omega)|fail)[]))
 refine B7 S7 (fun w' hw' => hR w' _ hw' (fun r hr=> List.mem_cons_of_mem _ hr)) ?_
 (have z:=trivial;repeat((first|clear z|with_reducible first|apply A3|refine A4 fun _=>?_|refine A5 fun _=>?_);try simp(disch:=solve|omega|assumption|repeat(first|exact A1|exact uH|apply A2|apply uT)|(simp;try omega)|fail)[]))
 obtain ⟨j,tv,d,P⟩:=a
 have hq:=h3.q
 have hemp:=h2.emp
 have hsub:=h2.sub
 simp only at hst hans hq hemp hsub
 refine l7 218 4 ?_
 simp only [A0Z,G3]
 refine V3 (r:=.slice none 0 0) (l := []) (ts:=P) (by (repeat' constructor)) ?_
 have hmb:(m.uz d).b = m.b:=rfl
 have hcP:JwC (m.uz d) (G4 1 M6,M1,(m.uz d).dz,P ++ [(M1,[])]):=by
  refine ⟨fun t ht=> ?_,fun t ht=> List.mem_append_left _ (hsub t ht),List.mem_append_right _ (List.mem_singleton.2 rfl)⟩
  rcases List.mem_append.1 ht with ht | ht
  ·exact hemp t ht
  ·rw [List.mem_singleton.1 ht]; exact ⟨fun x hx=> by simp at hx,by simp⟩
 have hq2:QI 1 (G4 1 M6) (wx (m.uz d) (G4 1 M6,M1,(m.uz d).dz,P ++ [(M1,[])])):=hq.job 1 M6 (by simp [M6])
 have hbad:(G4 1 M6).step (m.uz d).ws = (({ G4 1 M6 with st:=1 }:JW).refuse 9,(m.uz d).ws,true,true,false):=by
  have:=D2J (j:=G4 1 M6) (x:=(m.uz d).ws) rfl (by have:(m.uz d).ws.c = m.ws.c:=rfl; rw [this,hws]; decide) D08
  exact this
 refine C8 (Hc:=A0Z b2 (m.uz d) (G4 1 M6,M1,(m.uz d).dz,P ++ [(M1,[])])) (Hk := [G6 b j tv]) A0S (fun w' hw' hs=> B7D (N:=1) w' b2 (m.uz d) _ hcP hq2 hs) (by simp only [A0Z,G3,show (m.uz d).uz (m.uz d).dz = m.uz d from rfl,C6,M1,List.cons_append,List.nil_append]; (repeat' constructor)) ?_
 rintro ⟨j2,tv2,d2,P2⟩ v ⟨rfl,k1,_,_,_⟩
 simp only [wx,show (m.uz d).uz (m.uz d).dz = m.uz d from rfl,hbad] at k1 ⊢
 subst k1
 have hA1:=fun (w':World) (g:bl w' b = some (.cells (L5 j tv) 130 (0,0)))=> A9B w' b j tv g
 have hS1:=fun (w':World) (g:bl w' b = some (.cells (L5 j tv) 130 (0,0)))=> B1M w' b j tv g
 rw [hans] at hA1
 rw [hst] at hS1
 obtain ⟨j3,hj3⟩:∃ j3,j3 = ({ G4 1 M6 with st:=1 }:JW).refuse 9:=⟨_,rfl⟩
 have e3:j3.ans = ⟨9,0,false,0⟩ ∧ j3.st = 10:=by rw [hj3]; exact ⟨rfl,rfl⟩
 have r3:j3.ready ((m.uz d).uz d2).ws = false:=by unfold JW.ready; rw [decide_eq_false (by omega)]; rfl
 rw [← hj3]
 have hA2:=fun (w':World) (g:bl w' b2 = some (.cells (L5 j3 tv2) 130 (0,0)))=> A9B w' b2 j3 tv2 g
 have hS2:=fun (w':World) (g:bl w' b2 = some (.cells (L5 j3 tv2) 130 (0,0)))=> B1M w' b2 j3 tv2 g
 have hR2:=fun (w':World) (H:List Res) (hw':LW false [] w H w') (hs:∀ r ∈ A0Z b2 (m.uz d) (j3,tv2,d2,P2),r ∈ H)=> B5D w w' b2 (m.uz d) (j3,tv2,d2,P2) hw' hs
 rw [show wx (m.uz d) (j3,tv2,d2,P2) = ((m.uz d).uz d2).ws from rfl,r3] at hR2
 rw [e3.1] at hA2
 rw [e3.2] at hS2
 simp only [A0Z,G3,List.cons_append,List.nil_append,L8]
 (have z:=trivial;repeat((first|clear z|with_reducible first|apply A3|refine A4 fun _=>?_|refine A5 fun _=>?_);try simp(disch:=solve|omega|assumption|repeat(first|exact A1|exact uH|apply A2|apply uT)|(simp;try omega)|fail)[]))
 rename_i bt
 refine B7 s8 (fun w' hw' => hA1 w' (hw'.pt (b:=b) (by unfold G6; simp))) ?_
 simp only [AnsV.val]
 (have z:=trivial;repeat((first|clear z|with_reducible first|apply A3|refine A4 fun _=>?_|refine A5 fun _=>?_);try simp(disch:=solve|omega|assumption|repeat(first|exact A1|exact uH|apply A2|apply uT)|(simp;try omega)|fail)[]))
 refine B7 y9 (fun w' hw' => hS1 w' (hw'.pt (b:=b) (by unfold G6; simp))) ?_
 (have z:=trivial;repeat((first|clear z|with_reducible first|apply A3|refine A4 fun _=>?_|refine A5 fun _=>?_);try simp(disch:=solve|omega|assumption|repeat(first|exact A1|exact uH|apply A2|apply uT)|(simp;try omega)|fail)[]))
 refine B7 s8 (fun w' hw' => hA2 w' (hw'.pt (b:=b2) (by unfold G6; simp))) ?_
 simp only [AnsV.val]
 (have z:=trivial;repeat((first|clear z|with_reducible first|apply A3|refine A4 fun _=>?_|refine A5 fun _=>?_);try simp(disch:=solve|omega|assumption|repeat(first|exact A1|exact uH|apply A2|apply uT)|(simp;try omega)|fail)[]))
 refine B7 S7 (fun w' hw' => hR2 w' _ hw' (fun r hr=> by unfold A0Z G3 at hr; simp only [List.mem_cons,List.mem_append] at hr ⊢; rcases hr with h | h | h <;> simp [h])) ?_
 (have z:=trivial;repeat((first|clear z|with_reducible first|apply A3|refine A4 fun _=>?_|refine A5 fun _=>?_);try simp(disch:=solve|omega|assumption|repeat(first|exact A1|exact uH|apply A2|apply uT)|(simp;try omega)|fail)[]))
 refine B7 y9 (fun w' hw' => hS2 w' (hw'.pt (b:=b2) (by unfold G6; simp))) ?_
 (have z:=trivial;repeat((first|clear z|with_reducible first|apply A3|refine A4 fun _=>?_|refine A5 fun _=>?_);try simp(disch:=solve|omega|assumption|repeat(first|exact A1|exact uH|apply A2|apply uT)|(simp;try omega)|fail)[]))
 exact A9 rfl
structure GI (N E:Nat) (j:JW) (x:WS):Prop where
 ok:WsOk x
 n:1 ≤ N ∧ N ≤ 16
 sh:x.c.sh = (N:Nat)
 tl:x.tabs.length = N
 te:∀ t ∈ x.tabs,TabOk x.c.cp.toNat t
 pl:x.places.length = N
 ow:x.own.length = N
 jt:TabOk 0 j.table ∨ TabOk x.c.cp.toNat j.table
 ep:0 ≤ D3 x.cells 0 ∧ D3 x.cells 0 ≤ E
 cur:0 ≤ D3 x.cells 1 ∧ D3 x.cells 1 ≤ 500
 now:0 ≤ x.now ∧ x.now ≤ 1000000000
 text:j.text.size ≤ 100
 key:j.key.size < 2 ^ 60
 shard:0 ≤ j.shard ∧ j.shard < N
 slot : -1 ≤ j.slot ∧ j.slot ≤ 500
 st:0 ≤ j.st ∧ j.st ≤ 10
 jep:0 ≤ j.ep ∧ j.ep ≤ E
 jt2:6 ≤ j.st → j.st < 10 → TabOk x.c.cp.toNat j.table
theorem GI.stage {N E:Nat} {j:JW} {x:WS} (h:GI N E j x) (k:Nat) (hk:k < 10) (hs:j.st = (k:Nat)):GI N E (D0 k { j with st:=j.st + 1 } x).1 (D0 k { j with st:=j.st + 1 } x).2.1:=by
 have hst:0 ≤ j.st + 1 ∧ j.st + 1 ≤ 10:=by omega
 have hcase:k = 0 ∨ k = 1 ∨ k = 2 ∨ k = 3 ∨ k = 4 ∨ k = 5 ∨ k = 6 ∨ k = 7 ∨ k = 8 ∨ k = 9:=by omega
 have hn:=h.n
 have hcur:=h.cur
 rcases hcase with rfl | rfl | rfl | rfl | rfl | rfl | rfl | rfl | rfl | rfl
 ·show GI N E (l3 _ x).1 (l3 _ x).2.1
  unfold l3
  by_cases c1:G5 x.c j.who < 0
  ·rw [if_pos c1]; exact { h with st:=by simp [JW.refuse],jt2:=fun _ (h6:(10:Int) < 10)=> by omega }
  ·rw [if_neg c1]
   by_cases c2:(D1 j.text).2.2 = 0
   ·rw [if_neg (by simpa using c2)]
    have h3:=h.sh
    have:V1 (A2j (D1 j.text).1) x.c.sh < N:=by
     unfold V1; rw [if_neg (by omega),h3,Int.toNat_natCast]; exact Nat.mod_lt _ (by omega)
    exact { h with st:=hst,key:=A8k _,jep:=h.ep,jt2:=fun (h6:6 ≤ j.st + 1) _=> by omega,shard:=⟨Int.natCast_nonneg _,by show ((V1 (A2j (D1 j.text).1) x.c.sh:Nat):Int) < N; omega⟩ }
   ·rw [if_pos c2]; exact { h with st:=by simp [JW.refuse],jt2:=fun _ (h6:(10:Int) < 10)=> by omega }
 ·have e0:D3 (N0 x.cells (G5 x.c j.who) (IntKind.i64.wrap (j.ep + 1))) 0 = D3 x.cells 0:=A1F _ _ _ _ _ (Or.inl rfl)
  have e1:D3 (N0 x.cells (G5 x.c j.who) (IntKind.i64.wrap (j.ep + 1))) 1 = D3 x.cells 1:=A1F _ _ _ _ _ (Or.inr rfl)
  exact { h with st:=hst,jt2:=fun (h6:6 ≤ j.st + 1) _=> by omega,ok:=⟨h.ok.wk,by simp only [D0,jw1,A26]; exact h.ok.cells,h.ok.own,h.ok.sl,h.ok.keep⟩,ep:=by simp only [D0,jw1]; rw [e0]; exact h.ep,cur:=by simp only [D0,jw1]; rw [e1]; exact h.cur }
 ·show GI N E (u9 _ x).1 (u9 _ x).2.1
  unfold u9
  by_cases c1:D3 x.cells 0 = j.ep
  ·rw [if_pos c1]; exact { h with st:=hst,jt2:=fun (h6:6 ≤ j.st + 1) _=> by omega }
  ·rw [if_neg c1]; exact { h with st:=by simp,jep:=h.ep,jt2:=fun (h6:(6:Int) ≤ 1) _=> by omega }
 ·exact { h with st:=hst,jt2:=fun (h6:6 ≤ j.st + 1) _=> by omega,ok:=⟨h.ok.wk,h.ok.cells,by simp only [D0,jw3,A2z]; exact h.ok.own,h.ok.sl,h.ok.keep⟩,ow:=by simp only [D0,jw3,A2z]; exact h.ow }
 ·have e:IntKind.i64.wrap (D3 x.cells 1 - 1) = D3 x.cells 1 - 1:=N3 (by omega) (by omega)
  exact { h with st:=hst,jt2:=fun (h6:6 ≤ j.st + 1) _=> by omega,slot:=by show -1 ≤ IntKind.i64.wrap (D3 x.cells 1 - 1) ∧ IntKind.i64.wrap (D3 x.cells 1 - 1) ≤ 500; rw [e]; omega }
 ·have hsd:=h.shard
  have htl:=h.tl
  have key:TabOk x.c.cp.toNat (x.tabs.getD j.shard.toNat []):=by
   rw [List.getD_eq_getElem?_getD,List.getElem?_eq_getElem (by omega)]
   exact h.te _ (List.getElem_mem _)
  exact { h with st:=hst,jt:=Or.inr key,jt2:=fun _ _=> key }
 ·exact { h with st:=hst,jt:=h.jt.imp (fun g=> (B1r g h.key).1) (fun g=> (B1r g h.key).1),jt2:=fun _ _=> (B1r (h.jt2 (by omega) (by omega)) h.key).1 }
 ·have key:=h.jt2 (by omega) (by omega)
  refine { h with st:=hst,tl:=by simp only [D0,jw7,List.length_set]; exact h.tl,te:=fun t ht=> ?_,ok:=⟨h.ok.wk,h.ok.cells,h.ok.own,h.ok.sl,h.ok.keep⟩,jt2:=fun _ _=> key }
  rcases List.mem_or_eq_of_mem_set (show t ∈ x.tabs.set j.shard.toNat j.table from ht) with ht | rfl
  ·exact h.te t ht
  ·exact key
 ·exact { h with st:=hst,jt2:=fun _ _=> h.jt2 (by omega) (by omega),ok:=⟨h.ok.wk,h.ok.cells,by simp only [D0,jw8,A0Q]; exact h.ok.own,h.ok.sl,h.ok.keep⟩,ow:=by simp only [D0,jw8,A0Q]; exact h.ow }
 ·have e0:D3 (N0 x.cells (G5 x.c j.who) 0) 0 = D3 x.cells 0:=A1F _ _ _ _ _ (Or.inl rfl)
  have e1:D3 (N0 x.cells (G5 x.c j.who) 0) 1 = D3 x.cells 1:=A1F _ _ _ _ _ (Or.inr rfl)
  exact { h with st:=hst,jt2:=fun _ (h6:j.st + 1 < 10)=> by omega,ok:=⟨h.ok.wk,by simp only [D0,jw9,A26]; exact h.ok.cells,h.ok.own,h.ok.sl,h.ok.keep⟩,ep:=by simp only [D0,jw9]; rw [e0]; exact h.ep,cur:=by simp only [D0,jw9]; rw [e1]; exact h.cur }
theorem GI.step {N E:Nat} {j:JW} {x:WS} (h:GI N E j x):GI N E (j.step x).1 (j.step x).2.1:=by
 cases hr:j.ready x with
 | false=> rw [A6D hr]; exact h
 | true=>
  have hs:=h.st
  have hl:=A6N hr
  rw [A0y hr]
  exact h.stage _ (by omega) (by omega)
theorem B4c (l:List Int) (i k v:Int):D3 (N0 l i v) k = if i = k ∧ 0 ≤ i ∧ i < l.length then v else D3 l k:=by
 by_cases c:i = k
 ·subst c
  rw [A27]
  by_cases d:0 ≤ i ∧ i < l.length
  ·rw [if_pos d,if_pos ⟨rfl,d⟩]
  ·rw [if_neg d,if_neg (by omega)]
   unfold D3; rw [if_neg d]
 ·rw [W2 _ _ c,if_neg (by omega)]
theorem GI.hap {N E:Nat} {j:JW} {x:WS} (h:GI N E j x) (hE:E ≤ 1000) (a:ActV) (y:XS) (hc:y.c = x.c) (hcs:x.c.sl ≤ 8):GI N (E + 1) j (S8 a x y):=by
 have hep:=h.ep
 have hcl:=h.ok.cells
 have hwk:=h.ok.wk
 have up:GI N (E + 1) j x := { h with ep:=by omega,jep:=by have:=h.jep; omega }
 unfold S8
 split
 ·have e0:D3 (N0 x.cells 0 (IntKind.i64.wrap (D3 x.cells 0 + 1))) 0 = D3 x.cells 0 + 1:=by
   rw [A27,if_pos (by omega)]; exact N3 (by omega) (by omega)
  have e1:D3 (N0 x.cells 0 (IntKind.i64.wrap (D3 x.cells 0 + 1))) 1 = D3 x.cells 1:=W2 _ _ (by omega)
  exact { up with ep:=by simp only; rw [e0]; omega,cur:=by simp only; rw [e1]; exact h.cur,ok:=⟨h.ok.wk,by simp only [A26]; exact hcl,h.ok.own,h.ok.sl,h.ok.keep⟩ }
 split
 ·split
  ·exact { up with ok:=⟨h.ok.wk,h.ok.cells,by simp only [A2z]; exact h.ok.own,h.ok.sl,h.ok.keep⟩,ow:=by simp only [A2z]; exact h.ow }
  ·exact up
 split
 ·split
  ·exact { up with ok:=⟨h.ok.wk,h.ok.cells,by simp only [A0Q]; exact h.ok.own,h.ok.sl,h.ok.keep⟩,ow:=by simp only [A0Q]; exact h.ow }
  ·exact up
 split
 ·exact { up with ok:=⟨h.ok.wk,h.ok.cells,h.ok.own,by simp only [C7g,B1H]; exact h.ok.sl,h.ok.keep⟩ }
 split
 ·exact { up with ok:=⟨h.ok.wk,h.ok.cells,h.ok.own,by simp only [B1H]; exact h.ok.sl,h.ok.keep⟩ }
 split
 ·split
  ·rename_i hn
   rw [hc] at hn
   have e1:D3 (N0 x.cells 1 (a.n + 1)) 1 = a.n + 1:=by rw [A27,if_pos (by omega)]
   have e0:D3 (N0 x.cells 1 (a.n + 1)) 0 = D3 x.cells 0:=W2 _ _ (by omega)
   exact { up with ep:=by simp only; rw [e0]; exact up.ep,cur:=by simp only; rw [e1]; omega,ok:=⟨h.ok.wk,by simp only [A26]; exact hcl,h.ok.own,h.ok.sl,h.ok.keep⟩ }
  ·exact up
 split
 ·exact { up with now:=C1F h.now,ok:=⟨h.ok.wk,h.ok.cells,h.ok.own,h.ok.sl,h.ok.keep⟩ }
 ·exact up
structure PinJ (N E:Nat) (who pd e:Int) (j:JW) (x:WS) (y:XS):Prop where
 g:GI N E j x
 hwho:j.who = who
 w0:0 ≤ who ∧ who ≤ 60
 lk:y.locks = x.own
 yc:y.c = x.c
 ec:D3 x.cells 0 = e
 free:∀ i,i < N → x.own.getD i 0 < 0 → x.own.getD i 0 = -1
 held:4 ≤ j.st → j.st ≤ 8 → ∀ i:Nat,i < N → (x.own.getD i 0 = who ↔ (i:Int) = j.shard)
 none:¬ (4 ≤ j.st ∧ j.st ≤ 8) → ∀ i,i < N → x.own.getD i 0 ≠ who
 off:G5 x.c who < 0 → j.st = 0 ∨ j.st = 10
 p0:0 ≤ G5 x.c who → (j.st = 0 ∨ j.st = 10) → D3 x.cells (G5 x.c who) = 0
 p2:2 ≤ j.st → j.st ≤ 9 → D3 x.cells (G5 x.c who) = j.ep + 1
 pd0:j.st ≤ 2 → pd = 0
 pd3:3 ≤ j.st → j.st ≤ 9 → pd = j.ep + 1
def pdN (pd e:Int) (j:JW):Int:=if j.st = 3 ∧ pd = 0 then e + 1 else pd
theorem n7 {pd e:Int} {j:JW} (h:j.st ≠ 3 ∨ pd ≠ 0):pdN pd e j = pd:=by unfold pdN; rw [if_neg (by omega)]
theorem S0 {l:List Int} {i k:Nat} {v:Int} (hi:i < l.length):(l.set i v).getD k 0 = if i = k then v else l.getD k 0:=by
 rw [List.getD_eq_getElem?_getD,List.getElem?_set]
 by_cases c:i = k
 ·subst c; rw [if_pos rfl,if_pos hi,if_pos rfl]; rfl
 ·rw [if_neg c,if_neg c,← List.getD_eq_getElem?_getD]
theorem PinJ.stage {N E:Nat} {who pd e:Int} {j:JW} {x:WS} {y:XS} (h:PinJ N E who pd e j x y) (hE:E ≤ 1000) (k:Nat) (hk:k < 10) (hs:j.st = (k:Nat)) (hr:j.ready x = true) :
  PinJ N E who (pdN pd e (D0 k { j with st:=j.st + 1 } x).1) e (D0 k { j with st:=j.st + 1 } x).1 (D0 k { j with st:=j.st + 1 } x).2.1 { y with locks:=(D0 k { j with st:=j.st + 1 } x).2.1.own }:=by
 have hw:=h.hwho
 subst hw
 have hw:j.who = j.who:=rfl
 have hg:=h.g.stage k hk hs
 have hcase:k = 0 ∨ k = 1 ∨ k = 2 ∨ k = 3 ∨ k = 4 ∨ k = 5 ∨ k = 6 ∨ k = 7 ∨ k = 8 ∨ k = 9:=by omega
 have hn:=h.g.n
 have hwk:=h.g.ok.wk
 have hcl:=h.g.ok.cells
 have hsd:=h.g.shard
 have how:=h.g.ow
 have hjep:=h.g.jep
 have hw0:=h.w0
 have hpr:0 ≤ G5 x.c j.who → 2 ≤ G5 x.c j.who ∧ G5 x.c j.who < x.cells.length:=by unfold G5; intro h1; split at h1 <;> split <;> omega
 have hoff:=h.off
 have hno:=h.none
 have hhe:=h.held
 rcases hcase with rfl | rfl | rfl | rfl | rfl | rfl | rfl | rfl | rfl | rfl
 ·have hno':=hno (by omega)
  have hpd:=h.pd0 (by omega)
  have hp0:=fun g=> h.p0 g (Or.inl (by omega))
  rw [show D0 0 { j with st:=j.st + 1 } x = l3 { j with st:=j.st + 1 } x from rfl] at hg ⊢
  unfold l3 at hg ⊢
  simp only at hg ⊢
  by_cases c1:G5 x.c j.who < 0
  ·rw [if_pos c1] at hg ⊢
   rw [n7 (Or.inl (by simp [JW.refuse]))]
   exact ⟨hg,hw,h.w0,rfl,h.yc,h.ec,h.free,fun _ (h8:(10:Int) ≤ 8)=> by omega,fun _=> hno',fun _=> Or.inr rfl,fun g _=> hp0 g,fun _ (h9:(10:Int) ≤ 9)=> by omega,fun (h2:(10:Int) ≤ 2)=> by omega,fun _ (h9:(10:Int) ≤ 9)=> by omega⟩
  rw [if_neg c1] at hg ⊢
  by_cases c2:(D1 j.text).2.2 = 0
  case neg=>
   rw [if_pos c2] at hg ⊢
   rw [n7 (Or.inl (by simp [JW.refuse]))]
   exact ⟨hg,hw,h.w0,rfl,h.yc,h.ec,h.free,fun _ (h8:(10:Int) ≤ 8)=> by omega,fun _=> hno',fun _=> Or.inr rfl,fun g _=> hp0 g,fun _ (h9:(10:Int) ≤ 9)=> by omega,fun (h2:(10:Int) ≤ 2)=> by omega,fun _ (h9:(10:Int) ≤ 9)=> by omega⟩
  rw [if_neg (by simpa using c2)] at hg ⊢
  rw [n7 (Or.inl (by simp only [JW.rd]; omega))]
  exact ⟨hg,hw,h.w0,rfl,h.yc,h.ec,h.free,fun (h4:4 ≤ j.st + 1) _=> by omega,fun _=> hno',fun g=> absurd g c1,fun g (h1:j.st + 1 = 0 ∨ j.st + 1 = 10)=> by omega,fun (h2:2 ≤ j.st + 1) _=> by omega,fun _=> hpd,fun (h3:3 ≤ j.st + 1) _=> by omega⟩
 ·have hno':=hno (by omega)
  have hpd:=h.pd0 (by omega)
  have hp:0 ≤ G5 x.c j.who:=by have:=hoff; omega
  have hp':=hpr hp
  have e0:D3 (N0 x.cells (G5 x.c j.who) (j.ep + 1)) 0 = D3 x.cells 0:=by rw [B4c,if_neg (by omega)]
  have e1:D3 (N0 x.cells (G5 x.c j.who) (j.ep + 1)) (G5 x.c j.who) = j.ep + 1:=by rw [B4c,if_pos (by omega)]
  rw [show D0 1 { j with st:=j.st + 1 } x = ({ j with st:=j.st + 1 },{ x with cells:=N0 x.cells (G5 x.c j.who) (IntKind.i64.wrap (j.ep + 1)) },noT) from rfl,N3 (by omega) (by omega)] at hg ⊢
  rw [n7 (Or.inl (show j.st + 1 ≠ 3 by omega))]
  exact ⟨hg,hw,h.w0,rfl,h.yc,by simp only; rw [e0]; exact h.ec,h.free,fun (h4:4 ≤ j.st + 1) _=> by omega,fun _=> hno',fun g=> by simp only at g; omega,fun g (h1:j.st + 1 = 0 ∨ j.st + 1 = 10)=> by omega,fun _ _=> e1,fun _=> hpd,fun (h3:3 ≤ j.st + 1) _=> by omega⟩
 ·have hno':=hno (by omega)
  have hpd:=h.pd0 (by omega)
  have hp2:=h.p2 (by omega) (by omega)
  have hec:=h.ec
  rw [show D0 2 { j with st:=j.st + 1 } x = u9 { j with st:=j.st + 1 } x from rfl] at hg ⊢
  unfold u9 at hg ⊢
  simp only at hg ⊢
  by_cases c1:D3 x.cells 0 = j.ep
  ·rw [if_pos c1] at hg ⊢
   have e:pdN pd e { j with st:=j.st + 1 } = j.ep + 1:=by unfold pdN; rw [if_pos ⟨show j.st + 1 = 3 by omega,hpd⟩]; omega
   simp only [e]
   exact ⟨hg,hw,h.w0,rfl,h.yc,h.ec,h.free,fun (h4:4 ≤ j.st + 1) _=> by omega,fun _=> hno',fun g=> by have:=hoff g; omega,fun g (h1:j.st + 1 = 0 ∨ j.st + 1 = 10)=> by omega,fun _ _=> hp2,fun (h2:j.st + 1 ≤ 2)=> by omega,fun _ _=> rfl⟩
  ·rw [if_neg c1] at hg ⊢
   rw [n7 (Or.inl (show (1:Int) ≠ 3 by omega))]
   exact ⟨hg,hw,h.w0,rfl,h.yc,h.ec,h.free,fun (h4:(4:Int) ≤ 1) _=> by omega,fun _=> hno',fun g=> by have:=hoff g; omega,fun g (h1:(1:Int) = 0 ∨ (1:Int) = 10)=> by omega,fun (h2:(2:Int) ≤ 1) _=> by omega,fun _=> hpd,fun (h3:(3:Int) ≤ 1) _=> by omega⟩
 ·have hpd:=h.pd3 (by omega) (by omega)
  have hp2:=h.p2 (by omega) (by omega)
  have hno':=hno (by omega)
  obtain ⟨s,hs2⟩:∃ s:Nat,j.shard = s:=⟨j.shard.toNat,by omega⟩
  have hsN:s < N:=by omega
  have hf:x.own.getD s 0 = -1:=by
   refine h.free s hsN ?_
   unfold JW.ready at hr
   rw [hs,hs2,C0y (by omega)] at hr
   simpa using hr
  have hlo:Y4 x.own j.shard j.who = x.own.set s j.who:=by
   unfold Y4; rw [if_pos (by omega),hs2,A0P (by omega),if_pos hf]
  rw [show D0 3 { j with st:=j.st + 1 } x = ({ j with st:=j.st + 1 },{ x with own:=Y4 x.own j.shard j.who },noT) from rfl,hlo] at hg ⊢
  rw [n7 (Or.inl (show j.st + 1 ≠ 3 by omega))]
  refine ⟨hg,hw,h.w0,rfl,h.yc,h.ec,fun i hi=> ?_,fun _ _ i hi=> ?_,fun (hx:¬ (4 ≤ j.st + 1 ∧ j.st + 1 ≤ 8))=> by omega,fun g=> by have:=hoff g; omega,fun g (h1:j.st + 1 = 0 ∨ j.st + 1 = 10)=> by omega,fun _ _=> hp2,fun (h2:j.st + 1 ≤ 2)=> by omega,fun _ _=> hpd⟩
  ·simp only
   rw [S0 (by omega)]
   split
   ·omega
   ·exact h.free i hi
  ·simp only
   rw [S0 (by omega),hs2]
   split
   ·rename_i hq; simp [hq]
   ·rename_i hq
    have:=hno' i hi
    constructor
    ·intro g; exact absurd g this
    ·intro g; omega
 ·have hpd:=h.pd3 (by omega) (by omega)
  have hp2:=h.p2 (by omega) (by omega)
  have hh:=hhe (by omega) (by omega)
  rw [n7 (Or.inl (show j.st + 1 ≠ 3 by omega))]
  exact ⟨hg,hw,h.w0,rfl,h.yc,h.ec,h.free,fun _ _=> hh,fun (hx:¬ (4 ≤ j.st + 1 ∧ j.st + 1 ≤ 8))=> by omega,fun g=> by have:=hoff g; omega,fun g (h1:j.st + 1 = 0 ∨ j.st + 1 = 10)=> by omega,fun _ _=> hp2,fun (h2:j.st + 1 ≤ 2)=> by omega,fun _ _=> hpd⟩
 ·have hpd:=h.pd3 (by omega) (by omega)
  have hp2:=h.p2 (by omega) (by omega)
  have hh:=hhe (by omega) (by omega)
  rw [n7 (Or.inl (show j.st + 1 ≠ 3 by omega))]
  exact ⟨hg,hw,h.w0,rfl,h.yc,h.ec,h.free,fun _ _=> hh,fun (hx:¬ (4 ≤ j.st + 1 ∧ j.st + 1 ≤ 8))=> by omega,fun g=> by have:=hoff g; omega,fun g (h1:j.st + 1 = 0 ∨ j.st + 1 = 10)=> by omega,fun _ _=> hp2,fun (h2:j.st + 1 ≤ 2)=> by omega,fun _ _=> hpd⟩
 ·have hpd:=h.pd3 (by omega) (by omega)
  have hp2:=h.p2 (by omega) (by omega)
  have hh:=hhe (by omega) (by omega)
  rw [n7 (Or.inl (show j.st + 1 ≠ 3 by omega))]
  exact ⟨hg,hw,h.w0,rfl,h.yc,h.ec,h.free,fun _ _=> hh,fun (hx:¬ (4 ≤ j.st + 1 ∧ j.st + 1 ≤ 8))=> by omega,fun g=> by have:=hoff g; omega,fun g (h1:j.st + 1 = 0 ∨ j.st + 1 = 10)=> by omega,fun _ _=> hp2,fun (h2:j.st + 1 ≤ 2)=> by omega,fun _ _=> hpd⟩
 ·have hpd:=h.pd3 (by omega) (by omega)
  have hp2:=h.p2 (by omega) (by omega)
  have hh:=hhe (by omega) (by omega)
  rw [n7 (Or.inl (show j.st + 1 ≠ 3 by omega))]
  exact ⟨hg,hw,h.w0,rfl,h.yc,h.ec,h.free,fun _ _=> hh,fun (hx:¬ (4 ≤ j.st + 1 ∧ j.st + 1 ≤ 8))=> by omega,fun g=> by have:=hoff g; omega,fun g (h1:j.st + 1 = 0 ∨ j.st + 1 = 10)=> by omega,fun _ _=> hp2,fun (h2:j.st + 1 ≤ 2)=> by omega,fun _ _=> hpd⟩
 ·have hpd:=h.pd3 (by omega) (by omega)
  have hp2:=h.p2 (by omega) (by omega)
  have hh:=hhe (by omega) (by omega)
  obtain ⟨s,hs2⟩:∃ s:Nat,j.shard = s:=⟨j.shard.toNat,by omega⟩
  have hsN:s < N:=by omega
  have hf:x.own.getD s 0 = j.who:=(hh s hsN).2 hs2.symm
  have hlo:N9 x.own j.shard j.who = x.own.set s (-1):=by
   unfold N9; rw [if_pos (by omega),hs2,A0P (by omega),if_pos hf]
  rw [show D0 8 { j with st:=j.st + 1 } x = ({ j with st:=j.st + 1 },{ x with own:=N9 x.own j.shard j.who },noT) from rfl,hlo] at hg ⊢
  rw [n7 (Or.inl (show j.st + 1 ≠ 3 by omega))]
  refine ⟨hg,hw,h.w0,rfl,h.yc,h.ec,fun i hi=> ?_,fun _ (h8:j.st + 1 ≤ 8)=> by omega,fun _ i hi=> ?_,fun g=> by have:=hoff g; omega,fun g (h1:j.st + 1 = 0 ∨ j.st + 1 = 10)=> by omega,fun _ _=> hp2,fun (h2:j.st + 1 ≤ 2)=> by omega,fun _ _=> hpd⟩
  ·simp only
   rw [S0 (by omega)]
   split
   ·intro; rfl
   ·exact h.free i hi
  ·simp only
   rw [S0 (by omega)]
   split
   ·omega
   ·rename_i hq
    intro g
    have:=(hh i hi).1 g
    omega
 ·have hpd:=h.pd3 (by omega) (by omega)
  have hno':=hno (by omega)
  have e0:D3 (N0 x.cells (G5 x.c j.who) 0) 0 = D3 x.cells 0:=A1F _ _ _ _ _ (Or.inl rfl)
  rw [show D0 9 { j with st:=j.st + 1 } x = ({ j with st:=j.st + 1 },{ x with cells:=N0 x.cells (G5 x.c j.who) 0 },false,true,false) from rfl] at hg ⊢
  rw [n7 (Or.inl (show j.st + 1 ≠ 3 by omega))]
  exact ⟨hg,hw,h.w0,rfl,h.yc,by simp only; rw [e0]; exact h.ec,h.free,fun _ (h8:j.st + 1 ≤ 8)=> by omega,fun _=> hno',fun _=> Or.inr (show j.st + 1 = 10 by omega),fun g _=> by simp only; rw [A27,if_pos (by have:=hpr g; omega)],fun _ (h9:j.st + 1 ≤ 9)=> by omega,fun (h2:j.st + 1 ≤ 2)=> by omega,fun _ (h9:j.st + 1 ≤ 9)=> by omega⟩
theorem PinJ.step {N E:Nat} {who pd e:Int} {j:JW} {x:WS} {y:XS} (h:PinJ N E who pd e j x y) (hE:E ≤ 1000):PinJ N E who (pdN pd e (j.step x).1) e (j.step x).1 (j.step x).2.1 { y with locks:=(j.step x).2.1.own }:=by
 cases hr:j.ready x with
 | false=>
  rw [A6D hr]
  have e1:pdN pd e j = pd:=by
   by_cases c:j.st = 3
   ·have h1:=h.pd3 (by omega) (by omega)
    have h2:=h.g.jep
    exact n7 (Or.inr (by omega))
   ·exact n7 (Or.inl c)
  simp only [e1]
  exact ⟨h.g,h.hwho,h.w0,rfl,h.yc,h.ec,h.free,h.held,h.none,h.off,h.p0,h.p2,h.pd0,h.pd3⟩
 | true=>
  have hs:=h.g.st
  have hl:=A6N hr
  rw [A0y hr]
  exact h.stage hE _ (by omega) (by omega) hr
theorem PinJ.put {N E E':Nat} {who pd e e':Int} {j:JW} {x x':WS} {y y':XS} (h:PinJ N E who pd e j x y) (hg:GI N E' j x') (hc:x'.c = x.c) (hy:y'.c = x.c) (hl:y'.locks = x'.own) (he:D3 x'.cells 0 = e')
  (hp:0 ≤ G5 x.c who → D3 x'.cells (G5 x.c who) = D3 x.cells (G5 x.c who))
  (ho:∀ i,i < N → x'.own.getD i 0 = x.own.getD i 0 ∨ (x.own.getD i 0 ≠ who ∧ x'.own.getD i 0 ≠ who ∧ (x'.own.getD i 0 < 0 → x'.own.getD i 0 = -1))):PinJ N E' who pd e' j x' y':=by
 have hoff:=h.off
 have hw0:=h.w0
 refine ⟨hg,h.hwho,h.w0,hl,by rw [hy,hc],he,fun i hi hf=> ?_,fun h4 h8 i hi=> ?_,fun hx i hi=> ?_,by rw [hc]; exact h.off,by rw [hc]; exact fun g g2=> by rw [hp g]; exact h.p0 g g2,by rw [hc]; exact fun g g2=> by rw [hp (by omega)]; exact h.p2 g g2,h.pd0,h.pd3⟩
 ·rcases ho i hi with ho | ho
  ·rw [ho] at hf ⊢; exact h.free i hi hf
  ·exact ho.2.2 hf
 ·have:=h.held h4 h8 i hi
  rcases ho i hi with ho | ho
  ·rw [ho]; exact this
  ·constructor
   ·intro g; exact absurd g ho.2.1
   ·intro g; exact absurd (this.2 g) ho.1
 ·have:=h.none hx i hi
  rcases ho i hi with ho | ho
  ·rw [ho]; exact this
  ·exact ho.2.1
theorem D2Z (a:ActV) (y:XS):(S9 a y).c = y.c:=by
 unfold S9
 repeat' split
 all_goals rfl
theorem PinJ.hap {N E:Nat} {who pd e:Int} {j:JW} {x:WS} {y:XS} (h:PinJ N E who pd e j x y) (hE:E ≤ 1000) (a:ActV) (hcs:x.c.sl ≤ 8) :
  PinJ N (E + 1) who pd (if a.k = 1 then e + 1 else e) j (S8 a x y) { S9 a y with locks:=(S8 a x y).own }:=by
 have hg:=h.g.hap hE a y h.yc hcs
 have hyc:=h.yc
 have hlk:=h.lk
 have hsh:=h.g.sh
 have how:=h.g.ow
 have hw0:=h.w0
 have hwk:=h.g.ok.wk
 have hcl:=h.g.ok.cells
 have hep:=h.g.ep
 have hec:=h.ec
 have hpr:0 ≤ G5 x.c who → 2 ≤ G5 x.c who ∧ G5 x.c who < x.cells.length:=by unfold G5; intro h1; split at h1 <;> split <;> omega
 have hy:({ S9 a y with locks:=(S8 a x y).own }:XS).c = x.c:=by show (S9 a y).c = x.c; rw [D2Z,hyc]
 have hu:GI N (E + 1) j x := { h.g with ep:=by omega,jep:=by have:=h.g.jep; omega }
 generalize hX:S9 a y = y' at *
 have same:∀ i,i < N → x.own.getD i 0 = x.own.getD i 0 ∨ (x.own.getD i 0 ≠ who ∧ x.own.getD i 0 ≠ who ∧ (x.own.getD i 0 < 0 → x.own.getD i 0 = -1)):=fun i _=> Or.inl rfl
 unfold S8 at hg hy ⊢
 by_cases k1:a.k = 1
 ·rw [if_pos k1] at hg hy ⊢
  rw [if_pos k1]
  have e0:D3 (N0 x.cells 0 (IntKind.i64.wrap (D3 x.cells 0 + 1))) 0 = D3 x.cells 0 + 1:=by
   rw [A27,if_pos (by omega)]; exact N3 (by omega) (by omega)
  exact h.put hg rfl hy rfl (by simp only; rw [e0,hec]) (fun g=> W2 _ _ (by have:=hpr g; omega)) same
 rw [if_neg k1] at hg hy ⊢
 rw [if_neg k1]
 by_cases k2:a.k = 2
 ·rw [if_pos k2] at hg hy ⊢
  by_cases c:(0 ≤ a.n ∧ a.n < y.c.sh) ∧ y.locks.getD a.n.toNat 0 < 0
  case neg=> rw [if_neg c] at hg hy ⊢; exact h.put hg rfl hy rfl hec (fun _=> rfl) same
  rw [if_pos c] at hg hy ⊢
  obtain ⟨n,hn⟩:∃ n:Nat,a.n = n:=⟨a.n.toNat,by omega⟩
  rw [hn,hyc,hsh,hlk,Int.toNat_natCast] at c
  have hnN:n < N:=by omega
  have hf:=h.free n hnN c.2
  have hlo:Y4 x.own a.n 99 = x.own.set n 99:=by
   unfold Y4; rw [if_pos (by omega),hn,A0P (by omega),if_pos hf]
  rw [hlo] at hg hy ⊢
  refine h.put hg rfl hy rfl hec (fun _=> rfl) fun i hi=> ?_
  simp only
  rw [S0 (by omega)]
  by_cases d:n = i
  ·subst d; rw [if_pos rfl,hf]; right; omega
  ·rw [if_neg d]; exact Or.inl rfl
 rw [if_neg k2] at hg hy ⊢
 by_cases k3:a.k = 3
 ·rw [if_pos k3] at hg hy ⊢
  by_cases c:(0 ≤ a.n ∧ a.n < y.c.sh) ∧ y.locks.getD a.n.toNat 0 = 99
  case neg=> rw [if_neg c] at hg hy ⊢; exact h.put hg rfl hy rfl hec (fun _=> rfl) same
  rw [if_pos c] at hg hy ⊢
  obtain ⟨n,hn⟩:∃ n:Nat,a.n = n:=⟨a.n.toNat,by omega⟩
  rw [hn,hyc,hsh,hlk,Int.toNat_natCast] at c
  have hnN:n < N:=by omega
  have hlo:N9 x.own a.n 99 = x.own.set n (-1):=by
   unfold N9; rw [if_pos (by omega),hn,A0P (by omega),if_pos c.2]
  rw [hlo] at hg hy ⊢
  refine h.put hg rfl hy rfl hec (fun _=> rfl) fun i hi=> ?_
  simp only
  rw [S0 (by omega)]
  by_cases d:n = i
  ·subst d; rw [if_pos rfl,c.2]; right; omega
  ·rw [if_neg d]; exact Or.inl rfl
 rw [if_neg k3] at hg hy ⊢
 by_cases k4:a.k = 4
 ·rw [if_pos k4] at hg hy ⊢; exact h.put hg rfl hy rfl hec (fun _=> rfl) same
 rw [if_neg k4] at hg hy ⊢
 by_cases k5:a.k = 5
 ·rw [if_pos k5] at hg hy ⊢; exact h.put hg rfl hy rfl hec (fun _=> rfl) same
 rw [if_neg k5] at hg hy ⊢
 by_cases k6:a.k = 6
 ·rw [if_pos k6] at hg hy ⊢
  by_cases c : -1 ≤ a.n ∧ a.n < y.c.sl
  case neg=> rw [if_neg c] at hg hy ⊢; exact h.put hg rfl hy rfl hec (fun _=> rfl) same
  rw [if_pos c] at hg hy ⊢
  exact h.put hg rfl hy rfl (by simp only; rw [W2 _ _ (by omega)]; exact hec) (fun g=> W2 _ _ (by have:=hpr g; omega)) same
 rw [if_neg k6] at hg hy ⊢
 by_cases k7:a.k = 7
 ·rw [if_pos k7] at hg hy ⊢; exact h.put hg rfl hy rfl hec (fun _=> rfl) same
 rw [if_neg k7] at hg hy ⊢; exact h.put hg rfl hy rfl hec (fun _=> rfl) same
theorem B3T:TabOk 0 ([]:List EnV):=⟨rfl,by omega,fun x hx=> by simp at hx,by decide +kernel⟩
theorem GI.new {c:CfgV} (hok:Q8 c = true) (who:Int) (text:ByteArray) (ht:text.size ≤ 100):GI c.sh.toNat 0 (G4 who text) (N2 c):=by
 have hw:=C5j hok
 simp only [Q8,k9,Bool.and_eq_true,decide_eq_true_eq] at hok
 have e0:D3 (N2 c).cells 0 = 0:=A1B _ _
 have e1:D3 (N2 c).cells 1 = 0:=A1B _ _
 refine ⟨hw,by omega,by show c.sh = _; omega,by simp [N2],fun t h=> ?_,by simp [N2],by simp [N2],Or.inl B3T,by rw [e0]; omega,by rw [e1]; omega,by simp [N2],ht,by simp [G4,M6],by simp only [G4]; omega,by simp [G4],by simp [G4],by simp [G4],fun h=> by simp [G4] at h⟩
 rw [(List.mem_replicate.1 (show t ∈ List.replicate c.sh.toNat (newE c.cp.toNat) from h)).2]
 exact TabOk.new (n:=c.cp.toNat) (by omega)
structure XI (E:Nat) (y:XS):Prop where
 sh:1 ≤ y.c.sh ∧ y.c.sh ≤ 16
 csl:y.c.sl ≤ 8
 now:0 ≤ y.now ∧ y.now ≤ 1000000000
 locks:(y.locks.length:Int) = y.c.sh
 sl:y.sl.length ≤ 8
 ep:0 ≤ y.ep ∧ y.ep ≤ E
theorem C7A (l:List U5) (i:Int) (p:List F8) (x:Option Addr × Nat × Nat):(m8 l i p x).length = l.length:=by unfold m8; split; exact A8g _ _ _; rfl
theorem XI.hap {E:Nat} {y:XS} (h:XI E y) (a:ActV):XI (E + 1) (S9 a y):=by
 have hep:=h.ep
 have up:XI (E + 1) y := { h with ep:=by omega }
 unfold S9
 split
 ·exact { up with ep:=by simp only; omega }
 split
 ·split
  ·exact { up with locks:=by simp only [List.length_set]; exact h.locks }
  ·exact up
 split
 ·split
  ·exact { up with locks:=by simp only [List.length_set]; exact h.locks }
  ·exact up
 split
 ·refine { up with sl := ?_ }
  simp only
  split
  ·rw [C7A,show (T0 y.sl a.n).length = y.sl.length from A8g _ _ _]; exact h.sl
  ·exact h.sl
 split
 ·exact { up with sl:=by simp only; rw [show (u6 y.sl a.n).length = y.sl.length from A8g _ _ _]; exact h.sl }
 split
 ·split
  ·exact { up with }
  ·exact up
 split
 ·exact { up with now:=C1F h.now }
 ·exact up
theorem XI.lk {E:Nat} {y:XS} (h:XI E y) {l:List Int} (hl:(l.length:Int) = y.c.sh):XI E { y with locks:=l } := { h with locks:=hl }
abbrev JA:=JW × Value × WoG × P4
def jsH (b:Nat) (m:WoH) (a:JA):List Res:=G3 b a.1 a.2.1 (m.ug a.2.2.1) a.2.2.2
def S6 (m:WoH) (a:JA):WS:=(m.ug a.2.2.1).ws
structure JsC (cp:Nat) (a:JA):Prop where
 tab:∀ t ∈ a.2.2.2,TabOk 0 t.2 ∨ TabOk cp t.2
 sub:A0U a.2.2.1.ts a.2.2.2
 tb:(a.2.1,a.1.table) ∈ a.2.2.2
theorem JsC.ok {N E:Nat} {m:WoH} {a:JA} {cp:Nat} (h:JsC cp a) (hE:E ≤ 1000) (hg:GI N E a.1 (S6 m a)) (hcp:(S6 m a).c.cp.toNat = cp):JwOk a.1 a.2.1 (m.ug a.2.2.1) a.2.2.2:=by
 obtain ⟨j,tv,d,P⟩:=a
 have hts:d.ts.length = N:=by have:=hg.tl; simpa [S6,WoH.ws,WoH.ug] using this
 have hn:=hg.n
 have hpl:d.pl.length = N:=hg.pl
 have how:d.own.length = N:=hg.ow
 have hsh:m.c.sh = (N:Nat):=hg.sh
 have htx:j.text.size ≤ 100:=hg.text
 have hsl : -1 ≤ j.slot ∧ j.slot ≤ 500:=hg.slot
 have hsd:0 ≤ j.shard ∧ j.shard < N:=hg.shard
 have h0:0 ≤ D3 d.cells 0 ∧ D3 d.cells 0 ≤ E:=hg.ep
 have h1:0 ≤ D3 d.cells 1 ∧ D3 d.cells 1 ≤ 500:=hg.cur
 have key:∀ t:List EnV,TabOk 0 t ∨ TabOk cp t → N4 t ∧ t.length ≤ 64:=fun t ht=> by
  rcases ht with ht | ht
  ·exact ⟨ht.keys,by rw [ht.len]; omega⟩
  ·exact ⟨ht.keys,by rw [ht.len]; exact ht.few⟩
 have hjt:=key _ (h.tab _ h.tb)
 simp only at hjt
 refine ⟨hg.ok,⟨by show d.ts.length ≤ _; omega,by show d.pl.length = d.ts.length; omega,fun t ht=> ?_,fun t ht=> (key _ (h.tab _ (h.sub _ ht))).1,by show d.own.length ≤ _; omega,h.sub⟩,h.tb,by show (d.ts.length:Int) = m.c.sh; omega,by show j.text.size < _; omega,hg.key,by show 0 ≤ j.shard ∧ j.shard < (d.ts.length:Int); omega,hjt.1,by show j.table.length ≤ _; omega,by show -1 ≤ j.slot ∧ j.slot ≤ _; omega,by show 0 ≤ D3 d.cells 0 ∧ D3 d.cells 0 ≤ _; omega,by show 0 ≤ D3 d.cells 1 ∧ D3 d.cells 1 ≤ _; omega⟩
 have:=(key _ (h.tab _ (h.sub _ ht))).2; omega
def WoG.uz (d:WoG) (z:WoZ):WoG := { d with cn:=z.cn,cells:=z.cells,own:=z.own,tv:=z.tv,ts:=z.ts }
theorem C64 {N E:Nat} (w':World) (b:Nat) (m:WoH) (a:JA) (cp:Nat) (hc:JsC cp a) (hE:E ≤ 1000) (hg:GI N E a.1 (S6 m a)) (hcp:(S6 m a).c.cp.toNat = cp) (hs:LW false (C3 (jsH b m a)) w' (jsH b m a) w') :
  Fn PR B8 20 #[.pointer (some ⟨b,0,none⟩),.pointer (some ⟨m.b,0,none⟩)] w' (Rn (C3 (jsH b m a)) w' (fun (a':JA) u=> u = L8 (a.1.step (S6 m a)).2.2 ∧ a'.1 = (a.1.step (S6 m a)).1 ∧ S6 m a' = (a.1.step (S6 m a)).2.1 ∧ JsC cp a' ∧ A0U a.2.2.2 a'.2.2.2) (jsH b m)):=by
 have hg':=hg.step
 obtain ⟨j,tv,d,P⟩:=a
 refine (B87 w' b j tv (m.ug d) P (hc.ok hE hg hcp) hg.st hs).mono fun u w'' hr=> ?_
 obtain ⟨y,⟨h1,h2,h3,h4,h5⟩,h6⟩:=hr
 have e2:S6 m ((j.step (m.ug d).ws).1,y.1,d.uz y.2.1,y.2.2) = (j.step (m.ug d).ws).2.1:=h2
 refine ⟨((j.step (m.ug d).ws).1,y.1,d.uz y.2.1,y.2.2),⟨h1,rfl,e2,⟨fun t ht=> ?_,h3,h4⟩,h5.1⟩,h6⟩
 rcases h5.2 t ht with h | h
 ·exact hc.tab t h
 ·rw [h]
  have hj:=hg'.jt
  have ec:(j.step (m.ug d).ws).2.1.c.cp.toNat = cp:=by rw [← e2]; exact hcp
  rw [show S6 m (j,tv,d,P) = (m.ug d).ws from rfl,ec] at hj
  exact hj
theorem D8r {N E:Nat} {S:List Nat} {w0:World} {H Hk:List Res} {X:Nat → Prop} {K:Value → WP} (b:Nat) (m:WoH) (a:JA) (cp:Nat) (hc:JsC cp a) (hE:E ≤ 1000) (hg:GI N E a.1 (S6 m a)) (hcp:(S6 m a).c.cp.toNat = cp) (hs:Sels (jsH b m a ++ Hk) H)
  (hK:∀ a':JA,a'.1 = (a.1.step (S6 m a)).1 → S6 m a' = (a.1.step (S6 m a)).2.1 → JsC cp a' → A0U a.2.2.2 a'.2.2.2 → TW false S w0 (jsH b m a' ++ Hk) (K (L8 (a.1.step (S6 m a)).2.2))) :
  TW false S w0 H (B3 PR X 20 [.pointer (some ⟨b,0,none⟩),.pointer (some ⟨m.b,0,none⟩)] K):=by
 refine Sels.tw hs ?_
 refine C8 (Hc:=jsH b m a) (Hk:=Hk) A0S (fun w' hw' hs=> C64 w' b m a cp hc hE hg hcp hs) (A7A _ _) ?_
 rintro a' v ⟨rfl,k1,k2,k3,k4⟩
 exact hK a' k1 k2 k3 k4
theorem GI.hapOk {N E:Nat} {j:JW} {m:WoH} {x:XH} {a:ActV} (hg:GI N E j m.ws) (hx:XI E x.xs) (hE:E ≤ 1000) (hls:m.ls.length ≤ 8) (ha:a.pool.length ≤ 8):HapOk m x a:=by
 have h1:m.cells.length = _:=hg.ok.cells
 have h2:=hg.ok.wk
 have h3:m.own.length = N:=hg.ow
 have h4:=hg.n
 exact ⟨by omega,by omega,hls,hg.now,hx.now,hx.locks,hx.sh.2,hx.csl,hx.sl,by have:=hx.ep; show 0 ≤ x.xs.ep ∧ x.xs.ep ≤ _; omega,by omega⟩
theorem D4b {N E:Nat} {S:List Nat} {w0:World} {H Hk:List Res} {X:Nat → Prop} {K:Value → WP} (b:Nat) (m:WoH) (a:JA) (x:XH) (ac:ActV) (cp:Nat) (hc:JsC cp a) (hE:E ≤ 1000) (hg:GI N E a.1 (S6 m a)) (hx:XI E x.xs) (ha:ac.pool.length ≤ 8) (hv:∀ w',KS false S w0 w' → F5 w' ac.pv ac.pool.length (ac.pool.flatMap H5))
  (hs:Sels (jsH b m a ++ (G0 x ++ Hk)) H)
  (hK:∀ (a':JA) (x':XH),a'.1 = a.1 → S6 m a' = S8 ac (S6 m a) x.xs → x'.b = x.b → x'.xs = S9 ac x.xs → x'.ts = x.ts → JsC cp a' → A0U a.2.2.2 a'.2.2.2 → TW false S w0 (jsH b m a' ++ (G0 x' ++ Hk)) (K (.tuple #[]))) :
  TW false S w0 H (B3 PR X 44 [.pointer (some ⟨m.b,0,none⟩),.pointer (some ⟨x.b,0,none⟩),ac.val] K):=by
 obtain ⟨j,tv,d,P⟩:=a
 have hls:(m.ug d).ls.length ≤ 8:=by have:=hg.ok.sl; simpa [S6,WoH.ws] using this
 have hperm:∀ (d:WoG) (x:XH),(jsH b m (j,tv,d,P) ++ (G0 x ++ Hk)).Perm ((C6 (m.ug d) ++ G0 x) ++ (G6 b j tv :: M9 P :: Hk)):=fun d x=> by
  simp only [jsH,G3,List.cons_append]
  refine List.Perm.trans ?_ (List.perm_middle (l₁:=C6 (m.ug d) ++ G0 x)).symm
  refine List.Perm.cons _ ?_
  refine List.Perm.trans ?_ (List.perm_middle (l₁:=C6 (m.ug d) ++ G0 x)).symm
  refine List.Perm.cons _ ?_
  rw [List.append_assoc]
 refine Sels.tw hs ?_
 refine TW.perm ?_ (hperm d x)
 refine C8 (Hc:=C6 (m.ug d) ++ G0 x) (Hk:=G6 b j tv :: M9 P :: Hk) A5v (fun w' hw' hs=> C6T w' (m.ug d) x ac (GI.hapOk (j:=j) hg hx hE hls ha) (B4k hv hw') hs) (A7A _ _) ?_
 rintro ⟨d',x'⟩ v ⟨rfl,h1,h2,h3,h4,h5⟩
 refine TW.perm ?_ (hperm d' x').symm
 exact hK (j,tv,d',P) x' rfl h1 h2 h3 h5 ⟨hc.tab,fun t ht=> hc.sub t (by rw [← show d'.ts = d.ts from h4]; exact ht),hc.tb⟩ (fun t ht=> ht)
section
open Instr
variable {X:Nat → Prop} {t0 t1 t2 t3 t4 t5 t6 t7:Value} {R:Value → WP} {w:World}
def A28 (X:Nat → Prop) (a b:Value) (R:Value → WP):WP :=
 A0 PR (build 100 #[(0,a),(1,b)]) fun c=>
 B5 PR X (box 100 c) fun d=>
 R d
theorem A9c:B0 PR 52:=A7 Tryz.func52 (by kernel_rfl) rfl
theorem B0Y (h:A28 X t0 t1 R w):Fn PR X 52 #[t0,t1] w R:=C4 (args := [t0,t1]) mixed Tryz.func52 (by kernel_rfl) h
def w9 (X:Nat → Prop) (a b:Value) (R:Value → WP):WP :=
 drw <|
 A0 PR (B4 a) fun c=>
 A0 PR (fieldAt 100 c 2) fun d=>
 A6 PR (loadAt 3 d) fun e=>
 A0 PR (binOp .lss 3 e (.int .i64 10)) fun f=>
 gj f true (fun J=> J a) fun g=>
 gj f true (fun J=> A0 PR (B4 g) J) fun h=>
 gj f true (fun J=> A0 PR (fieldAt 100 h 2) J) fun i=>
 gj f true (fun J=> A6 PR (loadAt 3 i) J) fun j=>
 gj f true (fun J=> A0 PR (binOp .neq 3 j (.int .i64 3)) J) fun k=>
 gj f true (fun J=> J k) fun l=>
 gj l false (fun J=> J b) fun m=>
 gj l false (fun J=> A0 PR (B4 m) J) fun n=>
 gj l false (fun J=> A0 PR (fieldAt 106 n 4) J) fun o=>
 gj l false (fun J=> A6 PR (loadAt 37 o) J) fun p=>
 gj l false (fun J=> J a) fun q=>
 gj l false (fun J=> J b) fun r=>
 gj l false (fun J=> B3 PR X 114 [q,r] J) fun s=>
 watch PR [((some (l,false)),(loadAt 37 o),p)] <|
 gj l false (fun J=> A0 PR (field 205 s 1) J) fun t=>
 gj l false (fun J=> A0 PR (indexAt 37 p t) J) fun u=>
 gj l false (fun J=> A6 PR (loadAt 3 u) J) fun v=>
 gj l false (fun J=> A0 PR (binOp .lss 3 v (.int .i64 0)) J) fun w=>
 gj f true (fun J=> A0 PR (do pure (if ← asBool l then (.bool true) else w)) J) fun x=>
 A0 PR (do pure (if ← asBool f then x else (.bool false))) fun y=>
 R y
theorem E9:B0 PR 53:=A7 Tryz.func53 (by kernel_rfl) rfl
theorem A45 (h:w9 X t0 t1 R w):Fn PR X 53 #[t0,t1] w R:=C4 (args := [t0,t1]) mixed Tryz.func53 (by kernel_rfl) h
def A0C (X:Nat → Prop) (a b:Value) (R:Value → WP):WP :=
 B5 PR X (alloc 82 true (.tuple #[])) fun d=>
 jn (n:=0) (
 jn (n:=0) (
 B3 PR X 114 [a,b] fun e=>
 B5 PR X (alloc 205 true (.tuple #[])) fun f=>
 C1 PR X (storeAt 205 f e) <|
 A0 PR (B4 a) fun g=>
 A0 PR (fieldAt 100 g 2) fun h=>
 A6 PR (loadAt 3 h) fun i=>
 A0 PR (binOp .add 3 i (.int .i64 1)) fun j=>
 A0 PR (B4 a) fun k=>
 A0 PR (fieldAt 100 k 2) fun l=>
 C1 PR X (storeAt 3 l j) <|
 jn (n:=0) (
 A0 PR (build 82 #[]) fun m=>
 C1 PR X (storeAt 82 d m) <|
 A6 PR (E1 [.c 82 d]) R) fun J1=>
 A0 PR (binOp .eql 3 i (.int .i64 1)) fun o=>
 C0 o (
 drw <|
 A0 PR (B4 b) fun p=>
 A0 PR (fieldAt 106 p 3) fun q=>
 A6 PR (loadAt 37 q) fun r=>
 A0 PR (B4 a) fun s=>
 A0 PR (fieldAt 100 s 0) fun t=>
 A6 PR (loadAt 3 t) fun u=>
 A0 PR (B4 a) fun v=>
 A0 PR (fieldAt 100 v 3) fun w=>
 A6 PR (loadAt 3 w) fun x=>
 A0 PR (binOp .add 3 x (.int .i64 1)) fun y=>
 A0 PR (indexAt 37 r u) fun z=>
 C1 PR X (storeAt 3 z y) <|
 J1) (
 A0 PR (binOp .eql 3 i (.int .i64 2)) fun aa=>
 C0 aa (
 drw <|
 A0 PR (B4 b) fun ab=>
 A0 PR (fieldAt 106 ab 1) fun ac=>
 A6 PR (loadAt 3 ac) fun ad=>
 A0 PR (B4 a) fun ae=>
 A0 PR (fieldAt 100 ae 3) fun af=>
 A6 PR (loadAt 3 af) fun ag=>
 A0 PR (binOp .neq 3 ad ag) fun ah=>
 C0 ah (
 A0 PR (B4 b) fun ai=>
 A0 PR (fieldAt 106 ai 1) fun aj=>
 A6 PR (loadAt 3 aj) fun ak=>
 A0 PR (B4 a) fun al=>
 A0 PR (fieldAt 100 al 3) fun am=>
 C1 PR X (storeAt 3 am ak) <|
 A0 PR (B4 a) fun an=>
 A0 PR (fieldAt 100 an 2) fun ao=>
 C1 PR X (storeAt 3 ao (.int .i64 1)) <|
 J1) (
 J1)) (
 A0 PR (binOp .eql 3 i (.int .i64 3)) fun ap=>
 C0 ap (
 drw <|
 A0 PR (B4 b) fun aq=>
 A0 PR (fieldAt 106 aq 4) fun ar=>
 A6 PR (loadAt 37 ar) fun au=>
 A0 PR (fieldAt 205 f 1) fun av=>
 A6 PR (loadAt 3 av) fun aw=>
 A0 PR (B4 a) fun ax=>
 A0 PR (fieldAt 100 ax 0) fun ay=>
 A6 PR (loadAt 3 ay) fun az=>
 A0 PR (indexAt 37 au aw) fun a0=>
 C1 PR X (storeAt 3 a0 az) <|
 J1) (
 A0 PR (binOp .eql 3 i (.int .i64 4)) fun a1=>
 C0 a1 (
 A0 PR (B4 b) fun a2=>
 A0 PR (fieldAt 106 a2 2) fun a3=>
 A6 PR (loadAt 3 a3) fun a4=>
 A0 PR (binOp .sub 3 a4 (.int .i64 1)) fun a5=>
 A0 PR (B4 a) fun a6=>
 A0 PR (fieldAt 100 a6 4) fun a7=>
 C1 PR X (storeAt 3 a7 a5) <|
 A0 PR (B4 b) fun a8=>
 A0 PR (fieldAt 106 a8 9) fun a9=>
 A6 PR (loadAt 3 a9) fun ba=>
 A0 PR (B4 a) fun bb=>
 A0 PR (fieldAt 100 bb 5) fun bc=>
 C1 PR X (storeAt 3 bc ba) <|
 A0 PR (build 82 #[(0,(.bool true))]) fun bd=>
 C1 PR X (storeAt 82 d bd) <|
 A6 PR (E1 [.c 82 d]) R) (
 A0 PR (binOp .eql 3 i (.int .i64 5)) fun be=>
 C0 be (
 drw <|
 A0 PR (B4 b) fun bf=>
 A0 PR (fieldAt 106 bf 7) fun bg=>
 A6 PR (loadAt 36 bg) fun bh=>
 A0 PR (fieldAt 205 f 1) fun bi=>
 A6 PR (loadAt 3 bi) fun bj=>
 A0 PR (indexAt 36 bh bj) fun bk=>
 A6 PR (loadAt 84 bk) fun bl=>
 A0 PR (B4 a) fun bm=>
 A0 PR (fieldAt 100 bm 6) fun bn=>
 C1 PR X (storeAt 84 bn bl) <|
 J1) (
 A0 PR (binOp .eql 3 i (.int .i64 6)) fun bo=>
 C0 bo (
 B3 PR X 116 [a,b] fun bp=>
 C1 PR X (storeAt 82 d bp) <|
 A6 PR (E1 [.c 82 d]) R) (
 A0 PR (binOp .eql 3 i (.int .i64 7)) fun bq=>
 C0 bq (
 drw <|
 A0 PR (B4 b) fun br=>
 A0 PR (fieldAt 106 br 7) fun bs=>
 A6 PR (loadAt 36 bs) fun bt=>
 A0 PR (fieldAt 205 f 1) fun bu=>
 A6 PR (loadAt 3 bu) fun bv=>
 A0 PR (B4 a) fun bw=>
 A0 PR (fieldAt 100 bw 6) fun bx=>
 A6 PR (loadAt 84 bx) fun bz=>
 A0 PR (indexAt 36 bt bv) fun b0=>
 C1 PR X (storeAt 84 b0 bz) <|
 J1) (
 A0 PR (binOp .eql 3 i (.int .i64 8)) fun b1=>
 C0 b1 (
 drw <|
 A0 PR (B4 b) fun b2=>
 A0 PR (fieldAt 106 b2 4) fun b3=>
 A6 PR (loadAt 37 b3) fun b4=>
 A0 PR (fieldAt 205 f 1) fun b5=>
 A6 PR (loadAt 3 b5) fun b6=>
 A0 PR (indexAt 37 b4 b6) fun b7=>
 C1 PR X (storeAt 3 b7 (.int .i64 (-1))) <|
 J1) (
 A0 PR (binOp .eql 3 i (.int .i64 9)) fun b8=>
 C0 b8 (
 drw <|
 A0 PR (B4 b) fun b9=>
 A0 PR (fieldAt 106 b9 3) fun ca=>
 A6 PR (loadAt 37 ca) fun cb=>
 A0 PR (B4 a) fun cc=>
 A0 PR (fieldAt 100 cc 0) fun cd=>
 A6 PR (loadAt 3 cd) fun ce=>
 A0 PR (indexAt 37 cb ce) fun cf=>
 C1 PR X (storeAt 3 cf (.int .i64 0)) <|
 A0 PR (build 82 #[(1,(.bool true))]) fun cg=>
 C1 PR X (storeAt 82 d cg) <|
 A6 PR (E1 [.c 82 d]) R) (
 J1)))))))))) fun J2=>
 A0 PR (B4 a) fun ch=>
 A0 PR (fieldAt 100 ch 2) fun ci=>
 A6 PR (loadAt 3 ci) fun cj=>
 A0 PR (binOp .eql 3 cj (.int .i64 0)) fun ck=>
 C0 ck (
 B3 PR X 115 [a,b] fun cl=>
 C1 PR X (storeAt 82 d cl) <|
 A6 PR (E1 [.c 82 d]) R) (
 J2)) fun J3=>
 B3 PR X 53 [a,b] fun cm=>
 A0 PR (Op.unary .not cm) fun cn=>
 C0 cn (
 A0 PR (build 82 #[]) fun co=>
 C1 PR X (storeAt 82 d co) <|
 A6 PR (E1 [.c 82 d]) R) (
 J3)
theorem A5C:B0 PR 54:=A7 Tryz.func54 (by kernel_rfl) rfl
theorem A5M (h:A0C X t0 t1 R w):Fn PR X 54 #[t0,t1] w R:=C4 (args := [t0,t1]) mixed Tryz.func54 (by kernel_rfl) h
def A0G (X:Nat → Prop) (a b:Value) (R:Value → WP):WP :=
 B5 PR X (alloc 205 true (.tuple #[])) fun d=>
 drw <|
 A0 PR (B4 a) fun e=>
 A0 PR (fieldAt 100 e 1) fun f=>
 A6 PR (loadAt 9 f) fun g=>
 A0 PR (B4 b) fun h=>
 A0 PR (fieldAt 106 h 0) fun i=>
 A0 PR (fieldAt 23 i 1) fun j=>
 A6 PR (loadAt 3 j) fun k=>
 B3 PR X 163 [g,k] fun l=>
 C1 PR X (storeAt 205 d l) <|
 A6 PR (E1 [.c 205 d]) R
theorem E3:B0 PR 114:=A7 Tryz.func114 (by kernel_rfl) rfl
theorem A5Q (h:A0G X t0 t1 R w):Fn PR X 114 #[t0,t1] w R:=C4 (args := [t0,t1]) mixed Tryz.func114 (by kernel_rfl) h
def w8 (X:Nat → Prop) (a b:Value) (R:Value → WP):WP :=
 B5 PR X (alloc 82 true (.tuple #[])) fun d=>
 jn (n:=0) (
 B3 PR X 114 [a,b] fun e=>
 B5 PR X (alloc 205 true (.tuple #[])) fun f=>
 C1 PR X (storeAt 205 f e) <|
 jn (n:=0) (
 A0 PR (B4 b) fun g=>
 A0 PR (fieldAt 106 g 1) fun h=>
 A6 PR (loadAt 3 h) fun i=>
 A0 PR (B4 a) fun j=>
 A0 PR (fieldAt 100 j 3) fun k=>
 C1 PR X (storeAt 3 k i) <|
 A0 PR (B4 a) fun l=>
 A0 PR (fieldAt 100 l 2) fun m=>
 C1 PR X (storeAt 3 m (.int .i64 1)) <|
 A0 PR (build 82 #[]) fun o=>
 C1 PR X (storeAt 82 d o) <|
 A6 PR (E1 [.c 82 d]) R) fun J1=>
 A0 PR (fieldAt 205 f 3) fun p=>
 A6 PR (loadAt 27 p) fun q=>
 A0 PR (binOp .neq 27 q (.int .i64 0)) fun r=>
 C0 r (
 A0 PR (fieldAt 205 f 3) fun s=>
 A6 PR (loadAt 27 s) fun t=>
 B3 PR X 164 [a,t] fun u=>
 C1 PR X (storeAt 82 d u) <|
 A6 PR (E1 [.c 82 d]) R) (
 J1)) fun J2=>
 drw <|
 A0 PR (B4 a) fun v=>
 A0 PR (fieldAt 100 v 0) fun w=>
 A6 PR (loadAt 3 w) fun x=>
 A0 PR (binOp .lss 3 x (.int .i64 1)) fun y=>
 gj y false (fun J=> J a) fun z=>
 gj y false (fun J=> A0 PR (B4 z) J) fun aa=>
 gj y false (fun J=> A0 PR (fieldAt 100 aa 0) J) fun ab=>
 gj y false (fun J=> A6 PR (loadAt 3 ab) J) fun ac=>
 gj y false (fun J=> J b) fun ad=>
 gj y false (fun J=> A0 PR (B4 ad) J) fun ae=>
 gj y false (fun J=> A0 PR (fieldAt 106 ae 0) J) fun af=>
 gj y false (fun J=> A0 PR (fieldAt 23 af 0) J) fun ag=>
 gj y false (fun J=> A6 PR (loadAt 3 ag) J) fun ah=>
 gj y false (fun J=> A0 PR (binOp .gtr 3 ac ah) J) fun ai=>
 A0 PR (do pure (if ← asBool y then (.bool true) else ai)) fun aj=>
 C0 aj (
 B3 PR X 164 [a,(.int .i64 1)] fun ak=>
 C1 PR X (storeAt 82 d ak) <|
 A6 PR (E1 [.c 82 d]) R) (
 J2)
theorem A4W:B0 PR 115:=A7 Tryz.func115 (by kernel_rfl) rfl
theorem A4w (h:w8 X t0 t1 R w):Fn PR X 115 #[t0,t1] w R:=C4 (args := [t0,t1]) mixed Tryz.func115 (by kernel_rfl) h
def u5 (X:Nat → Prop) (a b:Value) (R:Value → WP):WP :=
 B5 PR X (alloc 82 true (.tuple #[])) fun d=>
 B3 PR X 114 [a,b] fun e=>
 B5 PR X (alloc 205 true (.tuple #[])) fun f=>
 C1 PR X (storeAt 205 f e) <|
 drw <|
 A0 PR (B4 a) fun g=>
 A0 PR (fieldAt 100 g 4) fun h=>
 A6 PR (loadAt 3 h) fun i=>
 A0 PR (binOp .geq 3 i (.int .i64 0)) fun j=>
 gj j true (fun J=> J b) fun k=>
 gj j true (fun J=> A0 PR (B4 k) J) fun l=>
 gj j true (fun J=> A0 PR (fieldAt 106 l 5) J) fun m=>
 gj j true (fun J=> A6 PR (loadAt 103 m) J) fun o=>
 gj j true (fun J=> J a) fun p=>
 gj j true (fun J=> A0 PR (B4 p) J) fun q=>
 gj j true (fun J=> A0 PR (fieldAt 100 q 4) J) fun r=>
 gj j true (fun J=> A6 PR (loadAt 3 r) J) fun s=>
 gj j true (fun J=> B3 PR X 158 [o,s] J) fun t=>
 gj j true (fun J=> A0 PR (Op.unary .not t) J) fun u=>
 A0 PR (do pure (if ← asBool j then u else (.bool false))) fun v=>
 jn (n:=1) (fun w=>
 drw <|
 A0 PR (B4 a) fun x=>
 A0 PR (fieldAt 100 x 6) fun y=>
 A6 PR (loadAt 84 y) fun z=>
 A0 PR (fieldAt 205 f 0) fun aa=>
 A6 PR (loadAt 9 aa) fun ab=>
 A0 PR (fieldAt 205 f 2) fun ac=>
 A6 PR (loadAt 4 ac) fun ad=>
 A0 PR (B4 a) fun ae=>
 A0 PR (fieldAt 100 ae 5) fun af=>
 A6 PR (loadAt 3 af) fun ag=>
 A0 PR (B4 b) fun ah=>
 A0 PR (fieldAt 106 ah 0) fun ai=>
 A0 PR (fieldAt 23 ai 3) fun aj=>
 A6 PR (loadAt 3 aj) fun ak=>
 B3 PR X 165 [z,w,ab,ad,ag,ak] fun al=>
 A0 PR (extract al 0) fun am=>
 A0 PR (extract al 1) fun an=>
 A0 PR (B4 a) fun ao=>
 A0 PR (fieldAt 100 ao 6) fun ap=>
 C1 PR X (storeAt 84 ap am) <|
 A0 PR (B4 a) fun aq=>
 A0 PR (fieldAt 100 aq 7) fun ar=>
 C1 PR X (storeAt 55 ar an) <|
 A0 PR (build 82 #[(2,v)]) fun au=>
 C1 PR X (storeAt 82 d au) <|
 A6 PR (E1 [.c 82 d]) R) fun J1=>
 A0 PR (B4 a) fun av=>
 A0 PR (fieldAt 100 av 4) fun aw=>
 A6 PR (loadAt 3 aw) fun ax=>
 A0 PR (binOp .geq 3 ax (.int .i64 0)) fun ay=>
 gj ay true (fun J=> J v) fun az=>
 gj ay true (fun J=> A0 PR (Op.unary .not az) J) fun a0=>
 A0 PR (do pure (if ← asBool ay then a0 else (.bool false))) fun a1=>
 C0 a1 (
 drw <|
 A0 PR (B4 b) fun a2=>
 A0 PR (fieldAt 106 a2 5) fun a3=>
 A6 PR (loadAt 103 a3) fun a4=>
 A0 PR (B4 a) fun a5=>
 A0 PR (fieldAt 100 a5 4) fun a6=>
 A6 PR (loadAt 3 a6) fun a7=>
 A0 PR (indexAt 103 a4 a7) fun a8=>
 A0 PR (fieldAt 270 a8 1) fun a9=>
 A6 PR (loadAt 58 a9) fun ba=>
 J1 ba) (
 J1 (.slice none 0 0))
theorem A3z:B0 PR 116:=A7 Tryz.func116 (by kernel_rfl) rfl
theorem A4a (h:u5 X t0 t1 R w):Fn PR X 116 #[t0,t1] w R:=C4 (args := [t0,t1]) mixed Tryz.func116 (by kernel_rfl) h
def A0e (X:Nat → Prop) (a b:Value) (R:Value → WP):WP :=
 B5 PR X (alloc 82 true (.tuple #[])) fun d=>
 A0 PR (B4 a) fun e=>
 A0 PR (fieldAt 100 e 2) fun f=>
 C1 PR X (storeAt 3 f (.int .i64 10)) <|
 A0 PR (build 55 #[(0,b)]) fun g=>
 A0 PR (B4 a) fun h=>
 A0 PR (fieldAt 100 h 7) fun i=>
 C1 PR X (storeAt 55 i g) <|
 A0 PR (build 82 #[(0,(.bool true)),(1,(.bool true))]) fun j=>
 C1 PR X (storeAt 82 d j) <|
 A6 PR (E1 [.c 82 d]) R
theorem a8:B0 PR 164:=A7 Tryz.func164 (by kernel_rfl) rfl
theorem A5u (h:A0e X t0 t1 R w):Fn PR X 164 #[t0,t1] w R:=C4 (args := [t0,t1]) mixed Tryz.func164 (by kernel_rfl) h
end
structure XRel (x:WS) (y:XS):Prop where
 c:y.c = x.c
 ep:y.ep = D3 x.cells 0
 cur:y.cur = D3 x.cells 1
 pl:(y.pins.length:Int) = x.c.wk + 1
 pins:∀ i:Nat,1 ≤ i → (i:Int) ≤ x.c.wk → y.pins.getD i 0 = D3 x.cells (1 + i)
 locks:y.locks = x.own
 sl:rsV y.sl = x.sl
 keep:y.keep = x.keep
 tabs:y.tabs = x.tabs
 places:y.pl = x.places
 now:y.now = x.now
def A2d (x:WS):Prop := ∀ i:Nat,i < x.own.length → x.own.getD i 0 < 0 → x.own.getD i 0 = -1
theorem B79 (l:List U5) (i:Int) (r:U5):rsV (A1D l i r) = A0W (rsV l) i r.1:=by
 unfold A1D A0W rsV
 rw [List.length_map]
 by_cases c:0 ≤ i ∧ i < l.length
 ·rw [if_pos c,if_pos c,List.map_set]
 ·rw [if_neg c,if_neg c]
theorem C9L (l:List U5) (i:Int) (p:List F8) (q:Option Addr × Nat × Nat):rsV (m8 l i p q) = A06 (rsV l) i p:=by
 unfold m8 flR B6F A06
 cases h:K3 (rsV l) i with
 | no=> simp
 | rdy p=> simp
 | bld=>
  by_cases c:Q3 p = 0
  ·simp [c,B79]
  ·simp [c]
theorem D1r (l:List U5) (i:Int) (p:List F8) (q:Option Addr × Nat × Nat):rsV (if l2 l.length i then m8 (T0 l i) i p q else l) = A06 (A0W (rsV l) i .bld) i p:=by
 cases h:l2 l.length i with
 | true=> rw [if_pos rfl,C9L]; unfold T0; rw [B79]
 | false=>
  rw [if_neg (by simp)]
  have hn:¬ (0 ≤ i ∧ i < (rsV l).length):=by
   intro g
   rw [show (rsV l).length = l.length from List.length_map _] at g
   simp [l2] at h; omega
  unfold A06 K3 A0W
  rw [if_neg hn,if_neg hn]
theorem XRel.hap {x:WS} {y:XS} (h:XRel x y) (hok:WsOk x) (hf:A2d x) (hep:0 ≤ D3 x.cells 0 ∧ D3 x.cells 0 ≤ 1000000) (a:ActV) (hsh:(x.own.length:Int) = x.c.sh):XRel (S8 a x y) (S9 a y) ∧ A2d (S8 a x y):=by
 have hcl:=hok.cells
 have hwk:=hok.wk
 unfold S8 S9
 by_cases k1:a.k = 1
 ·rw [if_pos k1,if_pos k1]
  have e0:D3 (N0 x.cells 0 (IntKind.i64.wrap (D3 x.cells 0 + 1))) 0 = D3 x.cells 0 + 1:=by
   rw [A27,if_pos (by omega)]; exact N3 (by omega) (by omega)
  exact ⟨{ h with ep:=by simp only; rw [e0,h.ep],cur:=by simp only; rw [W2 _ _ (by omega)]; exact h.cur,pins:=fun i h1 h2=> by simp only; rw [W2 _ _ (by omega)]; exact h.pins i h1 h2 },hf⟩
 rw [if_neg k1,if_neg k1]
 by_cases k2:a.k = 2
 ·rw [if_pos k2,if_pos k2]
  by_cases c:(0 ≤ a.n ∧ a.n < y.c.sh) ∧ y.locks.getD a.n.toNat 0 < 0
  case neg=> rw [if_neg c,if_neg c]; exact ⟨h,hf⟩
  rw [if_pos c,if_pos c]
  obtain ⟨n,hn⟩:∃ n:Nat,a.n = n:=⟨a.n.toNat,by omega⟩
  rw [hn,h.c,h.locks,Int.toNat_natCast] at c
  have hnl:n < x.own.length:=by omega
  have hlo:Y4 x.own a.n 99 = x.own.set n 99:=by
   unfold Y4; rw [if_pos (by omega),hn,A0P hnl,if_pos (hf n hnl c.2)]
  refine ⟨{ h with locks:=by simp only; rw [hlo,hn,Int.toNat_natCast,h.locks] },fun i hi g=> ?_⟩
  simp only [hlo,List.length_set] at hi g ⊢
  rw [S0 (by omega)] at g ⊢
  by_cases d:n = i
  ·rw [if_pos d] at g; omega
  ·rw [if_neg d] at g ⊢; exact hf i hi g
 rw [if_neg k2,if_neg k2]
 by_cases k3:a.k = 3
 ·rw [if_pos k3,if_pos k3]
  by_cases c:(0 ≤ a.n ∧ a.n < y.c.sh) ∧ y.locks.getD a.n.toNat 0 = 99
  case neg=> rw [if_neg c,if_neg c]; exact ⟨h,hf⟩
  rw [if_pos c,if_pos c]
  obtain ⟨n,hn⟩:∃ n:Nat,a.n = n:=⟨a.n.toNat,by omega⟩
  rw [hn,h.c,h.locks,Int.toNat_natCast] at c
  have hnl:n < x.own.length:=by omega
  have hlo:N9 x.own a.n 99 = x.own.set n (-1):=by
   unfold N9; rw [if_pos (by omega),hn,A0P hnl,if_pos c.2]
  refine ⟨{ h with locks:=by simp only; rw [hlo,hn,Int.toNat_natCast,h.locks] },fun i hi g=> ?_⟩
  simp only [hlo,List.length_set] at hi g ⊢
  rw [S0 (by omega)] at g ⊢
  by_cases d:n = i
  ·rw [if_pos d]
  ·rw [if_neg d] at g ⊢; exact hf i hi g
 rw [if_neg k3,if_neg k3]
 by_cases k4:a.k = 4
 ·rw [if_pos k4,if_pos k4]
  exact ⟨{ h with sl:=by simp only; rw [D1r,h.sl] },hf⟩
 rw [if_neg k4,if_neg k4]
 by_cases k5:a.k = 5
 ·rw [if_pos k5,if_pos k5]
  exact ⟨{ h with sl:=by simp only; unfold u6; rw [B79,h.sl]; rfl },hf⟩
 rw [if_neg k5,if_neg k5]
 by_cases k6:a.k = 6
 ·rw [if_pos k6,if_pos k6]
  by_cases c : -1 ≤ a.n ∧ a.n < y.c.sl
  case neg=> rw [if_neg c,if_neg c]; exact ⟨h,hf⟩
  rw [if_pos c,if_pos c]
  exact ⟨{ h with ep:=by simp only; rw [W2 _ _ (by omega)]; exact h.ep,cur:=by simp only; rw [A27,if_pos (by omega)],pins:=fun i h1 h2=> by simp only; rw [W2 _ _ (by omega)]; exact h.pins i h1 h2 },hf⟩
 rw [if_neg k6,if_neg k6]
 by_cases k7:a.k = 7
 ·rw [if_pos k7,if_pos k7]
  exact ⟨{ h with now:=by simp only; rw [h.now] },hf⟩
 rw [if_neg k7,if_neg k7]
 exact ⟨h,hf⟩
def stX (q:Nat) (j:JW) (y:XS):XS :=
 match q with
 | 1=> { y with pins:=y.pins.set j.who.toNat (j.ep + 1) }
 | 3=> { y with locks:=y.locks.set j.shard.toNat j.who }
 | 7=> { y with tabs:=y.tabs.set j.shard.toNat j.table }
 | 8=> { y with locks:=y.locks.set j.shard.toNat (-1) }
 | 9=> { y with pins:=y.pins.set j.who.toNat 0 }
 | _=> y
structure JobX (N:Nat) (j:JW) (x:WS):Prop where
 pin:1 ≤ j.st → j.st < 10 → 1 ≤ j.who ∧ j.who ≤ x.c.wk
 own:4 ≤ j.st → j.st ≤ 8 → x.own.getD j.shard.toNat 0 = j.who
theorem XRel.stage {N E:Nat} {j:JW} {x:WS} {y:XS} (h:XRel x y) (hf:A2d x) (hg:GI N E j x) (hE:E ≤ 1000) (hj:JobX N j x) (q:Nat) (hq:q < 10) (hs:j.st = (q:Nat)) (hr:j.ready x = true) :
  XRel (D0 q { j with st:=j.st + 1 } x).2.1 (stX q j y) ∧ A2d (D0 q { j with st:=j.st + 1 } x).2.1 ∧ JobX N (D0 q { j with st:=j.st + 1 } x).1 (D0 q { j with st:=j.st + 1 } x).2.1:=by
 have hcase:q = 0 ∨ q = 1 ∨ q = 2 ∨ q = 3 ∨ q = 4 ∨ q = 5 ∨ q = 6 ∨ q = 7 ∨ q = 8 ∨ q = 9:=by omega
 have hcl:=hg.ok.cells
 have hwk:=hg.ok.wk
 have how:=hg.ow
 have hsd:=hg.shard
 have hje:=hg.jep
 have hpl:=h.pl
 have hn:=hg.n
 have hpin:=hj.pin
 have hown:=hj.own
 obtain ⟨sd,hsd2⟩:∃ n:Nat,j.shard = n:=⟨j.shard.toNat,by omega⟩
 rcases hcase with rfl | rfl | rfl | rfl | rfl | rfl | rfl | rfl | rfl | rfl
 ·show XRel (l3 _ x).2.1 y ∧ A2d (l3 _ x).2.1 ∧ JobX N (l3 _ x).1 (l3 _ x).2.1
  unfold l3
  by_cases c1:G5 x.c j.who < 0
  ·rw [if_pos c1]; exact ⟨h,hf,fun _ (g:(10:Int) < 10)=> by omega,fun _ (g:(10:Int) ≤ 8)=> by omega⟩
  rw [if_neg c1]
  by_cases c2:(D1 j.text).2.2 = 0
  ·rw [if_neg (by simpa using c2)]
   refine ⟨h,hf,fun _ _=> ?_,fun (g:4 ≤ j.st + 1)=> by omega⟩
   simp only [JW.rd]
   unfold G5 at c1; split at c1 <;> omega
  ·rw [if_pos c2]; exact ⟨h,hf,fun _ (g:(10:Int) < 10)=> by omega,fun _ (g:(10:Int) ≤ 8)=> by omega⟩
 ·have hp:=hpin (by omega) (by omega)
  obtain ⟨w,hw⟩:∃ n:Nat,j.who = n:=⟨j.who.toNat,by omega⟩
  have hpi:G5 x.c j.who = 1 + (w:Nat):=by unfold G5; rw [if_neg (by omega),hw]
  rw [show D0 1 { j with st:=j.st + 1 } x = ({ j with st:=j.st + 1 },{ x with cells:=N0 x.cells (G5 x.c j.who) (IntKind.i64.wrap (j.ep + 1)) },noT) from rfl,N3 (by omega) (by omega),hpi]
  refine ⟨{ h with ep:=by simp only [stX]; rw [W2 _ _ (by omega)]; exact h.ep,cur:=by simp only [stX]; rw [W2 _ _ (by omega)]; exact h.cur,pl:=by simp only [stX,List.length_set]; exact h.pl,pins:=fun i h1 h2=> ?_ },hf,fun _ _=> hp,fun (g:4 ≤ j.st + 1)=> by omega⟩
  simp only [stX,hw,Int.toNat_natCast]
  rw [S0 (by omega),B4c]
  by_cases d:w = i
  ·rw [if_pos d,if_pos (by omega)]
  ·rw [if_neg d,if_neg (by omega)]; exact h.pins i h1 h2
 ·have hp:=hpin (by omega) (by omega)
  show XRel (u9 _ x).2.1 y ∧ A2d (u9 _ x).2.1 ∧ JobX N (u9 _ x).1 (u9 _ x).2.1
  unfold u9
  split
  ·exact ⟨h,hf,fun _ _=> hp,fun (g:4 ≤ j.st + 1)=> by omega⟩
  ·exact ⟨h,hf,fun _ _=> hp,fun (g:(4:Int) ≤ 1)=> by omega⟩
 ·have hp:=hpin (by omega) (by omega)
  have hnl:sd < x.own.length:=by omega
  have hfr:x.own.getD sd 0 = -1:=by
   refine hf sd hnl ?_
   unfold JW.ready at hr
   rw [hs,hsd2,C0y hnl] at hr
   simpa using hr
  have hlo:Y4 x.own j.shard j.who = x.own.set sd j.who:=by
   unfold Y4; rw [if_pos (by omega),hsd2,A0P hnl,if_pos hfr]
  rw [show D0 3 { j with st:=j.st + 1 } x = ({ j with st:=j.st + 1 },{ x with own:=Y4 x.own j.shard j.who },noT) from rfl,hlo]
  refine ⟨{ h with locks:=by simp only [stX,hsd2,Int.toNat_natCast]; rw [h.locks] },fun i hi g=> ?_,fun _ _=> hp,fun _ _=> ?_⟩
  ·simp only [List.length_set] at hi g ⊢
   rw [S0 (by omega)] at g ⊢
   by_cases d:sd = i
   ·rw [if_pos d] at g; omega
   ·rw [if_neg d] at g ⊢; exact hf i hi g
  ·simp only [hsd2,Int.toNat_natCast]
   rw [S0 (by omega),if_pos rfl]
 ·have hp:=hpin (by omega) (by omega)
  have ho:=hown (by omega) (by omega)
  exact ⟨h,hf,fun _ _=> hp,fun _ _=> ho⟩
 ·have hp:=hpin (by omega) (by omega)
  have ho:=hown (by omega) (by omega)
  exact ⟨h,hf,fun _ _=> hp,fun _ _=> ho⟩
 ·have hp:=hpin (by omega) (by omega)
  have ho:=hown (by omega) (by omega)
  exact ⟨h,hf,fun _ _=> hp,fun _ _=> ho⟩
 ·have hp:=hpin (by omega) (by omega)
  have ho:=hown (by omega) (by omega)
  exact ⟨{ h with tabs:=by show y.tabs.set _ _ = x.tabs.set _ _; rw [h.tabs] },hf,fun _ _=> hp,fun _ _=> ho⟩
 ·have hp:=hpin (by omega) (by omega)
  have ho:=hown (by omega) (by omega)
  have hnl:sd < x.own.length:=by omega
  rw [hsd2,Int.toNat_natCast] at ho
  have hlo:N9 x.own j.shard j.who = x.own.set sd (-1):=by
   unfold N9; rw [if_pos (by omega),hsd2,A0P hnl,if_pos ho]
  rw [show D0 8 { j with st:=j.st + 1 } x = ({ j with st:=j.st + 1 },{ x with own:=N9 x.own j.shard j.who },noT) from rfl,hlo]
  refine ⟨{ h with locks:=by simp only [stX,hsd2,Int.toNat_natCast]; rw [h.locks] },fun i hi g=> ?_,fun _ _=> hp,fun _ (g:j.st + 1 ≤ 8)=> by omega⟩
  simp only [List.length_set] at hi g ⊢
  rw [S0 (by omega)] at g ⊢
  by_cases d:sd = i
  ·rw [if_pos d]
  ·rw [if_neg d] at g ⊢; exact hf i hi g
 ·have hp:=hpin (by omega) (by omega)
  obtain ⟨w,hw⟩:∃ n:Nat,j.who = n:=⟨j.who.toNat,by omega⟩
  have hpi:G5 x.c j.who = 1 + (w:Nat):=by unfold G5; rw [if_neg (by omega),hw]
  rw [show D0 9 { j with st:=j.st + 1 } x = ({ j with st:=j.st + 1 },{ x with cells:=N0 x.cells (G5 x.c j.who) 0 },false,true,false) from rfl,hpi]
  refine ⟨{ h with ep:=by simp only [stX]; rw [W2 _ _ (by omega)]; exact h.ep,cur:=by simp only [stX]; rw [W2 _ _ (by omega)]; exact h.cur,pl:=by simp only [stX,List.length_set]; exact h.pl,pins:=fun i h1 h2=> ?_ },hf,fun _ (g:j.st + 1 < 10)=> by omega,fun _ (g:j.st + 1 ≤ 8)=> by omega⟩
  simp only [stX,hw,Int.toNat_natCast]
  rw [S0 (by omega),B4c]
  by_cases d:w = i
  ·rw [if_pos d,if_pos (by omega)]
  ·rw [if_neg d,if_neg (by omega)]; exact h.pins i h1 h2
theorem JobX.hap {N:Nat} {j:JW} {x:WS} {y:XS} (h:JobX N j x) (hr:XRel x y) (hf:A2d x) (hwk:x.c.wk ≤ 64) (a:ActV) (hsh:(x.own.length:Int) = x.c.sh) (hsd:0 ≤ j.shard ∧ j.shard < x.c.sh):JobX N j (S8 a x y):=by
 have hpin:=h.pin
 have hown:=h.own
 obtain ⟨sd,hsd2⟩:∃ n:Nat,j.shard = n:=⟨j.shard.toNat,by omega⟩
 unfold S8
 by_cases k1:a.k = 1
 ·rw [if_pos k1]; exact ⟨hpin,hown⟩
 rw [if_neg k1]
 by_cases k2:a.k = 2
 ·rw [if_pos k2]
  by_cases c:(0 ≤ a.n ∧ a.n < y.c.sh) ∧ y.locks.getD a.n.toNat 0 < 0
  case neg=> rw [if_neg c]; exact h
  rw [if_pos c]
  obtain ⟨n,hn⟩:∃ n:Nat,a.n = n:=⟨a.n.toNat,by omega⟩
  rw [hn,hr.c,hr.locks,Int.toNat_natCast] at c
  have hnl:n < x.own.length:=by omega
  have hlo:Y4 x.own a.n 99 = x.own.set n 99:=by
   unfold Y4; rw [if_pos (by omega),hn,A0P hnl,if_pos (hf n hnl c.2)]
  refine ⟨hpin,fun g1 g2=> ?_⟩
  have hp:=hpin (by omega) (by omega)
  have ho:=hown g1 g2
  rw [hsd2,Int.toNat_natCast] at ho ⊢
  simp only [hlo]
  rw [S0 (by omega)]
  by_cases d:n = sd
  ·subst d; omega
  ·rw [if_neg d]; exact ho
 rw [if_neg k2]
 by_cases k3:a.k = 3
 ·rw [if_pos k3]
  by_cases c:(0 ≤ a.n ∧ a.n < y.c.sh) ∧ y.locks.getD a.n.toNat 0 = 99
  case neg=> rw [if_neg c]; exact h
  rw [if_pos c]
  obtain ⟨n,hn⟩:∃ n:Nat,a.n = n:=⟨a.n.toNat,by omega⟩
  rw [hn,hr.c,hr.locks,Int.toNat_natCast] at c
  have hnl:n < x.own.length:=by omega
  have hlo:N9 x.own a.n 99 = x.own.set n (-1):=by
   unfold N9; rw [if_pos (by omega),hn,A0P hnl,if_pos c.2]
  refine ⟨hpin,fun g1 g2=> ?_⟩
  have hp:=hpin (by omega) (by omega)
  have ho:=hown g1 g2
  rw [hsd2,Int.toNat_natCast] at ho ⊢
  simp only [hlo]
  rw [S0 (by omega)]
  by_cases d:n = sd
  ·subst d; omega
  ·rw [if_neg d]; exact ho
 rw [if_neg k3]
 by_cases k4:a.k = 4
 ·rw [if_pos k4]; exact ⟨hpin,hown⟩
 rw [if_neg k4]
 by_cases k5:a.k = 5
 ·rw [if_pos k5]; exact ⟨hpin,hown⟩
 rw [if_neg k5]
 by_cases k6:a.k = 6
 ·rw [if_pos k6]; split
  ·exact ⟨hpin,hown⟩
  ·exact h
 rw [if_neg k6]
 by_cases k7:a.k = 7
 ·rw [if_pos k7]; exact ⟨hpin,hown⟩
 rw [if_neg k7]; exact h
theorem XRel.new {c:CfgV} (hok:Q8 c = true) {y:XS} (h1:y.c = c) (h2:y.ep = 0) (h3:y.cur = 0) (h4:y.pins = List.replicate (c.wk.toNat + 1) 0) (h5:y.locks = List.replicate c.sh.toNat (-1)) (h6:y.sl = List.replicate c.sl.toNat noR) (h7:y.keep = List.replicate c.sl.toNat (0,0))
  (h8:y.tabs = List.replicate c.sh.toNat (newE c.cp.toNat)) (h9:y.pl = List.replicate c.sh.toNat 0) (h10:y.now = 0):XRel (N2 c) y ∧ A2d (N2 c):=by
 simp only [Q8,k9,Bool.and_eq_true,decide_eq_true_eq] at hok
 refine ⟨⟨h1,by rw [h2]; exact (A1B _ _).symm,by rw [h3]; exact (A1B _ _).symm,by rw [h4,List.length_replicate]; show _ = c.wk + 1; omega,fun i _ g=> ?_,h5,by rw [h6]; simp [N2,rsV,noR],h7,h8,h9,h10⟩,fun i hi _=> ?_⟩
 ·rw [h4]
  have g:(i:Int) ≤ c.wk:=g
  rw [show D3 (N2 c).cells (1 + i) = 0 from A1B _ _,List.getD_eq_getElem?_getD,List.getElem?_replicate_of_lt (by omega)]; rfl
 ·have hi:i < c.sh.toNat:=by simpa [N2] using hi
  show (List.replicate c.sh.toNat (-1:Int)).getD i 0 = -1
  rw [List.getD_eq_getElem?_getD,List.getElem?_replicate_of_lt hi]; rfl
theorem JobX.new (N:Nat) (who:Int) (text:ByteArray) (x:WS):JobX N (G4 who text) x:=⟨fun h=> by simp [G4] at h,fun h=> by simp [G4] at h⟩
section
variable {κ:Bool} {S:List Nat} {w0:World} {H:List Res} {K0:WP} {l:List Rd}
@[simp] theorem D67 {s:Sem Value} {v:Value} {c:Bool}:TW κ S w0 H (watch PR ((some (undef,c),s,v) :: l) K0) = TW κ S w0 H (watch PR l K0):=propext ⟨fun h w hw=> (h w hw).2,fun h' w hw=> ⟨fun e=> (by cases e),h' w hw⟩⟩
@[simp] theorem D5W {s:Sem Value} {v:Value}:TW κ S w0 H (watch PR ((some (.bool true,false),s,v) :: l) K0) = TW κ S w0 H (watch PR l K0):=A4z fun h=> by cases h
@[simp] theorem D3Q {t:TypeId} {z:Value} [h:TS t z] {b o:Nat} {v:Value} {x y:Bool} (hc:w0.cell? ⟨b,o,none⟩ = some v) (hS:b ∉ S) :
  TW κ S w0 H (watch PR ((some (.bool x,y),Instr.loadAt t (.pointer (some ⟨b,o,none⟩)),v) :: l) K0) = TW κ S w0 H (watch PR l K0):=let ⟨_,_,h,hd⟩:=h.ti; A4z fun _ w hw=> x6 h hd (hw.ks.cell hS hc)
end
@[simp] theorem D9n (a b c d:Value) (K:Value → WP):A0 PR (Instr.field 205 (.agg #[a,b,c,d]) 1) K = K b:=C4d rfl K
def H8 (j:JW) (tv:Value):Array Value:=#[.int .i64 j.who,.string j.text,.int .i64 j.st,.int .i64 j.ep,.int .i64 j.slot,.int .i64 j.now,tv,.int .i64 j.ans.err,.int .i64 j.ans.bk,.bool j.ans.made,.int .i64 j.ans.count]
def H7 (b:Nat) (j:JW) (tv:Value):Res:=.pt b (.cells (H8 j tv) 100)
theorem C9y (w:World) (who:Int) (text:ByteArray) :
  Fn PR B8 52 #[.int .i64 who,.string text] w (Rn [] w (fun (b:Nat) u=> u = .pointer (some ⟨b,0,none⟩)) fun b=> [H7 b (G4 who text) M1]):=by
 refine B0Y (TW.go (κ:=false) (S := []) ?_)
 unfold A28
 (have z:=trivial;repeat((first|clear z|with_reducible first|apply A3|refine A4 fun _=>?_|refine A5 fun _=>?_);try simp(disch:=solve|omega|assumption|repeat(first|exact A1|exact uH|apply A2|apply uT)|(simp;try omega)|fail)[]))
 rename_i b
 refine B1 b rfl ?_
 simp only [H7,H8,G4,noA,M1]
 (repeat' constructor)
abbrev XBl (w:World) (x:XH):Prop:=bl w x.b = some (.cells (F4 x.c x.ep x.cur x.piv x.lov x.slv x.kev x.tav x.plv x.now) 106 (0,0))
abbrev RBl (w:World) (b:Nat) (j:JW) (tv:Value):Prop:=bl w b = some (.cells (H8 j tv) 100 (0,0))
theorem A8n (w:World) (b:Nat) (j:JW) (tv:Value) (x:XH) (htx:j.text.size ≤ 100) (hsh:x.c.sh ≤ 16) (hb:RBl w b j tv) (hx:XBl w x) :
  Fn PR B8 114 #[.pointer (some ⟨b,0,none⟩),.pointer (some ⟨x.b,0,none⟩)] w (fun u w' => u = A53 j.text x.c.sh ∧ C7 [] w w'):=by
 refine Fn.pure (A5Q (TW.go (κ:=false) (S := []) ?_))
 unfold A0G
 have h1:w.cell? ⟨b,1,none⟩ = some (.string j.text):=by rw [E8 hb]; rfl
 have h2:w.cell? ⟨x.b,1,none⟩ = some (.int .i64 x.c.sh):=by rw [E8 hx]; rfl
 (have z:=trivial;repeat((first|clear z|with_reducible first|apply A3|refine A4 fun _=>?_|refine A5 fun _=>?_);try simp(disch:=solve|omega|assumption|repeat(first|exact A1|exact uH|apply A2|apply uT)|(simp;try omega)|fail)[h1,h2]))
 refine B7 A7b (fun w' _=> C5z w' j.text x.c.sh (by omega) (by omega)) ?_
 unfold A53
 by_cases c1:(D1 j.text).2.2 = 0
 ·rw [if_neg (by simpa using c1)]
  (have z:=trivial;repeat((first|clear z|with_reducible first|apply A3|refine A4 fun _=>?_|refine A5 fun _=>?_);try simp(disch:=solve|omega|assumption|repeat(first|exact A1|exact uH|apply A2|apply uT)|(simp;try omega)|fail)[]))
  exact A9 rfl
 ·rw [if_pos c1]
  (have z:=trivial;repeat((first|clear z|with_reducible first|apply A3|refine A4 fun _=>?_|refine A5 fun _=>?_);try simp(disch:=solve|omega|assumption|repeat(first|exact A1|exact uH|apply A2|apply uT)|(simp;try omega)|fail)[]))
  exact A9 rfl
structure JobR (j:JW) (X:WS):Prop where
 r:1 ≤ j.st → j.st < 10 → (D1 j.text).2.2 = 0 ∧ j.key = A2j (D1 j.text).1 ∧ j.shard = ((V1 (A2j (D1 j.text).1) X.c.sh:Nat):Int) ∧ j.closing = x8 (D1 j.text).1 (D1 j.text).2.1
def s0 (j:JW):Value:=.agg #[.string j.key,.int .i64 j.shard,.bool j.closing,.int .i64 0]
theorem JobR.flow {j:JW} {X:WS} (h:JobR j X) (h1:1 ≤ j.st) (h2:j.st < 10):A53 j.text X.c.sh = s0 j:=by
 obtain ⟨g1,g2,g3,g4⟩:=h.r h1 h2
 unfold A53 s0
 rw [if_neg (by simpa using g1),g2,g3,g4]
theorem JobR.stage {N E:Nat} {j:JW} {X:WS} (h:JobR j X) (q:Nat) (hq:q < 10) (hs:j.st = (q:Nat)):JobR (D0 q { j with st:=j.st + 1 } X).1 (D0 q { j with st:=j.st + 1 } X).2.1:=by
 have hr:=h.r
 have hcase:q = 0 ∨ q = 1 ∨ q = 2 ∨ q = 3 ∨ q = 4 ∨ q = 5 ∨ q = 6 ∨ q = 7 ∨ q = 8 ∨ q = 9:=by omega
 rcases hcase with rfl | rfl | rfl | rfl | rfl | rfl | rfl | rfl | rfl | rfl
 ·show JobR (l3 _ X).1 (l3 _ X).2.1
  unfold l3
  by_cases c1:G5 X.c j.who < 0
  ·rw [if_pos c1]; exact ⟨fun _ (g:(10:Int) < 10)=> by omega⟩
  rw [if_neg c1]
  by_cases c2:(D1 j.text).2.2 = 0
  ·rw [if_neg (by simpa using c2)]; exact ⟨fun _ _=> ⟨c2,rfl,rfl,rfl⟩⟩
  ·rw [if_pos c2]; exact ⟨fun _ (g:(10:Int) < 10)=> by omega⟩
 ·exact ⟨fun _ _=> hr (by omega) (by omega)⟩
 ·show JobR (u9 _ X).1 (u9 _ X).2.1
  unfold u9
  split
  ·exact ⟨fun _ _=> hr (by omega) (by omega)⟩
  ·exact ⟨fun _ _=> hr (by omega) (by omega)⟩
 ·exact ⟨fun _ _=> hr (by omega) (by omega)⟩
 ·exact ⟨fun _ _=> hr (by omega) (by omega)⟩
 ·exact ⟨fun _ _=> hr (by omega) (by omega)⟩
 ·exact ⟨fun _ _=> hr (by omega) (by omega)⟩
 ·exact ⟨fun _ _=> hr (by omega) (by omega)⟩
 ·exact ⟨fun _ _=> hr (by omega) (by omega)⟩
 ·exact ⟨fun _ _=> hr (by omega) (by omega)⟩
theorem B6K {N E:Nat} (w:World) (b:Nat) (j:JW) (tv:Value) (x:XH) (X:WS) (hg:GI N E j X) (hq:JobR j X) (hr:XRel X x.xs) (hb:RBl w b j tv) (hx:XBl w x) (hl:F5 w x.lov x.locks.length (F2 x.locks)) :
  Fn PR B8 53 #[.pointer (some ⟨b,0,none⟩),.pointer (some ⟨x.b,0,none⟩)] w (fun u w' => u = .bool (j.ready X) ∧ C7 [] w w'):=by
 refine Fn.pure (A45 (TW.go (κ:=false) (S := []) ?_))
 unfold w9
 have h2:w.cell? ⟨b,2,none⟩ = some (.int .i64 j.st):=by rw [E8 hb]; rfl
 have h8:w.cell? ⟨x.b,8,none⟩ = some x.lov:=by rw [E8 hx]; rfl
 have hcc:x.c = X.c:=hr.c
 unfold JW.ready
 by_cases c1:j.st < 10
 case neg=>
  (have z:=trivial;repeat((first|clear z|with_reducible first|apply A3|refine A4 fun _=>?_|refine A5 fun _=>?_);try simp(disch:=solve|omega|assumption|repeat(first|exact A1|exact uH|apply A2|apply uT)|(simp;try omega)|fail)[h2,c1]))
  exact A9 (by simp [c1])
 by_cases c2:j.st = 3
 case neg=>
  (have z:=trivial;repeat((first|clear z|with_reducible first|apply A3|refine A4 fun _=>?_|refine A5 fun _=>?_);try simp(disch:=solve|omega|assumption|repeat(first|exact A1|exact uH|apply A2|apply uT)|(simp;try omega)|fail)[h2,c1,c2]))
  exact A9 (by simp [c1,c2])
 have hn:=hg.n
 have hsh:=hg.sh
 have hsd:=hg.shard
 have how:=hg.ow
 have hlk:x.locks = X.own:=hr.locks
 obtain ⟨i,hi⟩:∃ i:Nat,j.shard = i:=⟨j.shard.toNat,by omega⟩
 obtain ⟨la,lc,hlv,hrow⟩:=hl.form
 rw [hlv] at h8
 have hlt:i < x.locks.length:=by rw [hlk]; omega
 obtain ⟨lb,lo,rfl,hrow2⟩:=hrow (by omega)
 have g1:=hrow2.get (m5 hlt)
 have hge:¬ x.locks.length ≤ i:=by omega
 obtain ⟨z,hz⟩:∃ z,z = x.locks.getD i 0:=⟨_,rfl⟩
 rw [← hz] at g1
 have e1:A1q X.own (i:Nat) = z:=by rw [hz,C0y (by omega),hlk]
 (have z:=trivial;repeat((first|clear z|with_reducible first|apply A3|refine A4 fun _=>?_|refine A5 fun _=>?_);try simp(disch:=solve|omega|assumption|repeat(first|exact A1|exact uH|apply A2|apply uT)|(simp;try omega)|fail)[h2,c1,c2,h8]))
 refine B7 E3 (fun w' hw' => A8n w' b j tv x hg.text (by rw [hcc]; omega) (hw'.ks.2.1 _ _ (by simp) rfl hb) (hw'.ks.2.1 _ _ (by simp) rfl hx)) ?_
 rw [hcc,hq.flow (by omega) (by omega)]
 unfold s0
 rw [hi]
 (have z:=trivial;repeat((first|clear z|with_reducible first|apply A3|refine A4 fun _=>?_|refine A5 fun _=>?_);try simp(disch:=solve|omega|assumption|repeat(first|exact A1|exact uH|apply A2|apply uT)|(simp;try omega)|fail)[h8,g1,hlt,hge]))
 exact A9 (by rw [c2,e1]; simp)
theorem B54 (w:World) (b:Nat) (j:JW) (tv:Value) (e:Int) (hw:LW false [b] w [H7 b j tv] w) :
  Fn PR B8 164 #[.pointer (some ⟨b,0,none⟩),.int .i64 e] w (Rn [b] w (fun (_:Unit) u=> u = L8 (true,true,false)) fun _=> [H7 b (j.refuse e) tv]):=by
 refine A5u (TW.goH (κ:=false) (S := [b]) ?_ hw)
 unfold A0e
 simp only [H7,H8,JW.refuse]
 (have z:=trivial;repeat((first|clear z|with_reducible first|apply A3|refine A4 fun _=>?_|refine A5 fun _=>?_);try simp(disch:=solve|omega|assumption|repeat(first|exact A1|exact uH|apply A2|apply uT)|(simp;try omega)|fail)[]))
 refine B1 () rfl ?_
 (repeat' constructor)
theorem C4b (w:World) (v:Value) (l:List U5) (i:Int) (hv:F5 w v l.length (l.flatMap V0)) (hn:l.length ≤ 8) :
  Fn PR B8 158 #[v,.int .i64 i] w (fun u w' => u = .bool (match K3 (rsV l) i with | .rdy _=> true | _=> false) ∧ C7 [] w w'):=by
 refine Fn.pure (A7v (TW.go (κ:=false) (S := []) ?_))
 unfold A1K
 obtain ⟨a,c,rfl,_⟩:=hv.form
 (have z:=trivial;repeat((first|clear z|with_reducible first|apply A3|refine A4 fun _=>?_|refine A5 fun _=>?_);try simp(disch:=solve|omega|assumption|repeat(first|exact A1|exact uH|apply A2|apply uT)|(simp;try omega)|fail)[]))
 refine B7 Z7 (fun w' _=> B4N w' a l.length c i) ?_
 cases hi:l2 l.length i with
 | false=>
  have hb:K3 (rsV l) i = .no:=by unfold K3; rw [if_neg (by simp [l2] at hi; simp; omega)]
  rw [hb]
  (have z:=trivial;repeat((first|clear z|with_reducible first|apply A3|refine A4 fun _=>?_|refine A5 fun _=>?_);try simp(disch:=solve|omega|assumption|repeat(first|exact A1|exact uH|apply A2|apply uT)|(simp;try omega)|fail)[]))
  exact A9 rfl
 | true=>
  obtain ⟨k,rfl⟩:∃ k:Nat,i = k:=⟨i.toNat,by simp [l2] at hi; omega⟩
  have hk:k < l.length:=by simp [l2] at hi; exact hi
  have hk':¬ l.length ≤ k:=by omega
  obtain ⟨b,o,rfl,g0,_⟩:=U5.cell hv hk
  rw [C0d hk]
  cases hx:l[k].1 with
  | no=>
   have g:w.cell? ⟨b,o + k * 2,none⟩ = some (.int .i64 0):=by rw [g0]; unfold V0; rw [hx]; rfl
   (have z:=trivial;repeat((first|clear z|with_reducible first|apply A3|refine A4 fun _=>?_|refine A5 fun _=>?_);try simp(disch:=solve|omega|assumption|repeat(first|exact A1|exact uH|apply A2|apply uT)|(simp;try omega)|fail)[hk,hk',g])); exact A9 rfl
  | bld=>
   have g:w.cell? ⟨b,o + k * 2,none⟩ = some (.int .i64 1):=by rw [g0]; unfold V0; rw [hx]; rfl
   (have z:=trivial;repeat((first|clear z|with_reducible first|apply A3|refine A4 fun _=>?_|refine A5 fun _=>?_);try simp(disch:=solve|omega|assumption|repeat(first|exact A1|exact uH|apply A2|apply uT)|(simp;try omega)|fail)[hk,hk',g])); exact A9 rfl
  | rdy p=>
   have g:w.cell? ⟨b,o + k * 2,none⟩ = some (.int .i64 2):=by rw [g0]; unfold V0; rw [hx]; rfl
   (have z:=trivial;repeat((first|clear z|with_reducible first|apply A3|refine A4 fun _=>?_|refine A5 fun _=>?_);try simp(disch:=solve|omega|assumption|repeat(first|exact A1|exact uH|apply A2|apply uT)|(simp;try omega)|fail)[hk,hk',g])); exact A9 rfl
def j4 (x:XH):Res:=G2 x.b x.c x.ep x.cur x.piv x.lov x.slv x.kev x.tav x.plv x.now
theorem C4w (w:World) (b:Nat) (j:JW) (tv:Value) (x:XH) (X:WS) (hcc:x.c = X.c) (hep:x.ep = D3 X.cells 0) (hs:j.st = 0) (htx:j.text.size ≤ 100) (hsh:x.c.sh ≤ 16) (hw:LW false (C3 [H7 b j tv,j4 x]) w [H7 b j tv,j4 x] w) :
  Fn PR B8 115 #[.pointer (some ⟨b,0,none⟩),.pointer (some ⟨x.b,0,none⟩)] w (Rn (C3 [H7 b j tv,j4 x]) w (fun (_:Unit) u=> u = L8 (l3 { j with st:=j.st + 1 } X).2.2) fun _=> [H7 b (l3 { j with st:=j.st + 1 } X).1 tv,j4 x]):=by
 refine A4w (TW.goH (κ:=false) ?_ hw)
 unfold w8
 generalize hS:C3 [H7 b j tv,j4 x] = S at *
 have hpin:G5 X.c j.who < 0 ↔ (j.who < 1 ∨ x.c.wk < j.who):=by rw [hcc]; unfold G5; split <;> omega
 unfold l3
 by_cases c1:G5 X.c j.who < 0
 ·rw [if_pos c1]
  have key:∀ K0:WP,TW false S w [H7 b j tv,j4 x] K0 → TW false S w [H7 b j tv,j4 x] K0:=fun _ h=> h
  by_cases c2:j.who < 1
  ·simp only [H7,H8,j4,G2,F4]
   (have z:=trivial;repeat((first|clear z|with_reducible first|apply A3|refine A4 fun _=>?_|refine A5 fun _=>?_);try simp(disch:=solve|omega|assumption|repeat(first|exact A1|exact uH|apply A2|apply uT)|(simp;try omega)|fail)[c2]))
   rename_i bt
   refine C8 (Hc := [H7 b j tv]) a8 (fun w' _ hs=> B54 w' b j tv 1 hs) (by unfold H7 H8; (repeat' constructor)) ?_
   rintro _ v rfl
   simp only [List.cons_append,List.nil_append,L8]
   (have z:=trivial;repeat((first|clear z|with_reducible first|apply A3|refine A4 fun _=>?_|refine A5 fun _=>?_);try simp(disch:=solve|omega|assumption|repeat(first|exact A1|exact uH|apply A2|apply uT)|(simp;try omega)|fail)[]))
   refine B1 () rfl ?_
   simp only [H7,H8,j4,G2,F4,JW.refuse]
   (repeat' constructor)
  ·have c3:x.c.wk < j.who:=by omega
   simp only [H7,H8,j4,G2,F4]
   (have z:=trivial;repeat((first|clear z|with_reducible first|apply A3|refine A4 fun _=>?_|refine A5 fun _=>?_);try simp(disch:=solve|omega|assumption|repeat(first|exact A1|exact uH|apply A2|apply uT)|(simp;try omega)|fail)[c2,c3]))
   rename_i bt
   refine C8 (Hc := [H7 b j tv]) a8 (fun w' _ hs=> B54 w' b j tv 1 hs) (by unfold H7 H8; (repeat' constructor)) ?_
   rintro _ v rfl
   simp only [List.cons_append,List.nil_append,L8]
   (have z:=trivial;repeat((first|clear z|with_reducible first|apply A3|refine A4 fun _=>?_|refine A5 fun _=>?_);try simp(disch:=solve|omega|assumption|repeat(first|exact A1|exact uH|apply A2|apply uT)|(simp;try omega)|fail)[]))
   refine B1 () rfl ?_
   simp only [H7,H8,j4,G2,F4,JW.refuse]
   (repeat' constructor)
 rw [if_neg c1]
 have c2:¬ j.who < 1:=by omega
 have c3:¬ x.c.wk < j.who:=by omega
 have hfl:=fun (w':World) (hw1:RBl w' b j tv) (hw2:XBl w' x)=> A8n w' b j tv x htx hsh hw1 hw2
 by_cases c4:(D1 j.text).2.2 = 0
 case neg=>
  rw [if_pos c4]
  unfold A53 at hfl
  rw [if_pos c4] at hfl
  simp only [H7,H8,j4,G2,F4]
  (have z:=trivial;repeat((first|clear z|with_reducible first|apply A3|refine A4 fun _=>?_|refine A5 fun _=>?_);try simp(disch:=solve|omega|assumption|repeat(first|exact A1|exact uH|apply A2|apply uT)|(simp;try omega)|fail)[c2,c3]))
  rename_i bt
  refine B7 E3 (fun w' hw' => hfl w' (hw'.pt (by unfold H8; (repeat constructor))) (hw'.pt (by unfold F4; (repeat constructor)))) ?_
  (have z:=trivial;repeat((first|clear z|with_reducible first|apply A3|refine A4 fun _=>?_|refine A5 fun _=>?_);try simp(disch:=solve|omega|assumption|repeat(first|exact A1|exact uH|apply A2|apply uT)|(simp;try omega)|fail)[]))
  refine C8 (Hc := [H7 b j tv]) a8 (fun w' _ hs=> B54 w' b j tv 9 hs) (by unfold H7 H8; (repeat' constructor)) ?_
  rintro _ v rfl
  simp only [List.cons_append,List.nil_append,L8]
  (have z:=trivial;repeat((first|clear z|with_reducible first|apply A3|refine A4 fun _=>?_|refine A5 fun _=>?_);try simp(disch:=solve|omega|assumption|repeat(first|exact A1|exact uH|apply A2|apply uT)|(simp;try omega)|fail)[]))
  refine B1 () rfl ?_
  simp only [H7,H8,j4,G2,F4,JW.refuse]
  (repeat' constructor)
 rw [if_neg (by simpa using c4)]
 unfold A53 at hfl
 rw [if_neg (by simpa using c4)] at hfl
 simp only [H7,H8,j4,G2,F4]
 (have z:=trivial;repeat((first|clear z|with_reducible first|apply A3|refine A4 fun _=>?_|refine A5 fun _=>?_);try simp(disch:=solve|omega|assumption|repeat(first|exact A1|exact uH|apply A2|apply uT)|(simp;try omega)|fail)[c2,c3]))
 rename_i bt
 refine B7 E3 (fun w' hw' => hfl w' (hw'.pt (by unfold H8; (repeat constructor))) (hw'.pt (by unfold F4; (repeat constructor)))) ?_
 (have z:=trivial;repeat((first|clear z|with_reducible first|apply A3|refine A4 fun _=>?_|refine A5 fun _=>?_);try simp(disch:=solve|omega|assumption|repeat(first|exact A1|exact uH|apply A2|apply uT)|(simp;try omega)|fail)[]))
 refine B1 () rfl ?_
 simp only [H7,H8,j4,G2,F4,JW.rd,hs,← hep]
 (repeat' constructor)
def Q7 (w:World) (l:List U5):Prop := ∀ r ∈ l,∀ p,r.1 = .rdy p → r.2.2.1 = p.length ∧ p.length ≤ 1000 ∧ F5 w (rsP r) p.length (p.flatMap H5)
def slR (x:XH):Res:=.own 270 2 x.slv x.sl.length (x.sl.flatMap V0)
def rdI (b:Nat) (j:JW) (tv:Value) (P:P4) (x:XH):List Res := [H7 b j tv,M9 P,j4 x,slR x]
theorem C57 {X:WS} {i:Int} (h:¬ 0 ≤ i):K4 X i = [] ∧ A2g X i = false:=by
 have:K3 X.sl i = .no:=by unfold K3; rw [if_neg (by omega)]
 unfold K4 A2g; rw [this]; exact ⟨rfl,rfl⟩
theorem B80 {X:WS} {i:Int} (h:A2g X i = false):K4 X i = []:=by
 unfold A2g at h; unfold K4
 cases hg:K3 X.sl i with
 | no=> rfl
 | bld=> rfl
 | rdy p=> rw [hg] at h; cases h
theorem C2z {X:WS} {l:List U5} (hl:rsV l = X.sl) {i:Int} (h:A2g X i = true):∃ (k:Nat) (hk:k < l.length),i = k ∧ l[k].1 = .rdy (K4 X i):=by
 unfold A2g at h; unfold K4
 cases hg:K3 X.sl i with
 | no=> rw [hg] at h; cases h
 | bld=> rw [hg] at h; cases h
 | rdy p=>
  have hi:0 ≤ i ∧ i < X.sl.length:=by
   by_cases c:0 ≤ i ∧ i < X.sl.length
   ·exact c
   ·unfold K3 at hg; rw [if_neg c] at hg; cases hg
  have hlen:X.sl.length = l.length:=by rw [← hl]; exact List.length_map _
  obtain ⟨k,rfl⟩:∃ k:Nat,i = k:=⟨i.toNat,by omega⟩
  have hk:k < l.length:=by omega
  refine ⟨k,hk,rfl,?_⟩
  rw [← hl,C0d hk] at hg
  exact hg
theorem C28 (w:World):F5 w (.slice none 0 0) 0 (([]:List F8).flatMap H5):=Or.inl ⟨rfl,rfl,none,0,rfl⟩
set_option maxHeartbeats 4000000 in
theorem C2M {N E:Nat} (w:World) (b:Nat) (j:JW) (tv:Value) (x:XH) (P:P4) (X:WS) (hg:GI N E j X) (hfl:A53 j.text X.c.sh = s0 j) (hr:XRel X x.xs) (hsl8:x.sl.length ≤ 8) (htb:(tv,j.table) ∈ P) (hkeys:N4 j.table) (hlen:j.table.length ≤ 1000000)
  (hpool:∀ w',KS false (C3 (rdI b j tv P x)) w w' → Q7 w' x.sl) (hw:LW false (C3 (rdI b j tv P x)) w (rdI b j tv P x) w) :
  Fn PR B8 116 #[.pointer (some ⟨b,0,none⟩),.pointer (some ⟨x.b,0,none⟩)] w (Rn (C3 (rdI b j tv P x)) w
   (fun (y:Value × P4) u=> u = L8 (false,false,decide (0 ≤ j.slot) && !A2g X j.slot) ∧ (y.1,(G1 j.table (K4 X j.slot) j.key j.closing j.now X.c.idle).1) ∈ y.2 ∧ B1u P y.2 (G1 j.table (K4 X j.slot) j.key j.closing j.now X.c.idle).1)
   fun y=> rdI b { j with table:=(G1 j.table (K4 X j.slot) j.key j.closing j.now X.c.idle).1,ans:=(G1 j.table (K4 X j.slot) j.key j.closing j.now X.c.idle).2.1 } y.1 y.2 x):=by
 refine A4a (TW.goH (κ:=false) ?_ hw)
 unfold u5
 have hcc:x.c = X.c:=hr.c
 have hn:=hg.n
 have hsh:=hg.sh
 have hfw:=fun (w':World) (hw1:RBl w' b j tv) (hw2:XBl w' x)=> A8n w' b j tv x hg.text (by rw [hcc]; omega) hw1 hw2
 rw [hcc,hfl] at hfw
 have hrs:rsV x.sl = X.sl:=hr.sl
 have hidle:x.c.idle = X.c.idle:=by rw [hcc]
 generalize hS:C3 (rdI b j tv P x) = S at *
 have hR16:∀ w',F5 w' x.slv x.sl.length (x.sl.flatMap V0) → Fn PR B8 158 #[x.slv,.int .i64 j.slot] w' (fun u w'' => u = .bool (A2g X j.slot) ∧ C7 [] w' w''):=fun w' hv=> by
  have h:=C4b w' x.slv x.sl j.slot hv hsl8
  rw [hrs] at h
  exact h
 have hpl:(K4 X j.slot).length ≤ 1000 ∧ True:=by
  cases hd:A2g X j.slot with
  | false=> rw [B80 hd]; simp
  | true=>
   obtain ⟨k,hk,e1,e2⟩:=C2z hrs hd
   exact ⟨(hpool w (KS.refl _ _) _ (List.getElem_mem hk) _ e2).2.1,trivial⟩
 obtain ⟨hpl,_⟩:=hpl
 obtain ⟨pp,hpp⟩:∃ pp,pp = K4 X j.slot:=⟨_,rfl⟩
 simp only [← hpp] at hpl ⊢
 have hD:=fun (w':World) (v u:Value) (hv:F5 w' v j.table.length (j.table.flatMap F1)) (hu:F5 w' u pp.length (pp.flatMap H5))=> C2k w' v u j.table pp j.key j.closing j.now X.c.idle hg.key hkeys hlen hpl hv hu
 have hsame:(G1 j.table pp j.key j.closing j.now X.c.idle).2.2 = false → (G1 j.table pp j.key j.closing j.now X.c.idle).1 = j.table:=B95
 obtain ⟨D,hDe⟩:∃ D,D = G1 j.table pp j.key j.closing j.now X.c.idle:=⟨_,rfl⟩
 simp only [← hDe] at hD hsame ⊢
 clear hDe
 by_cases c1:0 ≤ j.slot
 case neg=>
  obtain ⟨e1,e2⟩:=C57 (X:=X) c1
  rw [e1] at hpp
  subst hpp
  rw [e2,decide_eq_false c1]
  simp only [rdI,H7,H8,j4,G2,F4,slR,hidle]
  refine g6 (P:=P) (v:=tv) (l:=j.table) (by (repeat constructor)) htb fun xa xc hxa=> ?_
  subst hxa
  (have z:=trivial;repeat((first|clear z|with_reducible first|apply A3|refine A4 fun _=>?_|refine A5 fun _=>?_);try simp(disch:=solve|omega|assumption|repeat(first|exact A1|exact uH|apply A2|apply uT)|(simp;try omega)|fail)[]))
  refine B7 E3 (fun w' hw' => hfw w' (hw'.pt (by unfold H8; (repeat constructor))) (hw'.pt (by unfold F4; rw [hidle]; (repeat constructor)))) ?_
  unfold s0
  (have z:=trivial;repeat((first|clear z|with_reducible first|apply A3|refine A4 fun _=>?_|refine A5 fun _=>?_);try simp(disch:=solve|omega|assumption|repeat(first|exact A1|exact uH|apply A2|apply uT)|(simp;try omega)|fail)[c1]))
  refine H3 d7 (fun w' hw' => hD w' _ _ (A14 (ts:=P) (t:=(.slice xa j.table.length xc,j.table)) hw' (by (repeat constructor)) htb) (C28 w')) ?_
  intro r v hv
  subst hv
  cases hch:D.2.2 with
  | false=>
   have hs1:=hsame hch
   simp only [Bool.false_eq_true,if_false,List.nil_append,AnsV.val]
   (have z:=trivial;repeat((first|clear z|with_reducible first|apply A3|refine A4 fun _=>?_|refine A5 fun _=>?_);try simp(disch:=solve|omega|assumption|repeat(first|exact A1|exact uH|apply A2|apply uT)|(simp;try omega)|fail)[]))
   refine B1 (.slice xa j.table.length xc,P) ⟨rfl,by rw [hs1]; exact htb,.same _ _⟩ ?_
   simp only [rdI,H7,H8,j4,G2,F4,slR,hidle,List.cons_append,List.nil_append]
   (repeat' constructor)
  | true=>
   simp only [if_true,AnsV.val]
   refine U8 (e:=218) (k:=4) (v:=r) (q:=D.1.length) (xs:=D.1.flatMap F1) (by (repeat constructor)) fun ra rc hu=> ?_
   subst hu
   simp only [List.cons_append,List.nil_append]
   (have z:=trivial;repeat((first|clear z|with_reducible first|apply A3|refine A4 fun _=>?_|refine A5 fun _=>?_);try simp(disch:=solve|omega|assumption|repeat(first|exact A1|exact uH|apply A2|apply uT)|(simp;try omega)|fail)[]))
   refine V3 (r:=.slice ra D.1.length rc) (l:=D.1) (ts:=P) (by (repeat' constructor)) ?_
   refine B1 (.slice ra D.1.length rc,P ++ [(.slice ra D.1.length rc,D.1)]) ⟨rfl,List.mem_append_right _ (List.mem_singleton.2 rfl),.push _ _ _⟩ ?_
   simp only [rdI,H7,H8,j4,G2,F4,slR,hidle,List.cons_append,List.nil_append]
   (repeat' constructor)
 cases hd:A2g X j.slot with
 | false=>
  have e1:=B80 hd
  rw [e1] at hpp
  subst hpp
  rw [decide_eq_true c1]
  rw [hd] at hR16
  simp only [rdI,H7,H8,j4,G2,F4,slR,hidle]
  refine g6 (P:=P) (v:=tv) (l:=j.table) (by (repeat constructor)) htb fun xa xc hxa=> ?_
  subst hxa
  (have z:=trivial;repeat((first|clear z|with_reducible first|apply A3|refine A4 fun _=>?_|refine A5 fun _=>?_);try simp(disch:=solve|omega|assumption|repeat(first|exact A1|exact uH|apply A2|apply uT)|(simp;try omega)|fail)[]))
  refine B7 E3 (fun w' hw' => hfw w' (hw'.pt (by unfold H8; (repeat constructor))) (hw'.pt (by unfold F4; rw [hidle]; (repeat constructor)))) ?_
  unfold s0
  (have z:=trivial;repeat((first|clear z|with_reducible first|apply A3|refine A4 fun _=>?_|refine A5 fun _=>?_);try simp(disch:=solve|omega|assumption|repeat(first|exact A1|exact uH|apply A2|apply uT)|(simp;try omega)|fail)[c1]))
  refine B7 A0n (fun w' hw' => hR16 w' (M0.own (e:=270) (k:=2) (by (repeat constructor)) w' hw')) ?_
  (have z:=trivial;repeat((first|clear z|with_reducible first|apply A3|refine A4 fun _=>?_|refine A5 fun _=>?_);try simp(disch:=solve|omega|assumption|repeat(first|exact A1|exact uH|apply A2|apply uT)|(simp;try omega)|fail)[c1]))
  refine H3 d7 (fun w' hw' => hD w' _ _ (A14 (ts:=P) (t:=(.slice xa j.table.length xc,j.table)) hw' (by (repeat constructor)) htb) (C28 w')) ?_
  intro r v hv
  subst hv
  cases hch:D.2.2 with
  | false=>
   have hs1:=hsame hch
   simp only [Bool.false_eq_true,if_false,List.nil_append,AnsV.val]
   (have z:=trivial;repeat((first|clear z|with_reducible first|apply A3|refine A4 fun _=>?_|refine A5 fun _=>?_);try simp(disch:=solve|omega|assumption|repeat(first|exact A1|exact uH|apply A2|apply uT)|(simp;try omega)|fail)[]))
   refine B1 (.slice xa j.table.length xc,P) ⟨rfl,by rw [hs1]; exact htb,.same _ _⟩ ?_
   simp only [rdI,H7,H8,j4,G2,F4,slR,hidle,List.cons_append,List.nil_append]
   (repeat' constructor)
  | true=>
   simp only [if_true,AnsV.val]
   refine U8 (e:=218) (k:=4) (v:=r) (q:=D.1.length) (xs:=D.1.flatMap F1) (by (repeat constructor)) fun ra rc hu=> ?_
   subst hu
   simp only [List.cons_append,List.nil_append]
   (have z:=trivial;repeat((first|clear z|with_reducible first|apply A3|refine A4 fun _=>?_|refine A5 fun _=>?_);try simp(disch:=solve|omega|assumption|repeat(first|exact A1|exact uH|apply A2|apply uT)|(simp;try omega)|fail)[]))
   refine V3 (r:=.slice ra D.1.length rc) (l:=D.1) (ts:=P) (by (repeat' constructor)) ?_
   refine B1 (.slice ra D.1.length rc,P ++ [(.slice ra D.1.length rc,D.1)]) ⟨rfl,List.mem_append_right _ (List.mem_singleton.2 rfl),.push _ _ _⟩ ?_
   simp only [rdI,H7,H8,j4,G2,F4,slR,hidle,List.cons_append,List.nil_append]
   (repeat' constructor)
 | true=>
  obtain ⟨k,hk,e1,e2⟩:=C2z hrs hd
  obtain ⟨p1,p2,p3⟩:=hpool w (KS.refl _ _) _ (List.getElem_mem hk) _ e2
  rw [← hpp] at e2 p1 p2 p3
  have hRp:∀ w',KS false S w w' → F5 w' (rsP x.sl[k]) pp.length (pp.flatMap H5):=fun w' hk' => (hpool w' hk' _ (List.getElem_mem hk) _ (by rw [hpp] at e2; exact e2)).2.2 |> fun h=> by rw [hpp]; exact h
  have g5:(x.sl.flatMap V0)[k * 2 + 1]? = some (rsP x.sl[k]):=by
   rw [l0 (f:=V0) (k:=2) A0L x.sl k 1 (by omega),List.getElem?_eq_getElem hk]
   show (V0 x.sl[k])[1]? = _
   unfold V0; rw [e2]; rfl
  have hps:∃ pa pc,rsP x.sl[k] = .slice pa pp.length pc:=⟨x.sl[k].2.1,x.sl[k].2.2.2,by unfold rsP; rw [p1]⟩
  obtain ⟨qa,qc,hps⟩:=hps
  rw [hps] at g5 hRp
  have hk':¬ x.sl.length ≤ k:=by omega
  rw [decide_eq_true c1]
  rw [hd] at hR16
  rw [e1] at hR16 c1
  simp only [rdI,H7,H8,j4,G2,F4,slR,hidle,e1]
  refine g6 (P:=P) (v:=tv) (l:=j.table) (by (repeat constructor)) htb fun xa xc hxa=> ?_
  subst hxa
  refine V5 (e:=270) (k:=2) (v:=x.slv) (q:=x.sl.length) (xs:=x.sl.flatMap V0) (by (repeat constructor)) (by omega) fun sg sc hsg=> ?_
  rw [hsg] at hR16 ⊢
  (have z:=trivial;repeat((first|clear z|with_reducible first|apply A3|refine A4 fun _=>?_|refine A5 fun _=>?_);try simp(disch:=solve|omega|assumption|repeat(first|exact A1|exact uH|apply A2|apply uT)|(simp;try omega)|fail)[]))
  refine B7 E3 (fun w' hw' => hfw w' (hw'.pt (by unfold H8; rw [e1]; (repeat constructor))) (hw'.pt (by unfold F4; rw [hidle,hsg]; (repeat constructor)))) ?_
  unfold s0
  (have z:=trivial;repeat((first|clear z|with_reducible first|apply A3|refine A4 fun _=>?_|refine A5 fun _=>?_);try simp(disch:=solve|omega|assumption|repeat(first|exact A1|exact uH|apply A2|apply uT)|(simp;try omega)|fail)[c1]))
  refine B7 A0n (fun w' hw' => hR16 w' (M0.own (e:=270) (k:=2) (by (repeat constructor)) w' hw')) ?_
  (have z:=trivial;repeat((first|clear z|with_reducible first|apply A3|refine A4 fun _=>?_|refine A5 fun _=>?_);try simp(disch:=solve|omega|assumption|repeat(first|exact A1|exact uH|apply A2|apply uT)|(simp;try omega)|fail)[c1,hk,hk',g5]))
  refine H3 d7 (fun w' hw' => hD w' _ _ (A14 (ts:=P) (t:=(.slice xa j.table.length xc,j.table)) hw' (by (repeat constructor)) htb) (hRp w' hw'.ks)) ?_
  intro r v hv
  subst hv
  cases hch:D.2.2 with
  | false=>
   have hs1:=hsame hch
   simp only [Bool.false_eq_true,if_false,List.nil_append,AnsV.val]
   (have z:=trivial;repeat((first|clear z|with_reducible first|apply A3|refine A4 fun _=>?_|refine A5 fun _=>?_);try simp(disch:=solve|omega|assumption|repeat(first|exact A1|exact uH|apply A2|apply uT)|(simp;try omega)|fail)[]))
   refine B1 (.slice xa j.table.length xc,P) ⟨rfl,by rw [hs1]; exact htb,.same _ _⟩ ?_
   simp only [rdI,H7,H8,j4,G2,F4,slR,hidle,e1,hsg,List.cons_append,List.nil_append]
   (repeat' constructor)
  | true=>
   simp only [if_true,AnsV.val]
   refine U8 (e:=218) (k:=4) (v:=r) (q:=D.1.length) (xs:=D.1.flatMap F1) (by (repeat constructor)) fun ra rc hu=> ?_
   subst hu
   simp only [List.cons_append,List.nil_append]
   (have z:=trivial;repeat((first|clear z|with_reducible first|apply A3|refine A4 fun _=>?_|refine A5 fun _=>?_);try simp(disch:=solve|omega|assumption|repeat(first|exact A1|exact uH|apply A2|apply uT)|(simp;try omega)|fail)[]))
   refine V3 (r:=.slice ra D.1.length rc) (l:=D.1) (ts:=P) (by (repeat' constructor)) ?_
   refine B1 (.slice ra D.1.length rc,P ++ [(.slice ra D.1.length rc,D.1)]) ⟨rfl,List.mem_append_right _ (List.mem_singleton.2 rfl),.push _ _ _⟩ ?_
   simp only [rdI,H7,H8,j4,G2,F4,slR,hidle,e1,hsg,List.cons_append,List.nil_append]
   (repeat' constructor)
def Y1 (b:Nat) (j:JW) (tv:Value) (P:P4) (x:XH):List Res:=H7 b j tv :: M9 P :: G0 x
abbrev RJY:=Value × P4 × XH
structure RjF (P:P4) (x:XH) (j':JW) (X':WS) (y:RJY):Prop where
 b:y.2.2.b = x.b
 r:XRel X' y.2.2.xs
 sl:y.2.2.sl = x.sl
 sub:A0U y.2.2.ts y.2.1
 tb:(y.1,j'.table) ∈ y.2.1
 gr:B1u P y.2.1 j'.table
set_option maxHeartbeats 8000000 in
theorem C7F {N E:Nat} (w:World) (b:Nat) (j:JW) (tv:Value) (P:P4) (x:XH) (X:WS) (hg:GI N E j X) (hE:E ≤ 1000) (hq:JobR j X) (hj:JobX N j X) (hf:A2d X) (hr:XRel X x.xs) (hsl8:x.sl.length ≤ 8) (hsub:A0U x.ts P) (htb:(tv,j.table) ∈ P) (hkeys:N4 j.table) (hlen:j.table.length ≤ 1000000)
  (hpool:∀ w',KS false (C3 (Y1 b j tv P x)) w w' → Q7 w' x.sl) (hw:LW false (C3 (Y1 b j tv P x)) w (Y1 b j tv P x) w) :
  Fn PR B8 54 #[.pointer (some ⟨b,0,none⟩),.pointer (some ⟨x.b,0,none⟩)] w (Rn (C3 (Y1 b j tv P x)) w
   (fun (y:RJY) u=> u = L8 (j.step X).2.2 ∧ RjF P x (j.step X).1 (j.step X).2.1 y) fun y=> Y1 b (j.step X).1 y.1 y.2.1 y.2.2):=by
 refine A5M (TW.goH (κ:=false) ?_ hw)
 unfold A0C
 have hcc:x.c = X.c:=hr.c
 have hn:=hg.n
 have hsh:=hg.sh
 have hst:=hg.st
 have hR:=fun (w':World) (hw1:RBl w' b j tv) (hw2:XBl w' x) (hl:F5 w' x.lov x.locks.length (F2 x.locks))=> B6K w' b j tv x X hg hq hr hw1 hw2 hl
 generalize hS:C3 (Y1 b j tv P x) = S at *
 cases hrd:j.ready X with
 | false=>
  rw [hrd] at hR
  rw [A6D hrd]
  simp only [Y1,H7,H8,G0,G2,F4]
  (have z:=trivial;repeat((first|clear z|with_reducible first|apply A3|refine A4 fun _=>?_|refine A5 fun _=>?_);try simp(disch:=solve|omega|assumption|repeat(first|exact A1|exact uH|apply A2|apply uT)|(simp;try omega)|fail)[]))
  rename_i bt
  refine B7 E9 (fun w' hw' => hR w' (hw'.pt (by unfold H8; (repeat constructor))) (hw'.pt (by unfold F4; (repeat constructor))) (M0.own (e:=3) (k:=1) (by (repeat constructor)) w' hw')) ?_
  (have z:=trivial;repeat((first|clear z|with_reducible first|apply A3|refine A4 fun _=>?_|refine A5 fun _=>?_);try simp(disch:=solve|omega|assumption|repeat(first|exact A1|exact uH|apply A2|apply uT)|(simp;try omega)|fail)[]))
  refine B1 (tv,P,x) ⟨rfl,⟨rfl,hr,rfl,hsub,htb,.same _ _⟩⟩ ?_
  simp only [Y1,H7,H8,G0,G2,F4]
  (repeat' constructor)
 | true=>
 rw [hrd] at hR
 have hlt:=A6N hrd
 rw [A0y hrd]
 obtain ⟨k,hk⟩:∃ k:Nat,j.st = k:=⟨j.st.toNat,by omega⟩
 rw [hk,Int.toNat_natCast,← hk]
 have hX:=(hr.stage hf hg hE hj k (by omega) hk hrd).1
 have hF:=fun (w':World) (hw1:RBl w' b j tv) (hw2:XBl w' x)=> A8n w' b j tv x hg.text (by rw [hcc]; omega) hw1 hw2
 rw [hcc] at hF
 have hflow:=hq.flow
 have hpin:=hj.pin
 have hsd:=hg.shard
 have hjep:=hg.jep
 have how:=hg.ow
 have hcur:=hg.cur
 have hxl:x.locks.length = N:=by have:x.locks = X.own:=hr.locks; rw [this]; exact how
 have hxp:(x.pins.length:Int) = X.c.wk + 1:=hr.pl
 have hxt:x.ts.length = N:=by have h1:x.ts.map (·.2) = X.tabs:=hr.tabs; have h2:=hg.tl; rw [← h1,List.length_map] at h2; exact h2
 have hep:x.ep = D3 X.cells 0:=hr.ep
 have hcu:x.cur = D3 X.cells 1:=hr.cur
 have hnow:x.now = X.now:=hr.now
 have htabs:x.ts.map (·.2) = X.tabs:=hr.tabs
 have hpoolD:=hpool
 have hcase:k = 0 ∨ k = 1 ∨ k = 2 ∨ k = 3 ∨ k = 4 ∨ k = 5 ∨ k = 6 ∨ k = 7 ∨ k = 8 ∨ k = 9:=by omega
 have hB:=fun (w':World) (h0:j.st = 0) (hw1:LW false (C3 [H7 b j tv,j4 x]) w' [H7 b j tv,j4 x] w')=> C4w w' b j tv x X hcc hep h0 hg.text (by rw [hcc]; omega) hw1
 clear hq hj
 obtain ⟨jt,jk,js,jc,jw,jst,je,jsl,jn,jtb,ja⟩:=j
 simp only at hk hst hflow hpin hsd hjep htb hkeys hlen hX hlt ⊢
 obtain ⟨sd,rfl⟩:∃ n:Nat,js = n:=⟨js.toNat,by omega⟩
 have hsl:sd < N:=by omega
 rcases hcase with rfl | rfl | rfl | rfl | rfl | rfl | rfl | rfl | rfl | rfl
 ·obtain rfl:jst = 0:=hk
  simp only [Y1,H7,H8,G0,G2,F4]
  (have z:=trivial;repeat((first|clear z|with_reducible first|apply A3|refine A4 fun _=>?_|refine A5 fun _=>?_);try simp(disch:=solve|omega|assumption|repeat(first|exact A1|exact uH|apply A2|apply uT)|(simp;try omega)|fail)[]))
  rename_i bt
  refine B7 E9 (fun w' hw' => hR w' (hw'.pt (by simp only [H8]; (repeat constructor))) (hw'.pt (by simp only [F4]; (repeat constructor))) (M0.own (e:=3) (k:=1) (by (repeat constructor)) w' hw')) ?_
  (have z:=trivial;repeat((first|clear z|with_reducible first|apply A3|refine A4 fun _=>?_|refine A5 fun _=>?_);try simp(disch:=solve|omega|assumption|repeat(first|exact A1|exact uH|apply A2|apply uT)|(simp;try omega)|fail)[]))
  refine C8 (Hc := [H7 b ⟨jt,jk,sd,jc,jw,0,je,jsl,jn,jtb,ja⟩ tv,j4 x]) A4W (fun w' _ hs=> hB w' rfl hs) (by simp only [H7,H8,j4,G2,F4]; (repeat' constructor)) ?_
  rintro _ v rfl
  rw [show D0 0 ⟨jt,jk,sd,jc,jw,0 + 1,je,jsl,jn,jtb,ja⟩ X = l3 ⟨jt,jk,sd,jc,jw,0 + 1,je,jsl,jn,jtb,ja⟩ X from rfl] at hX ⊢
  obtain ⟨r0,hr0⟩:∃ r0,r0 = l3 ⟨jt,jk,sd,jc,jw,0 + 1,je,jsl,jn,jtb,ja⟩ X:=⟨_,rfl⟩
  have htb0:(tv,r0.1.table) ∈ P:=by
   rw [hr0]
   unfold l3
   split
   ·exact htb
   ·split
    ·exact htb
    ·exact htb
  rw [← hr0] at hX ⊢
  obtain ⟨j0,X0,t1,t2,t3⟩:=r0
  simp only [List.cons_append,List.nil_append,L8]
  (have z:=trivial;repeat((first|clear z|with_reducible first|apply A3|refine A4 fun _=>?_|refine A5 fun _=>?_);try simp(disch:=solve|omega|assumption|repeat(first|exact A1|exact uH|apply A2|apply uT)|(simp;try omega)|fail)[]))
  refine B1 (tv,P,x) ⟨rfl,⟨rfl,hX,rfl,hsub,htb0,.same _ _⟩⟩ ?_
  simp only [Y1,j4,G0]
  (repeat' constructor)
 ·obtain rfl:jst = 1:=hk
  have hfl:=hflow (by omega) (by omega)
  rw [hfl] at hF
  simp only [s0] at hF
  have hp:=hpin (by omega) (by omega)
  obtain ⟨wn,rfl⟩:∃ n:Nat,jw = n:=⟨jw.toNat,by omega⟩
  have hwl:wn < x.pins.length:=by omega
  have hwl':¬ x.pins.length ≤ wn:=by omega
  have hwr:IntKind.i64.wrap (je + 1) = je + 1:=N3 (by omega) (by omega)
  simp only [Y1,H7,H8,G0,G2,F4]
  refine V5 (e:=3) (k:=1) (v:=x.piv) (q:=x.pins.length) (xs:=F2 x.pins) (by (repeat constructor)) (by omega) fun pg pc hpv=> ?_
  unfold XBl at hR hF
  rw [hpv] at hR hF ⊢
  (have z:=trivial;repeat((first|clear z|with_reducible first|apply A3|refine A4 fun _=>?_|refine A5 fun _=>?_);try simp(disch:=solve|omega|assumption|repeat(first|exact A1|exact uH|apply A2|apply uT)|(simp;try omega)|fail)[]))
  rename_i bt
  refine B7 E9 (fun w' hw' => hR w' (hw'.pt (by simp only [H8]; (repeat constructor))) (hw'.pt (by simp only [F4]; (repeat constructor))) (M0.own (e:=3) (k:=1) (by (repeat constructor)) w' hw')) ?_
  (have z:=trivial;repeat((first|clear z|with_reducible first|apply A3|refine A4 fun _=>?_|refine A5 fun _=>?_);try simp(disch:=solve|omega|assumption|repeat(first|exact A1|exact uH|apply A2|apply uT)|(simp;try omega)|fail)[]))
  refine B7 E3 (fun w' hw' => hF w' (hw'.pt (by simp only [H8]; (repeat constructor))) (hw'.pt (by simp only [F4]; (repeat constructor)))) ?_
  (have z:=trivial;repeat((first|clear z|with_reducible first|apply A3|refine A4 fun _=>?_|refine A5 fun _=>?_);try simp(disch:=solve|omega|assumption|repeat(first|exact A1|exact uH|apply A2|apply uT)|(simp;try omega)|fail)[hwl,hwl',hwr]))
  refine Q9 (by (repeat constructor)) (by simp) (by simp; omega) (by simp) ?_
  have e:Y8 (F2 x.pins) wn (Value.int .i64 (je + 1)).cells.toList = F2 (x.pins.set wn (je + 1)):=q7 hwl _
  rw [e]
  (have z:=trivial;repeat((first|clear z|with_reducible first|apply A3|refine A4 fun _=>?_|refine A5 fun _=>?_);try simp(disch:=solve|omega|assumption|repeat(first|exact A1|exact uH|apply A2|apply uT)|(simp;try omega)|fail)[]))
  refine B1 (tv,P,{ x with piv:=.slice (some ⟨pg,0,none⟩) x.pins.length pc,pins:=x.pins.set wn (je + 1) }) ⟨rfl,⟨rfl,hX,rfl,hsub,htb,.same _ _⟩⟩ ?_
  simp only [Y1,H7,H8,G0,G2,F4,D0,jw1,jw3,jw4,jw5,jw7,jw8,jw9,List.length_set]
  (repeat' constructor)
 ·obtain rfl:jst = 2:=hk
  have hfl:=hflow (by omega) (by omega)
  rw [hfl] at hF
  simp only [s0] at hF
  rw [show D0 2 ⟨jt,jk,sd,jc,jw,2 + 1,je,jsl,jn,jtb,ja⟩ X = u9 ⟨jt,jk,sd,jc,jw,2 + 1,je,jsl,jn,jtb,ja⟩ X from rfl] at hX ⊢
  unfold u9 at hX ⊢
  simp only at hX ⊢
  simp only [Y1,H7,H8,G0,G2,F4]
  (have z:=trivial;repeat((first|clear z|with_reducible first|apply A3|refine A4 fun _=>?_|refine A5 fun _=>?_);try simp(disch:=solve|omega|assumption|repeat(first|exact A1|exact uH|apply A2|apply uT)|(simp;try omega)|fail)[]))
  rename_i bt
  refine B7 E9 (fun w' hw' => hR w' (hw'.pt (by simp only [H8]; (repeat constructor))) (hw'.pt (by simp only [F4]; (repeat constructor))) (M0.own (e:=3) (k:=1) (by (repeat constructor)) w' hw')) ?_
  (have z:=trivial;repeat((first|clear z|with_reducible first|apply A3|refine A4 fun _=>?_|refine A5 fun _=>?_);try simp(disch:=solve|omega|assumption|repeat(first|exact A1|exact uH|apply A2|apply uT)|(simp;try omega)|fail)[]))
  refine B7 E3 (fun w' hw' => hF w' (hw'.pt (by simp only [H8]; (repeat constructor))) (hw'.pt (by simp only [F4]; (repeat constructor)))) ?_
  by_cases c1:D3 X.cells 0 = je
  ·rw [if_pos c1] at hX ⊢
   have c2:x.ep = je:=by rw [hep]; exact c1
   (have z:=trivial;repeat((first|clear z|with_reducible first|apply A3|refine A4 fun _=>?_|refine A5 fun _=>?_);try simp(disch:=solve|omega|assumption|repeat(first|exact A1|exact uH|apply A2|apply uT)|(simp;try omega)|fail)[c2]))
   refine B1 (tv,P,x) ⟨rfl,⟨rfl,hX,rfl,hsub,htb,.same _ _⟩⟩ ?_
   simp only [Y1,H7,H8,G0,G2,F4,c2]
   (repeat' constructor)
  ·rw [if_neg c1] at hX ⊢
   have c2:¬ x.ep = je:=by rw [hep]; exact c1
   (have z:=trivial;repeat((first|clear z|with_reducible first|apply A3|refine A4 fun _=>?_|refine A5 fun _=>?_);try simp(disch:=solve|omega|assumption|repeat(first|exact A1|exact uH|apply A2|apply uT)|(simp;try omega)|fail)[c2]))
   refine B1 (tv,P,x) ⟨rfl,⟨rfl,hX,rfl,hsub,htb,.same _ _⟩⟩ ?_
   simp only [Y1,H7,H8,G0,G2,F4,← hep]
   (repeat' constructor)
 ·obtain rfl:jst = 3:=hk
  have hfl:=hflow (by omega) (by omega)
  rw [hfl] at hF
  simp only [s0] at hF
  simp only [Y1,H7,H8,G0,G2,F4]
  have hll:sd < x.locks.length:=by omega
  have hll':¬ x.locks.length ≤ sd:=by omega
  refine V5 (e:=3) (k:=1) (v:=x.lov) (q:=x.locks.length) (xs:=F2 x.locks) (by (repeat constructor)) (by omega) fun lg lc hlv=> ?_
  unfold XBl at hR hF
  rw [hlv] at hR hF ⊢
  (have z:=trivial;repeat((first|clear z|with_reducible first|apply A3|refine A4 fun _=>?_|refine A5 fun _=>?_);try simp(disch:=solve|omega|assumption|repeat(first|exact A1|exact uH|apply A2|apply uT)|(simp;try omega)|fail)[]))
  rename_i bt
  refine B7 E9 (fun w' hw' => hR w' (hw'.pt (by simp only [H8]; (repeat constructor))) (hw'.pt (by simp only [F4]; (repeat constructor))) (M0.own (e:=3) (k:=1) (by (repeat constructor)) w' hw')) ?_
  (have z:=trivial;repeat((first|clear z|with_reducible first|apply A3|refine A4 fun _=>?_|refine A5 fun _=>?_);try simp(disch:=solve|omega|assumption|repeat(first|exact A1|exact uH|apply A2|apply uT)|(simp;try omega)|fail)[]))
  refine B7 E3 (fun w' hw' => hF w' (hw'.pt (by simp only [H8]; (repeat constructor))) (hw'.pt (by simp only [F4]; (repeat constructor)))) ?_
  (have z:=trivial;repeat((first|clear z|with_reducible first|apply A3|refine A4 fun _=>?_|refine A5 fun _=>?_);try simp(disch:=solve|omega|assumption|repeat(first|exact A1|exact uH|apply A2|apply uT)|(simp;try omega)|fail)[hll,hll']))
  refine Q9 (by (repeat constructor)) (by simp) (by simp; omega) (by simp) ?_
  have e:Y8 (F2 x.locks) sd (Value.int .i64 (jw)).cells.toList = F2 (x.locks.set sd (jw)):=q7 hll _
  rw [e]
  (have z:=trivial;repeat((first|clear z|with_reducible first|apply A3|refine A4 fun _=>?_|refine A5 fun _=>?_);try simp(disch:=solve|omega|assumption|repeat(first|exact A1|exact uH|apply A2|apply uT)|(simp;try omega)|fail)[]))
  refine B1 (tv,P,{ x with lov:=.slice (some ⟨lg,0,none⟩) x.locks.length lc,locks:=x.locks.set sd jw }) ⟨rfl,⟨rfl,hX,rfl,hsub,htb,.same _ _⟩⟩ ?_
  simp only [Y1,H7,H8,G0,G2,F4,D0,jw1,jw3,jw4,jw5,jw7,jw8,jw9,List.length_set]
  (repeat' constructor)
 ·obtain rfl:jst = 4:=hk
  have hfl:=hflow (by omega) (by omega)
  rw [hfl] at hF
  simp only [s0] at hF
  have hwr:IntKind.i64.wrap (x.cur - 1) = x.cur - 1:=N3 (by omega) (by omega)
  have hwr2:IntKind.i64.wrap (D3 X.cells 1 - 1) = x.cur - 1:=by rw [← hcu]; exact hwr
  simp only [Y1,H7,H8,G0,G2,F4]
  (have z:=trivial;repeat((first|clear z|with_reducible first|apply A3|refine A4 fun _=>?_|refine A5 fun _=>?_);try simp(disch:=solve|omega|assumption|repeat(first|exact A1|exact uH|apply A2|apply uT)|(simp;try omega)|fail)[]))
  rename_i bt
  refine B7 E9 (fun w' hw' => hR w' (hw'.pt (by simp only [H8]; (repeat constructor))) (hw'.pt (by simp only [F4]; (repeat constructor))) (M0.own (e:=3) (k:=1) (by (repeat constructor)) w' hw')) ?_
  (have z:=trivial;repeat((first|clear z|with_reducible first|apply A3|refine A4 fun _=>?_|refine A5 fun _=>?_);try simp(disch:=solve|omega|assumption|repeat(first|exact A1|exact uH|apply A2|apply uT)|(simp;try omega)|fail)[]))
  refine B7 E3 (fun w' hw' => hF w' (hw'.pt (by simp only [H8]; (repeat constructor))) (hw'.pt (by simp only [F4]; (repeat constructor)))) ?_
  (have z:=trivial;repeat((first|clear z|with_reducible first|apply A3|refine A4 fun _=>?_|refine A5 fun _=>?_);try simp(disch:=solve|omega|assumption|repeat(first|exact A1|exact uH|apply A2|apply uT)|(simp;try omega)|fail)[hwr]))
  refine B1 (tv,P,x) ⟨rfl,⟨rfl,hX,rfl,hsub,htb,.same _ _⟩⟩ ?_
  simp only [Y1,H7,H8,G0,G2,F4,D0,jw1,jw3,jw4,jw5,jw7,jw8,jw9,List.length_set,← hnow,hwr2]
  (repeat' constructor)
 ·obtain rfl:jst = 5:=hk
  have hfl:=hflow (by omega) (by omega)
  rw [hfl] at hF
  simp only [s0] at hF
  have htl:sd < x.ts.length:=by omega
  have htl':¬ x.ts.length ≤ sd:=by omega
  obtain ⟨⟨tv0,tl⟩,hx0⟩:∃ y,x.ts[sd]? = some y:=⟨_,List.getElem?_eq_getElem htl⟩
  have hxm:=List.mem_of_getElem? hx0
  have g0:(x.ts.map (·.1))[sd]? = some tv0:=by rw [List.getElem?_map,hx0]; rfl
  have gg:x.ts[sd]'htl = (tv0,tl):=(List.getElem?_eq_some_iff.1 hx0).2
  have gt:X.tabs.getD sd [] = tl:=by rw [← htabs,List.getD_eq_getElem?_getD,List.getElem?_map,hx0]; rfl
  have e5:(jw5 ⟨jt,jk,sd,jc,jw,5 + 1,je,jsl,jn,jtb,ja⟩ X) = (⟨jt,jk,sd,jc,jw,5 + 1,je,jsl,jn,tl,ja⟩,X,noT):=by unfold jw5; simp only [Int.toNat_natCast]; rw [gt]
  rw [show D0 5 ⟨jt,jk,sd,jc,jw,5 + 1,je,jsl,jn,jtb,ja⟩ X = jw5 ⟨jt,jk,sd,jc,jw,5 + 1,je,jsl,jn,jtb,ja⟩ X from rfl,e5] at hX ⊢
  simp only [Y1,H7,H8,G0,G2,F4]
  refine V5 (e:=84) (k:=1) (v:=x.tav) (q:=x.ts.length) (xs:=x.ts.map (·.1)) (by (repeat constructor)) (by omega) fun tg tc hta=> ?_
  unfold XBl at hR hF
  rw [hta] at hR hF ⊢
  refine g6 (P:=P) (v:=tv0) (l:=tl) (by (repeat constructor)) (hsub _ hxm) fun xa xc hxa=> ?_
  subst hxa
  (have z:=trivial;repeat((first|clear z|with_reducible first|apply A3|refine A4 fun _=>?_|refine A5 fun _=>?_);try simp(disch:=solve|omega|assumption|repeat(first|exact A1|exact uH|apply A2|apply uT)|(simp;try omega)|fail)[]))
  rename_i bt
  refine B7 E9 (fun w' hw' => hR w' (hw'.pt (by simp only [H8]; (repeat constructor))) (hw'.pt (by simp only [F4]; (repeat constructor))) (M0.own (e:=3) (k:=1) (by (repeat constructor)) w' hw')) ?_
  (have z:=trivial;repeat((first|clear z|with_reducible first|apply A3|refine A4 fun _=>?_|refine A5 fun _=>?_);try simp(disch:=solve|omega|assumption|repeat(first|exact A1|exact uH|apply A2|apply uT)|(simp;try omega)|fail)[]))
  refine B7 E3 (fun w' hw' => hF w' (hw'.pt (by simp only [H8]; (repeat constructor))) (hw'.pt (by simp only [F4]; (repeat constructor)))) ?_
  (have z:=trivial;repeat((first|clear z|with_reducible first|apply A3|refine A4 fun _=>?_|refine A5 fun _=>?_);try simp(disch:=solve|omega|assumption|repeat(first|exact A1|exact uH|apply A2|apply uT)|(simp;try omega)|fail)[htl,htl',g0,gg]))
  refine B1 (.slice xa tl.length xc,P,{ x with tav:=.slice (some ⟨tg,0,none⟩) x.ts.length tc }) ⟨rfl,⟨rfl,hX,rfl,hsub,hsub _ hxm,.same _ _⟩⟩ ?_
  simp only [Y1,H7,H8,G0,G2,F4,D0,jw1,jw3,jw4,jw5,jw7,jw8,jw9,List.length_set]
  (repeat' constructor)
 ·obtain rfl:jst = 6:=hk
  have hfl:=hflow (by omega) (by omega)
  rw [hfl] at hF
  simp only [s0] at hF
  have hDd:=fun (w':World) (hp:∀ w'',KS false (C3 (rdI b ⟨jt,jk,sd,jc,jw,7,je,jsl,jn,jtb,ja⟩ tv P x)) w' w'' → Q7 w'' x.sl) (hw1:LW false (C3 (rdI b ⟨jt,jk,sd,jc,jw,7,je,jsl,jn,jtb,ja⟩ tv P x)) w' (rdI b ⟨jt,jk,sd,jc,jw,7,je,jsl,jn,jtb,ja⟩ tv P x) w')=>
   C2M w' b ⟨jt,jk,sd,jc,jw,7,je,jsl,jn,jtb,ja⟩ tv x P X ({ hg with st:=⟨(by simp),(by simp)⟩,jt2:=fun _ _=> hg.jt2 (by simp) (by simp) }:GI N E ⟨jt,jk,sd,jc,jw,7,je,jsl,jn,jtb,ja⟩ X) hfl hr hsl8 htb hkeys hlen hp hw1
  simp only [Y1,H7,H8,G0,G2,F4]
  (have z:=trivial;repeat((first|clear z|with_reducible first|apply A3|refine A4 fun _=>?_|refine A5 fun _=>?_);try simp(disch:=solve|omega|assumption|repeat(first|exact A1|exact uH|apply A2|apply uT)|(simp;try omega)|fail)[]))
  rename_i bt
  refine B7 E9 (fun w' hw' => hR w' (hw'.pt (by simp only [H8]; (repeat constructor))) (hw'.pt (by simp only [F4]; (repeat constructor))) (M0.own (e:=3) (k:=1) (by (repeat constructor)) w' hw')) ?_
  (have z:=trivial;repeat((first|clear z|with_reducible first|apply A3|refine A4 fun _=>?_|refine A5 fun _=>?_);try simp(disch:=solve|omega|assumption|repeat(first|exact A1|exact uH|apply A2|apply uT)|(simp;try omega)|fail)[]))
  refine B7 E3 (fun w' hw' => hF w' (hw'.pt (by simp only [H8]; (repeat constructor))) (hw'.pt (by simp only [F4]; (repeat constructor)))) ?_
  (have z:=trivial;repeat((first|clear z|with_reducible first|apply A3|refine A4 fun _=>?_|refine A5 fun _=>?_);try simp(disch:=solve|omega|assumption|repeat(first|exact A1|exact uH|apply A2|apply uT)|(simp;try omega)|fail)[]))
  refine C8 (Hc:=rdI b ⟨jt,jk,sd,jc,jw,7,je,jsl,jn,jtb,ja⟩ tv P x) A3z (fun w' hw' hs=> hDd w' (B4k hpool hw') hs) (by simp only [rdI,slR,H7,H8,j4,G2,F4]; (repeat' constructor)) ?_
  rintro ⟨tv2,P2⟩ v ⟨rfl,h1,h2⟩
  simp only [rdI,slR,List.cons_append,List.nil_append,L8]
  obtain ⟨z,hz⟩:∃ z:Bool,z = (decide (0 ≤ jsl) && !A2g X jsl):=⟨_,rfl⟩
  rw [← hz]
  (have z:=trivial;repeat((first|clear z|with_reducible first|apply A3|refine A4 fun _=>?_|refine A5 fun _=>?_);try simp(disch:=solve|omega|assumption|repeat(first|exact A1|exact uH|apply A2|apply uT)|(simp;try omega)|fail)[]))
  refine B1 (tv2,P2,x) ⟨by rw [hz]; rfl,⟨rfl,hX,rfl,fun t ht=> h2.1 t (hsub t ht),h1,h2⟩⟩ ?_
  simp only [Y1,rdI,slR,H7,H8,j4,G0,G2,F4,D0,jw6]
  (repeat' constructor)
 ·obtain rfl:jst = 7:=hk
  have hfl:=hflow (by omega) (by omega)
  rw [hfl] at hF
  simp only [s0] at hF
  have htl:sd < x.ts.length:=by omega
  have htl':¬ x.ts.length ≤ sd:=by omega
  obtain ⟨⟨tv0,tl⟩,hx0⟩:∃ y,x.ts[sd]? = some y:=⟨_,List.getElem?_eq_getElem htl⟩
  have hxm:=List.mem_of_getElem? hx0
  have g0:(x.ts.map (·.1))[sd]? = some tv0:=by rw [List.getElem?_map,hx0]; rfl
  have gg:x.ts[sd]'htl = (tv0,tl):=(List.getElem?_eq_some_iff.1 hx0).2
  have gt:X.tabs.getD sd [] = tl:=by rw [← htabs,List.getD_eq_getElem?_getD,List.getElem?_map,hx0]; rfl
  simp only [Y1,H7,H8,G0,G2,F4]
  refine V5 (e:=84) (k:=1) (v:=x.tav) (q:=x.ts.length) (xs:=x.ts.map (·.1)) (by (repeat constructor)) (by omega) fun tg tc hta=> ?_
  unfold XBl at hR hF
  rw [hta] at hR hF ⊢
  refine g6 (P:=P) (v:=tv) (l:=jtb) (by (repeat constructor)) htb fun xa xc hxa=> ?_
  subst hxa
  (have z:=trivial;repeat((first|clear z|with_reducible first|apply A3|refine A4 fun _=>?_|refine A5 fun _=>?_);try simp(disch:=solve|omega|assumption|repeat(first|exact A1|exact uH|apply A2|apply uT)|(simp;try omega)|fail)[]))
  rename_i bt
  refine B7 E9 (fun w' hw' => hR w' (hw'.pt (by simp only [H8]; (repeat constructor))) (hw'.pt (by simp only [F4]; (repeat constructor))) (M0.own (e:=3) (k:=1) (by (repeat constructor)) w' hw')) ?_
  (have z:=trivial;repeat((first|clear z|with_reducible first|apply A3|refine A4 fun _=>?_|refine A5 fun _=>?_);try simp(disch:=solve|omega|assumption|repeat(first|exact A1|exact uH|apply A2|apply uT)|(simp;try omega)|fail)[]))
  refine B7 E3 (fun w' hw' => hF w' (hw'.pt (by simp only [H8]; (repeat constructor))) (hw'.pt (by simp only [F4]; (repeat constructor)))) ?_
  (have z:=trivial;repeat((first|clear z|with_reducible first|apply A3|refine A4 fun _=>?_|refine A5 fun _=>?_);try simp(disch:=solve|omega|assumption|repeat(first|exact A1|exact uH|apply A2|apply uT)|(simp;try omega)|fail)[htl,htl',g0,gg]))
  refine Q9 (by (repeat constructor)) (by simp) (by simp; omega) (by simp) ?_
  have e1:Y8 (x.ts.map (·.1)) sd (Value.slice xa jtb.length xc).cells.toList = (x.ts.set sd (.slice xa jtb.length xc,jtb)).map (·.1):=C0E (f:=(·.1)) x.ts sd (.slice xa jtb.length xc,jtb) htl
  rw [e1]
  (have z:=trivial;repeat((first|clear z|with_reducible first|apply A3|refine A4 fun _=>?_|refine A5 fun _=>?_);try simp(disch:=solve|omega|assumption|repeat(first|exact A1|exact uH|apply A2|apply uT)|(simp;try omega)|fail)[]))
  have ht7:(x.ts.set sd (.slice xa jtb.length xc,jtb)).map (·.2) = X.tabs.set sd jtb:=by rw [List.map_set,htabs]
  have hX:XRel (D0 7 ⟨jt,jk,sd,jc,jw,7 + 1,je,jsl,jn,jtb,ja⟩ X).2.1 ({ x with tav:=.slice (some ⟨tg,0,none⟩) x.ts.length tc,ts:=x.ts.set sd (.slice xa jtb.length xc,jtb) }:XH).xs := { hX with tabs:=ht7 }
  have hs7:A0U (x.ts.set sd (.slice xa jtb.length xc,jtb)) P:=fun t ht' => by
   rcases List.mem_or_eq_of_mem_set ht' with ht' | rfl
   ·exact hsub t ht'
   ·exact htb
  refine B1 (.slice xa jtb.length xc,P,{ x with tav:=.slice (some ⟨tg,0,none⟩) x.ts.length tc,ts:=x.ts.set sd (.slice xa jtb.length xc,jtb) }) ⟨rfl,⟨rfl,hX,rfl,hs7,htb,.same _ _⟩⟩ ?_
  simp only [Y1,H7,H8,G0,G2,F4,D0,jw1,jw3,jw4,jw5,jw7,jw8,jw9,List.length_set,List.map_set]
  (repeat' constructor)
 ·obtain rfl:jst = 8:=hk
  have hfl:=hflow (by omega) (by omega)
  rw [hfl] at hF
  simp only [s0] at hF
  simp only [Y1,H7,H8,G0,G2,F4]
  have hll:sd < x.locks.length:=by omega
  have hll':¬ x.locks.length ≤ sd:=by omega
  refine V5 (e:=3) (k:=1) (v:=x.lov) (q:=x.locks.length) (xs:=F2 x.locks) (by (repeat constructor)) (by omega) fun lg lc hlv=> ?_
  unfold XBl at hR hF
  rw [hlv] at hR hF ⊢
  (have z:=trivial;repeat((first|clear z|with_reducible first|apply A3|refine A4 fun _=>?_|refine A5 fun _=>?_);try simp(disch:=solve|omega|assumption|repeat(first|exact A1|exact uH|apply A2|apply uT)|(simp;try omega)|fail)[]))
  rename_i bt
  refine B7 E9 (fun w' hw' => hR w' (hw'.pt (by simp only [H8]; (repeat constructor))) (hw'.pt (by simp only [F4]; (repeat constructor))) (M0.own (e:=3) (k:=1) (by (repeat constructor)) w' hw')) ?_
  (have z:=trivial;repeat((first|clear z|with_reducible first|apply A3|refine A4 fun _=>?_|refine A5 fun _=>?_);try simp(disch:=solve|omega|assumption|repeat(first|exact A1|exact uH|apply A2|apply uT)|(simp;try omega)|fail)[]))
  refine B7 E3 (fun w' hw' => hF w' (hw'.pt (by simp only [H8]; (repeat constructor))) (hw'.pt (by simp only [F4]; (repeat constructor)))) ?_
  (have z:=trivial;repeat((first|clear z|with_reducible first|apply A3|refine A4 fun _=>?_|refine A5 fun _=>?_);try simp(disch:=solve|omega|assumption|repeat(first|exact A1|exact uH|apply A2|apply uT)|(simp;try omega)|fail)[hll,hll']))
  refine Q9 (by (repeat constructor)) (by simp) (by simp; omega) (by simp) ?_
  have e:Y8 (F2 x.locks) sd (Value.int .i64 (-1)).cells.toList = F2 (x.locks.set sd (-1)):=q7 hll _
  rw [e]
  (have z:=trivial;repeat((first|clear z|with_reducible first|apply A3|refine A4 fun _=>?_|refine A5 fun _=>?_);try simp(disch:=solve|omega|assumption|repeat(first|exact A1|exact uH|apply A2|apply uT)|(simp;try omega)|fail)[]))
  refine B1 (tv,P,{ x with lov:=.slice (some ⟨lg,0,none⟩) x.locks.length lc,locks:=x.locks.set sd (-1) }) ⟨rfl,⟨rfl,hX,rfl,hsub,htb,.same _ _⟩⟩ ?_
  simp only [Y1,H7,H8,G0,G2,F4,D0,jw1,jw3,jw4,jw5,jw7,jw8,jw9,List.length_set]
  (repeat' constructor)
 ·obtain rfl:jst = 9:=hk
  have hfl:=hflow (by omega) (by omega)
  rw [hfl] at hF
  simp only [s0] at hF
  have hp:=hpin (by omega) (by omega)
  obtain ⟨wn,rfl⟩:∃ n:Nat,jw = n:=⟨jw.toNat,by omega⟩
  have hwl:wn < x.pins.length:=by omega
  have hwl':¬ x.pins.length ≤ wn:=by omega
  simp only [Y1,H7,H8,G0,G2,F4]
  refine V5 (e:=3) (k:=1) (v:=x.piv) (q:=x.pins.length) (xs:=F2 x.pins) (by (repeat constructor)) (by omega) fun pg pc hpv=> ?_
  unfold XBl at hR hF
  rw [hpv] at hR hF ⊢
  (have z:=trivial;repeat((first|clear z|with_reducible first|apply A3|refine A4 fun _=>?_|refine A5 fun _=>?_);try simp(disch:=solve|omega|assumption|repeat(first|exact A1|exact uH|apply A2|apply uT)|(simp;try omega)|fail)[]))
  rename_i bt
  refine B7 E9 (fun w' hw' => hR w' (hw'.pt (by simp only [H8]; (repeat constructor))) (hw'.pt (by simp only [F4]; (repeat constructor))) (M0.own (e:=3) (k:=1) (by (repeat constructor)) w' hw')) ?_
  (have z:=trivial;repeat((first|clear z|with_reducible first|apply A3|refine A4 fun _=>?_|refine A5 fun _=>?_);try simp(disch:=solve|omega|assumption|repeat(first|exact A1|exact uH|apply A2|apply uT)|(simp;try omega)|fail)[]))
  refine B7 E3 (fun w' hw' => hF w' (hw'.pt (by simp only [H8]; (repeat constructor))) (hw'.pt (by simp only [F4]; (repeat constructor)))) ?_
  (have z:=trivial;repeat((first|clear z|with_reducible first|apply A3|refine A4 fun _=>?_|refine A5 fun _=>?_);try simp(disch:=solve|omega|assumption|repeat(first|exact A1|exact uH|apply A2|apply uT)|(simp;try omega)|fail)[hwl,hwl']))
  refine Q9 (by (repeat constructor)) (by simp) (by simp; omega) (by simp) ?_
  have e:Y8 (F2 x.pins) wn (Value.int .i64 (0)).cells.toList = F2 (x.pins.set wn (0)):=q7 hwl _
  rw [e]
  (have z:=trivial;repeat((first|clear z|with_reducible first|apply A3|refine A4 fun _=>?_|refine A5 fun _=>?_);try simp(disch:=solve|omega|assumption|repeat(first|exact A1|exact uH|apply A2|apply uT)|(simp;try omega)|fail)[]))
  refine B1 (tv,P,{ x with piv:=.slice (some ⟨pg,0,none⟩) x.pins.length pc,pins:=x.pins.set wn 0 }) ⟨rfl,⟨rfl,hX,rfl,hsub,htb,.same _ _⟩⟩ ?_
  simp only [Y1,H7,H8,G0,G2,F4,D0,jw1,jw3,jw4,jw5,jw7,jw8,jw9,List.length_set]
  (repeat' constructor)
theorem C9P (w:World) (u v:Value) (l:List Int) (hn:l.length ≤ 1000000) (hu:F5 w u l.length (F2 l)) (hv:F5 w v l.length (F2 l)) :
  Fn PR B8 117 #[u,v] w (fun r w' => r = .bool true ∧ C7 [] w w'):=by
 refine Fn.pure (A8q (TW.go (κ:=false) (S := []) ?_))
 unfold A2P
 obtain ⟨a,c,rfl,hr⟩:=hu.form
 obtain ⟨a',c',rfl,hr'⟩:=hv.form
 (have z:=trivial;repeat((first|clear z|with_reducible first|apply A3|refine A4 fun _=>?_|refine A5 fun _=>?_);try simp(disch:=solve|omega|assumption|repeat(first|exact A1|exact uH|apply A2|apply uT)|(simp;try omega)|fail)[]))
 refine P5 (α:=Unit) l.length (fun _ _=> .bool false) (fun _ _=> []) (fun _ _=> True) () trivial ?_
 rintro i _ hi _ L hL
 by_cases hlt:i < l.length
 ·have hlt':((i:Nat):Int) < (l.length:Nat):=by omega
  obtain ⟨b,o,rfl,hrow⟩:=hr (by omega)
  obtain ⟨b',o',rfl,hrow'⟩:=hr' (by omega)
  have g1:=hrow.get (m5 hlt)
  have g2:=hrow'.get (m5 hlt)
  obtain ⟨z,hz⟩:∃ z,z = l.getD i 0:=⟨_,rfl⟩
  rw [← hz] at g1 g2
  (have z:=trivial;repeat((first|clear z|with_reducible first|apply A3|refine A4 fun _=>?_|refine A5 fun _=>?_);try simp(disch:=solve|omega|assumption|repeat(first|exact A1|exact uH|apply A2|apply uT)|(simp;try omega)|fail)[hlt,hlt',g1,g2]))
  exact hL hlt () trivial
 ·obtain rfl:i = l.length:=by omega
  (have z:=trivial;repeat((first|clear z|with_reducible first|apply A3|refine A4 fun _=>?_|refine A5 fun _=>?_);try simp(disch:=solve|omega|assumption|repeat(first|exact A1|exact uH|apply A2|apply uT)|(simp;try omega)|fail)[Int.lt_irrefl]))
  exact A9 rfl
def WoH.cnu (m:WoH) (n:Int):WoH := { m with cn:=n }
theorem B7x {S:List Nat} {w0:World} {H Hk:List Res} {X:Nat → Prop} {K:Value → WP} (m:WoH) (i:Int) (hcl:m.cells.length ≤ 1024) (hs:Sels (C6 m ++ Hk) H)
  (hK:∀ n:Int,TW false S w0 (C6 (m.cnu n) ++ Hk) (K (.int .i64 (D3 m.cells i)))) :
  TW false S w0 H (B3 PR X 35 [.pointer (some ⟨m.bc,0,none⟩),.int .i64 i] K):=by
 refine Sels.tw hs ?_
 simp only [C6,List.cons_append,List.nil_append]
 refine C8 (Hc:=D8 m.bc m.cn m.cv m.ov m.cells m.own) W1 (fun w' _ hs=> A7C w' m.bc m.cn m.cv m.ov m.cells m.own i hcl hs) (by unfold D8; (repeat' constructor)) ?_
 rintro n v rfl
 refine Sels.tw (rs:=C6 (m.cnu n) ++ Hk) (by simp only [D8,C6,WoH.cnu,List.cons_append,List.nil_append]; repeat (first | exact A8L _ | (apply Sels.cons; · (repeat constructor)))) (hK n)
def saH (m:WoH) (x:XH) (P PX:P4):List Res:=C6 m ++ (G0 x ++ [M9 P,M9 PX])
set_option maxHeartbeats 4000000 in
theorem C7B {N E:Nat} {j:JW} (w:World) (m:WoH) (x:XH) (P PX:P4) (hg:GI N E j m.ws) (hr:XRel m.ws x.xs) (hsub:A0U m.ts P) (hsubX:A0U x.ts PX) (hlen:∀ t ∈ m.ts,t.2.length ≤ 1000000) (hw:LW false (C3 (saH m x P PX)) w (saH m x P PX) w) :
  Fn PR B8 55 #[.pointer (some ⟨m.b,0,none⟩),.pointer (some ⟨x.b,0,none⟩)] w (Rn (C3 (saH m x P PX)) w (fun (n:Int) u=> u = .bool true) fun n=> saH (m.cnu n) x P PX):=by
 refine A9U (TW.goH (κ:=false) ?_ hw)
 unfold A1x
 generalize hS:C3 (saH m x P PX) = S at *
 have hcl0:=hg.ok.cells
 have hwk:=hg.ok.wk
 have hcl:m.cells.length ≤ 1024:=by have:m.ws.cells = m.cells:=rfl; rw [this] at hcl0; omega
 have hep:x.ep = D3 m.cells 0:=hr.ep
 have hcu:x.cur = D3 m.cells 1:=hr.cur
 have hnow:x.now = m.now:=hr.now
 have htabs:x.ts.map (·.2) = m.ts.map (·.2):=hr.tabs
 have hpl:x.pl = m.pl:=hr.places
 have hlk:x.locks = m.own:=hr.locks
 have hts:m.ts.length = N:=by have:=hg.tl; simpa [WoH.ws] using this
 have htx:x.ts.length = N:=by have:=congrArg List.length htabs; simpa [hts] using this
 have hpn:m.pl.length = N:=hg.pl
 have hn16:=hg.n
 have hxpin:(x.pins.length:Int) = m.c.wk + 1:=hr.pl
 have hpins:=hr.pins
 have hwk2:1 ≤ m.c.wk ∧ m.c.wk ≤ 64:=hwk
 have htl0:∀ i (h1:i < m.ts.length) (h2:i < x.ts.length),m.ts[i].2 = x.ts[i].2:=fun i h1 h2=> by
  have h:=congrArg (fun l=> l[i]?) htabs
  simp only [List.getElem?_map,List.getElem?_eq_getElem h1,List.getElem?_eq_getElem h2,Option.map_some,Option.some.injEq] at h
  exact h.symm
 refine V5 (e:=84) (k:=1) (v:=m.tv) (q:=m.ts.length) (xs:=m.ts.map (·.1)) (by unfold saH C6; (repeat constructor)) (by omega) fun mg mc hmtv=> ?_
 refine V5 (e:=3) (k:=1) (v:=m.pv) (q:=m.pl.length) (xs:=A0V m.pl) (by unfold saH C6; (repeat constructor)) (by omega) fun pg pc hmpv=> ?_
 refine V5 (e:=84) (k:=1) (v:=x.tav) (q:=x.ts.length) (xs:=x.ts.map (·.1)) (by unfold saH G0; exact List.mem_append_right _ (by (repeat constructor))) (by omega) fun xg xc hxta=> ?_
 refine V5 (e:=3) (k:=1) (v:=x.plv) (q:=x.pl.length) (xs:=A0V x.pl) (by unfold saH G0; exact List.mem_append_right _ (by (repeat constructor))) (by rw [hpl]; omega) fun qg qc hxpl=> ?_
 refine V5 (e:=3) (k:=1) (v:=x.piv) (q:=x.pins.length) (xs:=F2 x.pins) (by unfold saH G0; exact List.mem_append_right _ (by (repeat constructor))) (by omega) fun ig ic hxpi=> ?_
 refine U8 (e:=3) (k:=1) (v:=x.lov) (q:=x.locks.length) (xs:=F2 x.locks) (by unfold saH G0; exact List.mem_append_right _ (by (repeat constructor))) fun la lc hxlo=> ?_
 rw [hlk] at hxlo
 simp only [saH,C6,G0,D2,E5,G2,F4,WoH.cnu,hmtv,hmpv,hxta,hxpl,hxpi,hxlo,hlk,List.cons_append,List.nil_append]
 (have z:=trivial;repeat((first|clear z|with_reducible first|apply A3|refine A4 fun _=>?_|refine A5 fun _=>?_);try simp(disch:=solve|omega|assumption|repeat(first|exact A1|exact uH|apply A2|apply uT)|(simp;try omega)|fail)[]))
 refine B7x m 0 hcl (Hk:=G0 x ++ [M9 P,M9 PX]) (by simp only [C6,G0,D2,E5,G2,F4,WoH.cnu,hmtv,hmpv,hxta,hxpl,hxpi,hxlo,hlk,List.cons_append,List.nil_append]; (repeat' constructor)) ?_
 intro n1
 rw [← hep]
 simp only [C6,G0,D2,E5,G2,F4,WoH.cnu,hmtv,hmpv,hxta,hxpl,hxpi,hxlo,hlk,List.cons_append,List.nil_append]
 (have z:=trivial;repeat((first|clear z|with_reducible first|apply A3|refine A4 fun _=>?_|refine A5 fun _=>?_);try simp(disch:=solve|omega|assumption|repeat(first|exact A1|exact uH|apply A2|apply uT)|(simp;try omega)|fail)[]))
 refine B7x (m.cnu n1) 1 hcl (Hk:=G0 x ++ [M9 P,M9 PX]) (by simp only [C6,G0,D2,E5,G2,F4,WoH.cnu,hmtv,hmpv,hxta,hxpl,hxpi,hxlo,hlk,List.cons_append,List.nil_append]; (repeat' constructor)) ?_
 intro n2
 rw [show D3 (m.cnu n1).cells 1 = x.cur from hcu.symm]
 simp only [C6,G0,D2,E5,G2,F4,WoH.cnu,hmtv,hmpv,hxta,hxpl,hxpi,hxlo,hlk,List.cons_append,List.nil_append]
 have hq1:((m.ts.length:Nat):Int) = (x.ts.length:Nat):=by omega
 have hq2:((m.pl.length:Nat):Int) = (x.pl.length:Nat):=by rw [hpl]
 (have z:=trivial;repeat((first|clear z|with_reducible first|apply A3|refine A4 fun _=>?_|refine A5 fun _=>?_);try simp(disch:=solve|omega|assumption|repeat(first|exact A1|exact uH|apply A2|apply uT)|(simp;try omega)|fail)[hnow,hq1,hq2]))
 refine Sels.tw (rs:=C6 (m.cnu n2) ++ (G0 x ++ [M9 P,M9 PX])) (by simp only [C6,G0,D2,E5,G2,F4,WoH.cnu,hmtv,hmpv,hxta,hxpl,hxpi,hxlo,hlk,List.cons_append,List.nil_append,hnow]; (repeat' constructor)) ?_
 refine B91 (fun y:Int × Nat=> C6 (m.cnu y.1) ++ (G0 x ++ [M9 P,M9 PX])) (fun y=> 1 ≤ y.2 ∧ y.2 ≤ x.pins.length) (fun y=> x.pins.length - y.2) (n2,1) (fun _=> .bool false) (fun y=> .int .i64 (y.2:Nat)) ⟨by simp,by simp only; omega⟩ ?_
 rintro ⟨n3,i⟩ ⟨hi1,hi2⟩ L hL
 simp only at hi1 hi2 hL ⊢
 by_cases hlt:i < x.pins.length
 ·have hlt':((i:Nat):Int) < (x.pins.length:Nat):=by omega
  have hge':¬ x.pins.length ≤ i:=by omega
  have g1:=m5 hlt
  have hpv:=hpins i hi1 (by show (i:Int) ≤ m.c.wk; omega)
  have hpi:G5 m.c (i:Nat) = 1 + (i:Nat):=by unfold G5; rw [if_neg (by omega)]
  obtain ⟨z,hz⟩:∃ z,z = x.pins.getD i 0:=⟨_,rfl⟩
  rw [← hz] at g1
  have g1g:=(List.getElem?_eq_some_iff.1 g1).2
  have hzz:D3 m.cells (1 + (i:Nat)) = z:=by rw [hz]; exact hpv.symm
  simp only [C6,G0,D2,E5,G2,F4,WoH.cnu,hmtv,hmpv,hxta,hxpl,hxpi,hxlo,hlk,List.cons_append,List.nil_append]
  (have z:=trivial;repeat((first|clear z|with_reducible first|apply A3|refine A4 fun _=>?_|refine A5 fun _=>?_);try simp(disch:=solve|omega|assumption|repeat(first|exact A1|exact uH|apply A2|apply uT)|(simp;try omega)|fail)[hlt,hlt',hge',g1,g1g]))
  refine B7 (u:=.int .i64 (1 + (i:Nat))) U0 (fun w' hw' => by rw [← hpi]; exact A6C w' m.b m.c _ _ _ _ _ _ (i:Nat) hwk2.2 (hw'.pt (b:=m.b) (by unfold E5; (repeat constructor)))) ?_
  (have z:=trivial;repeat((first|clear z|with_reducible first|apply A3|refine A4 fun _=>?_|refine A5 fun _=>?_);try simp(disch:=solve|omega|assumption|repeat(first|exact A1|exact uH|apply A2|apply uT)|(simp;try omega)|fail)[hlt,hlt',hge',g1,g1g]))
  refine B7x (m.cnu n3) (1 + (i:Nat)) hcl (Hk:=G0 x ++ [M9 P,M9 PX]) (by simp only [C6,G0,D2,E5,G2,F4,WoH.cnu,hmtv,hmpv,hxta,hxpl,hxpi,hxlo,hlk,List.cons_append,List.nil_append]; (repeat' constructor)) ?_
  intro n4
  rw [show D3 (m.cnu n3).cells (1 + (i:Nat)) = z from hzz]
  simp only [C6,G0,D2,E5,G2,F4,WoH.cnu,hmtv,hmpv,hxta,hxpl,hxpi,hxlo,hlk,List.cons_append,List.nil_append]
  (have z:=trivial;repeat((first|clear z|with_reducible first|apply A3|refine A4 fun _=>?_|refine A5 fun _=>?_);try simp(disch:=solve|omega|assumption|repeat(first|exact A1|exact uH|apply A2|apply uT)|(simp;try omega)|fail)[hlt,hlt',hge',g1,g1g]))
  have h2:=hL (n4,i + 1) ⟨by simp only; omega,by simp only; omega⟩ (by simp only; omega)
  rw [show (((i + 1:Nat)):Int) = (i:Int) + 1 from by omega] at h2
  refine Sels.tw ?_ h2
  simp only [C6,G0,D2,E5,G2,F4,WoH.cnu,hmtv,hmpv,hxta,hxpl,hxpi,hxlo,hlk,List.cons_append,List.nil_append]
  (repeat' constructor)
 obtain rfl:i = x.pins.length:=by omega
 clear hL
 simp only [C6,G0,D2,E5,G2,F4,WoH.cnu,hmtv,hmpv,hxta,hxpl,hxpi,hxlo,hlk,List.cons_append,List.nil_append]
 (have z:=trivial;repeat((first|clear z|with_reducible first|apply A3|refine A4 fun _=>?_|refine A5 fun _=>?_);try simp(disch:=solve|omega|assumption|repeat(first|exact A1|exact uH|apply A2|apply uT)|(simp;try omega)|fail)[Int.lt_irrefl]))
 refine Sels.tw (rs:=C6 (m.cnu n3) ++ (G0 x ++ [M9 P,M9 PX])) (by simp only [C6,G0,D2,E5,G2,F4,WoH.cnu,hmtv,hmpv,hxta,hxpl,hxpi,hxlo,hlk,List.cons_append,List.nil_append]; (repeat' constructor)) ?_
 refine P5 (α:=Unit) x.ts.length (fun _ _=> .bool false) (fun _ _=> C6 (m.cnu n3) ++ (G0 x ++ [M9 P,M9 PX])) (fun _ _=> True) () trivial ?_
 rintro k _ hk _ L hL
 by_cases hlt:k < x.ts.length
 ·have hlt':((k:Nat):Int) < (x.ts.length:Nat):=by omega
  have hge':¬ x.ts.length ≤ k:=by omega
  have hltm:k < m.ts.length:=by omega
  have hgem:¬ m.ts.length ≤ k:=by omega
  have hltp:k < m.pl.length:=by omega
  have hgep:¬ m.pl.length ≤ k:=by omega
  have hltq:k < x.pl.length:=by rw [hpl]; omega
  have hgeq:¬ x.pl.length ≤ k:=by omega
  obtain ⟨⟨v1,t1⟩,hx1⟩:∃ y,m.ts[k]? = some y:=⟨_,List.getElem?_eq_getElem hltm⟩
  obtain ⟨⟨v2,t2⟩,hx2⟩:∃ y,x.ts[k]? = some y:=⟨_,List.getElem?_eq_getElem hlt⟩
  have hm1:=List.mem_of_getElem? hx1
  have hm2:=List.mem_of_getElem? hx2
  have gm:m.ts[k] = (v1,t1):=(List.getElem?_eq_some_iff.1 hx1).2
  have gx:x.ts[k] = (v2,t2):=(List.getElem?_eq_some_iff.1 hx2).2
  have htt:t1 = t2:=by have h:=htl0 k hltm hlt; rw [gm,gx] at h; exact h
  subst htt
  have g1:(m.ts.map (·.1))[k]? = some v1:=by rw [List.getElem?_map,hx1]; rfl
  have g2:(x.ts.map (·.1))[k]? = some v2:=by rw [List.getElem?_map,hx2]; rfl
  have g3:=C3S hltp
  have g4:=C3S hltq
  rw [hpl] at g4
  obtain ⟨z,hz⟩:∃ z:Nat,z = m.pl.getD k 0:=⟨_,rfl⟩
  rw [← hz] at g3 g4
  have g3g:=(List.getElem?_eq_some_iff.1 g3).2
  have hl1:=hlen _ hm1
  simp only at hl1
  simp only [C6,G0,D2,E5,G2,F4,WoH.cnu,hmtv,hmpv,hxta,hxpl,hxpi,hxlo,hlk,List.cons_append,List.nil_append,hpl]
  refine g6 (P:=P) (v:=v1) (l:=t1) (by (repeat constructor)) (hsub _ hm1) fun a1 c1 hv1=> ?_
  refine g6 (P:=PX) (v:=v2) (l:=t1) (by (repeat constructor)) (hsubX _ hm2) fun a2 c2 hv2=> ?_
  subst hv1
  subst hv2
  (have z:=trivial;repeat((first|clear z|with_reducible first|apply A3|refine A4 fun _=>?_|refine A5 fun _=>?_);try simp(disch:=solve|omega|assumption|repeat(first|exact A1|exact uH|apply A2|apply uT)|(simp;try omega)|fail)[hlt,hlt',hge',hltm,hgem,hltp,hgep,g1,g2,g3,g4,g3g,gm,gx]))
  refine B7 A7r (fun w' hw' => C5V w' _ _ t1 t1 hl1 hl1 (A14 (ts:=P) (t:=(.slice a1 t1.length c1,t1)) hw' (by (repeat constructor)) (hsub _ hm1)) (A14 (ts:=PX) (t:=(.slice a2 t1.length c2,t1)) hw' (by (repeat constructor)) (hsubX _ hm2))) ?_
  rw [decide_eq_true rfl]
  (have z:=trivial;repeat((first|clear z|with_reducible first|apply A3|refine A4 fun _=>?_|refine A5 fun _=>?_);try simp(disch:=solve|omega|assumption|repeat(first|exact A1|exact uH|apply A2|apply uT)|(simp;try omega)|fail)[hlt,hlt',hge',hltm,hgem,hltp,hgep,g1,g2,g3,g4,g3g,gm,gx]))
  refine Sels.tw ?_ (hL hlt () trivial)
  simp only [C6,G0,D2,E5,G2,F4,WoH.cnu,hmtv,hmpv,hxta,hxpl,hxpi,hxlo,hlk,List.cons_append,List.nil_append,hpl]
  (repeat' constructor)
 obtain rfl:k = x.ts.length:=by omega
 clear hL
 simp only [C6,G0,D2,E5,G2,F4,WoH.cnu,hmtv,hmpv,hxta,hxpl,hxpi,hxlo,hlk,List.cons_append,List.nil_append]
 (have z:=trivial;repeat((first|clear z|with_reducible first|apply A3|refine A4 fun _=>?_|refine A5 fun _=>?_);try simp(disch:=solve|omega|assumption|repeat(first|exact A1|exact uH|apply A2|apply uT)|(simp;try omega)|fail)[Int.lt_irrefl]))
 refine Sels.tw (rs:=C6 (m.cnu n3) ++ (G0 x ++ [M9 P,M9 PX])) (by simp only [C6,G0,D2,E5,G2,F4,WoH.cnu,hmtv,hmpv,hxta,hxpl,hxpi,hxlo,hlk,List.cons_append,List.nil_append]; (repeat' constructor)) ?_
 refine H3 A9D (fun w' hw' => C7d w' (m.cnu n3) (by show m.ts.length ≤ _; omega) (by show m.own.length = m.ts.length; rw [hts]; exact hg.ow) (WoAt.own hw' fun r hr=> List.mem_append_left _ hr) ⟨_,_,hmtv⟩) ?_
 rintro _ r rfl
 refine U8 (e:=3) (k:=1) (v:=r) (q:=(m.cnu n3).own.length) (xs:=F2 (m.cnu n3).own) (by simp) fun ra rc hu=> ?_
 subst hu
 simp only [C6,G0,D2,E5,G2,F4,WoH.cnu,hmtv,hmpv,hxta,hxpl,hxpi,hxlo,hlk,List.cons_append,List.nil_append]
 (have z:=trivial;repeat((first|clear z|with_reducible first|apply A3|refine A4 fun _=>?_|refine A5 fun _=>?_);try simp(disch:=solve|omega|assumption|repeat(first|exact A1|exact uH|apply A2|apply uT)|(simp;try omega)|fail)[]))
 refine B7 A7e (fun w' hw' => C9P w' _ _ m.own (by have:m.own.length = N:=hg.ow; omega) (M0.own (e:=3) (k:=1) (v:=.slice ra m.own.length rc) (by (repeat constructor)) w' hw') (M0.own (e:=3) (k:=1) (v:=.slice la m.own.length lc) (by (repeat constructor)) w' hw')) ?_
 refine B1 n3 rfl ?_
 (repeat' constructor)
end Go.Proofs.YtjobgnabneddjaaGreat
namespace Go.Proofs.YtjobgnabneddjaaGreat
open Go
end Go.Proofs.YtjobgnabneddjaaGreat
namespace Go.Proofs.YtjobgnabneddjaaGreat
open Go
end Go.Proofs.YtjobgnabneddjaaGreat
namespace Go.Proofs.YtjobgnabneddjaaGreat
open Go
theorem D2y {K:Value → WP} (a b:Bool):A0 PR (binOp .neq 4 (.bool a) (.bool b)) K = K (.bool (!(a == b))):=F9 (fun w=> by
 have h:(Op.equal 4 (.bool a) (.bool b)).run PR w = .ok (a == b) w:=y8 (e:=9999) ty4 w
 simp [binOp,h]) K
def B6e (x:WS) (p:Int):Prop:=D3 x.cells 2 = p ∧ ∀ i:Nat,D3 x.cells ((i:Nat) + 3) = 0
theorem B6e.after {x:WS} {v:Int} (h:B6e x v) (p:List F8):B6e (M8 x p) v:=by
 refine ⟨?_,fun i=> ?_⟩
 ·have:=B81 (x:=x) (p:=p) 0
  simp only [Int.natCast_zero,Int.zero_add] at this
  rw [this]; exact h.1
 ·have:=B81 (x:=x) (p:=p) (i + 1)
  rw [show (((i + 1:Nat):Int) + 2) = (i:Nat) + 3 by omega] at this
  rw [this]; exact h.2 i
theorem B6e.zero {x:WS} (h:B6e x 0) (i:Nat):D3 x.cells ((i:Nat) + 2) = 0:=by
 cases i with
 | zero=> exact h.1
 | succ i=> rw [show (((i + 1:Nat):Int) + 2) = (i:Nat) + 3 by omega]; exact h.2 i
end Go.Proofs.YtjobgnabneddjaaGreat
namespace Go.Proofs.YtjobgnabneddjaaGreat
open Go
theorem CurI.pin {x:WS} (h:CurI x) (v:Int):CurI { x with cells:=N0 x.cells 2 v }:=by
 have e:D3 (N0 x.cells 2 v) 1 = D3 x.cells 1:=W2 _ _ (by omega)
 refine ⟨⟨h.ok.wk,by simp only [A26]; exact h.ok.cells,h.ok.own,h.ok.sl,h.ok.keep⟩,h.kl,h.two,?_,fun k hk hc=> ?_,fun k hk hc=> ?_⟩
 ·show 0 ≤ D3 (N0 x.cells 2 v) 1 ∧ D3 (N0 x.cells 2 v) 1 ≤ x.keep.length; rw [e]; exact h.cur
 ·exact h.at1 k hk (by rw [show L7 { x with cells:=N0 x.cells 2 v } = D3 (N0 x.cells 2 v) 1 from rfl,e] at hc; exact hc)
 ·exact h.at2 k hk (by rw [show L7 { x with cells:=N0 x.cells 2 v } = D3 (N0 x.cells 2 v) 1 from rfl,e] at hc; exact hc)
theorem CurI.ready {x:WS} (h:CurI x) (hc:0 < L7 x):(B1v x.sl (L7 x - 1)).2 = true:=by
 have h1:=h.cur
 obtain ⟨k,hk⟩:∃ k:Nat,L7 x - 1 = k:=⟨(L7 x - 1).toNat,by omega⟩
 obtain ⟨_,p,hp⟩:=h.at1 k (by omega) (by omega)
 rw [hk]; unfold B1v; rw [hp]
theorem GI.up {N E:Nat} {j:JW} {x:WS} (h:GI N E j x):GI N (E + 1) j x := { h with ep:=by have:=h.ep; omega,jep:=by have:=h.jep; omega }
theorem XI.up {E:Nat} {y:XS} (h:XI E y):XI (E + 1) y := { h with ep:=by have:=h.ep; omega }
theorem PinJ.up {N E:Nat} {who pd e:Int} {j:JW} {x:WS} {y:XS} (h:PinJ N E who pd e j x y):PinJ N (E + 1) who pd e j x y := { h with g:=h.g.up }
theorem PinJ.new {c:CfgV} (hok:Q8 c = true) {who:Int} (hw:0 ≤ who ∧ who ≤ 60) {text:ByteArray} (ht:text.size ≤ 100) {y:XS} (h1:y.c = c) (h5:y.locks = List.replicate c.sh.toNat (-1)):PinJ c.sh.toNat 0 who 0 0 (G4 who text) (N2 c) y:=by
 have hf:∀ i,i < c.sh.toNat → (N2 c).own.getD i 0 = -1:=fun i hi=> by
  show (List.replicate c.sh.toNat (-1:Int)).getD i 0 = -1
  rw [List.getD_eq_getElem?_getD,List.getElem?_replicate_of_lt hi]; rfl
 refine ⟨GI.new hok who text ht,rfl,hw,h5,h1,A1B _ _,fun i hi _=> hf i hi,fun h=> by simp [G4] at h,fun _ i hi=> by rw [hf i hi]; omega,fun _=> Or.inl rfl,fun _ _=> A1B _ _,fun h=> by simp [G4] at h,fun _=> rfl,fun h=> by simp [G4] at h⟩
def cnA (a:JA) (n:Int):JA:=(a.1,a.2.1,{ a.2.2.1 with cn:=n },a.2.2.2)
theorem JsC.cn {cp:Nat} {a:JA} (h:JsC cp a) (n:Int):JsC cp (cnA a n):=⟨h.tab,h.sub,h.tb⟩
theorem D2E (a:ActV) (x:WS) (y:XS):(S8 a x y).c = x.c:=by
 unfold S8
 repeat' split
 all_goals rfl
theorem Q7.ks {w w':World} {l:List U5} (h:Q7 w l) (hk:KS false [] w w'):Q7 w' l:=fun r hr p e=> by
 obtain ⟨h1,h2,h3⟩:=h r hr p e
 exact ⟨h1,h2,h3.ks hk (by simp)⟩
theorem Q7.set {w:World} {l:List U5} (h:Q7 w l) (i:Int) (r:U5) (hr:∀ p,r.1 = .rdy p → r.2.2.1 = p.length ∧ p.length ≤ 1000 ∧ F5 w (rsP r) p.length (p.flatMap H5)):Q7 w (A1D l i r):=fun x hx p e=> by
 unfold A1D at hx
 split at hx
 ·rcases List.mem_or_eq_of_mem_set hx with hx | rfl
  ·exact h x hx p e
  ·exact hr p e
 ·exact h x hx p e
theorem Q7.hap {w:World} {y:XS} (h:Q7 w y.sl) (a:ActV) (ha:a.pool.length ≤ 8) (hv:F5 w a.pv a.pool.length (a.pool.flatMap H5)):Q7 w (S9 a y).sl:=by
 unfold S9
 split
 ·exact h
 split
 ·split <;> exact h
 split
 ·split <;> exact h
 split
 ·show Q7 w (if l2 y.sl.length a.n then m8 (T0 y.sl a.n) a.n a.pool (a.pa,a.pool.length,a.pc) else y.sl)
  split
  ·unfold m8
   have hb:Q7 w (T0 y.sl a.n):=h.set _ _ fun p e=> by cases e
   split
   ·exact hb.set _ _ fun p e=> by
     have:a.pool = p:=by simpa using e
     subst this
     exact ⟨rfl,by omega,hv⟩
   ·exact hb
  ·exact h
 split
 ·exact h.set _ _ fun p e=> by cases e
 split
 ·split <;> exact h
 split
 ·exact h
 ·exact h
theorem Q7.new (w:World) (n:Nat):Q7 w (List.replicate n noR):=fun r hr p e=> by
 rw [(List.mem_replicate.1 hr).2] at e; cases e
abbrev SA:=JA × XH × Value × P4
def ssH (b b2:Nat) (m:WoH) (s:SA):List Res:=jsH b m s.1 ++ Y1 b2 s.1.1 s.2.2.1 s.2.2.2 s.2.1
structure StC (w:World) (m:WoH) (cp N:Nat) (i:Nat) (s:SA):Prop where
 jc:JsC cp s.1
 g:GI N i s.1.1 (S6 m s.1)
 x:XI i s.2.1.xs
 r:XRel (S6 m s.1) s.2.1.xs
 f:A2d (S6 m s.1)
 jx:JobX N s.1.1 (S6 m s.1)
 jr:JobR s.1.1 (S6 m s.1)
 kx:(s.2.2.1,s.1.1.table) ∈ s.2.2.2
 sub:A0U s.2.1.ts s.2.2.2
 tab:∀ t ∈ s.2.2.2,TabOk 0 t.2 ∨ TabOk cp t.2
 pools:Q7 w s.2.1.sl
theorem D4W {N E:Nat} {j:JW} {X:WS} (hf:A2d X) (hg:GI N E j X) (hE:E ≤ 1000) (hj:JobX N j X) (hq:JobR j X) {y:XS} (h:XRel X y):A2d (j.step X).2.1 ∧ JobX N (j.step X).1 (j.step X).2.1 ∧ JobR (j.step X).1 (j.step X).2.1:=by
 cases hr:j.ready X with
 | false=> rw [A6D hr]; exact ⟨hf,hj,hq⟩
 | true=>
  have hs:=hg.st
  have hl:=A6N hr
  rw [A0y hr]
  obtain ⟨_,h1,h2⟩:=h.stage hf hg hE hj j.st.toNat (by omega) (by omega) hr
  exact ⟨h1,h2,hq.stage (N:=N) (E:=E) j.st.toNat (by omega) (by omega)⟩
theorem C0W {cp:Nat} {t:List EnV} (h:TabOk 0 t ∨ TabOk cp t):N4 t ∧ t.length ≤ 1000000:=by
 rcases h with h | h
 ·exact ⟨h.keys,by rw [h.len]; omega⟩
 ·exact ⟨h.keys,by have:=h.few; rw [h.len]; omega⟩
theorem StC.hap {w:World} {m:WoH} {cp N i:Nat} {s s':SA} (h:StC w m cp N i s) (hi:i ≤ 1000) (ac:ActV) (hcsl:(S6 m s.1).c.sl ≤ 8) (ha:ac.pool.length ≤ 8) (hv:F5 w ac.pv ac.pool.length (ac.pool.flatMap H5))
  (e1:s'.1.1 = s.1.1) (e2:S6 m s'.1 = S8 ac (S6 m s.1) s.2.1.xs) (e3:s'.2.1.xs = S9 ac s.2.1.xs) (e4:s'.2.1.ts = s.2.1.ts) (e5:s'.2.2 = s.2.2) (hc:JsC cp s'.1):StC w m cp N (i + 1) s':=by
 have hok:=h.g.ok
 have hep:=h.g.ep
 have how:((S6 m s.1).own.length:Int) = (S6 m s.1).c.sh:=by rw [h.g.ow,h.g.sh]
 obtain ⟨r1,r2⟩:=h.r.hap hok h.f ⟨hep.1,by omega⟩ ac how
 have hsd:0 ≤ s.1.1.shard ∧ s.1.1.shard < (S6 m s.1).c.sh:=by rw [h.g.sh]; exact h.g.shard
 have hsl:s'.2.1.sl = (S9 ac s.2.1.xs).sl:=by rw [← e3]; rfl
 refine ⟨hc,by rw [e1,e2]; exact h.g.hap (by omega) ac _ h.r.c hcsl,by rw [e3]; exact h.x.hap ac,by rw [e2,e3]; exact r1,by rw [e2]; exact r2,by rw [e1,e2]; exact h.jx.hap h.r h.f hok.wk.2 ac how hsd,⟨fun g1 g2=> by rw [e1] at g1 g2 ⊢; rw [e2,D2E]; exact h.jr.r g1 g2⟩,by rw [e1,e5]; exact h.kx,by rw [e4,e5]; exact h.sub,by rw [e5]; exact h.tab,by rw [hsl]; exact Q7.hap (y:=s.2.1.xs) h.pools ac ha hv⟩
theorem StC.step {w:World} {m:WoH} {cp N i:Nat} {s s':SA} (h:StC w m cp N i s) (hi:i ≤ 1000) (hcp:(S6 m s.1).c.cp.toNat = cp)
  (e1:s'.1.1 = (s.1.1.step (S6 m s.1)).1) (e2:S6 m s'.1 = (s.1.1.step (S6 m s.1)).2.1) (hc:JsC cp s'.1) (hr:RjF s.2.2.2 s.2.1 (s.1.1.step (S6 m s.1)).1 (s.1.1.step (S6 m s.1)).2.1 (s'.2.2.1,s'.2.2.2,s'.2.1)):StC w m cp N (i + 1) s':=by
 have hg:=h.g.step
 obtain ⟨h1,h2,h3⟩:=D4W h.f h.g (by omega) h.jx h.jr h.r
 obtain ⟨rb,rr,rsl,rsub,rtb,rgr⟩:=hr
 simp only at rr rsl rsub rtb rgr
 have hcp2:(S6 m s'.1).c.cp.toNat = cp:=by
  have e:(S6 m s'.1).c = (S6 m s.1).c:=rfl
  rw [e]; exact hcp
 have hxi:XI i s'.2.1.xs:=by
  have hxc:s'.2.1.xs.c = s.2.1.xs.c:=by rw [rr.c,← e2,h.r.c]; rfl
  have hx:=h.x
  have how:(s.1.1.step (S6 m s.1)).2.1.own.length = N:=hg.ow
  have hsh:(s.1.1.step (S6 m s.1)).2.1.c.sh = (N:Nat):=hg.sh
  refine ⟨by rw [hxc]; exact hx.sh,by rw [hxc]; exact hx.csl,by rw [rr.now]; exact hg.now,by rw [rr.locks,rr.c,hsh,how],by show s'.2.1.sl.length ≤ 8; rw [rsl]; exact hx.sl,by rw [rr.ep]; exact hg.ep⟩
 refine ⟨hc,by rw [e1,e2]; exact hg.up,hxi.up,by rw [e2]; exact rr,by rw [e2]; exact h1,by rw [e1,e2]; exact h2,by rw [e1,e2]; exact h3,by rw [e1]; exact rtb,rsub,fun t ht=> ?_,by rw [rsl]; exact h.pools⟩
 rcases rgr.2 t ht with g | g
 ·exact h.tab t g
 ·rw [g]
  have:=hg.jt
  rw [← e2,hcp2] at this
  exact this
theorem StC.cn {w:World} {m:WoH} {cp N i:Nat} {a:JA} {r:XH × Value × P4} (h:StC w m cp N i (a,r)) (n:Int):StC w m cp N i (cnA a n,r):=⟨h.jc.cn n,h.g,h.x,h.r,h.f,h.jx,h.jr,h.kx,h.sub,h.tab,h.pools⟩
theorem C0T (b b2:Nat) (m:WoH) (a:JA) (x:XH) (kv:Value) (PX:P4):(ssH b b2 m (a,x,kv,PX) ++ []).Perm (jsH b m a ++ (G0 x ++ [H7 b2 a.1 kv,M9 PX])):=by
 rw [List.append_nil]
 exact List.Perm.append_left _ (List.perm_append_comm (l₁ := [H7 b2 a.1 kv,M9 PX]))
set_option maxHeartbeats 8000000 in
theorem B76 (w:World) (c:CfgV) (who:Int) (text:ByteArray) (lv:Value) (l:List ActV) (htm:text.size ≤ 9223372036854775807) (hll:l.length ≤ 9223372036854775807) (hv:F5 w lv l.length (l.flatMap A6r)) (hvs:∀ a ∈ l,F5 w a.pv a.pool.length (a.pool.flatMap H5)) :
  Fn PR B8 9 #[c.val,.int .i64 who,.string text,lv] w (fun v w' => v = .bool true ∧ C7 [] w w'):=by
 refine Fn.pure (A3y (TW.go (κ:=false) (S := []) ?_))
 unfold r7
 have hFew:=fun (w':World) (H:List Res) (hw':LW false [] w H w')=> C9m w' lv l hll (hv.ks hw'.ks (by simp))
 obtain ⟨la,lc,rfl,hlr⟩:=hv.form
 simp only [CfgV.val]
 (have z:=trivial;repeat((first|clear z|with_reducible first|apply A3|refine A4 fun _=>?_|refine A5 fun _=>?_);try simp(disch:=solve|omega|assumption|repeat(first|exact A1|exact uH|apply A2|apply uT)|(simp;try omega)|fail)[]))
 rename_i bc
 refine B7 A6c (fun w' _=> C31 w') ?_
 (have z:=trivial;repeat((first|clear z|with_reducible first|apply A3|refine A4 fun _=>?_|refine A5 fun _=>?_);try simp(disch:=solve|omega|assumption|repeat(first|exact A1|exact uH|apply A2|apply uT)|(simp;try omega)|fail)[]))
 refine B7 A64 (fun w' _=> C9u w' c) ?_
 cases hs:B0q c with
 | false=> (have z:=trivial;repeat((first|clear z|with_reducible first|apply A3|refine A4 fun _=>?_|refine A5 fun _=>?_);try simp(disch:=solve|omega|assumption|repeat(first|exact A1|exact uH|apply A2|apply uT)|(simp;try omega)|fail)[])); exact A9 rfl
 | true=>
 (have z:=trivial;repeat((first|clear z|with_reducible first|apply A3|refine A4 fun _=>?_|refine A5 fun _=>?_);try simp(disch:=solve|omega|assumption|repeat(first|exact A1|exact uH|apply A2|apply uT)|(simp;try omega)|fail)[]))
 refine B7 A9M (fun w' hw' => hFew w' _ hw') ?_
 clear hFew
 cases hf:A3k l with
 | false=> (have z:=trivial;repeat((first|clear z|with_reducible first|apply A3|refine A4 fun _=>?_|refine A5 fun _=>?_);try simp(disch:=solve|omega|assumption|repeat(first|exact A1|exact uH|apply A2|apply uT)|(simp;try omega)|fail)[])); exact A9 rfl
 | true=>
 by_cases htx:text.size ≤ 100
 case neg=>
  have h1:100 < (text.size:Int):=by omega
  have h2:100 < text.size:=by omega
  (have z:=trivial;repeat((first|clear z|with_reducible first|apply A3|refine A4 fun _=>?_|refine A5 fun _=>?_);try simp(disch:=solve|omega|assumption|repeat(first|exact A1|exact uH|apply A2|apply uT)|(simp;try omega)|fail)[h1,h2])); exact A9 rfl
 have h1:¬ 100 < (text.size:Int):=by omega
 have h2:¬ 100 < text.size:=by omega
 (have z:=trivial;repeat((first|clear z|with_reducible first|apply A3|refine A4 fun _=>?_|refine A5 fun _=>?_);try simp(disch:=solve|omega|assumption|repeat(first|exact A1|exact uH|apply A2|apply uT)|(simp;try omega)|fail)[h1,h2]))
 refine H3 B2Q (fun w' hw' => C22 w' c) ?_
 cases hok:Q8 c with
 | false=>
  simp only [Bool.false_eq_true,if_false]
  rintro m v rfl
  (have z:=trivial;repeat((first|clear z|with_reducible first|apply A3|refine A4 fun _=>?_|refine A5 fun _=>?_);try simp(disch:=solve|omega|assumption|repeat(first|exact A1|exact uH|apply A2|apply uT)|(simp;try omega)|fail)[]))
  exact A9 rfl
 | true=>
 simp only [if_true]
 rintro m v ⟨rfl,hmc,hws⟩
 (have z:=trivial;repeat((first|clear z|with_reducible first|apply A3|refine A4 fun _=>?_|refine A5 fun _=>?_);try simp(disch:=solve|omega|assumption|repeat(first|exact A1|exact uH|apply A2|apply uT)|(simp;try omega)|fail)[]))
 refine H3 A4T (fun w' hw' => B6C w' who text) ?_
 rintro b v rfl
 simp only [C6,D2,List.cons_append,List.nil_append]
 (have z:=trivial;repeat((first|clear z|with_reducible first|apply A3|refine A4 fun _=>?_|refine A5 fun _=>?_);try simp(disch:=solve|omega|assumption|repeat(first|exact A1|exact uH|apply A2|apply uT)|(simp;try omega)|fail)[]))
 refine B7 A6J (fun w' hw' => C41 w' m (hw'.pt (b:=m.b) (by unfold E5; (repeat constructor)))) ?_
 (have z:=trivial;repeat((first|clear z|with_reducible first|apply A3|refine A4 fun _=>?_|refine A5 fun _=>?_);try simp(disch:=solve|omega|assumption|repeat(first|exact A1|exact uH|apply A2|apply uT)|(simp;try omega)|fail)[]))
 refine H3 A8y (fun w' hw' => C78 w' c hok) ?_
 rintro x v ⟨rfl,hx1,hx2,hx3,hx4,hx5,hx6,hx7,hx8,hx9,hx10⟩
 have hok2:=hok
 simp only [Q8,k9,Bool.and_eq_true,decide_eq_true_eq] at hok2
 obtain ⟨N,hN⟩:∃ N:Nat,c.sh = N:=⟨c.sh.toNat,by omega⟩
 have hNt:c.sh.toNat = N:=by omega
 have hg0:=GI.new hok who text htx
 rw [hNt,← hws] at hg0
 obtain ⟨hr0,hf0⟩:=XRel.new hok (y:=x.xs) hx1 hx2 hx3 hx4 hx5 hx6 hx7 hx8 hx9 hx10
 rw [← hws] at hr0 hf0
 have hpo0:Q7 w x.sl:=by rw [hx6]; exact Q7.new _ _
 have htx0:∀ t ∈ x.ts,TabOk c.cp.toNat t.2:=fun t ht=> by
  have:t.2 ∈ x.ts.map (·.2):=List.mem_map.2 ⟨t,ht,rfl⟩
  rw [hx8] at this
  rw [(List.mem_replicate.1 this).2]; exact TabOk.new (by omega)
 have hxi0:XI 0 x.xs:=⟨by show 1 ≤ x.c.sh ∧ x.c.sh ≤ 16; rw [hx1]; omega,by show x.c.sl ≤ 8; rw [hx1]; omega,by show 0 ≤ x.now ∧ x.now ≤ _; rw [hx10]; omega,by show (x.locks.length:Int) = x.c.sh; rw [hx5,hx1,List.length_replicate]; omega,by show x.sl.length ≤ 8; rw [hx6,List.length_replicate]; omega,by show 0 ≤ x.ep ∧ x.ep ≤ 0; rw [hx2]; omega⟩
 have hcc:m.c = c:=congrArg WS.c hws
 have htabs:∀ t ∈ m.ts,TabOk c.cp.toNat t.2:=fun t ht=> by
  have e1:m.ts.map (·.2) = List.replicate c.sh.toNat (newE c.cp.toNat):=congrArg WS.tabs hws
  have:t.2 ∈ m.ts.map (·.2):=List.mem_map.2 ⟨t,ht,rfl⟩
  rw [e1] at this
  rw [(List.mem_replicate.1 this).2]; exact TabOk.new (by omega)
 clear hmc hws hx1 hx2 hx3 hx4 hx5 hx6 hx7 hx8 hx9 hx10
 simp only [List.cons_append,List.nil_append]
 (have z:=trivial;repeat((first|clear z|with_reducible first|apply A3|refine A4 fun _=>?_|refine A5 fun _=>?_);try simp(disch:=solve|omega|assumption|repeat(first|exact A1|exact uH|apply A2|apply uT)|(simp;try omega)|fail)[]))
 refine H3 A9c (fun w' hw' => C9y w' who text) ?_
 rintro b2 v rfl
 simp only [List.cons_append,List.nil_append]
 refine l7 218 4 ?_
 refine V3 (r:=.slice none 0 0) (l := []) (ts:=m.ts) (by (repeat' constructor)) ?_
 refine l7 218 4 ?_
 refine V3 (r:=.slice none 0 0) (l := []) (ts:=x.ts) (by (repeat' constructor)) ?_
 obtain ⟨P,hP⟩:∃ P,P = m.ts ++ [(M1,[])]:=⟨_,rfl⟩
 obtain ⟨PX,hPX⟩:∃ PX,PX = x.ts ++ [(M1,[])]:=⟨_,rfl⟩
 rw [show ((.slice none 0 0:Value),([]:List EnV)) = (M1,[]) from rfl,← hP,← hPX]
 have hc0:StC w m c.cp.toNat N 0 ((G4 who text,M1,m.dg,P),x,M1,PX):=by
  refine ⟨⟨fun t ht=> ?_,fun t ht=> by rw [hP]; exact List.mem_append_left _ ht,by rw [hP]; exact List.mem_append_right _ (List.mem_singleton.2 rfl)⟩,hg0,hxi0,hr0,hf0,JobX.new _ _ _ _,⟨fun h=> by simp [G4] at h⟩,by rw [hPX]; exact List.mem_append_right _ (List.mem_singleton.2 rfl),fun t ht=> by rw [hPX]; exact List.mem_append_left _ ht,fun t ht=> ?_,hpo0⟩
  ·rw [hP] at ht
   rcases List.mem_append.1 ht with ht | ht
   ·exact Or.inr (htabs t ht)
   ·rw [List.mem_singleton.1 ht]; exact Or.inl B3T
  ·rw [hPX] at ht
   rcases List.mem_append.1 ht with ht | ht
   ·exact Or.inr (htx0 t ht)
   ·rw [List.mem_singleton.1 ht]; exact Or.inl B3T
 clear hP hPX htabs htx0 hg0 hr0 hf0 hxi0 hpo0
 refine Sels.tw (rs:=ssH b b2 m ((G4 who text,M1,m.dg,P),x,M1,PX) ++ []) (by simp only [ssH,Y1,jsH,G3,show m.ug m.dg = m from rfl,C6,D2,G0,List.cons_append,List.nil_append]; (repeat' constructor)) ?_
 have hcpx:∀ s:SA,(S6 m s.1).c.cp.toNat = c.cp.toNat:=fun s=> by show m.c.cp.toNat = _; rw [hcc]
 have hcsl:∀ s:SA,(S6 m s.1).c.sl ≤ 8:=fun s=> by show m.c.sl ≤ 8; rw [hcc]; omega
 (have z:=trivial;repeat((first|clear z|with_reducible first|apply A3|refine A4 fun _=>?_|refine A5 fun _=>?_);try simp(disch:=solve|omega|assumption|repeat(first|exact A1|exact uH|apply A2|apply uT)|(simp;try omega)|fail)[]))
 refine P5 (α:=SA) l.length (fun _ _=> .bool false) (fun _ s=> ssH b b2 m s ++ []) (fun i s=> StC w m c.cp.toNat N i s ∧ s.2.1.b = x.b) _ ⟨hc0,rfl⟩ ?_
 obtain ⟨xb,hxb⟩:∃ xb,xb = x.b:=⟨_,rfl⟩
 rw [← hxb]
 clear hc0 hxb
 rintro i s hi ⟨hC,rfl⟩ L hL
 have hl40:=C7P hf
 by_cases hlt:i < l.length
 case neg=>
  obtain rfl:i = l.length:=by omega
  clear hL
  (have z:=trivial;repeat((first|clear z|with_reducible first|apply A3|refine A4 fun _=>?_|refine A5 fun _=>?_);try simp(disch:=solve|omega|assumption|repeat(first|exact A1|exact uH|apply A2|apply uT)|(simp;try omega)|fail)[Int.lt_irrefl]))
  exact A9 rfl
 have hlt':((i:Nat):Int) < (l.length:Nat):=by omega
 obtain ⟨lb,lo,rfl,hrow⟩:=hlr (by omega)
 obtain ⟨ac,hx⟩:∃ ac,l[i]? = some ac:=⟨_,List.getElem?_eq_getElem hlt⟩
 have hxm:=List.mem_of_getElem? hx
 have g0:=hrow.cellAt (f:=A6r) (k:=3) (j:=0) (fun _=> rfl) hx rfl
 have g3:=hrow.partAt (f:=A6r) (k:=3) (fun _=> rfl) hx 0 3 (by omega)
 rw [show ((A6r ac).drop 0).take 3 = A6r ac from rfl,Nat.add_zero] at g3
 rw [Nat.add_zero] at g0
 have hap:=C9K hf hxm
 have hacv:=hvs _ hxm
 have hcs:=hcsl s
 have hcp:=hcpx s
 by_cases k0:ac.k = 0
 ·rw [k0] at g0
  (have z:=trivial;repeat((first|clear z|with_reducible first|apply A3|refine A4 fun _=>?_|refine A5 fun _=>?_);try simp(disch:=solve|omega|assumption|repeat(first|exact A1|exact uH|apply A2|apply uT)|(simp;try omega)|fail)[hlt,hlt',g0]))
  obtain ⟨⟨j,tv,d,P⟩,x,kv,PX⟩:=s
  obtain ⟨hjc,hg,hxi,hr,hfr,hjx,hjr,hkx,hsub,htab,hpools⟩:=hC
  have hC:StC w m c.cp.toNat N i ((j,tv,d,P),x,kv,PX):=⟨hjc,hg,hxi,hr,hfr,hjx,hjr,hkx,hsub,htab,hpools⟩
  simp only at hjc hg hxi hr hfr hjx hjr hkx hsub htab hpools hcs hcp hL ⊢
  obtain ⟨X,hX⟩:∃ X,X = S6 m (j,tv,d,P):=⟨_,rfl⟩
  have hRw:∀ (w':World) (H:List Res),LW false [] w H w' → G6 b j tv ∈ H → (∀ r ∈ C6 (m.ug d),r ∈ H) → Fn PR B8 23 #[.pointer (some ⟨b,0,none⟩),.pointer (some ⟨m.b,0,none⟩)] w' (fun u w'' => u = .bool (j.ready X) ∧ C7 [] w' w''):=fun w' H hw' h1 h2=> by rw [hX]; exact C1j (m:=m.ug d) hw' h1 h2
  rw [← hX] at hg hr hfr hjx hjr
  have hRx:=fun (w':World) (h1:RBl w' b2 j kv) (h2:XBl w' x) (h3:F5 w' x.lov x.locks.length (F2 x.locks))=> B6K w' b2 j kv x X hg hjr hr h1 h2 h3
  obtain ⟨rb,hrb⟩:∃ rb,rb = j.ready X:=⟨_,rfl⟩
  rw [← hrb] at hRw hRx
  clear hrb
  refine B7 S7 (fun w' hw' => hRw w' _ hw' (by simp [ssH,jsH,G3]) (fun r hr=> by simp only [ssH,jsH,G3]; simp [hr])) ?_
  (have z:=trivial;repeat((first|clear z|with_reducible first|apply A3|refine A4 fun _=>?_|refine A5 fun _=>?_);try simp(disch:=solve|omega|assumption|repeat(first|exact A1|exact uH|apply A2|apply uT)|(simp;try omega)|fail)[]))
  refine B7 E9 (fun w' hw' => hRx w' (hw'.pt (by simp [ssH,Y1,H7])) (hw'.pt (by simp [ssH,Y1,G0,G2])) (M0.own (e:=3) (k:=1) (by simp [ssH,Y1,G0]) w' hw')) ?_
  (have z:=trivial;repeat((first|clear z|with_reducible first|apply A3|refine A4 fun _=>?_|refine A5 fun _=>?_);try simp(disch:=solve|omega|assumption|repeat(first|exact A1|exact uH|apply A2|apply uT)|(simp;try omega)|fail)[D2y,beq_self_eq_true]))
  clear hRw hRx
  refine D8r (N:=N) (E:=i) (Hk:=Y1 b2 j kv PX x) b m (j,tv,d,P) c.cp.toNat hjc (by omega) (by rw [← hX]; exact hg) hcp (by simp only [ssH,List.append_nil]; exact A8L _) ?_
  intro a' k1 k2 k3 k4
  (have z:=trivial;repeat((first|clear z|with_reducible first|apply A3|refine A4 fun _=>?_|refine A5 fun _=>?_);try simp(disch:=solve|omega|assumption|repeat(first|exact A1|exact uH|apply A2|apply uT)|(simp;try omega)|fail)[]))
  refine TW.perm ?_ List.perm_append_comm
  refine C8 (Hc:=Y1 b2 j kv PX x) (Hk:=jsH b m a') A5C (fun w' hw' hs=> C7F w' b2 j kv PX x X hg (by omega) hjr hjx hfr hr hxi.sl hsub hkx (C0W (htab _ hkx)).1 (C0W (htab _ hkx)).2 (B4k (fun w1 hk=> hpools.ks hk) hw') hs) (A7A _ _) ?_
  rintro ⟨kv2,PX2,x2⟩ v ⟨rfl,hR⟩
  have hC2:=hC.step (s':=(a',x2,kv2,PX2)) (by omega) hcp k1 k2 k3 (by rw [← hX]; exact hR)
  have hxb:x2.b = x.b:=hR.b
  rw [← hX] at k1 ⊢
  rw [← show a'.1 = (j.step X).1 from k1]
  obtain ⟨t1,t2,t3⟩:=(j.step X).2.2
  obtain ⟨j',tv',d',P'⟩:=a'
  clear hR k1 k2 k3 k4 hC hjc hg hxi hr hfr hjx hjr hkx hsub htab hpools hX
  simp only [L8,Y1,H7,H8,List.cons_append]
  (have z:=trivial;repeat((first|clear z|with_reducible first|apply A3|refine A4 fun _=>?_|refine A5 fun _=>?_);try simp(disch:=solve|omega|assumption|repeat(first|exact A1|exact uH|apply A2|apply uT)|(simp;try omega)|fail)[]))
  simp only [beq_self_eq_true,Bool.and_true,Bool.not_true]
  obtain ⟨sg,hsg⟩:∃ sg,sg = j'.st:=⟨_,rfl⟩
  have hS1:=fun (w':World) (g:bl w' b = some (.cells (L5 j' tv') 130 (0,0)))=> B1M w' b j' tv' g
  rw [← hsg] at hS1
  refine B7 y9 (fun w' hw' => hS1 w' (hw'.pt (b:=b) (by simp [jsH,G3,G6]))) ?_
  rw [← hsg]
  have hsame:∀ (K:Value → WP),(∀ n:Int,TW false [] w (saH ((m.ug d').cnu n) x2 P' PX2 ++ [H7 b2 j' kv2,G6 b j' tv']) (K (.bool true))) → TW false [] w (saH (m.ug d') x2 P' PX2 ++ [H7 b2 j' kv2,G6 b j' tv']) (B3 PR B8 55 [.pointer (some ⟨m.b,0,none⟩),.pointer (some ⟨x.b,0,none⟩)] K):=fun K hK=> by
   rw [← hxb]
   refine C8 (Hc:=saH (m.ug d') x2 P' PX2) (Hk := [H7 b2 j' kv2,G6 b j' tv']) A7Z (fun w' _ hs=> C7B w' (m.ug d') x2 P' PX2 hC2.g hC2.r hC2.jc.sub hC2.sub (fun t ht=> (C0W (hC2.jc.tab _ (hC2.jc.sub _ ht))).2) hs) (A7A _ _) ?_
   rintro n v rfl
   exact hK n
  have hfin:∀ n:Int,TW false [] w (saH ((m.ug d').cnu n) x2 P' PX2 ++ [H7 b2 j' kv2,G6 b j' tv']) (L (.bool false) (.int .i64 ((i:Int) + 1))):=fun n=> by
   refine Sels.tw ?_ (hL hlt (cnA (j',tv',d',P') n,x2,kv2,PX2) ⟨hC2.cn n,hxb⟩)
   simp only [ssH,saH,Y1,jsH,G3,cnA,WoH.cnu,WoH.ug,C6,D2,E5,G0,G2,F4,List.cons_append,List.nil_append,List.append_nil]
   (repeat' constructor)
  by_cases c7:7 ≤ sg
  case neg=>
   (have z:=trivial;repeat((first|clear z|with_reducible first|apply A3|refine A4 fun _=>?_|refine A5 fun _=>?_);try simp(disch:=solve|omega|assumption|repeat(first|exact A1|exact uH|apply A2|apply uT)|(simp;try omega)|fail)[c7]))
   refine Sels.tw (rs:=saH (m.ug d') x2 P' PX2 ++ [H7 b2 j' kv2,G6 b j' tv']) (by simp only [saH,H7,H8,jsH,G3,C6,D2,E5,G0,G2,F4,← hsg,List.cons_append,List.nil_append]; (repeat' constructor)) ?_
   refine hsame _ fun n=> ?_
   (have z:=trivial;repeat((first|clear z|with_reducible first|apply A3|refine A4 fun _=>?_|refine A5 fun _=>?_);try simp(disch:=solve|omega|assumption|repeat(first|exact A1|exact uH|apply A2|apply uT)|(simp;try omega)|fail)[c7]))
   exact hfin n
  have hA1:=fun (w':World) (g:bl w' b = some (.cells (L5 j' tv') 130 (0,0)))=> A9B w' b j' tv' g
  (have z:=trivial;repeat((first|clear z|with_reducible first|apply A3|refine A4 fun _=>?_|refine A5 fun _=>?_);try simp(disch:=solve|omega|assumption|repeat(first|exact A1|exact uH|apply A2|apply uT)|(simp;try omega)|fail)[c7]))
  refine B7 s8 (fun w' hw' => hA1 w' (hw'.pt (b:=b) (by simp [jsH,G3,G6]))) ?_
  simp only [AnsV.val]
  rw [C6C (by (repeat constructor)) (by rfl)]
  (have z:=trivial;repeat((first|clear z|with_reducible first|apply A3|refine A4 fun _=>?_|refine A5 fun _=>?_);try simp(disch:=solve|omega|assumption|repeat(first|exact A1|exact uH|apply A2|apply uT)|(simp;try omega)|fail)[c7,beq_self_eq_true,Bool.and_true,Bool.not_true,decide_true]))
  refine Sels.tw (rs:=saH (m.ug d') x2 P' PX2 ++ [H7 b2 j' kv2,G6 b j' tv']) (by simp only [saH,H7,H8,jsH,G3,C6,D2,E5,G0,G2,F4,← hsg,List.cons_append,List.nil_append]; (repeat' constructor)) ?_
  refine hsame _ fun n=> ?_
  (have z:=trivial;repeat((first|clear z|with_reducible first|apply A3|refine A4 fun _=>?_|refine A5 fun _=>?_);try simp(disch:=solve|omega|assumption|repeat(first|exact A1|exact uH|apply A2|apply uT)|(simp;try omega)|fail)[c7]))
  exact hfin n
 ·(have z:=trivial;repeat((first|clear z|with_reducible first|apply A3|refine A4 fun _=>?_|refine A5 fun _=>?_);try simp(disch:=solve|omega|assumption|repeat(first|exact A1|exact uH|apply A2|apply uT)|(simp;try omega)|fail)[hlt,hlt',g0,k0,g3,A6r,ActV.pv]))
  have hJ:=hC.jc
  have hG:=hC.g
  have hXI:=hC.x
  obtain ⟨a,x,kv,PX⟩:=s
  simp only at hJ hG hXI hcs hcp
  refine TW.perm ?_ (C0T b b2 m a x kv PX)
  refine D4b (Hk := [H7 b2 a.1 kv,M9 PX]) b m a x ac c.cp.toNat hJ (by omega) hG hXI hap (fun w' hk=> hacv.ks hk (by simp)) (A8L _) ?_
  intro a' x' e1 e2 e3 e4 e5 e6 _
  have hC2:=hC.hap (s':=(a',x',kv,PX)) (by omega) ac hcs hap hacv e1 e2 e4 e5 rfl e6
  have h2:=hL hlt (a',x',kv,PX) ⟨hC2,e3⟩
  rw [← e1]
  refine TW.perm ?_ (C0T b b2 m a' x' kv PX).symm
  (have z:=trivial;repeat((first|clear z|with_reducible first|apply A3|refine A4 fun _=>?_|refine A5 fun _=>?_);try simp(disch:=solve|omega|assumption|repeat(first|exact A1|exact uH|apply A2|apply uT)|(simp;try omega)|fail)[]))
  exact h2
end Go.Proofs.YtjobgnabneddjaaGreat
