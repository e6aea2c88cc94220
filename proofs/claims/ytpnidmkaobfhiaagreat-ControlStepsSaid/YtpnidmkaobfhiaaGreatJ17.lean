/- The proof of a given statement, a part of it (Hap Hap2 Few19 ArgsA ArgsOp ShL20ControlSteps UpdR RunU WsN BusL Works20 Jw LockL LockM CurL JwQ JwG PinL SimL CqL Cq ShR20 Jw1 Jw2 Jw3 Rf19 Rf20 Rf15n Rf20f Rf20g Rf20h Rf20c Rf20d Rf20e). No condition but what each lemma says. -/
import Derived.Test.YtpnidmkaobfhiaaGreatJ16
set_option linter.unusedVariables false
set_option linter.unusedSimpArgs false
namespace Go.Proofs.YtpnidmkaobfhiaaGreat
open Go
def j4 (now d : Int) : Int := if 0 ≤ d ∧ d ≤ 1000000 ∧ now + d ≤ 1000000000 then now + d else now
theorem B5e {now d : Int} (h : 0 ≤ now ∧ now ≤ 1000000000) : 0 ≤ j4 now d ∧ j4 now d ≤ 1000000000 := by unfold j4; split <;> omega
theorem C20 (w : World) (b : Nat) (c : CfgV) (pc ps pk tv pv : Value) (now d : Int) (hn : 0 ≤ now ∧ now ≤ 1000000000) (hw : LW false [b] w [E0 b c pc ps pk tv pv (.int .i64 now)] w) :
  Fn PR B6 53 #[.pointer (some ⟨b, 0, none⟩), .int .i64 d] w (Rn [b] w (fun (_ : Unit) u => u = .tuple #[]) fun _ => [E0 b c pc ps pk tv pv (.int .i64 (j4 now d))]) := by
 refine A9z (TW.goH (κ := false) (S := [b]) ?_ hw)
 unfold A3H
 simp only [E0, E7]
 by_cases c1 : 0 ≤ d
 case neg =>
  (have zz:=trivial;repeat((first|clear zz|with_reducible first|refine A3 ?_|refine A5 fun _=>?_|refine A4 fun _=>?_);try simp(disch:=first|omega|assumption|((repeat(first|exact A1|exact uH|apply A2|apply uT));first|done|fail)|(simp;first|done|omega|fail))[c1]))
  refine B0 () rfl ?_
  simp only [j4, if_neg (show ¬ (0 ≤ d ∧ d ≤ 1000000 ∧ now + d ≤ 1000000000) by omega)]
  (repeat' constructor)
 by_cases c2 : d ≤ 1000000
 case neg =>
  have c2' : 1000000 < d := by omega
  (have zz:=trivial;repeat((first|clear zz|with_reducible first|refine A3 ?_|refine A5 fun _=>?_|refine A4 fun _=>?_);try simp(disch:=first|omega|assumption|((repeat(first|exact A1|exact uH|apply A2|apply uT));first|done|fail)|(simp;first|done|omega|fail))[c1, c2, c2']))
  refine B0 () rfl ?_
  simp only [j4, if_neg (show ¬ (0 ≤ d ∧ d ≤ 1000000 ∧ now + d ≤ 1000000000) by omega)]
  (repeat' constructor)
 have c2' : ¬ 1000000 < d := by omega
 by_cases c3 : now ≤ 1000000000 - d
 case neg =>
  (have zz:=trivial;repeat((first|clear zz|with_reducible first|refine A3 ?_|refine A5 fun _=>?_|refine A4 fun _=>?_);try simp(disch:=first|omega|assumption|((repeat(first|exact A1|exact uH|apply A2|apply uT));first|done|fail)|(simp;first|done|omega|fail))[c1, c2, c2', c3]))
  refine B0 () rfl ?_
  simp only [j4, if_neg (show ¬ (0 ≤ d ∧ d ≤ 1000000 ∧ now + d ≤ 1000000000) by omega)]
  (repeat' constructor)
 ·(have zz:=trivial;repeat((first|clear zz|with_reducible first|refine A3 ?_|refine A5 fun _=>?_|refine A4 fun _=>?_);try simp(disch:=first|omega|assumption|((repeat(first|exact A1|exact uH|apply A2|apply uT));first|done|fail)|(simp;first|done|omega|fail))[c1, c2, c2', c3]))
  refine B0 () rfl ?_
  simp only [j4, if_pos (show (0 ≤ d ∧ d ≤ 1000000 ∧ now + d ≤ 1000000000) by omega)]
  (repeat' constructor)
theorem B93 (w : World) (b : Nat) (c : CfgV) (ep cur : Int) (piv lov slv kev tav plv : Value) (now d : Int) (hn : 0 ≤ now ∧ now ≤ 1000000000) (hw : LW false [b] w [G5 b c ep cur piv lov slv kev tav plv now] w) :
  Fn PR B6 54 #[.pointer (some ⟨b, 0, none⟩), .int .i64 d] w (Rn [b] w (fun (_ : Unit) u => u = .tuple #[]) fun _ => [G5 b c ep cur piv lov slv kev tav plv (j4 now d)]) := by
 refine A3Z (TW.goH (κ := false) (S := [b]) ?_ hw)
 unfold p4
 simp only [G5, H2]
 by_cases c1 : 0 ≤ d
 case neg =>
  (have zz:=trivial;repeat((first|clear zz|with_reducible first|refine A3 ?_|refine A5 fun _=>?_|refine A4 fun _=>?_);try simp(disch:=first|omega|assumption|((repeat(first|exact A1|exact uH|apply A2|apply uT));first|done|fail)|(simp;first|done|omega|fail))[c1]))
  refine B0 () rfl ?_
  simp only [j4, if_neg (show ¬ (0 ≤ d ∧ d ≤ 1000000 ∧ now + d ≤ 1000000000) by omega)]
  (repeat' constructor)
 by_cases c2 : d ≤ 1000000
 case neg =>
  have c2' : 1000000 < d := by omega
  (have zz:=trivial;repeat((first|clear zz|with_reducible first|refine A3 ?_|refine A5 fun _=>?_|refine A4 fun _=>?_);try simp(disch:=first|omega|assumption|((repeat(first|exact A1|exact uH|apply A2|apply uT));first|done|fail)|(simp;first|done|omega|fail))[c1, c2, c2']))
  refine B0 () rfl ?_
  simp only [j4, if_neg (show ¬ (0 ≤ d ∧ d ≤ 1000000 ∧ now + d ≤ 1000000000) by omega)]
  (repeat' constructor)
 have c2' : ¬ 1000000 < d := by omega
 by_cases c3 : now + d ≤ 1000000000
 case neg =>
  (have zz:=trivial;repeat((first|clear zz|with_reducible first|refine A3 ?_|refine A5 fun _=>?_|refine A4 fun _=>?_);try simp(disch:=first|omega|assumption|((repeat(first|exact A1|exact uH|apply A2|apply uT));first|done|fail)|(simp;first|done|omega|fail))[c1, c2, c2', c3]))
  refine B0 () rfl ?_
  simp only [j4, if_neg (show ¬ (0 ≤ d ∧ d ≤ 1000000 ∧ now + d ≤ 1000000000) by omega)]
  (repeat' constructor)
 ·(have zz:=trivial;repeat((first|clear zz|with_reducible first|refine A3 ?_|refine A5 fun _=>?_|refine A4 fun _=>?_);try simp(disch:=first|omega|assumption|((repeat(first|exact A1|exact uH|apply A2|apply uT));first|done|fail)|(simp;first|done|omega|fail))[c1, c2, c2', c3]))
  refine B0 () rfl ?_
  simp only [j4, if_pos (show (0 ≤ d ∧ d ≤ 1000000 ∧ now + d ≤ 1000000000) by omega)]
  (repeat' constructor)
theorem C0l (w : World) (m : WoH) (hn : m.ts.length ≤ 1000) (ho : m.own.length = m.ts.length) (hm : WoAt w m) (htv : ∃ a c, m.tv = .slice a m.ts.length c) :
  Fn PR B6 89 #[.pointer (some ⟨m.b, 0, none⟩)] w (Rn [] w (fun r u => u = r) fun r => [.own 3 1 r m.own.length (C1 m.own)]) := by
 refine A73 (TW.go (κ := false) (S := []) ?_)
 unfold A2B
 obtain ⟨ta, tc, htv⟩ := htv
 have h5 : w.cell? ⟨m.b, 5, none⟩ = some (.pointer (some ⟨m.bc, 0, none⟩)) := by rw [D7 hm.b]; rfl
 have h8 : w.cell? ⟨m.b, 8, none⟩ = some (.slice ta m.ts.length tc) := by rw [D7 hm.b, ← htv]; rfl
 (have zz:=trivial;repeat((first|clear zz|with_reducible first|refine A3 ?_|refine A5 fun _=>?_|refine A4 fun _=>?_);try simp(disch:=first|omega|assumption|((repeat(first|exact A1|exact uH|apply A2|apply uT));first|done|fail)|(simp;first|done|omega|fail))[h8]))
 refine j9 3 1 ?_
 refine Q6 m.own.length (fun i (y : Option Addr × Nat) => .slice y.1 i y.2) (fun i y => [.own 3 1 (.slice y.1 i y.2) i ((C1 m.own).take i)]) (fun _ _ => True) (none, 0) trivial ?_
 rintro i ⟨ya, yc⟩ hi _ L hL
 by_cases hlt : i < m.own.length
 ·have hlt' : ((i : Nat) : Int) < (m.ts.length : Nat) := by omega
  have hlt2 : i < m.ts.length := by omega
  have hst : (C1 m.own).take (i + 1) = (C1 m.own).take i ++ [Value.int .i64 (m.own.getD i 0)] := by
   rw [List.take_add_one, W5 hlt]; rfl
  have how : A2c m.own (i : Nat) = m.own.getD i 0 := by unfold A2c; rw [if_pos (by omega), Int.toNat_natCast]
  (have zz:=trivial;repeat((first|clear zz|with_reducible first|refine A3 ?_|refine A5 fun _=>?_|refine A4 fun _=>?_);try simp(disch:=first|omega|assumption|((repeat(first|exact A1|exact uH|apply A2|apply uT));first|done|fail)|(simp;first|done|omega|fail))[hlt', hlt2, h5]))
  refine D4 A10 (fun w' hw' => let g := hm.ks hw'.ks; B4m w' m.bc m.cn m.cv m.ov m.own (i : Nat) g.c g.v) ?_
  rw [how]
  have h := hL hlt
  rw [hst] at h
  generalize m.own.getD i 0 = o at *
  (have zz:=trivial;repeat((first|clear zz|with_reducible first|refine A3 ?_|refine A5 fun _=>?_|refine A4 fun _=>?_|refine T6 fun _=>?_|refine T0 (hK:=fun _=>?_)|refine T8 (hK:=fun _=>?_)|refine T2 (hK:=fun _=>?_)|refine T3 (hK:=fun _=>?_)|refine T7 (hK:=fun _=>?_));try simp(disch:=first|omega|assumption|((repeat(first|exact A1|exact uH|apply A2|apply uT));first|done|fail)|(simp;first|done|omega|fail))[]))
  refine W9 (e := 3) (k := 1) (q := i) (r := 1) (xs := (C1 m.own).take i) (news := [.int .i64 o]) (by (repeat constructor)) (H3.own (by (repeat constructor))) (by decide) (by simp) (by simp) (by simp only [maxLen]; omega) (by omega) fun a' c' => ?_
  (have zz:=trivial;repeat((first|clear zz|with_reducible first|refine A3 ?_|refine A5 fun _=>?_|refine A4 fun _=>?_);try simp(disch:=first|omega|assumption|((repeat(first|exact A1|exact uH|apply A2|apply uT));first|done|fail)|(simp;first|done|omega|fail))[]))
  exact Sels.tw (by (repeat' constructor)) (h (a', c') trivial)
 ·obtain rfl : i = m.own.length := by omega
  have e : (m.own.length : Int) = (m.ts.length : Nat) := by omega
  rw [List.take_of_length_le (by rw [C3x]; omega)]
  (have zz:=trivial;repeat((first|clear zz|with_reducible first|refine A3 ?_|refine A5 fun _=>?_|refine A4 fun _=>?_);try simp(disch:=first|omega|assumption|((repeat(first|exact A1|exact uH|apply A2|apply uT));first|done|fail)|(simp;first|done|omega|fail))[e, Int.lt_irrefl]))
  exact B0 _ rfl (by (repeat' constructor))
end Go.Proofs.YtpnidmkaobfhiaaGreat
namespace Go.Proofs.YtpnidmkaobfhiaaGreat
open Go
structure ActV where
 k : Int
 n : Int
 pool : List G8
 pa : Option Addr
 pc : Nat
def ActV.pv (a : ActV) : Value := .slice a.pa a.pool.length a.pc
def ActV.val (a : ActV) : Value := .agg #[.int .i64 a.k, .int .i64 a.n, a.pv]
structure WoG where
 cn : Int
 cells : List Int
 own : List Int
 tv : Value
 pv : Value
 ls : List SlH
 keep : List (Int × Int)
 ts : List (Value × List EnV)
 pl : List Nat
 now : Int
def WoH.ug (m : WoH) (d : WoG) : WoH := { m with cn := d.cn, cells := d.cells, own := d.own, tv := d.tv, pv := d.pv, ls := d.ls, keep := d.keep, ts := d.ts, pl := d.pl, now := d.now }
def WoH.dg (m : WoH) : WoG := ⟨m.cn, m.cells, m.own, m.tv, m.pv, m.ls, m.keep, m.ts, m.pl, m.now⟩
structure XS where
 c : CfgV
 ep : Int
 cur : Int
 pins : List Int
 locks : List Int
 sl : List Q7
 keep : List (Int × Int)
 tabs : List (List EnV)
 pl : List Nat
 now : Int
def XH.xs (x : XH) : XS := ⟨x.c, x.ep, x.cur, x.pins, x.locks, x.sl, x.keep, x.ts.map (·.2), x.pl, x.now⟩
def N6 (a : ActV) (x : WS) (y : XS) : WS :=
 if a.k = 1 then { x with cells := K9 x.cells 0 (IntKind.i64.wrap (D5 x.cells 0 + 1)) }
 else if a.k = 2 then if (0 ≤ a.n ∧ a.n < y.c.sh) ∧ y.locks.getD a.n.toNat 0 < 0 then { x with own := T4 x.own a.n 99 } else x
 else if a.k = 3 then if (0 ≤ a.n ∧ a.n < y.c.sh) ∧ y.locks.getD a.n.toNat 0 = 99 then { x with own := K7 x.own a.n 99 } else x
 else if a.k = 4 then { x with sl := r4 (g5 x.sl a.n .bld) a.n a.pool }
 else if a.k = 5 then { x with sl := g5 x.sl a.n .no }
 else if a.k = 6 then if -1 ≤ a.n ∧ a.n < y.c.sl then { x with cells := K9 x.cells 1 (a.n + 1) } else x
 else if a.k = 7 then { x with now := j4 x.now a.n }
 else x
def Q8 (a : ActV) (y : XS) : XS :=
 if a.k = 1 then { y with ep := y.ep + 1 }
 else if a.k = 2 then if (0 ≤ a.n ∧ a.n < y.c.sh) ∧ y.locks.getD a.n.toNat 0 < 0 then { y with locks := y.locks.set a.n.toNat 99 } else y
 else if a.k = 3 then if (0 ≤ a.n ∧ a.n < y.c.sh) ∧ y.locks.getD a.n.toNat 0 = 99 then { y with locks := y.locks.set a.n.toNat (-1) } else y
 else if a.k = 4 then { y with sl := if Y1 y.sl.length a.n then S6 (L7 y.sl a.n) a.n a.pool (a.pa, a.pool.length, a.pc) else y.sl }
 else if a.k = 5 then { y with sl := S9 y.sl a.n }
 else if a.k = 6 then if -1 ≤ a.n ∧ a.n < y.c.sl then { y with cur := a.n + 1 } else y
 else if a.k = 7 then { y with now := j4 y.now a.n }
 else y
structure HapOk (m : WoH) (x : XH) (a : ActV) : Prop where
 cells : 2 ≤ m.cells.length ∧ m.cells.length ≤ 1024
 own : m.own.length ≤ 1024
 ls : m.ls.length ≤ 8
 now : 0 ≤ m.now ∧ m.now ≤ 1000000000
 xnow : 0 ≤ x.now ∧ x.now ≤ 1000000000
 locks : x.locks.length = x.c.sh
 sh : x.c.sh ≤ 16
 csl : x.c.sl ≤ 8
 sl : x.sl.length ≤ 8
 ep : 0 ≤ x.ep ∧ x.ep ≤ 1000000
 pool : a.pool.length ≤ 1000
theorem B1F {S : List Nat} {w0 w' : World} {Hc Hk : List Res} {P : World → Prop} (h : ∀ w1, KS false S w0 w1 → P w1) (hw' : LW false S w0 (Hc ++ Hk) w') : ∀ w'', KS false (B1 Hc) w' w'' → P w'' := fun w'' hk => by
 refine h _ (hw'.ks.then hk fun x hx => ?_)
 obtain ⟨r, hr, hxr⟩ := K5.1 hx
 exact (hw'.own r (List.mem_append_left _ hr) x hxr).1
def D2G (m : WoH) (x : XH) (a : ActV) (y : WoG × XH) : Prop := (m.ug y.1).ws = N6 a m.ws x.xs ∧ y.2.b = x.b ∧ y.2.xs = Q8 a x.xs ∧ y.1.ts = m.ts ∧ y.2.ts = x.ts
set_option maxHeartbeats 2000000 in
theorem B9d (w : World) (m : WoH) (x : XH) (a : ActV) (h : HapOk m x a) (hv : ∀ w', KS false (B1 (B8 m ++ D0 x)) w w' → D2 w' a.pv a.pool.length (a.pool.flatMap E6)) (hw : LW false (B1 (B8 m ++ D0 x)) w (B8 m ++ D0 x) w) :
  Fn PR B6 14 #[.pointer (some ⟨m.b, 0, none⟩), .pointer (some ⟨x.b, 0, none⟩), a.val] w (Rn (B1 (B8 m ++ D0 x)) w (fun (y : WoG × XH) u => u = .tuple #[] ∧ D2G m x a y) fun y => B8 (m.ug y.1) ++ D0 y.2) := by
 refine A4y (TW.goH (κ := false) ?_ hw)
 unfold y0
 obtain ⟨hcl, how, hls, hnow, hxnow, hlo, hsh, hcsl, hsl, hep, hpl⟩ := h
 obtain ⟨k, n, p, pa, pc⟩ := a
 simp only [ActV.pv] at hv
 simp only at hpl
 generalize hS : B1 (B8 m ++ D0 x) = S at *
 simp only [B8, D0, E0, E7, G5, H2, ActV.val, ActV.pv, List.cons_append, List.nil_append]
 (have zz:=trivial;repeat((first|clear zz|with_reducible first|refine A3 ?_|refine A5 fun _=>?_|refine A4 fun _=>?_);try simp(disch:=first|omega|assumption|((repeat(first|exact A1|exact uH|apply A2|apply uT));first|done|fail)|(simp;first|done|omega|fail))[]))
 rename_i ba
 by_cases k1 : k = 1
 ·subst k1
  (have zz:=trivial;repeat((first|clear zz|with_reducible first|refine A3 ?_|refine A5 fun _=>?_|refine A4 fun _=>?_);try simp(disch:=first|omega|assumption|((repeat(first|exact A1|exact uH|apply A2|apply uT));first|done|fail)|(simp;first|done|omega|fail))[]))
  refine C0 (Hc := C6 m.bc m.cn m.cv m.ov m.cells m.own) w8 (fun w' _ hs => B3W w' m.bc m.cn m.cv m.ov m.cells m.own 0 1 hcl.2 (by omega) hs) (by unfold C6; (repeat' constructor)) ?_
  rintro n1 v rfl
  simp only [C6, List.cons_append, List.nil_append]
  (have zz:=trivial;repeat((first|clear zz|with_reducible first|refine A3 ?_|refine A5 fun _=>?_|refine A4 fun _=>?_);try simp(disch:=first|omega|assumption|((repeat(first|exact A1|exact uH|apply A2|apply uT));first|done|fail)|(simp;first|done|omega|fail))[]))
  refine B0 ({ m.dg with cn := n1, cells := K9 m.cells 0 (IntKind.i64.wrap (D5 m.cells 0 + 1)) }, { x with ep := x.ep + 1 }) ⟨rfl, rfl, rfl, rfl, rfl, rfl⟩ ?_
  simp only [B8, D0, E0, E7, G5, H2, WoH.ug, WoH.dg, List.cons_append, List.nil_append]
  (repeat' constructor)
 by_cases k2 : k = 2
 ·subst k2
  by_cases g1 : 0 ≤ n
  case neg =>
   (have zz:=trivial;repeat((first|clear zz|with_reducible first|refine A3 ?_|refine A5 fun _=>?_|refine A4 fun _=>?_);try simp(disch:=first|omega|assumption|((repeat(first|exact A1|exact uH|apply A2|apply uT));first|done|fail)|(simp;first|done|omega|fail))[g1]))
   refine B0 (m.dg, x) ⟨rfl, by unfold N6; simp [g1]; rfl, rfl, by unfold Q8; simp [g1], rfl, rfl⟩ ?_
   simp only [B8, D0, E0, E7, G5, H2, WoH.ug, WoH.dg, List.cons_append, List.nil_append]
   (repeat' constructor)
  by_cases g2 : n < x.c.sh
  case neg =>
   (have zz:=trivial;repeat((first|clear zz|with_reducible first|refine A3 ?_|refine A5 fun _=>?_|refine A4 fun _=>?_);try simp(disch:=first|omega|assumption|((repeat(first|exact A1|exact uH|apply A2|apply uT));first|done|fail)|(simp;first|done|omega|fail))[g1, g2]))
   refine B0 (m.dg, x) ⟨rfl, by unfold N6; simp [XH.xs, g2]; rfl, rfl, by unfold Q8; simp [XH.xs, g2], rfl, rfl⟩ ?_
   simp only [B8, D0, E0, E7, G5, H2, WoH.ug, WoH.dg, List.cons_append, List.nil_append]
   (repeat' constructor)
  obtain ⟨i, rfl⟩ : ∃ i : Nat, n = i := ⟨n.toNat, by omega⟩
  have hi : i < x.locks.length := by omega
  have hi' : ¬ x.locks.length ≤ i := by omega
  have hg := W5 hi
  refine P8 (e := 3) (k := 1) (v := x.lov) (q := x.locks.length) (xs := C1 x.locks) (by (repeat constructor)) (by omega) fun g gc hgl => ?_
  rw [hgl]
  obtain ⟨z, hz⟩ : ∃ z, z = x.locks.getD i 0 := ⟨_, rfl⟩
  rw [← hz] at hg
  have hgg := (List.getElem?_eq_some_iff.1 hg).2
  by_cases g3 : z < 0
  case neg =>
   (have zz:=trivial;repeat((first|clear zz|with_reducible first|refine A3 ?_|refine A5 fun _=>?_|refine A4 fun _=>?_);try simp(disch:=first|omega|assumption|((repeat(first|exact A1|exact uH|apply A2|apply uT));first|done|fail)|(simp;first|done|omega|fail))[g1, g2, g3, hg, hgg, hi, hi']))
   refine B0 (m.dg, { x with lov := .slice (some ⟨g, 0, none⟩) x.locks.length gc }) ⟨rfl, ?_, rfl, ?_, rfl, rfl⟩ ?_
   ·unfold N6; simp only [XH.xs, Int.toNat_natCast, ← hz]; simp [g3]; rfl
   ·unfold Q8; simp only [XH.xs, Int.toNat_natCast, ← hz]; simp [g3]
   simp only [B8, D0, E0, E7, G5, H2, WoH.ug, WoH.dg, List.cons_append, List.nil_append]
   (repeat' constructor)
  (have zz:=trivial;repeat((first|clear zz|with_reducible first|refine A3 ?_|refine A5 fun _=>?_|refine A4 fun _=>?_);try simp(disch:=first|omega|assumption|((repeat(first|exact A1|exact uH|apply A2|apply uT));first|done|fail)|(simp;first|done|omega|fail))[g1, g2, g3, hg, hgg, hi, hi']))
  refine C0 (Hc := C6 m.bc m.cn m.cv m.ov m.cells m.own) r8 (fun w' _ hs => B1z w' m.bc m.cn m.cv m.ov m.cells m.own (i : Nat) 99 how hs) (by unfold C6; (repeat' constructor)) ?_
  rintro n1 v ⟨r, rfl⟩
  simp only [C6, List.cons_append, List.nil_append]
  (have zz:=trivial;repeat((first|clear zz|with_reducible first|refine A3 ?_|refine A5 fun _=>?_|refine A4 fun _=>?_);try simp(disch:=first|omega|assumption|((repeat(first|exact A1|exact uH|apply A2|apply uT));first|done|fail)|(simp;first|done|omega|fail))[g1, hi, hi']))
  refine N0 (by (repeat constructor)) (by simp) (by simp; omega) (by simp) ?_
  have e : U7 (C1 x.locks) i (Value.int .i64 (99)).cells.toList = C1 (x.locks.set i (99)) := l9 hi _
  rw [e]
  refine B0 ({ m.dg with cn := n1, own := T4 m.own (i : Nat) 99 }, { x with lov := .slice (some ⟨g, 0, none⟩) x.locks.length gc, locks := x.locks.set i (99) }) ⟨rfl, ?_, rfl, ?_, rfl, rfl⟩ ?_
  ·unfold N6; simp only [XH.xs, Int.toNat_natCast, ← hz]; simp [g2, g3]; rfl
  ·unfold Q8; simp only [XH.xs, Int.toNat_natCast, ← hz]; simp [g2, g3]
  simp only [B8, D0, E0, E7, G5, H2, WoH.ug, WoH.dg, List.cons_append, List.nil_append, List.length_set]
  (repeat' constructor)
 by_cases k3 : k = 3
 ·subst k3
  by_cases g1 : 0 ≤ n
  case neg =>
   (have zz:=trivial;repeat((first|clear zz|with_reducible first|refine A3 ?_|refine A5 fun _=>?_|refine A4 fun _=>?_);try simp(disch:=first|omega|assumption|((repeat(first|exact A1|exact uH|apply A2|apply uT));first|done|fail)|(simp;first|done|omega|fail))[g1]))
   refine B0 (m.dg, x) ⟨rfl, by unfold N6; simp [g1]; rfl, rfl, by unfold Q8; simp [g1], rfl, rfl⟩ ?_
   simp only [B8, D0, E0, E7, G5, H2, WoH.ug, WoH.dg, List.cons_append, List.nil_append]
   (repeat' constructor)
  by_cases g2 : n < x.c.sh
  case neg =>
   (have zz:=trivial;repeat((first|clear zz|with_reducible first|refine A3 ?_|refine A5 fun _=>?_|refine A4 fun _=>?_);try simp(disch:=first|omega|assumption|((repeat(first|exact A1|exact uH|apply A2|apply uT));first|done|fail)|(simp;first|done|omega|fail))[g1, g2]))
   refine B0 (m.dg, x) ⟨rfl, by unfold N6; simp [XH.xs, g2]; rfl, rfl, by unfold Q8; simp [XH.xs, g2], rfl, rfl⟩ ?_
   simp only [B8, D0, E0, E7, G5, H2, WoH.ug, WoH.dg, List.cons_append, List.nil_append]
   (repeat' constructor)
  obtain ⟨i, rfl⟩ : ∃ i : Nat, n = i := ⟨n.toNat, by omega⟩
  have hi : i < x.locks.length := by omega
  have hi' : ¬ x.locks.length ≤ i := by omega
  have hg := W5 hi
  refine P8 (e := 3) (k := 1) (v := x.lov) (q := x.locks.length) (xs := C1 x.locks) (by (repeat constructor)) (by omega) fun g gc hgl => ?_
  rw [hgl]
  obtain ⟨z, hz⟩ : ∃ z, z = x.locks.getD i 0 := ⟨_, rfl⟩
  rw [← hz] at hg
  have hgg := (List.getElem?_eq_some_iff.1 hg).2
  by_cases g3 : z = 99
  case neg =>
   (have zz:=trivial;repeat((first|clear zz|with_reducible first|refine A3 ?_|refine A5 fun _=>?_|refine A4 fun _=>?_);try simp(disch:=first|omega|assumption|((repeat(first|exact A1|exact uH|apply A2|apply uT));first|done|fail)|(simp;first|done|omega|fail))[g1, g2, g3, hg, hgg, hi, hi']))
   refine B0 (m.dg, { x with lov := .slice (some ⟨g, 0, none⟩) x.locks.length gc }) ⟨rfl, ?_, rfl, ?_, rfl, rfl⟩ ?_
   ·unfold N6; simp only [XH.xs, Int.toNat_natCast, ← hz]; simp [g3]; rfl
   ·unfold Q8; simp only [XH.xs, Int.toNat_natCast, ← hz]; simp [g3]
   simp only [B8, D0, E0, E7, G5, H2, WoH.ug, WoH.dg, List.cons_append, List.nil_append]
   (repeat' constructor)
  (have zz:=trivial;repeat((first|clear zz|with_reducible first|refine A3 ?_|refine A5 fun _=>?_|refine A4 fun _=>?_);try simp(disch:=first|omega|assumption|((repeat(first|exact A1|exact uH|apply A2|apply uT));first|done|fail)|(simp;first|done|omega|fail))[g1, g2, g3, hg, hgg, hi, hi']))
  refine C0 (Hc := C6 m.bc m.cn m.cv m.ov m.cells m.own) W7 (fun w' _ hs => A4m w' m.bc m.cn m.cv m.ov m.cells m.own (i : Nat) 99 how hs) (by unfold C6; (repeat' constructor)) ?_
  rintro n1 v ⟨r, rfl⟩
  simp only [C6, List.cons_append, List.nil_append]
  (have zz:=trivial;repeat((first|clear zz|with_reducible first|refine A3 ?_|refine A5 fun _=>?_|refine A4 fun _=>?_);try simp(disch:=first|omega|assumption|((repeat(first|exact A1|exact uH|apply A2|apply uT));first|done|fail)|(simp;first|done|omega|fail))[g1, hi, hi']))
  refine N0 (by (repeat constructor)) (by simp) (by simp; omega) (by simp) ?_
  have e : U7 (C1 x.locks) i (Value.int .i64 (-1)).cells.toList = C1 (x.locks.set i (-1)) := l9 hi _
  rw [e]
  refine B0 ({ m.dg with cn := n1, own := K7 m.own (i : Nat) 99 }, { x with lov := .slice (some ⟨g, 0, none⟩) x.locks.length gc, locks := x.locks.set i (-1) }) ⟨rfl, ?_, rfl, ?_, rfl, rfl⟩ ?_
  ·unfold N6; simp only [XH.xs, Int.toNat_natCast, ← hz]; simp [g2, g3]; rfl
  ·unfold Q8; simp only [XH.xs, Int.toNat_natCast, ← hz]; simp [g2, g3]
  simp only [B8, D0, E0, E7, G5, H2, WoH.ug, WoH.dg, List.cons_append, List.nil_append, List.length_set]
  (repeat' constructor)
 by_cases k4 : k = 4
 ·subst k4
  (have zz:=trivial;repeat((first|clear zz|with_reducible first|refine A3 ?_|refine A5 fun _=>?_|refine A4 fun _=>?_);try simp(disch:=first|omega|assumption|((repeat(first|exact A1|exact uH|apply A2|apply uT));first|done|fail)|(simp;first|done|omega|fail))[]))
  refine C0 (Hc := F2 m.bs m.sv m.ls) A2N (fun w' _ hs => B40 w' m.bs m.sv m.ls n hls hs) (by unfold F2; (repeat' constructor)) ?_
  rintro _ v hv'
  simp only [F2, List.cons_append, List.nil_append]
  (have zz:=trivial;repeat((first|clear zz|with_reducible first|refine A3 ?_|refine A5 fun _=>?_|refine A4 fun _=>?_);try simp(disch:=first|omega|assumption|((repeat(first|exact A1|exact uH|apply A2|apply uT));first|done|fail)|(simp;first|done|omega|fail))[]))
  refine C0 (Hc := F2 m.bs m.sv (V0 m.ls n .bld)) A25 (fun w' hw' hs => B6m w' m.bs m.sv (V0 m.ls n .bld) n (.slice pa p.length pc) p (by rw [B1y]; exact hls) hpl (B1F hv hw') hs) (by unfold F2; (repeat' constructor)) ?_
  rintro ls2 v2 ⟨hv2, hl2, hsp⟩
  rw [A4q] at hsp
  simp only [F2, List.cons_append, List.nil_append]
  (have zz:=trivial;repeat((first|clear zz|with_reducible first|refine A3 ?_|refine A5 fun _=>?_|refine A4 fun _=>?_);try simp(disch:=first|omega|assumption|((repeat(first|exact A1|exact uH|apply A2|apply uT));first|done|fail)|(simp;first|done|omega|fail))[]))
  refine G7 y7 (fun w' hw' => B2z w' x.slv x.sl n hsl (H3.own (e := 179) (k := 2) (by (repeat constructor)) w' hw')) ?_
  rintro r1 v3 rfl
  cases hi : Y1 x.sl.length n with
  | false =>
   (have zz:=trivial;repeat((first|clear zz|with_reducible first|refine A3 ?_|refine A5 fun _=>?_|refine A4 fun _=>?_);try simp(disch:=first|omega|assumption|((repeat(first|exact A1|exact uH|apply A2|apply uT));first|done|fail)|(simp;first|done|omega|fail))[]))
   refine B0 ({ m.dg with ls := ls2 }, x) ⟨rfl, ?_, rfl, ?_, rfl, rfl⟩ ?_
   ·unfold N6; simp [WoH.ws, WoH.ug, WoH.dg, hsp]; rfl
   ·unfold Q8; simp [XH.xs, hi]
   simp only [B8, D0, E0, E7, G5, H2, WoH.ug, WoH.dg, List.cons_append, List.nil_append]
   (repeat' constructor)
  | true =>
   simp only [if_true]
   have hbl : (L7 x.sl n).length = x.sl.length := A58 _ _ _
   refine H7 (e := 179) (k := 2) (v := r1) (q := (L7 x.sl n).length) (xs := (L7 x.sl n).flatMap S2) (by (repeat constructor)) fun sa sc hu => ?_
   subst hu
   (have zz:=trivial;repeat((first|clear zz|with_reducible first|refine A3 ?_|refine A5 fun _=>?_|refine A4 fun _=>?_);try simp(disch:=first|omega|assumption|((repeat(first|exact A1|exact uH|apply A2|apply uT));first|done|fail)|(simp;first|done|omega|fail))[]))
   refine G7 A0m (fun w' hw' => B4K w' (.slice sa (L7 x.sl n).length sc) (L7 x.sl n) n p pa pc (by omega) (by omega) (H3.own (e := 179) (k := 2) (by (repeat constructor)) w' hw') (hv w' hw'.ks)) ?_
   rintro r2 v4 rfl
   cases hfl : flR (L7 x.sl n) n p with
   | false =>
    (have zz:=trivial;repeat((first|clear zz|with_reducible first|refine A3 ?_|refine A5 fun _=>?_|refine A4 fun _=>?_);try simp(disch:=first|omega|assumption|((repeat(first|exact A1|exact uH|apply A2|apply uT));first|done|fail)|(simp;first|done|omega|fail))[]))
    refine B0 ({ m.dg with ls := ls2 }, { x with slv := .slice sa (L7 x.sl n).length sc, sl := L7 x.sl n }) ⟨rfl, ?_, rfl, ?_, rfl, rfl⟩ ?_
    ·unfold N6; simp [WoH.ws, WoH.ug, WoH.dg, hsp]; rfl
    ·unfold Q8; simp [XH.xs, hi, S6, hfl]
    simp only [B8, D0, E0, E7, G5, H2, WoH.ug, WoH.dg, List.cons_append, List.nil_append]
    (repeat' constructor)
   | true =>
    simp only [if_true]
    refine H7 (e := 179) (k := 2) (v := r2) (q := (S6 (L7 x.sl n) n p (pa, p.length, pc)).length) (xs := (S6 (L7 x.sl n) n p (pa, p.length, pc)).flatMap S2) (by (repeat constructor)) fun ra rc hu => ?_
    subst hu
    (have zz:=trivial;repeat((first|clear zz|with_reducible first|refine A3 ?_|refine A5 fun _=>?_|refine A4 fun _=>?_);try simp(disch:=first|omega|assumption|((repeat(first|exact A1|exact uH|apply A2|apply uT));first|done|fail)|(simp;first|done|omega|fail))[]))
    refine B0 ({ m.dg with ls := ls2 }, { x with slv := .slice ra (S6 (L7 x.sl n) n p (pa, p.length, pc)).length rc, sl := S6 (L7 x.sl n) n p (pa, p.length, pc) }) ⟨rfl, ?_, rfl, ?_, rfl, rfl⟩ ?_
    ·unfold N6; simp [WoH.ws, WoH.ug, WoH.dg, hsp]; rfl
    ·unfold Q8; simp [XH.xs, hi]
    simp only [B8, D0, E0, E7, G5, H2, WoH.ug, WoH.dg, List.cons_append, List.nil_append]
    (repeat' constructor)
 by_cases k5 : k = 5
 ·subst k5
  (have zz:=trivial;repeat((first|clear zz|with_reducible first|refine A3 ?_|refine A5 fun _=>?_|refine A4 fun _=>?_);try simp(disch:=first|omega|assumption|((repeat(first|exact A1|exact uH|apply A2|apply uT));first|done|fail)|(simp;first|done|omega|fail))[]))
  refine C0 (Hc := F2 m.bs m.sv m.ls) A1u (fun w' _ hs => B4d w' m.bs m.sv m.ls n hls hs) (by unfold F2; (repeat' constructor)) ?_
  rintro _ v hv'
  simp only [F2, List.cons_append, List.nil_append]
  (have zz:=trivial;repeat((first|clear zz|with_reducible first|refine A3 ?_|refine A5 fun _=>?_|refine A4 fun _=>?_);try simp(disch:=first|omega|assumption|((repeat(first|exact A1|exact uH|apply A2|apply uT));first|done|fail)|(simp;first|done|omega|fail))[]))
  refine G7 y5 (fun w' hw' => B29 w' x.slv x.sl n hsl (H3.own (e := 179) (k := 2) (by (repeat constructor)) w' hw')) ?_
  rintro r1 v3 rfl
  cases hi : Y1 x.sl.length n with
  | false =>
   refine H7 (e := 179) (k := 2) (v := x.slv) (q := x.sl.length) (xs := x.sl.flatMap S2) (by (repeat constructor)) fun sa sc hu => ?_
   rw [hu]
   (have zz:=trivial;repeat((first|clear zz|with_reducible first|refine A3 ?_|refine A5 fun _=>?_|refine A4 fun _=>?_);try simp(disch:=first|omega|assumption|((repeat(first|exact A1|exact uH|apply A2|apply uT));first|done|fail)|(simp;first|done|omega|fail))[]))
   refine B0 ({ m.dg with ls := V0 m.ls n .no }, { x with slv := .slice sa x.sl.length sc }) ⟨rfl, ?_, rfl, ?_, rfl, rfl⟩ ?_
   ·unfold N6; simp [WoH.ws, WoH.ug, WoH.dg, A4q]; rfl
   ·have e : S9 x.sl n = x.sl := by unfold S9 s7; simp [Y1] at hi; rw [if_neg (by omega)]
    unfold Q8; simp [XH.xs, e]
   simp only [B8, D0, E0, E7, G5, H2, WoH.ug, WoH.dg, List.cons_append, List.nil_append]
   (repeat' constructor)
  | true =>
   simp only [if_true]
   refine H7 (e := 179) (k := 2) (v := r1) (q := (S9 x.sl n).length) (xs := (S9 x.sl n).flatMap S2) (by (repeat constructor)) fun sa sc hu => ?_
   subst hu
   (have zz:=trivial;repeat((first|clear zz|with_reducible first|refine A3 ?_|refine A5 fun _=>?_|refine A4 fun _=>?_);try simp(disch:=first|omega|assumption|((repeat(first|exact A1|exact uH|apply A2|apply uT));first|done|fail)|(simp;first|done|omega|fail))[]))
   refine B0 ({ m.dg with ls := V0 m.ls n .no }, { x with slv := .slice sa (S9 x.sl n).length sc, sl := S9 x.sl n }) ⟨rfl, ?_, rfl, ?_, rfl, rfl⟩ ?_
   ·unfold N6; simp [WoH.ws, WoH.ug, WoH.dg, A4q]; rfl
   ·unfold Q8; simp [XH.xs]
   simp only [B8, D0, E0, E7, G5, H2, WoH.ug, WoH.dg, List.cons_append, List.nil_append]
   (repeat' constructor)
 by_cases k6 : k = 6
 ·subst k6
  by_cases g1 : -1 ≤ n
  case neg =>
   (have zz:=trivial;repeat((first|clear zz|with_reducible first|refine A3 ?_|refine A5 fun _=>?_|refine A4 fun _=>?_);try simp(disch:=first|omega|assumption|((repeat(first|exact A1|exact uH|apply A2|apply uT));first|done|fail)|(simp;first|done|omega|fail))[g1]))
   refine B0 (m.dg, x) ⟨rfl, by unfold N6; simp [g1]; rfl, rfl, by unfold Q8; simp [g1], rfl, rfl⟩ ?_
   simp only [B8, D0, E0, E7, G5, H2, WoH.ug, WoH.dg, List.cons_append, List.nil_append]
   (repeat' constructor)
  by_cases g2 : n < x.c.sl
  case neg =>
   (have zz:=trivial;repeat((first|clear zz|with_reducible first|refine A3 ?_|refine A5 fun _=>?_|refine A4 fun _=>?_);try simp(disch:=first|omega|assumption|((repeat(first|exact A1|exact uH|apply A2|apply uT));first|done|fail)|(simp;first|done|omega|fail))[g1, g2]))
   refine B0 (m.dg, x) ⟨rfl, by unfold N6; simp [XH.xs, g2]; rfl, rfl, by unfold Q8; simp [XH.xs, g2], rfl, rfl⟩ ?_
   simp only [B8, D0, E0, E7, G5, H2, WoH.ug, WoH.dg, List.cons_append, List.nil_append]
   (repeat' constructor)
  (have zz:=trivial;repeat((first|clear zz|with_reducible first|refine A3 ?_|refine A5 fun _=>?_|refine A4 fun _=>?_);try simp(disch:=first|omega|assumption|((repeat(first|exact A1|exact uH|apply A2|apply uT));first|done|fail)|(simp;first|done|omega|fail))[g1, g2]))
  refine C0 (Hc := C6 m.bc m.cn m.cv m.ov m.cells m.own) A1x (fun w' _ hs => B4p w' m.bc m.cn m.cv m.ov m.cells m.own 1 (n + 1) hcl.2 hs) (by unfold C6; (repeat' constructor)) ?_
  rintro n1 v rfl
  simp only [C6, List.cons_append, List.nil_append]
  (have zz:=trivial;repeat((first|clear zz|with_reducible first|refine A3 ?_|refine A5 fun _=>?_|refine A4 fun _=>?_);try simp(disch:=first|omega|assumption|((repeat(first|exact A1|exact uH|apply A2|apply uT));first|done|fail)|(simp;first|done|omega|fail))[]))
  refine B0 ({ m.dg with cn := n1, cells := K9 m.cells 1 (n + 1) }, { x with cur := n + 1 }) ⟨rfl, ?_, rfl, ?_, rfl, rfl⟩ ?_
  ·unfold N6; simp [XH.xs, g1, g2]; rfl
  ·unfold Q8; simp [XH.xs, g1, g2]
  simp only [B8, D0, E0, E7, G5, H2, WoH.ug, WoH.dg, List.cons_append, List.nil_append]
  (repeat' constructor)
 by_cases k7 : k = 7
 ·subst k7
  (have zz:=trivial;repeat((first|clear zz|with_reducible first|refine A3 ?_|refine A5 fun _=>?_|refine A4 fun _=>?_);try simp(disch:=first|omega|assumption|((repeat(first|exact A1|exact uH|apply A2|apply uT));first|done|fail)|(simp;first|done|omega|fail))[]))
  refine C0 (Hc := [E0 m.b m.c (.pointer (some ⟨m.bc, 0, none⟩)) (.pointer (some ⟨m.bs, 0, none⟩)) (.pointer (some ⟨m.bk, 0, none⟩)) m.tv m.pv (.int .i64 m.now)]) A81 (fun w' _ hs => C20 w' m.b m.c _ _ _ m.tv m.pv m.now n hnow hs) (by unfold E0 E7; (repeat' constructor)) ?_
  rintro _ v rfl
  simp only [E0, E7, List.cons_append, List.nil_append]
  (have zz:=trivial;repeat((first|clear zz|with_reducible first|refine A3 ?_|refine A5 fun _=>?_|refine A4 fun _=>?_);try simp(disch:=first|omega|assumption|((repeat(first|exact A1|exact uH|apply A2|apply uT));first|done|fail)|(simp;first|done|omega|fail))[]))
  refine C0 (Hc := [G5 x.b x.c x.ep x.cur x.piv x.lov x.slv x.kev x.tav x.plv x.now]) A3B (fun w' _ hs => B93 w' x.b x.c x.ep x.cur x.piv x.lov x.slv x.kev x.tav x.plv x.now n hxnow hs) (by unfold G5 H2; (repeat' constructor)) ?_
  rintro _ v rfl
  simp only [G5, H2, List.cons_append, List.nil_append]
  (have zz:=trivial;repeat((first|clear zz|with_reducible first|refine A3 ?_|refine A5 fun _=>?_|refine A4 fun _=>?_);try simp(disch:=first|omega|assumption|((repeat(first|exact A1|exact uH|apply A2|apply uT));first|done|fail)|(simp;first|done|omega|fail))[]))
  refine B0 ({ m.dg with now := j4 m.now n }, { x with now := j4 x.now n }) ⟨rfl, ?_, rfl, ?_, rfl, rfl⟩ ?_
  ·unfold N6; simp; rfl
  ·unfold Q8; simp [XH.xs]
  simp only [B8, D0, E0, E7, G5, H2, WoH.ug, WoH.dg, List.cons_append, List.nil_append]
  (repeat' constructor)
 ·(have zz:=trivial;repeat((first|clear zz|with_reducible first|refine A3 ?_|refine A5 fun _=>?_|refine A4 fun _=>?_);try simp(disch:=first|omega|assumption|((repeat(first|exact A1|exact uH|apply A2|apply uT));first|done|fail)|(simp;first|done|omega|fail))[k1, k2, k3, k4, k5, k6, k7]))
  refine B0 (m.dg, x) ⟨rfl, by unfold N6; simp [k1, k2, k3, k4, k5, k6, k7]; rfl, rfl, by unfold Q8; simp [k1, k2, k3, k4, k5, k6, k7], rfl, rfl⟩ ?_
  simp only [B8, D0, E0, E7, G5, H2, WoH.ug, WoH.dg, List.cons_append, List.nil_append]
  (repeat' constructor)
end Go.Proofs.YtpnidmkaobfhiaaGreat
namespace Go.Proofs.YtpnidmkaobfhiaaGreat
open Go
def A43 (a : ActV) : List Value := [.int .i64 a.k, .int .i64 a.n, a.pv]
def A2x (l : List ActV) : Bool := decide (l.length ≤ 40) && l.all fun a => decide (a.pool.length ≤ 8)
theorem C3k (w : World) (v : Value) (l : List ActV) (hn : l.length ≤ 9223372036854775807) (hv : D2 w v l.length (l.flatMap A43)) :
  Fn PR B6 8 #[v] w (fun r w' => r = .bool (A2x l) ∧ D6 [] w w') := by
 refine Fn.pure (A8Q (TW.go (κ := false) (S := []) ?_))
 unfold A2J
 obtain ⟨a, c, rfl, hr⟩ := hv.form
 by_cases c0 : l.length ≤ 40
 case neg =>
  have c0' : (40 : Int) < (l.length : Int) := by omega
  have c1 : 40 < l.length := by omega
  (have zz:=trivial;repeat((first|clear zz|with_reducible first|refine A3 ?_|refine A5 fun _=>?_|refine A4 fun _=>?_);try simp(disch:=first|omega|assumption|((repeat(first|exact A1|exact uH|apply A2|apply uT));first|done|fail)|(simp;first|done|omega|fail))[c0, c0', c1]))
  exact B4 (by simp [A2x]; intro h; omega)
 have c0' : ¬ (40 : Int) < (l.length : Int) := by omega
 have c1 : ¬ 40 < l.length := by omega
 (have zz:=trivial;repeat((first|clear zz|with_reducible first|refine A3 ?_|refine A5 fun _=>?_|refine A4 fun _=>?_);try simp(disch:=first|omega|assumption|((repeat(first|exact A1|exact uH|apply A2|apply uT));first|done|fail)|(simp;first|done|omega|fail))[c0, c0', c1]))
 refine Q6 l.length (fun _ _ => .bool false) (fun _ (_ : Unit) => []) (fun i _ => ∀ (j : Nat) x, j < i → l[j]? = some x → x.pool.length ≤ 8) () (by intros; omega) ?_
 rintro i _ hi hφ L hL
 by_cases hlt : i < l.length
 ·have hx := List.getElem?_eq_getElem hlt
  obtain ⟨b, o, rfl, hrow⟩ := hr (by omega)
  have h2 := hrow.cellAt (f := A43) (k := 3) (j := 2) (fun _ => rfl) hx rfl
  unfold ActV.pv at h2
  by_cases c2 : l[i].pool.length ≤ 8
  case neg =>
   have c2' : (8 : Int) < (l[i].pool.length : Int) := by omega
   have c3 : 8 < l[i].pool.length := by omega
   (have zz:=trivial;repeat((first|clear zz|with_reducible first|refine A3 ?_|refine A5 fun _=>?_|refine A4 fun _=>?_);try simp(disch:=first|omega|assumption|((repeat(first|exact A1|exact uH|apply A2|apply uT));first|done|fail)|(simp;first|done|omega|fail))[hlt, h2, c2, c2', c3]))
   refine B4 ?_
   have : A2x l = false := by
    unfold A2x
    rw [Bool.and_eq_false_iff]; right
    rw [List.all_eq_false]
    exact ⟨l[i], List.getElem_mem hlt, by simp; omega⟩
   rw [this]
  have c2' : ¬ (8 : Int) < (l[i].pool.length : Int) := by omega
  have c3 : ¬ 8 < l[i].pool.length := by omega
  (have zz:=trivial;repeat((first|clear zz|with_reducible first|refine A3 ?_|refine A5 fun _=>?_|refine A4 fun _=>?_);try simp(disch:=first|omega|assumption|((repeat(first|exact A1|exact uH|apply A2|apply uT));first|done|fail)|(simp;first|done|omega|fail))[hlt, h2, c2, c2', c3]))
  refine hL hlt () fun j x hj hx' => ?_
  by_cases e : j < i
  ·exact hφ j x e hx'
  ·obtain rfl : j = i := by omega
   rw [hx] at hx'; injection hx' with hx'; subst hx'
   exact c2
 ·(have zz:=trivial;repeat((first|clear zz|with_reducible first|refine A3 ?_|refine A5 fun _=>?_|refine A4 fun _=>?_);try simp(disch:=first|omega|assumption|((repeat(first|exact A1|exact uH|apply A2|apply uT));first|done|fail)|(simp;first|done|omega|fail))[hlt]))
  refine B4 ?_
  have : A2x l = true := by
   unfold A2x
   rw [Bool.and_eq_true]
   refine ⟨by simp; omega, ?_⟩
   rw [List.all_eq_true]
   intro x hx
   obtain ⟨j, hj, e⟩ := List.getElem_of_mem hx
   simp only [decide_eq_true_eq]
   exact hφ j x (by omega) (by simp [hj, e])
  rw [this]
theorem C02 {l : List ActV} (h : A2x l = true) : l.length ≤ 40 := by simp [A2x] at h; exact h.1
theorem C2B {l : List ActV} (h : A2x l = true) {a : ActV} (ha : a ∈ l) : a.pool.length ≤ 8 := by simp [A2x] at h; exact h.2 a ha
end Go.Proofs.YtpnidmkaobfhiaaGreat
namespace Go.Proofs.YtpnidmkaobfhiaaGreat
open Go Go.ChangeShapes Go.WideShapes Go.ChangeAt Go.RowKit
set_option maxRecDepth 10000
section
variable {H : Type} {enc : TypeId × Value → H} {w : World} {base : Nat} {spare : Nat → Bool} {held : Bool} {fuel : Nat} {cs : List Value} {x : DataW H × List MemPlace}
theorem B8U (h : DataW.trod enc PR w base spare held fuel 45 cs = some x) : ∃ a : ActV, cs = A43 a ∧ D2 w a.pv a.pool.length (a.pool.flatMap E6) := by
 obtain ⟨xs, n, _, rfl, hl, hxl, hf⟩ := DataW.trod_struct B3l.und h
 have hl4 : cs.length = 3 := hl.trans (by kernel_rfl)
 have hx4 : xs.length = 3 := hxl.trans (by kernel_rfl)
 match cs, hl4 with
 | [c0, c1, c2], _ =>
  have f0 := hf 0 _ rfl
  have f1 := hf 1 _ rfl
  have f2 := hf 2 _ rfl
  rw [List.getElem?_eq_getElem (by omega)] at f0 f1 f2
  obtain ⟨a0, e0, _⟩ := Y5 Tryz.underlying3 f0
  obtain ⟨a1, e1, _⟩ := Y5 Tryz.underlying3 f1
  obtain ⟨v, l, e2, hv, _⟩ := B67 f2
  obtain ⟨pa, pc, rfl, _⟩ := hv.form
  have e0 : [c0] = [.int .i64 a0] := e0
  have e1 : [c1] = [.int .i64 a1] := e1
  have e2 : [c2] = [.slice pa l.length pc] := e2
  cases e0; cases e1; cases e2
  exact ⟨⟨a0, a1, l, pa, pc⟩, rfl, hv⟩
theorem B2j {r : Reach} {b0 : Nat} {v : Value} {d : DataW H} {ps : List MemPlace} (hval : Value.okWide PR w r b0 25 v) (hd : DataW.Trod enc PR w base spare held 25 v d ps) :
  ∃ l : List ActV, D2 w v l.length (l.flatMap A43) ∧ (∀ a ∈ l, D2 w a.pv a.pool.length (a.pool.flatMap E6)) ∧ l.length ≤ maxLen :=
 B3G Tryz.underlying25 hval hd fun _ _ _ h => B3f (f := A43) (k := 3) (Q := fun a => D2 w a.pv a.pool.length (a.pool.flatMap E6)) (fun _ => rfl) (by omega) Tryz.underlying25 (by kernel_rfl) h (fun n cs' y hy => B8U hy)
end
end Go.Proofs.YtpnidmkaobfhiaaGreat
namespace Go.Proofs.YtpnidmkaobfhiaaGreat
open Go Go.ChangeShapes Go.WideShapes Go.ChangeAt Go.RowKit
set_option maxRecDepth 10000
section
variable {H : Type} {enc : TypeId × Value → H} {w : World} {base : Nat} {spare : Nat → Bool} {held : Bool} {fuel : Nat} {cs : List Value} {x : DataW H × List MemPlace}
theorem B58 {r : Reach} {b0 : Nat} {v : Value} {d : DataW H} {ps : List MemPlace} (hval : Value.okWide PR w r b0 24 v) (hd : DataW.Trod enc PR w base spare held 24 v d ps) :
  ∃ l : List (OpV × Value), D2 w v l.length (l.flatMap w7) ∧ (∀ o ∈ l, D2 w o.2 o.1.pool.length (o.1.pool.flatMap E6)) ∧ l.length ≤ maxLen :=
 B3G Tryz.underlying24 hval hd fun _ _ _ h => B3f (f := w7) (k := 4) (Q := fun o => D2 w o.2 o.1.pool.length (o.1.pool.flatMap E6)) (fun _ => rfl) (by omega) Tryz.underlying24 (by kernel_rfl) h (fun n cs' y hy => C41 hy)
end
end Go.Proofs.YtpnidmkaobfhiaaGreat
namespace Go.Proofs.YtpnidmkaobfhiaaGreat
open Go
def j1 (X : Nat → Prop) (t0 t1 t2 t3 : Value) (R : Value → WP) : WP :=
 B9 PR X (Instr.box 23 t0) fun t4 =>
 B3 PR X 5 [] fun t20 =>
 jn (n := 1) (fun t8 =>
 A6 PR (Instr.loadAt 23 t4) fun t23 =>
 B3 PR X 6 [t23] fun t24 =>
 jn (n := 1) (fun t8_1 =>
 A6 PR (Instr.loadAt 23 t4) fun t48 =>
 B3 PR X 9 [t48] fun t49 =>
 A0 PR (Instr.extract t49 0) fun t50 =>
 A0 PR (Instr.extract t49 1) fun t51 =>
 jn (n := 1) (fun t8_2 =>
 A0 PR (Instr.indexAt 24 t2 (.int .i64 0)) fun t61 =>
 A6 PR (Instr.loadAt 38 t61) fun t62 =>
 B3 PR X 10 [t1, t62] fun t63 =>
 jn (n := 1) (fun t8_3 =>
 drw <|
 A6 PR (Instr.loadAt 23 t4) fun t71 =>
 A0 PR (Instr.indexAt 24 t2 (.int .i64 0)) fun t75 =>
 A6 PR (Instr.loadAt 38 t75) fun t76 =>
 B3 PR X 12 [t71] fun t72 =>
 watch PR [(none, (Instr.loadAt 38 t75), t76)] <|
 B3 PR X 13 [t1, t76] fun t77 =>
 jn (n := 5) (fun t13 t15 t16 t8_4 t17 =>
 R t20) fun J1 =>
 lp (n := 5) (fun L2 t13_1 t15_1 t16_1 t8_5 t17_1 =>
 jn (n := 0) (
 jn (n := 4) (fun t13_2 t15_2 t16_2 t8_6 =>
 A0 PR (binOp .add 3 t17_1 (.int .i64 1)) fun t83 =>
 L2 t13_2 t15_2 t16_2 t8_6 t83) fun J3 =>
 jn (n := 0) (
 jn (n := 1) (fun t8_7 =>
 B3 PR X 17 [t13_1, t50] fun t106 =>
 B3 PR X 18 [t15_1, t72] fun t109 =>
 B9 PR X (Instr.alloc 49 true (.tuple #[])) fun t18 =>
 B9 PR X (Instr.alloc 51 true (.tuple #[])) fun t19 =>
 C2 PR X (Instr.storeAt 49 t18 t106) <|
 C2 PR X (Instr.storeAt 51 t19 t109) <|
 jn (n := 1) (fun t8_8 =>
 A0 PR (A9 t15_1) fun t138 =>
 A0 PR (Instr.fieldAt 59 t138 2) fun t139 =>
 A6 PR (Instr.loadAt 3 t139) fun t140 =>
 A0 PR (binOp .lss 3 t140 (.int .i64 0)) fun t141 =>
 gj t141 true (fun J => J t16_1) fun t143 =>
 gj t141 true (fun J => J t2) fun t144 =>
 gj t141 true (fun J => A0 PR (A8 .len #[24] 0 [t144]) J) fun t145 =>
 gj t141 true (fun J => A0 PR (binOp .lss 3 t143 t145) J) fun t146 =>
 A0 PR (do pure (if ← asBool t141 then t146 else (.bool false))) fun t147 =>
 B7 t147 (
 drw <|
 A0 PR (Instr.indexAt 24 t2 t16_1) fun t151 =>
 A6 PR (Instr.loadAt 38 t151) fun t152 =>
 A0 PR (Instr.indexAt 24 t2 t16_1) fun t157 =>
 A6 PR (Instr.loadAt 38 t157) fun t158 =>
 B3 PR X 10 [t1, t152] fun t153 =>
 watch PR [(none, (Instr.loadAt 38 t157), t158)] <|
 B3 PR X 13 [t1, t158] fun t159 =>
 A0 PR (binOp .add 3 t16_1 (.int .i64 1)) fun t161 =>
 A6 PR (J0 .eql 34 (.tmp 162) (.const (.pointer none)) t153 (.pointer none)) fun t163 =>
 B7 t163 (
 R (.bool false)) (
 J3 t153 t159 t161 t8_8)) (
 J3 t13_1 t15_1 t16_1 t8_8)) fun J4 =>
 drw <|
 A6 PR (Instr.loadAt 49 t18) fun t110 =>
 A6 PR (Instr.loadAt 51 t19) fun t111 =>
 A6 PR (J0 .neq 49 (.tmp 110) (.tmp 111) t110 t111) fun t112 =>
 gj t112 false (fun J => J t13_1) fun t114 =>
 gj t112 false (fun J => J t15_1) fun t116 =>
 gj t112 false (fun J => A0 PR (A9 t116) J) fun t117 =>
 gj t112 false (fun J => A0 PR (Instr.fieldAt 59 t117 2) J) fun t118 =>
 gj t112 false (fun J => A6 PR (Instr.loadAt 3 t118) J) fun t119 =>
 gj t112 false (fun J => B3 PR X 19 [t114] J) fun t115 =>
 watch PR [((some (t112, false)), (Instr.loadAt 3 t118), t119)] <|
 gj t112 false (fun J => A0 PR (binOp .neq 3 t115 t119) J) fun t120 =>
 A0 PR (do pure (if ← asBool t112 then (.bool true) else t120)) fun t121 =>
 gj t121 false (fun J => J t13_1) fun t123 =>
 gj t121 false (fun J => J t15_1) fun t125 =>
 gj t121 false (fun J => A0 PR (A9 t125) J) fun t126 =>
 gj t121 false (fun J => A0 PR (Instr.fieldAt 59 t126 8) J) fun t127 =>
 gj t121 false (fun J => A6 PR (Instr.loadAt 57 t127) J) fun t128 =>
 gj t121 false (fun J => B3 PR X 20 [t123] J) fun t124 =>
 watch PR [((some (t121, false)), (Instr.loadAt 57 t127), t128)] <|
 gj t121 false (fun J => A6 PR (J0 .neq 57 (.tmp 124) (.tmp 128) t124 t128) J) fun t129 =>
 A0 PR (do pure (if ← asBool t121 then (.bool true) else t129)) fun t130 =>
 gj t130 false (fun J => J t50) fun t132 =>
 gj t130 false (fun J => J t72) fun t133 =>
 gj t130 false (fun J => B3 PR X 21 [t132, t133] J) fun t134 =>
 gj t130 false (fun J => A0 PR (Op.unary .not t134) J) fun t135 =>
 A0 PR (do pure (if ← asBool t130 then (.bool true) else t135)) fun t136 =>
 B7 t136 (
 R (.bool false)) (
 J4 t8_7)) fun J5 =>
 B3 PR X 15 [t13_1, t50] fun t99 =>
 B3 PR X 16 [t15_1, t72] fun t102 =>
 A0 PR (binOp .neq 4 t99 t102) fun t103 =>
 B7 t103 (
 R (.bool false)) (
 J5 t8_5)) fun J6 =>
 A0 PR (Instr.indexAt 25 t3 t17_1) fun t86 =>
 A0 PR (Instr.fieldAt 45 t86 0) fun t87 =>
 A6 PR (Instr.loadAt 3 t87) fun t88 =>
 A0 PR (binOp .neq 3 t88 (.int .i64 0)) fun t89 =>
 B7 t89 (
 A0 PR (Instr.indexAt 25 t3 t17_1) fun t94 =>
 A6 PR (Instr.loadAt 45 t94) fun t95 =>
 B3 PR X 14 [t50, t72, t95] fun t96 =>
 J3 t13_1 t15_1 t16_1 t8_5) (
 J6)) fun J7 =>
 A0 PR (A8 .len #[25] 0 [t3]) fun t80 =>
 A0 PR (binOp .lss 3 t17_1 t80) fun t81 =>
 B7 t81 (
 J7) (
 J1 t13_1 t15_1 t16_1 t8_5 t17_1)) t63 t77 (.int .i64 1) t8_3 (.int .i64 0)) fun J8 =>
 B3 PR X 11 [t50] fun t65 =>
 A0 PR (Op.unary .not t65) fun t66 =>
 gj t66 false (fun J => J t63) fun t68 =>
 gj t66 false (fun J => A6 PR (J0 .eql 34 (.tmp 68) (.const (.pointer none)) t68 (.pointer none)) J) fun t69 =>
 A0 PR (do pure (if ← asBool t66 then (.bool true) else t69)) fun t70 =>
 B7 t70 (
 R (.bool false)) (
 J8 t8_2)) fun J9 =>
 A0 PR (binOp .neq 31 t51 (.int .i64 0)) fun t53 =>
 B7 t53 (
 gj t20 true (fun J => J t50) fun t56 =>
 gj t20 true (fun J => A6 PR (J0 .eql 30 (.tmp 56) (.const (.pointer none)) t56 (.pointer none)) J) fun t57 =>
 A0 PR (do pure (if ← asBool t20 then t57 else (.bool false))) fun t58 =>
 R t58) (
 J9 t8_1)) fun J10 =>
 A0 PR (Op.unary .not t24) fun t26 =>
 gj t26 false (fun J => J t2) fun t28 =>
 gj t26 false (fun J => B3 PR X 7 [t28, (.int .i64 12)] J) fun t29 =>
 gj t26 false (fun J => A0 PR (Op.unary .not t29) J) fun t30 =>
 A0 PR (do pure (if ← asBool t26 then (.bool true) else t30)) fun t31 =>
 gj t31 false (fun J => J t3) fun t33 =>
 gj t31 false (fun J => B3 PR X 8 [t33] J) fun t34 =>
 gj t31 false (fun J => A0 PR (Op.unary .not t34) J) fun t35 =>
 A0 PR (do pure (if ← asBool t31 then (.bool true) else t35)) fun t36 =>
 gj t36 false (fun J => J t2) fun t38 =>
 gj t36 false (fun J => A0 PR (A8 .len #[24] 0 [t38]) J) fun t39 =>
 gj t36 false (fun J => A0 PR (binOp .eql 3 t39 (.int .i64 0)) J) fun t40 =>
 A0 PR (do pure (if ← asBool t36 then (.bool true) else t40)) fun t41 =>
 gj t41 false (fun J => J t1) fun t43 =>
 gj t41 false (fun J => A0 PR (binOp .lss 3 t43 (.int .i64 0)) J) fun t44 =>
 A0 PR (do pure (if ← asBool t41 then (.bool true) else t44)) fun t45 =>
 B7 t45 (
 R t20) (
 J10 t8)) fun J11 =>
 A0 PR (Op.unary .not t20) fun t22 =>
 B7 t22 (
 R (.bool false)) (
 J11 (.bool false))
theorem A2y {X : Nat → Prop} {t0 t1 t2 t3 : Value} {R : Value → WP} {w : World} (h : j1 X t0 t1 t2 t3 R w) : Fn PR X 3 #[t0, t1, t2, t3] w R := C9 (args := [t0, t1, t2, t3]) mixed Tryz.func3 (by kernel_rfl) h
end Go.Proofs.YtpnidmkaobfhiaaGreat
namespace Go.Proofs.YtpnidmkaobfhiaaGreat
open Go
def U5 (who : Int) (p : List G8) : JU := ⟨⟨who, 0, noA⟩, p, [], 0, 0⟩
abbrev pW (x : WS) : List Int := C4G x x.c.wk.toNat
abbrev kF (x : WS) : List (Int × Int) := B0P (pW x) x.keep
abbrev sF (x : WS) : List SlV := B05 (pW x) x.keep x.sl
theorem V1 (P : List Int) (l : List (Int × Int)) : (B0P P l).length = l.length := by unfold B0P; simp
theorem A2z {P : List Int} {l : List (Int × Int)} {s : List SlV} (h : l.length = s.length) : (B05 P l s).length = s.length := by unfold B05; simp [h]
theorem C4e {l : List SlV} {i : Int} {x : SlV} (h : 0 ≤ i ∧ i < l.length) : g5 l i x = l.set i.toNat x := if_pos h
def epW (x : WS) : Int := IntKind.i64.wrap (D5 x.cells 0 + 1)
def N9 (x : WS) (p : List G8) : WS :=
 { x with cells := K9 (K9 x.cells 1 (E5 (kF x) + 1)) 0 (epW x), sl := g5 (sF x) (E5 (kF x)) (.rdy p), keep := if 0 < D5 x.cells 1 then l6 (M6 (kF x)) (D5 x.cells 1 - 1) (epW x) else M6 (kF x) }
end Go.Proofs.YtpnidmkaobfhiaaGreat
namespace Go.Proofs.YtpnidmkaobfhiaaGreat
open Go
abbrev UpA := JU × Value × WoD
def upH (jb b : Nat) (pv : Value) (m : WoH) (a : UpA) : List Res := F7 jb (Q5 b) :: M3 b a.1 pv a.2.1 :: P1 a.1 a.2.1 :: B8 (m.up a.2.2)
theorem C07 {j : JU} {x : WS} (h : j.b.st ≠ -1) : A3g j x = H0 j x := if_neg h
theorem C0P (w w' : World) (jb b : Nat) (pv : Value) (m : WoH) (a : UpA) {κ : Bool} {S : List Nat} {H : List Res} (h1 : F7 jb (Q5 b) ∈ H) (h2 : M3 b a.1 pv a.2.1 ∈ H) (v : Value) (x : WS) (hw' : LW κ S w H w') :
  Fn PR B6 15 #[.pointer (some ⟨jb, 0, none⟩), v] w' (fun u w'' => u = .bool ((JV.upd a.1).ready x) ∧ D6 [] w' w'') :=
 p9 w' jb b (Q5 b) a.1.b _ _ v false _ _ (Or.inl rfl) (hw'.pt h1) (hw'.pt h2) (fun w => x6 w b _) (fun w'' _ => A6A w'' _ _)
theorem B4z (w w' : World) (jb b : Nat) (pv : Value) (m : WoH) (p : List G8) (hpl : p.length ≤ 1000) {S : List Nat} (n : Nat) (hn : n < 400) (a : UpA) (hi : UInv n a.1 (m.up a.2.2).ws) (hp : a.1.pool = p) (hrd : (JV.upd a.1).ready (m.up a.2.2).ws = true) (hv : ∀ w', KS false S w w' → D2 w' pv p.length (p.flatMap E6))
  (hw' : LW false S w (upH jb b pv m a) w') (hs : LW false (B1 (upH jb b pv m a)) w' (upH jb b pv m a) w') :
  Fn PR B6 17 #[.pointer (some ⟨jb, 0, none⟩), .pointer (some ⟨m.b, 0, none⟩)] w' (Rn (B1 (upH jb b pv m a)) w' (fun (a' : UpA) u => u = D8 ((JV.upd a.1).step0 (m.up a.2.2).ws).2.2 ∧ (JV.upd a'.1, (m.up a'.2.2).ws) = B28 (.upd a.1, (m.up a.2.2).ws) ∧ UInv (n + 1) a'.1 (m.up a'.2.2).ws ∧ a'.1.pool = p) (upH jb b pv m)) := by
 obtain ⟨j, qv, d⟩ := a
 simp only at hi hp hrd
 subst hp
 have hst : j.b.st ≠ -1 := by
  intro h
  simp [JV.ready, JV.b, h] at hrd
 obtain ⟨i1, i2, i3, i4, i5, i6⟩ := hi
 have h := B4u w' jb b j pv qv (m.up d) i1 (by omega) hpl (by omega) (by omega) i5 (fun w'' hk => hv w'' ?_) hs
 ·rw [C07 hst] at h
  refine Fn.mono h fun u w'' hr => ?_
  obtain ⟨⟨qv', d'⟩, ⟨h1, h2⟩, h3⟩ := hr
  have hn := C1B ⟨i1, i2, i3, i4, i5, i6⟩ hst
  have e2 : (m.up d').ws = (H0 j (m.up d).ws).2.1 := h2
  refine ⟨((H0 j (m.up d).ws).1, qv', d'), ⟨h1, ?_, ?_, ?_⟩, h3⟩
  ·simp only [B28, JV.step0, e2]
  ·simp only [e2]; exact hn
  ·exact B0x _ _
 ·refine hw'.ks.then hk fun x hx => ?_
  obtain ⟨r, hr, hxr⟩ := K5.1 hx
  exact (hw'.own r hr x hxr).1
end Go.Proofs.YtpnidmkaobfhiaaGreat
namespace Go.Proofs.YtpnidmkaobfhiaaGreat
open Go
theorem C01 {c : CfgV} (h : S4 c = true) : WsOk (N8 c) := by
 simp only [S4, e8, Bool.and_eq_true, decide_eq_true_eq] at h
 refine ⟨by simp only [N8]; omega, by simp only [N8, List.length_replicate], by simp only [N8, List.length_replicate]; omega, by simp only [N8, List.length_replicate]; omega, by simp only [N8, List.length_replicate]; omega⟩
theorem A4s (n : Nat) (i : Int) : D5 (List.replicate n 0) i = 0 := by
 unfold D5
 split
 ·rw [List.getD_eq_getElem?_getD, List.getElem?_replicate]; split <;> rfl
 ·rfl
end Go.Proofs.YtpnidmkaobfhiaaGreat
namespace Go.Proofs.YtpnidmkaobfhiaaGreat
open Go
theorem B7n {α : Type} {l : List α} {d : α} {i : Nat} (h : i < l.length) : l.getD i d = l[i] := by rw [List.getD_eq_getElem?_getD, List.getElem?_eq_getElem h]; rfl
theorem C0v {x : WS} {i : Nat} (h : (i : Int) < x.c.wk) : F9 x.c (((i : Nat) : Int) + 1) = (i : Nat) + 2 := by unfold F9; rw [if_neg (by omega)]; omega
theorem C6V {x : WS} {p : Int} : p ∈ pW x ↔ ∃ i : Nat, (i : Int) < x.c.wk ∧ p = D5 x.cells ((i : Nat) + 2) := by
 unfold pW C4G
 rw [List.mem_map]
 constructor
 ·rintro ⟨i, hi, rfl⟩
  rw [List.mem_range] at hi
  exact ⟨i, by omega, by rw [C0v (by omega)]⟩
 ·rintro ⟨i, hi, rfl⟩
  exact ⟨i, List.mem_range.2 (by omega), by rw [C0v hi]⟩
theorem B8Z {x : WS} (h : ∀ i : Nat, D5 x.cells ((i : Nat) + 2) = 0) (e : Int) : c7 (pW x) e = true := by
 unfold c7
 rw [List.all_eq_true]
 intro p hp
 obtain ⟨i, hi, rfl⟩ := C6V.1 hp
 simp [h i]
def B87 (n t : Nat) : List (Int × Int) := (List.range n).map fun k => if k + 1 < t then (2, (k : Int) + 2) else if k + 1 = t then (1, 0) else (0, 0)
theorem B9e (n t : Nat) : (B87 n t).length = n := by simp [B87]
theorem B6V {l : List (Int × Int)} {i : Nat} (h : i < l.length) : Z5 l (i : Nat) = l[i].1 := by
 unfold Z5
 rw [if_pos (by omega), Int.toNat_natCast, List.getD_eq_getElem?_getD, List.getElem?_eq_getElem h]; rfl
structure BusyI (n t : Nat) (x : WS) : Prop where
 ok : WsOk x
 ep : D5 x.cells 0 = (t : Nat)
 cur : D5 x.cells 1 = (t : Nat)
 keep : x.keep = B87 n t
 sl : x.sl.length = n
 le : t ≤ n
theorem BusyI.kl {n t : Nat} {x : WS} (h : BusyI n t x) : x.keep.length = x.sl.length := by rw [h.sl, h.keep, B9e]
theorem C3Q {x : WS} {p : List G8} (h : WsOk x) (hl : x.keep.length = x.sl.length) : WsOk (N9 x p) := by
 obtain ⟨w1, w2, w3, w4, w5⟩ := h
 refine ⟨w1, by simp only [N9, p5]; exact w2, w3, by simp only [N9, d5]; rw [A2z hl]; exact w4, ?_⟩
 simp only [N9]
 split
 ·simp only [l6, A2L, A21, V1]; exact w5
 ·simp only [A21, V1]; exact w5
theorem C00 {x : WS} {p : List G8} (h : WsOk x) : D5 (N9 x p).cells 1 = E5 (kF x) + 1 := by
 have h1 := h.wk; have h2 := h.cells
 simp only [N9]
 rw [Q4 _ _ (by omega), b9, if_pos (by omega)]
end Go.Proofs.YtpnidmkaobfhiaaGreat
namespace Go.Proofs.YtpnidmkaobfhiaaGreat
open Go
theorem B9Q (w : World) (m : WoH) (hb : bl w m.b = some (.cells (E7 m.c (.pointer (some ⟨m.bc, 0, none⟩)) (.pointer (some ⟨m.bs, 0, none⟩)) (.pointer (some ⟨m.bk, 0, none⟩)) m.tv m.pv (.int .i64 m.now)) 74 (0, 0))) :
  Fn PR B6 11 #[.pointer (some ⟨m.b, 0, none⟩)] w (fun u w' => u = .bool true ∧ D6 [] w w') := by
 refine Fn.pure (A5j (TW.go (κ := false) (S := []) ?_))
 unfold A0n
 have h5 : w.cell? ⟨m.b, 5, none⟩ = some (.pointer (some ⟨m.bc, 0, none⟩)) := by rw [D7 hb]; rfl
 have h6 : w.cell? ⟨m.b, 6, none⟩ = some (.pointer (some ⟨m.bs, 0, none⟩)) := by rw [D7 hb]; rfl
 have h7 : w.cell? ⟨m.b, 7, none⟩ = some (.pointer (some ⟨m.bk, 0, none⟩)) := by rw [D7 hb]; rfl
 (have zz:=trivial;repeat((first|clear zz|with_reducible first|refine A3 ?_|refine A5 fun _=>?_|refine A4 fun _=>?_);try simp(disch:=first|omega|assumption|((repeat(first|exact A1|exact uH|apply A2|apply uT));first|done|fail)|(simp;first|done|omega|fail))[h5, h6, h7]))
 exact B4 rfl
theorem C3r {κ : Bool} {S : List Nat} {w0 w' : World} {Hc Hk : List Res} {e : TypeId} {k q : Nat} {v : Value} {xs : List Value} (hw' : LW κ S w0 (Hc ++ Hk) w') (hm : Res.own e k v q xs ∈ Hk) : ∀ w'', KS false (B1 Hc) w' w'' → D2 w'' v q xs := fun w'' hk => by
 have h := U9.rd (hw'.hold _ (List.mem_append_right _ hm))
 refine h.ks hk fun g hg hin => ?_
 obtain ⟨r, hr, hgr⟩ := K5.1 hin
 exact (List.pairwise_append.1 hw'.dis).2.2 r hr _ hm g hgr hg
def B8b : CfgV := ⟨1, 1, 1, 5, 2⟩
def p20 : List G8 := [(7, 1)]
def R20 : RunV := A1k 20 ⟨.upd (U5 0 p20), N8 B8b, 0, 0, 0⟩
theorem C89 : R20.n = 6 := by kernel_rfl
theorem C7n : R20.j.b = ⟨0, -1, noA⟩ := by kernel_rfl
theorem C60 : S4 B8b = true := by kernel_rfl
theorem C2V {c : CfgV} (h : S4 c = true) (who : Int) (p : List G8) : UInv 0 (U5 who p) (N8 c) :=
 ⟨C01 h, by simp [U5], by simp [U5], by simp [U5], by simp [U5], by simp [N8, A4s]⟩
theorem B7m {who : Int} (hw : who ≠ 0) (p : List G8) (x : WS) : (JV.upd (U5 who p)).step0 x = (.upd { U5 who p with b := ⟨who, -1, ⟨1, 0, false, 0⟩⟩ }, x, true, true, false) := by
 have hb : T9 (U5 who p) = 1 := if_neg hw
 simp only [JV.step0]
 unfold H0
 rw [if_pos ⟨rfl, by rw [hb]; decide⟩, hb]
 rfl
set_option maxHeartbeats 2000000 in
theorem B9L (w : World) : Fn PR B6 5 #[] w (fun r w' => r = .bool true ∧ D6 [] w w') := by
 refine Fn.pure (A50 (TW.go (κ := false) (S := []) ?_))
 unfold A0j
 (have zz:=trivial;repeat((first|clear zz|with_reducible first|refine A3 ?_|refine A5 fun _=>?_|refine A4 fun _=>?_);try simp(disch:=first|omega|assumption|((repeat(first|exact A1|exact uH|apply A2|apply uT));first|done|fail)|(simp;first|done|omega|fail))[]))
 refine G7 A9f (fun w' hw' => B79 w' B8b) ?_
 rw [C60]
 simp only [if_true]
 rintro m v ⟨rfl, hmc, hws⟩
 (have zz:=trivial;repeat((first|clear zz|with_reducible first|refine A3 ?_|refine A5 fun _=>?_|refine A4 fun _=>?_|refine T6 fun _=>?_|refine T0 (hK:=fun _=>?_)|refine T8 (hK:=fun _=>?_)|refine T2 (hK:=fun _=>?_)|refine T3 (hK:=fun _=>?_)|refine T7 (hK:=fun _=>?_));try simp(disch:=first|omega|assumption|((repeat(first|exact A1|exact uH|apply A2|apply uT));first|done|fail)|(simp;first|done|omega|fail))[]))
 rename_i bp
 refine G7 x5 (fun w' hw' => B75 w' 0 (some ⟨bp, 0, none⟩) 1 1 ⟨#[]⟩ 0) ?_
 rintro ⟨jb, b⟩ v rfl
 (have zz:=trivial;repeat((first|clear zz|with_reducible first|refine A3 ?_|refine A5 fun _=>?_|refine A4 fun _=>?_);try simp(disch:=first|omega|assumption|((repeat(first|exact A1|exact uH|apply A2|apply uT));first|done|fail)|(simp;first|done|omega|fail))[]))
 refine G7 x5 (fun w' hw' => B75 w' 1 none 0 0 ⟨#[]⟩ 0) ?_
 rintro ⟨kb, kc⟩ v rfl
 refine j9 3 1 ?_
 refine j9 3 1 ?_
 (have zz:=trivial;repeat((first|clear zz|with_reducible first|refine A3 ?_|refine A5 fun _=>?_|refine A4 fun _=>?_);try simp(disch:=first|omega|assumption|((repeat(first|exact A1|exact uH|apply A2|apply uT));first|done|fail)|(simp;first|done|omega|fail))[]))
 have hdd : m.up m.dd = m := rfl
 obtain ⟨pv, hpv⟩ : ∃ pv, pv = Value.slice (some ⟨bp, 0, none⟩) 1 1 := ⟨_, rfl⟩
 rw [← hpv]
 obtain ⟨Hf, hHf⟩ : ∃ Hf : List Res, Hf = [.own 83 2 pv 1 [.int .i64 7, .int .i64 1], .own 3 1 (.slice none 0 0) 0 [], F7 kb (Q5 kc), .pt kc (.cells (D3 ⟨1, 0, noA⟩ [.slice none 0 0, .slice none 0 0, .int .i64 0, .int .i64 0]) 94)] := ⟨_, rfl⟩
 refine Sels.tw (rs := upH jb b pv m (U5 0 p20, L9, m.dd) ++ Hf) (by subst hHf; simp only [upH, M3, P1, U5, L9, C1, List.map_nil, List.length_nil, hdd, B8, List.cons_append, List.nil_append]; (repeat' constructor)) ?_
 have hrdp : ∀ (d : UpA) (w' : World), LW false [] w (upH jb b pv m d ++ Hf) w' → ∀ w'', KS false (B1 (upH jb b pv m d)) w' w'' → D2 w'' pv p20.length (p20.flatMap E6) := fun d w' hw' w'' hk =>
  C3r (e := 83) (k := 2) hw' (by rw [hHf]; exact List.mem_cons_self ..) w'' hk
 refine B9E (fun (y : UpA × Nat) => upH jb b pv m y.1 ++ Hf) (fun y => y.2 ≤ 20 ∧ UInv y.2 y.1.1 (m.up y.1.2.2).ws ∧ y.1.1.pool = p20 ∧ ∃ tk bad, A1k (20 - y.2) (A5N (.upd y.1.1, (m.up y.1.2.2).ws) y.2 tk bad) = R20) (fun y => 20 - y.2) ((U5 0 p20, L9, m.dd), 0) (fun y => .int .i64 (y.2 : Nat)) ⟨Nat.zero_le _, by rw [hdd, hws]; exact C2V C60 0 p20, rfl, 0, 0, by rw [hdd, hws]; rfl⟩ ?_
 rintro ⟨⟨j', qv, d⟩, n⟩ ⟨h1, h2, h3, tk, bad, h4⟩ L hL
 simp only at h1 h2 h3 h4 hL ⊢
 have hfin : (JV.upd j').ready (m.up d).ws = false ∨ n = 20 → n = 6 ∧ j'.b = ⟨0, -1, noA⟩ := fun h => by
  have e : A5N (.upd j', (m.up d).ws) n tk bad = R20 := by
   rw [← h4]
   rcases h with h | h
   ·rw [C3f h]
   ·rw [show 20 - n = 0 by omega]; rfl
  exact ⟨by rw [← C89, ← e]; rfl, by rw [← C7n, ← e]; rfl⟩
 have hnx : (JV.upd j').ready (m.up d).ws = true → n < 20 → ∃ tk bad, A1k (20 - (n + 1)) (A5N (B28 (.upd j', (m.up d).ws)) (n + 1) tk bad) = R20 := fun h hn => by
  rw [← h4, show 20 - n = 20 - (n + 1) + 1 by omega, C0p h]
  exact ⟨_, _, rfl⟩
 have hR := fun (w' : World) (hw' : LW false [] w (upH jb b pv m (j', qv, d) ++ Hf) w') => C0P w w' jb b pv m (j', qv, d) (List.mem_append_left _ (by unfold upH; (repeat constructor))) (List.mem_append_left _ (by unfold upH; (repeat constructor))) (.pointer (some ⟨m.b, 0, none⟩)) (m.up d).ws hw'
 obtain ⟨rd, hrd⟩ : ∃ r, r = (JV.upd j').ready (m.up d).ws := ⟨_, rfl⟩
 have hn20 : n < 20 ∨ rd = false := by
  by_cases h : n < 20
  ·exact Or.inl h
  ·have := (hfin (Or.inr (by omega))).1; omega
 simp only [← hrd] at hfin hnx hR
 have hexit : rd = false → n = 6 ∧ j'.b = ⟨0, -1, noA⟩ := fun h => hfin (Or.inl h)
 clear hfin h4
 cases rd with
 | true =>
  have c1 : n < 20 := by rcases hn20 with h | h; exact h; cases h
  have c1' : ((n : Nat) : Int) < 20 := by omega
  (have zz:=trivial;repeat((first|clear zz|with_reducible first|refine A3 ?_|refine A5 fun _=>?_|refine A4 fun _=>?_);try simp(disch:=first|omega|assumption|((repeat(first|exact A1|exact uH|apply A2|apply uT));first|done|fail)|(simp;first|done|omega|fail))[c1, c1']))
  refine D4 Q3 (fun w' hw' => hR w' hw') ?_
  (have zz:=trivial;repeat((first|clear zz|with_reducible first|refine A3 ?_|refine A5 fun _=>?_|refine A4 fun _=>?_);try simp(disch:=first|omega|assumption|((repeat(first|exact A1|exact uH|apply A2|apply uT));first|done|fail)|(simp;first|done|omega|fail))[c1, c1']))
  refine C0 (Hc := upH jb b pv m (j', qv, d)) (Hk := Hf) q9 (fun w' hw' hs => B4z w' w' jb b pv m p20 (by simp [p20]) n (by omega) (j', qv, d) h2 h3 hrd.symm (hrdp (j', qv, d) w' hw') hs hs) (A1n _ _) ?_
  rintro ⟨j2, qv2, d2⟩ v ⟨rfl, k1, k2, k3⟩
  obtain ⟨tk', bad', h⟩ := hnx rfl c1
  rw [← k1] at h
  (have zz:=trivial;repeat((first|clear zz|with_reducible first|refine A3 ?_|refine A5 fun _=>?_|refine A4 fun _=>?_);try simp(disch:=first|omega|assumption|((repeat(first|exact A1|exact uH|apply A2|apply uT));first|done|fail)|(simp;first|done|omega|fail))[]))
  exact hL ((j2, qv2, d2), n + 1) ⟨by simp only; omega, k2, k3, tk', bad', h⟩ (by simp only; omega)
 | false =>
  obtain ⟨rfl, hb⟩ := hexit rfl
  clear hL hnx hexit
  (have zz:=trivial;repeat((first|clear zz|with_reducible first|refine A3 ?_|refine A5 fun _=>?_|refine A4 fun _=>?_);try simp(disch:=first|omega|assumption|((repeat(first|exact A1|exact uH|apply A2|apply uT));first|done|fail)|(simp;first|done|omega|fail))[]))
  refine D4 Q3 (fun w' hw' => hR w' hw') ?_
  (have zz:=trivial;repeat((first|clear zz|with_reducible first|refine A3 ?_|refine A5 fun _=>?_|refine A4 fun _=>?_);try simp(disch:=first|omega|assumption|((repeat(first|exact A1|exact uH|apply A2|apply uT));first|done|fail)|(simp;first|done|omega|fail))[]))
  obtain ⟨m2, hm2⟩ : ∃ m2, m2 = m.up d := ⟨_, rfl⟩
  have hb2 : m.b = m2.b := by rw [hm2]; rfl
  rw [← hm2] at h2
  have h20 : UInv 0 (U5 1 []) (m2.up m2.dd).ws := ⟨h2.ok, by simp [U5], by simp [U5], by simp [U5], by simp [U5], h2.cur⟩
  have hA := fun (w' : World) (g1 : bl w' jb = some (.cells #[Q5 b] 98 (0, 0))) (g2 : bl w' b = some (.cells (D3 j'.b [pv, qv, .int .i64 j'.slot, .int .i64 j'.old]) 94 (0, 0))) =>
   A8d w' jb b (Q5 b) j'.b _ _ (Or.inl rfl) g1 g2
  have hSt := fun (w' : World) (g1 : bl w' jb = some (.cells #[Q5 b] 98 (0, 0))) (g2 : bl w' b = some (.cells (D3 j'.b [pv, qv, .int .i64 j'.slot, .int .i64 j'.old]) 94 (0, 0))) =>
   B0K w' jb b (Q5 b) j'.b _ _ (Or.inl rfl) g1 g2
  refine C0 (Hc := upH kb kc L9 m2 (U5 1 [], L9, m2.dd)) (Hk := [F7 jb (Q5 b), M3 b j' pv qv, P1 j' qv, .own 83 2 pv 1 [.int .i64 7, .int .i64 1]]) q9 (fun w' hw' hs => by rw [hb2]; exact B4z w' w' kb kc L9 m2 [] (by simp) 0 (by omega) (U5 1 [], L9, m2.dd) h20 rfl rfl (fun w'' _ => Or.inl ⟨rfl, rfl, none, 0, rfl⟩) hs hs) (by subst hHf; simp only [upH, ← hm2, show m2.up m2.dd = m2 from rfl, B8, List.cons_append, List.nil_append]; simp only [M3, P1, U5, L9, C1, List.map_nil, List.length_nil]; (repeat' constructor)) ?_
  rintro ⟨k2, qk, dk⟩ v ⟨rfl, e1, _, _⟩
  simp only [B28, B7m (show (1 : Int) ≠ 0 by decide)] at e1
  obtain ⟨e2, -⟩ := Prod.mk.inj e1
  injection e2 with e2
  subst e2
  simp only [B7m (show (1 : Int) ≠ 0 by decide), D8, upH]
  have hA2 := fun (w' : World) (g1 : bl w' kb = some (.cells #[Q5 kc] 98 (0, 0))) (g2 : bl w' kc = some (.cells (D3 ⟨1, -1, ⟨1, 0, false, 0⟩⟩ [L9, qk, .int .i64 0, .int .i64 0]) 94 (0, 0))) =>
   A8d w' kb kc (Q5 kc) ⟨1, -1, ⟨1, 0, false, 0⟩⟩ _ _ (Or.inl rfl) g1 g2
  have hR2 := fun (w' : World) (g1 : bl w' kb = some (.cells #[Q5 kc] 98 (0, 0))) (g2 : bl w' kc = some (.cells (D3 ⟨1, -1, ⟨1, 0, false, 0⟩⟩ [L9, qk, .int .i64 0, .int .i64 0]) 94 (0, 0))) =>
   p9 w' kb kc (Q5 kc) ⟨1, -1, ⟨1, 0, false, 0⟩⟩ _ _ (.pointer (some ⟨m.b, 0, none⟩)) false _ _ (Or.inl rfl) g1 g2 (fun w => x6 w kc _) (fun w'' _ => A6A w'' _ _)
  simp only [hb] at hA hSt
  (have zz:=trivial;repeat((first|clear zz|with_reducible first|refine A3 ?_|refine A5 fun _=>?_|refine A4 fun _=>?_);try simp(disch:=first|omega|assumption|((repeat(first|exact A1|exact uH|apply A2|apply uT));first|done|fail)|(simp;first|done|omega|fail))[]))
  refine D4 l4 (fun w' hw' => hA w' (hw'.pt (b := jb) (by unfold F7; (repeat constructor))) (hw'.pt (b := b) (by unfold M3; rw [hb]; (repeat constructor)))) ?_
  simp only [noA, AnsV.val]
  (have zz:=trivial;repeat((first|clear zz|with_reducible first|refine A3 ?_|refine A5 fun _=>?_|refine A4 fun _=>?_);try simp(disch:=first|omega|assumption|((repeat(first|exact A1|exact uH|apply A2|apply uT));first|done|fail)|(simp;first|done|omega|fail))[]))
  refine D4 m6 (fun w' hw' => hSt w' (hw'.pt (b := jb) (by unfold F7; (repeat constructor))) (hw'.pt (b := b) (by unfold M3; rw [hb]; (repeat constructor)))) ?_
  (have zz:=trivial;repeat((first|clear zz|with_reducible first|refine A3 ?_|refine A5 fun _=>?_|refine A4 fun _=>?_);try simp(disch:=first|omega|assumption|((repeat(first|exact A1|exact uH|apply A2|apply uT));first|done|fail)|(simp;first|done|omega|fail))[]))
  refine D4 l4 (fun w' hw' => hA2 w' (hw'.pt (b := kb) (by unfold F7; (repeat constructor))) (hw'.pt (b := kc) (by unfold M3; simp only [U5]; (repeat constructor)))) ?_
  simp only [AnsV.val]
  (have zz:=trivial;repeat((first|clear zz|with_reducible first|refine A3 ?_|refine A5 fun _=>?_|refine A4 fun _=>?_);try simp(disch:=first|omega|assumption|((repeat(first|exact A1|exact uH|apply A2|apply uT));first|done|fail)|(simp;first|done|omega|fail))[]))
  refine D4 Q3 (fun w' hw' => hR2 w' (hw'.pt (b := kb) (by unfold F7; (repeat constructor))) (hw'.pt (b := kc) (by unfold M3; simp only [U5]; (repeat constructor)))) ?_
  (have zz:=trivial;repeat((first|clear zz|with_reducible first|refine A3 ?_|refine A5 fun _=>?_|refine A4 fun _=>?_);try simp(disch:=first|omega|assumption|((repeat(first|exact A1|exact uH|apply A2|apply uT));first|done|fail)|(simp;first|done|omega|fail))[]))
  exact B4 rfl
end Go.Proofs.YtpnidmkaobfhiaaGreat
namespace Go.Proofs.YtpnidmkaobfhiaaGreat
open Go
structure JW where
 text : ByteArray
 key : ByteArray
 shard : Int
 closing : Bool
 who : Int
 st : Int
 ep : Int
 slot : Int
 now : Int
 table : List EnV
 ans : AnsV
def B5Y (x : WS) (i : Int) : List G8 := match N4 x.sl i with | .rdy p => p | _ => []
def D1S (x : WS) (i : Int) : Bool := match N4 x.sl i with | .rdy _ => true | _ => false
def JW.refuse (j : JW) (e : Int) : JW := { j with st := 10, ans := ⟨e, 0, false, 0⟩ }
def JW.rd (j : JW) (sh : Int) : JW := { j with key := A3c (M2 j.text).1, shard := (u4 (A3c (M2 j.text).1) sh : Nat), closing := B14 (M2 j.text).1 (M2 j.text).2.1 }
abbrev JwR := JW × WS × A0N
def noT : A0N := (false, false, false)
def jw0 (j : JW) (x : WS) : JwR :=
 if F9 x.c j.who < 0 then (j.refuse 1, x, true, true, false)
 else if (M2 j.text).2.2 ≠ 0 then (j.refuse 9, x, true, true, false)
 else ({ j.rd x.c.sh with ep := D5 x.cells 0 }, x, noT)
def jw1 (j : JW) (x : WS) : JwR := (j, { x with cells := K9 x.cells (F9 x.c j.who) (IntKind.i64.wrap (j.ep + 1)) }, noT)
def jw2 (j : JW) (x : WS) : JwR := if D5 x.cells 0 = j.ep then (j, x, noT) else ({ j with ep := D5 x.cells 0, st := 1 }, x, noT)
def jw3 (j : JW) (x : WS) : JwR := (j, { x with own := T4 x.own j.shard j.who }, noT)
def jw4 (j : JW) (x : WS) : JwR := ({ j with slot := IntKind.i64.wrap (D5 x.cells 1 - 1), now := x.now }, x, true, false, false)
def jw5 (j : JW) (x : WS) : JwR := ({ j with table := x.tabs.getD j.shard.toNat [] }, x, noT)
def jw6 (j : JW) (x : WS) : JwR :=
 let r := A2M j.table (B5Y x j.slot) j.key j.closing j.now x.c.idle
 ({ j with table := r.1, ans := r.2.1 }, x, false, false, decide (0 ≤ j.slot) && !D1S x j.slot)
def jw7 (j : JW) (x : WS) : JwR := (j, { x with tabs := x.tabs.set j.shard.toNat j.table }, noT)
def jw8 (j : JW) (x : WS) : JwR := (j, { x with own := K7 x.own j.shard j.who }, noT)
def jw9 (j : JW) (x : WS) : JwR := (j, { x with cells := K9 x.cells (F9 x.c j.who) 0 }, false, true, false)
def E1 : Nat → JW → WS → JwR
 | 0 => jw0
 | 1 => jw1
 | 2 => jw2
 | 3 => jw3
 | 4 => jw4
 | 5 => jw5
 | 6 => jw6
 | 7 => jw7
 | 8 => jw8
 | _ => jw9
def JW.ready (j : JW) (x : WS) : Bool := decide (j.st < 10) && (!decide (j.st = 3) || decide (A2c x.own j.shard < 0))
def JW.step (j : JW) (x : WS) : JwR := if j.ready x then E1 j.st.toNat { j with st := j.st + 1 } x else (j, x, noT)
def A20 (who : Int) (text : ByteArray) : JW := ⟨text, noB, 0, false, who, 0, 0, 0, 0, [], noA⟩
end Go.Proofs.YtpnidmkaobfhiaaGreat
namespace Go.Proofs.YtpnidmkaobfhiaaGreat
open Go
def B81 (t : List EnV) : Prop := (∀ x ∈ t, x = p7) ∧ t.length ≤ 64
theorem C19 {a b : List Int} (hl : a.length = b.length) (h : ∀ j, j < a.length → a.getD j 0 = b.getD j 0) : a = b := by
 apply List.ext_getElem hl
 intro j h1 h2
 have := h j h1
 rwa [List.getD_eq_getElem?_getD, List.getD_eq_getElem?_getD, List.getElem?_eq_getElem h1, List.getElem?_eq_getElem h2] at this
theorem g8 {l : List Int} {i : Nat} {a b : Int} (h : i < l.length) : A3q l (i : Nat) a b = if l.getD i 0 = a then l.set i b else l := by
 unfold A3q
 rw [Int.toNat_natCast]
 by_cases c : l.getD i 0 = a
 ·rw [if_pos ⟨by omega, by omega, c⟩, if_pos c]
 ·rw [if_neg (fun h => c h.2.2), if_neg c]
theorem A8N {l : List Int} {i : Nat} (h : i < l.length) : A2c l (i : Nat) = l.getD i 0 := by unfold A2c; rw [if_pos (by omega), Int.toNat_natCast]
end Go.Proofs.YtpnidmkaobfhiaaGreat
namespace Go.Proofs.YtpnidmkaobfhiaaGreat
open Go
end Go.Proofs.YtpnidmkaobfhiaaGreat
namespace Go.Proofs.YtpnidmkaobfhiaaGreat
open Go
abbrev M4 (x : WS) : Int := D5 x.cells 1
theorem B6b {l : List (Int × Int)} {k : Nat} (hk : k < l.length) (h : l[k] = (0, 0)) : ¬ E5 l < 0 := by
 unfold E5
 have : l.findIdx (fun s => decide (s = (0, 0))) < l.length := List.findIdx_lt_length.2 ⟨_, List.getElem_mem hk, by simp [h]⟩
 rw [if_pos this]; omega
theorem B96 {l : List (Int × Int)} (h : ¬ E5 l < 0) : ∃ k : Nat, ∃ hk : k < l.length, E5 l = (k : Nat) ∧ l[k] = (0, 0) := by
 unfold E5 at *
 by_cases c : l.findIdx (fun s => decide (s = (0, 0))) < l.length
 ·rw [if_pos c]
  refine ⟨_, c, rfl, ?_⟩
  have := List.findIdx_getElem (w := c)
  simpa using this
 ·rw [if_neg c] at h; omega
theorem C1l {l : List (Int × Int)} {k : Nat} (hk : k < l.length) (h : E5 l = (k : Nat)) (h0 : l[k] = (0, 0)) : M6 l = l.set k (1, 0) := by
 unfold M6
 rw [h, if_neg (by omega), Int.toNat_natCast, B7n hk, h0]
theorem A8H {l : List SlV} {k : Nat} (h : k < l.length) : N4 l (k : Nat) = l[k] := by
 unfold N4; rw [if_pos (by omega), Int.toNat_natCast, B7n h]
structure CurI (x : WS) : Prop where
 ok : WsOk x
 kl : x.keep.length = x.sl.length
 two : 2 ≤ x.keep.length
 cur : 0 ≤ M4 x ∧ M4 x ≤ x.keep.length
 at1 : ∀ (k : Nat) (h : k < x.keep.length), (k : Int) + 1 = M4 x → (x.keep[k]).1 = 1 ∧ ∃ p, N4 x.sl (k : Nat) = .rdy p
 at2 : ∀ (k : Nat) (h : k < x.keep.length), (k : Int) + 1 ≠ M4 x → x.keep[k] = (0, 0) ∨ (x.keep[k]).1 = 2
theorem B0J {P : List Int} {l : List (Int × Int)} {k : Nat} (h : k < l.length) : (B0P P l)[k]'(by rw [V1]; exact h) = if K3 P l[k] then (0, 0) else l[k] := by simp [B0P]
theorem C1r {P : List Int} {l : List (Int × Int)} {s : List SlV} {k : Nat} (h : k < l.length) (h2 : k < s.length) (hl : l.length = s.length) : (B05 P l s)[k]'(by rw [A2z hl]; exact h2) = if K3 P l[k] then .no else s[k] := by simp [B05]
theorem B7q {P : List Int} {s : Int × Int} (h : s.1 ≠ 2) : K3 P s = false := by unfold K3; rw [decide_eq_false h]; rfl
theorem CurI.freed {x : WS} (h : CurI x) : CurI { x with sl := sF x, keep := kF x } ∧ N4 (sF x) (M4 x - 1) = N4 x.sl (M4 x - 1) := by
 have hg : ∀ (k : Nat) (hk : k < x.keep.length), (k : Int) + 1 = M4 x → N4 (sF x) (k : Nat) = N4 x.sl (k : Nat) := fun k hk hc => by
  have h1 := (h.at1 k hk hc).1
  have hs : k < x.sl.length := by rw [← h.kl]; exact hk
  rw [A8H (by rw [A2z h.kl]; exact hs), A8H hs, C1r hk hs h.kl, B7q (by omega)]; rfl
 have hok := h.ok
 refine ⟨⟨⟨hok.wk, hok.cells, hok.own, by simp only; rw [A2z h.kl]; exact hok.sl, by simp only; rw [V1]; exact hok.keep⟩, by simp only; rw [V1, A2z h.kl]; exact h.kl, by simp only; rw [V1]; exact h.two, by simp only; rw [V1]; exact h.cur, fun k hk hc => ?_, fun k hk hc => ?_⟩, ?_⟩
 ·simp only [V1] at hk
  have h1 := h.at1 k hk hc
  simp only
  rw [B0J hk, B7q (by omega)]
  exact ⟨h1.1, by rw [hg k hk hc]; exact h1.2⟩
 ·simp only [V1] at hk
  simp only
  rw [B0J hk]
  cases hr : K3 (pW x) x.keep[k] with
  | true => left; rfl
  | false => simpa using h.at2 k hk hc
 ·by_cases hc : M4 x = 0
  ·rw [hc]; rfl
  ·have h1 := h.cur
   obtain ⟨k, hk⟩ : ∃ k : Nat, M4 x - 1 = k := ⟨(M4 x - 1).toNat, by omega⟩
   rw [hk]
   exact hg k (by omega) (by omega)
theorem C4n {l : List (Int × Int)} {i k : Nat} {s : Int × Int} (hk : k < l.length) : Z5 (l.set i s) (k : Nat) = if i = k then s.1 else l[k].1 := by
 rw [B6V (by rw [List.length_set]; exact hk), List.getElem_set]; split <;> rfl
theorem CurI.after {x : WS} (h : CurI x) (p : List G8) (ht : ¬ E5 (kF x) < 0) : CurI (N9 x p) ∧ M4 (N9 x p) ≠ M4 x ∧ 1 ≤ M4 (N9 x p) ∧ N4 (N9 x p).sl (M4 (N9 x p) - 1) = .rdy p ∧ Z5 (N9 x p).keep (M4 (N9 x p) - 1) = 1
  ∧ (0 < M4 x → Z5 (N9 x p).keep (M4 x - 1) = 2) ∧ N4 (N9 x p).sl (M4 x - 1) = N4 x.sl (M4 x - 1) := by
 obtain ⟨hf, hgf⟩ := h.freed
 obtain ⟨s, hs, hts, hs0⟩ := B96 ht
 have hsl : s < (sF x).length := by have := hf.kl; simp only at this; omega
 have hcur' : M4 (N9 x p) = (s : Int) + 1 := by rw [show M4 (N9 x p) = D5 (N9 x p).cells 1 from rfl, C00 h.ok, hts]
 have hcf : M4 { x with sl := sF x, keep := kF x } = M4 x := rfl
 have hne : (s : Int) + 1 ≠ M4 x := fun hc => by
  have := (hf.at1 s hs (by rw [hcf]; exact hc)).1
  simp only at this
  rw [hs0] at this
  simp at this
 have htk := C1l hs hts hs0
 have hlen : (kF x).length = x.keep.length := V1 _ _
 have hsl' : (N9 x p).sl = (sF x).set s (.rdy p) := by
  show g5 (sF x) (E5 (kF x)) (.rdy p) = _
  rw [hts, C4e (by omega), Int.toNat_natCast]
 have hkp : (N9 x p).keep = if 0 < M4 x then ((kF x).set s (1, 0)).set (M4 x - 1).toNat (2, epW x) else (kF x).set s (1, 0) := by
  show (if 0 < D5 x.cells 1 then l6 (M6 (kF x)) (D5 x.cells 1 - 1) (epW x) else M6 (kF x)) = _
  rw [htk]
  by_cases hc : 0 < M4 x
  ·rw [if_pos hc, if_pos hc]
   obtain ⟨k, hk⟩ : ∃ k : Nat, M4 x - 1 = k := ⟨(M4 x - 1).toNat, by omega⟩
   have hkl : k < (kF x).length := by have := h.cur; omega
   have h1 := (hf.at1 k hkl (by rw [hcf]; omega)).1
   unfold l6 A1d
   have e3 : Z5 ((kF x).set s (1, 0)) (k : Nat) = 1 := by rw [C4n hkl, if_neg (by omega)]; exact h1
   rw [show D5 x.cells 1 - 1 = (k : Int) from hk, e3, if_pos ⟨rfl, by omega⟩]
  ·rw [if_neg hc, if_neg hc]
 have hgs : ∀ (k : Nat), k ≠ s → k < (sF x).length → N4 (N9 x p).sl (k : Nat) = N4 (sF x) (k : Nat) := fun k hk hl => by
  rw [hsl', A8H (by rw [List.length_set]; exact hl), A8H hl, List.getElem_set_ne (by omega)]
 have hgs0 : N4 (N9 x p).sl (s : Nat) = .rdy p := by rw [hsl', A8H (by rw [List.length_set]; exact hsl), List.getElem_set_self]
 have hold : N4 (N9 x p).sl (M4 x - 1) = N4 x.sl (M4 x - 1) := by
  rw [← hgf]
  by_cases hc : M4 x = 0
  ·rw [hc]; rfl
  ·have h1 := h.cur
   obtain ⟨k, hk⟩ : ∃ k : Nat, M4 x - 1 = k := ⟨(M4 x - 1).toNat, by omega⟩
   rw [hk]
   exact hgs k (by omega) (by have := hf.kl; simp only at this; omega)
 have hat : ∀ (k : Nat) (hk : k < (kF x).length), ∀ hk', (N9 x p).keep[k]'hk' = if (k : Int) + 1 = M4 x then (2, epW x) else if k = s then (1, 0) else (kF x)[k] := fun k hk hk' => by
  simp only [hkp]
  by_cases hc : 0 < M4 x
  ·simp only [if_pos hc]
   rw [List.getElem_set, List.getElem_set]
   by_cases h1 : (k : Int) + 1 = M4 x
   ·rw [if_pos h1, if_pos (by omega)]
   ·rw [if_neg h1, if_neg (by omega)]
    by_cases h2 : k = s
    ·rw [if_pos h2, if_pos h2.symm]
    ·rw [if_neg h2, if_neg (by omega)]
  ·simp only [if_neg hc]
   rw [List.getElem_set, if_neg (show ¬ (k : Int) + 1 = M4 x by omega)]
   by_cases h2 : k = s
   ·rw [if_pos h2, if_pos h2.symm]
   ·rw [if_neg h2, if_neg (by omega)]
 have hkl' : (N9 x p).keep.length = (kF x).length := by
  rw [hkp]; split <;> simp
 have hsll : (N9 x p).sl.length = (sF x).length := by rw [hsl', List.length_set]
 refine ⟨⟨C3Q h.ok h.kl, by rw [hkl', hsll]; exact hf.kl, by rw [hkl']; exact hf.two, by rw [hcur', hkl']; omega, fun k hk hc => ?_, fun k hk hc => ?_⟩, by rw [hcur']; exact hne, by rw [hcur']; omega, ?_, ?_, fun hc => ?_, hold⟩
 ·rw [hcur'] at hc
  obtain rfl : k = s := by omega
  rw [hat k (by rw [hkl'] at hk; exact hk), if_neg hne, if_pos rfl]
  exact ⟨rfl, p, hgs0⟩
 ·rw [hcur'] at hc
  have hk2 : k < (kF x).length := by rw [hkl'] at hk; exact hk
  rw [hat k hk2]
  by_cases h1 : (k : Int) + 1 = M4 x
  ·rw [if_pos h1]; right; rfl
  ·rw [if_neg h1, if_neg (by omega)]
   exact hf.at2 k hk2 (by rw [hcf]; exact h1)
 ·rw [hcur', show (s : Int) + 1 - 1 = (s : Nat) by omega]; exact hgs0
 ·rw [hcur', show (s : Int) + 1 - 1 = (s : Nat) by omega, B6V (by rw [hkl']; exact hs), hat s hs, if_neg hne, if_pos rfl]
 ·have h1 := h.cur
  obtain ⟨k, hk⟩ : ∃ k : Nat, M4 x - 1 = k := ⟨(M4 x - 1).toNat, by omega⟩
  rw [hk, B6V (by rw [hkl', hlen]; omega), hat k (by omega), if_pos (by omega)]
theorem CurI.free {x : WS} (h : CurI x) (hz : ∀ i : Nat, D5 x.cells ((i : Nat) + 2) = 0) : ¬ E5 (kF x) < 0 := by
 have hlen : (kF x).length = x.keep.length := V1 _ _
 have h2 := h.two
 have key : ∀ (k : Nat) (hk : k < x.keep.length), (k : Int) + 1 ≠ M4 x → (kF x)[k]'(by rw [hlen]; exact hk) = (0, 0) := fun k hk hc => by
  rw [B0J hk]
  rcases h.at2 k hk hc with h0 | h0
  ·rw [h0, C8x]; rfl
  ·have : K3 (pW x) x.keep[k] = true := by unfold K3; rw [h0, B8Z hz]; rfl
   rw [this]; rfl
 by_cases hc : M4 x = 1
 ·exact B6b (k := 1) (by omega) (key 1 (by omega) (by omega))
 ·exact B6b (k := 0) (by omega) (key 0 (by omega) (by omega))
theorem CurI.new {c : CfgV} (h : S4 c = true) (hw : WsOk (N8 c)) : CurI (N8 c) := by
 simp only [S4, e8, Bool.and_eq_true, decide_eq_true_eq] at h
 have hcur : M4 (N8 c) = 0 := by
  show D5 (List.replicate _ 0) 1 = 0
  unfold D5; split
  ·rw [List.getD_eq_getElem?_getD, List.getElem?_replicate]; split <;> rfl
  ·rfl
 refine ⟨hw, by simp [N8], by simp only [N8, List.length_replicate]; omega, by rw [hcur]; omega, fun k hk hc => ?_, fun k hk hc => ?_⟩
 ·rw [hcur] at hc; omega
 ·left; simp [N8]
end Go.Proofs.YtpnidmkaobfhiaaGreat
namespace Go.Proofs.YtpnidmkaobfhiaaGreat
open Go
structure QI (N : Nat) (j : JW) (x : WS) : Prop where
 ok : WsOk x
 n : 1 ≤ N ∧ N ≤ 16
 sh : x.c.sh = (N : Nat)
 tl : x.tabs.length = N
 te : ∀ t ∈ x.tabs, B81 t
 pl : x.places.length = N
 ow : x.own.length = N
 jt : B81 j.table
 sl : ∀ i, N4 x.sl i = .no
 ep : D5 x.cells 0 = 0
 cur : D5 x.cells 1 = 0
 text : j.text.size ≤ 100
 key : j.key.size < 2 ^ 60
 shard : 0 ≤ j.shard ∧ j.shard < N
 slot : -1 ≤ j.slot ∧ j.slot ≤ 0
 st : 0 ≤ j.st ∧ j.st ≤ 10
theorem C0B (l : List EnV) (key : ByteArray) (c : Bool) (now idle : Int) : A2M l [] key c now idle = (l, ⟨11, 0, false, 0⟩, false) := by
 have hk : (A38 l [] key now).2 = false := by
  unfold A38
  have hb : ∀ id, A2p [] id = -1 := fun _ => rfl
  rw [if_pos (Or.inr (Or.inr (by rw [hb]; omega)))]
 unfold A2M
 rw [if_pos ⟨hk, rfl⟩]
theorem A19 (l : List Int) (i w : Int) : (T4 l i w).length = l.length := by unfold T4 A3q; split <;> (try split) <;> simp
theorem u7 (l : List Int) (i w : Int) : (K7 l i w).length = l.length := by unfold K7 A3q; split <;> (try split) <;> simp
theorem C4p (c : CfgV) (who : Int) : F9 c who = -1 ∨ 2 ≤ F9 c who := by unfold F9; split <;> omega
theorem A0S (c : CfgV) (who v : Int) (l : List Int) (k : Int) (hk : k = 0 ∨ k = 1) : D5 (K9 l (F9 c who) v) k = D5 l k := Q4 _ _ (by rcases C4p c who with h | h <;> omega)
theorem QI.stage {N : Nat} {j : JW} {x : WS} (h : QI N j x) (k : Nat) (hk : k < 10) (hs : j.st = (k : Nat)) : QI N (E1 k { j with st := j.st + 1 } x).1 (E1 k { j with st := j.st + 1 } x).2.1 := by
 obtain ⟨⟨w1, w2, w3, w4, w5⟩, h2, h3, h4, h5, h6, h7, h8, h9, h10, h11, h12, h13, h14, h15, h16⟩ := h
 have hst : 0 ≤ j.st + 1 ∧ j.st + 1 ≤ 10 := by omega
 have hok : WsOk x := ⟨w1, w2, w3, w4, w5⟩
 have hcase : k = 0 ∨ k = 1 ∨ k = 2 ∨ k = 3 ∨ k = 4 ∨ k = 5 ∨ k = 6 ∨ k = 7 ∨ k = 8 ∨ k = 9 := by omega
 rcases hcase with rfl | rfl | rfl | rfl | rfl | rfl | rfl | rfl | rfl | rfl
 ·show QI N (jw0 _ x).1 (jw0 _ x).2.1
  unfold jw0
  by_cases c1 : F9 x.c j.who < 0
  ·rw [if_pos c1]; exact ⟨hok, h2, h3, h4, h5, h6, h7, h8, h9, h10, h11, h12, h13, h14, h15, by simp [JW.refuse]⟩
  ·rw [if_neg c1]
   by_cases c2 : (M2 j.text).2.2 = 0
   ·rw [if_neg (by simpa using c2)]
    refine ⟨hok, h2, h3, h4, h5, h6, h7, h8, h9, h10, h11, h12, B4N _, ?_, h15, hst⟩
    show 0 ≤ ((u4 (A3c (M2 j.text).1) x.c.sh : Nat) : Int) ∧ ((u4 (A3c (M2 j.text).1) x.c.sh : Nat) : Int) < N
    have : u4 (A3c (M2 j.text).1) x.c.sh < N := by
     unfold u4; rw [if_neg (by omega), h3, Int.toNat_natCast]; exact Nat.mod_lt _ (by omega)
    omega
   ·rw [if_pos c2]; exact ⟨hok, h2, h3, h4, h5, h6, h7, h8, h9, h10, h11, h12, h13, h14, h15, by simp [JW.refuse]⟩
 ·exact ⟨⟨w1, by simp only [E1, jw1, p5]; exact w2, w3, w4, w5⟩, h2, h3, h4, h5, h6, h7, h8, h9, by simp only [E1, jw1]; rw [A0S _ _ _ _ _ (Or.inl rfl)]; exact h10, by simp only [E1, jw1]; rw [A0S _ _ _ _ _ (Or.inr rfl)]; exact h11, h12, h13, h14, h15, hst⟩
 ·show QI N (jw2 _ x).1 (jw2 _ x).2.1
  unfold jw2
  by_cases c1 : D5 x.cells 0 = j.ep
  ·rw [if_pos c1]; exact ⟨hok, h2, h3, h4, h5, h6, h7, h8, h9, h10, h11, h12, h13, h14, h15, hst⟩
  ·rw [if_neg c1]; exact ⟨hok, h2, h3, h4, h5, h6, h7, h8, h9, h10, h11, h12, h13, h14, h15, by simp⟩
 ·exact ⟨⟨w1, w2, by simp only [E1, jw3, A19]; exact w3, w4, w5⟩, h2, h3, h4, h5, h6, by simp only [E1, jw3, A19]; exact h7, h8, h9, h10, h11, h12, h13, h14, h15, hst⟩
 ·refine ⟨hok, h2, h3, h4, h5, h6, h7, h8, h9, h10, h11, h12, h13, h14, ?_, hst⟩
  show -1 ≤ IntKind.i64.wrap (D5 x.cells 1 - 1) ∧ IntKind.i64.wrap (D5 x.cells 1 - 1) ≤ 0
  rw [h11, N1 (by omega) (by omega)]; omega
 ·refine ⟨hok, h2, h3, h4, h5, h6, h7, ?_, h9, h10, h11, h12, h13, h14, h15, hst⟩
  show B81 (x.tabs.getD j.shard.toNat [])
  rw [List.getD_eq_getElem?_getD, List.getElem?_eq_getElem (by omega)]
  exact h5 _ (List.getElem_mem _)
 ·have hp : B5Y x j.slot = [] := by unfold B5Y; rw [h9]
  refine ⟨hok, h2, h3, h4, h5, h6, h7, ?_, h9, h10, h11, h12, h13, h14, h15, hst⟩
  show B81 (A2M j.table (B5Y x j.slot) j.key j.closing j.now x.c.idle).1
  rw [hp, C0B]; exact h8
 ·refine ⟨⟨w1, w2, w3, w4, w5⟩, h2, h3, by simp only [E1, jw7, List.length_set]; exact h4, fun t ht => ?_, h6, h7, h8, h9, h10, h11, h12, h13, h14, h15, hst⟩
  rcases List.mem_or_eq_of_mem_set (show t ∈ x.tabs.set j.shard.toNat j.table from ht) with ht | rfl
  ·exact h5 t ht
  ·exact h8
 ·exact ⟨⟨w1, w2, by simp only [E1, jw8, u7]; exact w3, w4, w5⟩, h2, h3, h4, h5, h6, by simp only [E1, jw8, u7]; exact h7, h8, h9, h10, h11, h12, h13, h14, h15, hst⟩
 ·exact ⟨⟨w1, by simp only [E1, jw9, p5]; exact w2, w3, w4, w5⟩, h2, h3, h4, h5, h6, h7, h8, h9, by simp only [E1, jw9]; rw [A0S _ _ _ _ _ (Or.inl rfl)]; exact h10, by simp only [E1, jw9]; rw [A0S _ _ _ _ _ (Or.inr rfl)]; exact h11, h12, h13, h14, h15, hst⟩
theorem B34 {j : JW} {x : WS} (h : j.ready x = false) : j.step x = (j, x, noT) := by unfold JW.step; rw [h]; rfl
theorem B17 {j : JW} {x : WS} (h : j.ready x = true) : j.step x = E1 j.st.toNat { j with st := j.st + 1 } x := by unfold JW.step; rw [h]; rfl
theorem B2J {j : JW} {x : WS} (h : j.ready x = true) : j.st < 10 := by
 unfold JW.ready at h
 simp only [Bool.and_eq_true, decide_eq_true_eq] at h
 exact h.1
theorem QI.step {N : Nat} {j : JW} {x : WS} (h : QI N j x) : QI N (j.step x).1 (j.step x).2.1 := by
 cases hr : j.ready x with
 | false => rw [B34 hr]; exact h
 | true =>
  have hs := h.st
  have hl := B2J hr
  rw [B17 hr]
  exact h.stage _ (by omega) (by omega)
end Go.Proofs.YtpnidmkaobfhiaaGreat
namespace Go.Proofs.YtpnidmkaobfhiaaGreat
open Go
structure GI (N E : Nat) (j : JW) (x : WS) : Prop where
 ok : WsOk x
 n : 1 ≤ N ∧ N ≤ 16
 sh : x.c.sh = (N : Nat)
 tl : x.tabs.length = N
 te : ∀ t ∈ x.tabs, TabOk x.c.cp.toNat t
 pl : x.places.length = N
 ow : x.own.length = N
 jt : TabOk 0 j.table ∨ TabOk x.c.cp.toNat j.table
 ep : 0 ≤ D5 x.cells 0 ∧ D5 x.cells 0 ≤ E
 cur : 0 ≤ D5 x.cells 1 ∧ D5 x.cells 1 ≤ 500
 now : 0 ≤ x.now ∧ x.now ≤ 1000000000
 text : j.text.size ≤ 100
 key : j.key.size < 2 ^ 60
 shard : 0 ≤ j.shard ∧ j.shard < N
 slot : -1 ≤ j.slot ∧ j.slot ≤ 500
 st : 0 ≤ j.st ∧ j.st ≤ 10
 jep : 0 ≤ j.ep ∧ j.ep ≤ E
 jt2 : 6 ≤ j.st → j.st < 10 → TabOk x.c.cp.toNat j.table
theorem GI.stage {N E : Nat} {j : JW} {x : WS} (h : GI N E j x) (k : Nat) (hk : k < 10) (hs : j.st = (k : Nat)) : GI N E (E1 k { j with st := j.st + 1 } x).1 (E1 k { j with st := j.st + 1 } x).2.1 := by
 have hst : 0 ≤ j.st + 1 ∧ j.st + 1 ≤ 10 := by omega
 have hcase : k = 0 ∨ k = 1 ∨ k = 2 ∨ k = 3 ∨ k = 4 ∨ k = 5 ∨ k = 6 ∨ k = 7 ∨ k = 8 ∨ k = 9 := by omega
 have hn := h.n
 have hcur := h.cur
 rcases hcase with rfl | rfl | rfl | rfl | rfl | rfl | rfl | rfl | rfl | rfl
 ·show GI N E (jw0 _ x).1 (jw0 _ x).2.1
  unfold jw0
  by_cases c1 : F9 x.c j.who < 0
  ·rw [if_pos c1]; exact { h with st := by simp [JW.refuse], jt2 := fun _ (h6 : (10 : Int) < 10) => by omega }
  ·rw [if_neg c1]
   by_cases c2 : (M2 j.text).2.2 = 0
   ·rw [if_neg (by simpa using c2)]
    have h3 := h.sh
    have : u4 (A3c (M2 j.text).1) x.c.sh < N := by
     unfold u4; rw [if_neg (by omega), h3, Int.toNat_natCast]; exact Nat.mod_lt _ (by omega)
    exact { h with st := hst, key := B4N _, jep := h.ep, jt2 := fun (h6 : 6 ≤ j.st + 1) _ => by omega, shard := ⟨Int.natCast_nonneg _, by show ((u4 (A3c (M2 j.text).1) x.c.sh : Nat) : Int) < N; omega⟩ }
   ·rw [if_pos c2]; exact { h with st := by simp [JW.refuse], jt2 := fun _ (h6 : (10 : Int) < 10) => by omega }
 ·have e0 : D5 (K9 x.cells (F9 x.c j.who) (IntKind.i64.wrap (j.ep + 1))) 0 = D5 x.cells 0 := A0S _ _ _ _ _ (Or.inl rfl)
  have e1 : D5 (K9 x.cells (F9 x.c j.who) (IntKind.i64.wrap (j.ep + 1))) 1 = D5 x.cells 1 := A0S _ _ _ _ _ (Or.inr rfl)
  exact { h with st := hst, jt2 := fun (h6 : 6 ≤ j.st + 1) _ => by omega, ok := ⟨h.ok.wk, by simp only [E1, jw1, p5]; exact h.ok.cells, h.ok.own, h.ok.sl, h.ok.keep⟩, ep := by simp only [E1, jw1]; rw [e0]; exact h.ep, cur := by simp only [E1, jw1]; rw [e1]; exact h.cur }
 ·show GI N E (jw2 _ x).1 (jw2 _ x).2.1
  unfold jw2
  by_cases c1 : D5 x.cells 0 = j.ep
  ·rw [if_pos c1]; exact { h with st := hst, jt2 := fun (h6 : 6 ≤ j.st + 1) _ => by omega }
  ·rw [if_neg c1]; exact { h with st := by simp, jep := h.ep, jt2 := fun (h6 : (6 : Int) ≤ 1) _ => by omega }
 ·exact { h with st := hst, jt2 := fun (h6 : 6 ≤ j.st + 1) _ => by omega, ok := ⟨h.ok.wk, h.ok.cells, by simp only [E1, jw3, A19]; exact h.ok.own, h.ok.sl, h.ok.keep⟩, ow := by simp only [E1, jw3, A19]; exact h.ow }
 ·have e : IntKind.i64.wrap (D5 x.cells 1 - 1) = D5 x.cells 1 - 1 := N1 (by omega) (by omega)
  exact { h with st := hst, jt2 := fun (h6 : 6 ≤ j.st + 1) _ => by omega, slot := by show -1 ≤ IntKind.i64.wrap (D5 x.cells 1 - 1) ∧ IntKind.i64.wrap (D5 x.cells 1 - 1) ≤ 500; rw [e]; omega }
 ·have hsd := h.shard
  have htl := h.tl
  have key : TabOk x.c.cp.toNat (x.tabs.getD j.shard.toNat []) := by
   rw [List.getD_eq_getElem?_getD, List.getElem?_eq_getElem (by omega)]
   exact h.te _ (List.getElem_mem _)
  exact { h with st := hst, jt := Or.inr key, jt2 := fun _ _ => key }
 ·exact { h with st := hst, jt := h.jt.imp (fun g => (A9H g h.key).1) (fun g => (A9H g h.key).1), jt2 := fun _ _ => (A9H (h.jt2 (by omega) (by omega)) h.key).1 }
 ·have key := h.jt2 (by omega) (by omega)
  refine { h with st := hst, tl := by simp only [E1, jw7, List.length_set]; exact h.tl, te := fun t ht => ?_, ok := ⟨h.ok.wk, h.ok.cells, h.ok.own, h.ok.sl, h.ok.keep⟩, jt2 := fun _ _ => key }
  rcases List.mem_or_eq_of_mem_set (show t ∈ x.tabs.set j.shard.toNat j.table from ht) with ht | rfl
  ·exact h.te t ht
  ·exact key
 ·exact { h with st := hst, jt2 := fun _ _ => h.jt2 (by omega) (by omega), ok := ⟨h.ok.wk, h.ok.cells, by simp only [E1, jw8, u7]; exact h.ok.own, h.ok.sl, h.ok.keep⟩, ow := by simp only [E1, jw8, u7]; exact h.ow }
 ·have e0 : D5 (K9 x.cells (F9 x.c j.who) 0) 0 = D5 x.cells 0 := A0S _ _ _ _ _ (Or.inl rfl)
  have e1 : D5 (K9 x.cells (F9 x.c j.who) 0) 1 = D5 x.cells 1 := A0S _ _ _ _ _ (Or.inr rfl)
  exact { h with st := hst, jt2 := fun _ (h6 : j.st + 1 < 10) => by omega, ok := ⟨h.ok.wk, by simp only [E1, jw9, p5]; exact h.ok.cells, h.ok.own, h.ok.sl, h.ok.keep⟩, ep := by simp only [E1, jw9]; rw [e0]; exact h.ep, cur := by simp only [E1, jw9]; rw [e1]; exact h.cur }
theorem GI.step {N E : Nat} {j : JW} {x : WS} (h : GI N E j x) : GI N E (j.step x).1 (j.step x).2.1 := by
 cases hr : j.ready x with
 | false => rw [B34 hr]; exact h
 | true =>
  have hs := h.st
  have hl := B2J hr
  rw [B17 hr]
  exact h.stage _ (by omega) (by omega)
theorem B1D (l : List Int) (i k v : Int) : D5 (K9 l i v) k = if i = k ∧ 0 ≤ i ∧ i < l.length then v else D5 l k := by
 by_cases c : i = k
 ·subst c
  rw [b9]
  by_cases d : 0 ≤ i ∧ i < l.length
  ·rw [if_pos d, if_pos ⟨rfl, d⟩]
  ·rw [if_neg d, if_neg (by omega)]
   unfold D5; rw [if_neg d]
 ·rw [Q4 _ _ c, if_neg (by omega)]
theorem GI.hap {N E : Nat} {j : JW} {x : WS} (h : GI N E j x) (hE : E ≤ 1000) (a : ActV) (y : XS) (hc : y.c = x.c) (hcs : x.c.sl ≤ 8) : GI N (E + 1) j (N6 a x y) := by
 have hep := h.ep
 have hcl := h.ok.cells
 have hwk := h.ok.wk
 have up : GI N (E + 1) j x := { h with ep := by omega, jep := by have := h.jep; omega }
 unfold N6
 split
 ·have e0 : D5 (K9 x.cells 0 (IntKind.i64.wrap (D5 x.cells 0 + 1))) 0 = D5 x.cells 0 + 1 := by
   rw [b9, if_pos (by omega)]; exact N1 (by omega) (by omega)
  have e1 : D5 (K9 x.cells 0 (IntKind.i64.wrap (D5 x.cells 0 + 1))) 1 = D5 x.cells 1 := Q4 _ _ (by omega)
  exact { up with ep := by simp only; rw [e0]; omega, cur := by simp only; rw [e1]; exact h.cur, ok := ⟨h.ok.wk, by simp only [p5]; exact hcl, h.ok.own, h.ok.sl, h.ok.keep⟩ }
 split
 ·split
  ·exact { up with ok := ⟨h.ok.wk, h.ok.cells, by simp only [A19]; exact h.ok.own, h.ok.sl, h.ok.keep⟩, ow := by simp only [A19]; exact h.ow }
  ·exact up
 split
 ·split
  ·exact { up with ok := ⟨h.ok.wk, h.ok.cells, by simp only [u7]; exact h.ok.own, h.ok.sl, h.ok.keep⟩, ow := by simp only [u7]; exact h.ow }
  ·exact up
 split
 ·exact { up with ok := ⟨h.ok.wk, h.ok.cells, h.ok.own, by simp only [A3y, d5]; exact h.ok.sl, h.ok.keep⟩ }
 split
 ·exact { up with ok := ⟨h.ok.wk, h.ok.cells, h.ok.own, by simp only [d5]; exact h.ok.sl, h.ok.keep⟩ }
 split
 ·split
  ·rename_i hn
   rw [hc] at hn
   have e1 : D5 (K9 x.cells 1 (a.n + 1)) 1 = a.n + 1 := by rw [b9, if_pos (by omega)]
   have e0 : D5 (K9 x.cells 1 (a.n + 1)) 0 = D5 x.cells 0 := Q4 _ _ (by omega)
   exact { up with ep := by simp only; rw [e0]; exact up.ep, cur := by simp only; rw [e1]; omega, ok := ⟨h.ok.wk, by simp only [p5]; exact hcl, h.ok.own, h.ok.sl, h.ok.keep⟩ }
  ·exact up
 split
 ·exact { up with now := B5e h.now, ok := ⟨h.ok.wk, h.ok.cells, h.ok.own, h.ok.sl, h.ok.keep⟩ }
 ·exact up
end Go.Proofs.YtpnidmkaobfhiaaGreat
namespace Go.Proofs.YtpnidmkaobfhiaaGreat
open Go
structure PinJ (N E : Nat) (who pd e : Int) (j : JW) (x : WS) (y : XS) : Prop where
 g : GI N E j x
 hwho : j.who = who
 w0 : 0 ≤ who ∧ who ≤ 60
 lk : y.locks = x.own
 yc : y.c = x.c
 ec : D5 x.cells 0 = e
 free : ∀ i, i < N → x.own.getD i 0 < 0 → x.own.getD i 0 = -1
 held : 4 ≤ j.st → j.st ≤ 8 → ∀ i : Nat, i < N → (x.own.getD i 0 = who ↔ (i : Int) = j.shard)
 none : ¬ (4 ≤ j.st ∧ j.st ≤ 8) → ∀ i, i < N → x.own.getD i 0 ≠ who
 off : F9 x.c who < 0 → j.st = 0 ∨ j.st = 10
 p0 : 0 ≤ F9 x.c who → (j.st = 0 ∨ j.st = 10) → D5 x.cells (F9 x.c who) = 0
 p2 : 2 ≤ j.st → j.st ≤ 9 → D5 x.cells (F9 x.c who) = j.ep + 1
 pd0 : j.st ≤ 2 → pd = 0
 pd3 : 3 ≤ j.st → j.st ≤ 9 → pd = j.ep + 1
def pdN (pd e : Int) (j : JW) : Int := if j.st = 3 ∧ pd = 0 then e + 1 else pd
theorem j8 {pd e : Int} {j : JW} (h : j.st ≠ 3 ∨ pd ≠ 0) : pdN pd e j = pd := by unfold pdN; rw [if_neg (by omega)]
theorem H6 {l : List Int} {i k : Nat} {v : Int} (hi : i < l.length) : (l.set i v).getD k 0 = if i = k then v else l.getD k 0 := by
 rw [List.getD_eq_getElem?_getD, List.getElem?_set]
 by_cases c : i = k
 ·subst c; rw [if_pos rfl, if_pos hi, if_pos rfl]; rfl
 ·rw [if_neg c, if_neg c, ← List.getD_eq_getElem?_getD]
theorem PinJ.stage {N E : Nat} {who pd e : Int} {j : JW} {x : WS} {y : XS} (h : PinJ N E who pd e j x y) (hE : E ≤ 1000) (k : Nat) (hk : k < 10) (hs : j.st = (k : Nat)) (hr : j.ready x = true) :
  PinJ N E who (pdN pd e (E1 k { j with st := j.st + 1 } x).1) e (E1 k { j with st := j.st + 1 } x).1 (E1 k { j with st := j.st + 1 } x).2.1 { y with locks := (E1 k { j with st := j.st + 1 } x).2.1.own } := by
 have hw := h.hwho
 subst hw
 have hw : j.who = j.who := rfl
 have hg := h.g.stage k hk hs
 have hcase : k = 0 ∨ k = 1 ∨ k = 2 ∨ k = 3 ∨ k = 4 ∨ k = 5 ∨ k = 6 ∨ k = 7 ∨ k = 8 ∨ k = 9 := by omega
 have hn := h.g.n
 have hwk := h.g.ok.wk
 have hcl := h.g.ok.cells
 have hsd := h.g.shard
 have how := h.g.ow
 have hjep := h.g.jep
 have hw0 := h.w0
 have hpr : 0 ≤ F9 x.c j.who → 2 ≤ F9 x.c j.who ∧ F9 x.c j.who < x.cells.length := by unfold F9; intro h1; split at h1 <;> split <;> omega
 have hoff := h.off
 have hno := h.none
 have hhe := h.held
 rcases hcase with rfl | rfl | rfl | rfl | rfl | rfl | rfl | rfl | rfl | rfl
 ·have hno' := hno (by omega)
  have hpd := h.pd0 (by omega)
  have hp0 := fun g => h.p0 g (Or.inl (by omega))
  rw [show E1 0 { j with st := j.st + 1 } x = jw0 { j with st := j.st + 1 } x from rfl] at hg ⊢
  unfold jw0 at hg ⊢
  simp only at hg ⊢
  by_cases c1 : F9 x.c j.who < 0
  ·rw [if_pos c1] at hg ⊢
   rw [j8 (Or.inl (by simp [JW.refuse]))]
   exact ⟨hg, hw, h.w0, rfl, h.yc, h.ec, h.free, fun _ (h8 : (10 : Int) ≤ 8) => by omega, fun _ => hno', fun _ => Or.inr rfl, fun g _ => hp0 g, fun _ (h9 : (10 : Int) ≤ 9) => by omega, fun (h2 : (10 : Int) ≤ 2) => by omega, fun _ (h9 : (10 : Int) ≤ 9) => by omega⟩
  rw [if_neg c1] at hg ⊢
  by_cases c2 : (M2 j.text).2.2 = 0
  case neg =>
   rw [if_pos c2] at hg ⊢
   rw [j8 (Or.inl (by simp [JW.refuse]))]
   exact ⟨hg, hw, h.w0, rfl, h.yc, h.ec, h.free, fun _ (h8 : (10 : Int) ≤ 8) => by omega, fun _ => hno', fun _ => Or.inr rfl, fun g _ => hp0 g, fun _ (h9 : (10 : Int) ≤ 9) => by omega, fun (h2 : (10 : Int) ≤ 2) => by omega, fun _ (h9 : (10 : Int) ≤ 9) => by omega⟩
  rw [if_neg (by simpa using c2)] at hg ⊢
  rw [j8 (Or.inl (by simp only [JW.rd]; omega))]
  exact ⟨hg, hw, h.w0, rfl, h.yc, h.ec, h.free, fun (h4 : 4 ≤ j.st + 1) _ => by omega, fun _ => hno', fun g => absurd g c1, fun g (h1 : j.st + 1 = 0 ∨ j.st + 1 = 10) => by omega, fun (h2 : 2 ≤ j.st + 1) _ => by omega, fun _ => hpd, fun (h3 : 3 ≤ j.st + 1) _ => by omega⟩
 ·have hno' := hno (by omega)
  have hpd := h.pd0 (by omega)
  have hp : 0 ≤ F9 x.c j.who := by have := hoff; omega
  have hp' := hpr hp
  have e0 : D5 (K9 x.cells (F9 x.c j.who) (j.ep + 1)) 0 = D5 x.cells 0 := by rw [B1D, if_neg (by omega)]
  have e1 : D5 (K9 x.cells (F9 x.c j.who) (j.ep + 1)) (F9 x.c j.who) = j.ep + 1 := by rw [B1D, if_pos (by omega)]
  rw [show E1 1 { j with st := j.st + 1 } x = ({ j with st := j.st + 1 }, { x with cells := K9 x.cells (F9 x.c j.who) (IntKind.i64.wrap (j.ep + 1)) }, noT) from rfl, N1 (by omega) (by omega)] at hg ⊢
  rw [j8 (Or.inl (show j.st + 1 ≠ 3 by omega))]
  exact ⟨hg, hw, h.w0, rfl, h.yc, by simp only; rw [e0]; exact h.ec, h.free, fun (h4 : 4 ≤ j.st + 1) _ => by omega, fun _ => hno', fun g => by simp only at g; omega, fun g (h1 : j.st + 1 = 0 ∨ j.st + 1 = 10) => by omega, fun _ _ => e1, fun _ => hpd, fun (h3 : 3 ≤ j.st + 1) _ => by omega⟩
 ·have hno' := hno (by omega)
  have hpd := h.pd0 (by omega)
  have hp2 := h.p2 (by omega) (by omega)
  have hec := h.ec
  rw [show E1 2 { j with st := j.st + 1 } x = jw2 { j with st := j.st + 1 } x from rfl] at hg ⊢
  unfold jw2 at hg ⊢
  simp only at hg ⊢
  by_cases c1 : D5 x.cells 0 = j.ep
  ·rw [if_pos c1] at hg ⊢
   have e : pdN pd e { j with st := j.st + 1 } = j.ep + 1 := by unfold pdN; rw [if_pos ⟨show j.st + 1 = 3 by omega, hpd⟩]; omega
   simp only [e]
   exact ⟨hg, hw, h.w0, rfl, h.yc, h.ec, h.free, fun (h4 : 4 ≤ j.st + 1) _ => by omega, fun _ => hno', fun g => by have := hoff g; omega, fun g (h1 : j.st + 1 = 0 ∨ j.st + 1 = 10) => by omega, fun _ _ => hp2, fun (h2 : j.st + 1 ≤ 2) => by omega, fun _ _ => rfl⟩
  ·rw [if_neg c1] at hg ⊢
   rw [j8 (Or.inl (show (1 : Int) ≠ 3 by omega))]
   exact ⟨hg, hw, h.w0, rfl, h.yc, h.ec, h.free, fun (h4 : (4 : Int) ≤ 1) _ => by omega, fun _ => hno', fun g => by have := hoff g; omega, fun g (h1 : (1 : Int) = 0 ∨ (1 : Int) = 10) => by omega, fun (h2 : (2 : Int) ≤ 1) _ => by omega, fun _ => hpd, fun (h3 : (3 : Int) ≤ 1) _ => by omega⟩
 ·have hpd := h.pd3 (by omega) (by omega)
  have hp2 := h.p2 (by omega) (by omega)
  have hno' := hno (by omega)
  obtain ⟨s, hs2⟩ : ∃ s : Nat, j.shard = s := ⟨j.shard.toNat, by omega⟩
  have hsN : s < N := by omega
  have hf : x.own.getD s 0 = -1 := by
   refine h.free s hsN ?_
   unfold JW.ready at hr
   rw [hs, hs2, A8N (by omega)] at hr
   simpa using hr
  have hlo : T4 x.own j.shard j.who = x.own.set s j.who := by
   unfold T4; rw [if_pos (by omega), hs2, g8 (by omega), if_pos hf]
  rw [show E1 3 { j with st := j.st + 1 } x = ({ j with st := j.st + 1 }, { x with own := T4 x.own j.shard j.who }, noT) from rfl, hlo] at hg ⊢
  rw [j8 (Or.inl (show j.st + 1 ≠ 3 by omega))]
  refine ⟨hg, hw, h.w0, rfl, h.yc, h.ec, fun i hi => ?_, fun _ _ i hi => ?_, fun (hx : ¬ (4 ≤ j.st + 1 ∧ j.st + 1 ≤ 8)) => by omega, fun g => by have := hoff g; omega, fun g (h1 : j.st + 1 = 0 ∨ j.st + 1 = 10) => by omega, fun _ _ => hp2, fun (h2 : j.st + 1 ≤ 2) => by omega, fun _ _ => hpd⟩
  ·simp only
   rw [H6 (by omega)]
   split
   ·omega
   ·exact h.free i hi
  ·simp only
   rw [H6 (by omega), hs2]
   split
   ·rename_i hq; simp [hq]
   ·rename_i hq
    have := hno' i hi
    constructor
    ·intro g; exact absurd g this
    ·intro g; omega
 ·have hpd := h.pd3 (by omega) (by omega)
  have hp2 := h.p2 (by omega) (by omega)
  have hh := hhe (by omega) (by omega)
  rw [j8 (Or.inl (show j.st + 1 ≠ 3 by omega))]
  exact ⟨hg, hw, h.w0, rfl, h.yc, h.ec, h.free, fun _ _ => hh, fun (hx : ¬ (4 ≤ j.st + 1 ∧ j.st + 1 ≤ 8)) => by omega, fun g => by have := hoff g; omega, fun g (h1 : j.st + 1 = 0 ∨ j.st + 1 = 10) => by omega, fun _ _ => hp2, fun (h2 : j.st + 1 ≤ 2) => by omega, fun _ _ => hpd⟩
 ·have hpd := h.pd3 (by omega) (by omega)
  have hp2 := h.p2 (by omega) (by omega)
  have hh := hhe (by omega) (by omega)
  rw [j8 (Or.inl (show j.st + 1 ≠ 3 by omega))]
  exact ⟨hg, hw, h.w0, rfl, h.yc, h.ec, h.free, fun _ _ => hh, fun (hx : ¬ (4 ≤ j.st + 1 ∧ j.st + 1 ≤ 8)) => by omega, fun g => by have := hoff g; omega, fun g (h1 : j.st + 1 = 0 ∨ j.st + 1 = 10) => by omega, fun _ _ => hp2, fun (h2 : j.st + 1 ≤ 2) => by omega, fun _ _ => hpd⟩
 ·have hpd := h.pd3 (by omega) (by omega)
  have hp2 := h.p2 (by omega) (by omega)
  have hh := hhe (by omega) (by omega)
  rw [j8 (Or.inl (show j.st + 1 ≠ 3 by omega))]
  exact ⟨hg, hw, h.w0, rfl, h.yc, h.ec, h.free, fun _ _ => hh, fun (hx : ¬ (4 ≤ j.st + 1 ∧ j.st + 1 ≤ 8)) => by omega, fun g => by have := hoff g; omega, fun g (h1 : j.st + 1 = 0 ∨ j.st + 1 = 10) => by omega, fun _ _ => hp2, fun (h2 : j.st + 1 ≤ 2) => by omega, fun _ _ => hpd⟩
 ·have hpd := h.pd3 (by omega) (by omega)
  have hp2 := h.p2 (by omega) (by omega)
  have hh := hhe (by omega) (by omega)
  rw [j8 (Or.inl (show j.st + 1 ≠ 3 by omega))]
  exact ⟨hg, hw, h.w0, rfl, h.yc, h.ec, h.free, fun _ _ => hh, fun (hx : ¬ (4 ≤ j.st + 1 ∧ j.st + 1 ≤ 8)) => by omega, fun g => by have := hoff g; omega, fun g (h1 : j.st + 1 = 0 ∨ j.st + 1 = 10) => by omega, fun _ _ => hp2, fun (h2 : j.st + 1 ≤ 2) => by omega, fun _ _ => hpd⟩
 ·have hpd := h.pd3 (by omega) (by omega)
  have hp2 := h.p2 (by omega) (by omega)
  have hh := hhe (by omega) (by omega)
  obtain ⟨s, hs2⟩ : ∃ s : Nat, j.shard = s := ⟨j.shard.toNat, by omega⟩
  have hsN : s < N := by omega
  have hf : x.own.getD s 0 = j.who := (hh s hsN).2 hs2.symm
  have hlo : K7 x.own j.shard j.who = x.own.set s (-1) := by
   unfold K7; rw [if_pos (by omega), hs2, g8 (by omega), if_pos hf]
  rw [show E1 8 { j with st := j.st + 1 } x = ({ j with st := j.st + 1 }, { x with own := K7 x.own j.shard j.who }, noT) from rfl, hlo] at hg ⊢
  rw [j8 (Or.inl (show j.st + 1 ≠ 3 by omega))]
  refine ⟨hg, hw, h.w0, rfl, h.yc, h.ec, fun i hi => ?_, fun _ (h8 : j.st + 1 ≤ 8) => by omega, fun _ i hi => ?_, fun g => by have := hoff g; omega, fun g (h1 : j.st + 1 = 0 ∨ j.st + 1 = 10) => by omega, fun _ _ => hp2, fun (h2 : j.st + 1 ≤ 2) => by omega, fun _ _ => hpd⟩
  ·simp only
   rw [H6 (by omega)]
   split
   ·intro; rfl
   ·exact h.free i hi
  ·simp only
   rw [H6 (by omega)]
   split
   ·omega
   ·rename_i hq
    intro g
    have := (hh i hi).1 g
    omega
 ·have hpd := h.pd3 (by omega) (by omega)
  have hno' := hno (by omega)
  have e0 : D5 (K9 x.cells (F9 x.c j.who) 0) 0 = D5 x.cells 0 := A0S _ _ _ _ _ (Or.inl rfl)
  rw [show E1 9 { j with st := j.st + 1 } x = ({ j with st := j.st + 1 }, { x with cells := K9 x.cells (F9 x.c j.who) 0 }, false, true, false) from rfl] at hg ⊢
  rw [j8 (Or.inl (show j.st + 1 ≠ 3 by omega))]
  exact ⟨hg, hw, h.w0, rfl, h.yc, by simp only; rw [e0]; exact h.ec, h.free, fun _ (h8 : j.st + 1 ≤ 8) => by omega, fun _ => hno', fun _ => Or.inr (show j.st + 1 = 10 by omega), fun g _ => by simp only; rw [b9, if_pos (by have := hpr g; omega)], fun _ (h9 : j.st + 1 ≤ 9) => by omega, fun (h2 : j.st + 1 ≤ 2) => by omega, fun _ (h9 : j.st + 1 ≤ 9) => by omega⟩
theorem PinJ.step {N E : Nat} {who pd e : Int} {j : JW} {x : WS} {y : XS} (h : PinJ N E who pd e j x y) (hE : E ≤ 1000) : PinJ N E who (pdN pd e (j.step x).1) e (j.step x).1 (j.step x).2.1 { y with locks := (j.step x).2.1.own } := by
 cases hr : j.ready x with
 | false =>
  rw [B34 hr]
  have e1 : pdN pd e j = pd := by
   by_cases c : j.st = 3
   ·have h1 := h.pd3 (by omega) (by omega)
    have h2 := h.g.jep
    exact j8 (Or.inr (by omega))
   ·exact j8 (Or.inl c)
  simp only [e1]
  exact ⟨h.g, h.hwho, h.w0, rfl, h.yc, h.ec, h.free, h.held, h.none, h.off, h.p0, h.p2, h.pd0, h.pd3⟩
 | true =>
  have hs := h.g.st
  have hl := B2J hr
  rw [B17 hr]
  exact h.stage hE _ (by omega) (by omega) hr
theorem PinJ.put {N E E' : Nat} {who pd e e' : Int} {j : JW} {x x' : WS} {y y' : XS} (h : PinJ N E who pd e j x y) (hg : GI N E' j x') (hc : x'.c = x.c) (hy : y'.c = x.c) (hl : y'.locks = x'.own) (he : D5 x'.cells 0 = e')
  (hp : 0 ≤ F9 x.c who → D5 x'.cells (F9 x.c who) = D5 x.cells (F9 x.c who))
  (ho : ∀ i, i < N → x'.own.getD i 0 = x.own.getD i 0 ∨ (x.own.getD i 0 ≠ who ∧ x'.own.getD i 0 ≠ who ∧ (x'.own.getD i 0 < 0 → x'.own.getD i 0 = -1))) : PinJ N E' who pd e' j x' y' := by
 have hoff := h.off
 have hw0 := h.w0
 refine ⟨hg, h.hwho, h.w0, hl, by rw [hy, hc], he, fun i hi hf => ?_, fun h4 h8 i hi => ?_, fun hx i hi => ?_, by rw [hc]; exact h.off, by rw [hc]; exact fun g g2 => by rw [hp g]; exact h.p0 g g2, by rw [hc]; exact fun g g2 => by rw [hp (by omega)]; exact h.p2 g g2, h.pd0, h.pd3⟩
 ·rcases ho i hi with ho | ho
  ·rw [ho] at hf ⊢; exact h.free i hi hf
  ·exact ho.2.2 hf
 ·have := h.held h4 h8 i hi
  rcases ho i hi with ho | ho
  ·rw [ho]; exact this
  ·constructor
   ·intro g; exact absurd g ho.2.1
   ·intro g; exact absurd (this.2 g) ho.1
 ·have := h.none hx i hi
  rcases ho i hi with ho | ho
  ·rw [ho]; exact this
  ·exact ho.2.1
theorem C6f (a : ActV) (y : XS) : (Q8 a y).c = y.c := by
 unfold Q8
 repeat' split
 all_goals rfl
theorem PinJ.hap {N E : Nat} {who pd e : Int} {j : JW} {x : WS} {y : XS} (h : PinJ N E who pd e j x y) (hE : E ≤ 1000) (a : ActV) (hcs : x.c.sl ≤ 8) :
  PinJ N (E + 1) who pd (if a.k = 1 then e + 1 else e) j (N6 a x y) { Q8 a y with locks := (N6 a x y).own } := by
 have hg := h.g.hap hE a y h.yc hcs
 have hyc := h.yc
 have hlk := h.lk
 have hsh := h.g.sh
 have how := h.g.ow
 have hw0 := h.w0
 have hwk := h.g.ok.wk
 have hcl := h.g.ok.cells
 have hep := h.g.ep
 have hec := h.ec
 have hpr : 0 ≤ F9 x.c who → 2 ≤ F9 x.c who ∧ F9 x.c who < x.cells.length := by unfold F9; intro h1; split at h1 <;> split <;> omega
 have hy : ({ Q8 a y with locks := (N6 a x y).own } : XS).c = x.c := by show (Q8 a y).c = x.c; rw [C6f, hyc]
 have hu : GI N (E + 1) j x := { h.g with ep := by omega, jep := by have := h.g.jep; omega }
 generalize hX : Q8 a y = y' at *
 have same : ∀ i, i < N → x.own.getD i 0 = x.own.getD i 0 ∨ (x.own.getD i 0 ≠ who ∧ x.own.getD i 0 ≠ who ∧ (x.own.getD i 0 < 0 → x.own.getD i 0 = -1)) := fun i _ => Or.inl rfl
 unfold N6 at hg hy ⊢
 by_cases k1 : a.k = 1
 ·rw [if_pos k1] at hg hy ⊢
  rw [if_pos k1]
  have e0 : D5 (K9 x.cells 0 (IntKind.i64.wrap (D5 x.cells 0 + 1))) 0 = D5 x.cells 0 + 1 := by
   rw [b9, if_pos (by omega)]; exact N1 (by omega) (by omega)
  exact h.put hg rfl hy rfl (by simp only; rw [e0, hec]) (fun g => Q4 _ _ (by have := hpr g; omega)) same
 rw [if_neg k1] at hg hy ⊢
 rw [if_neg k1]
 by_cases k2 : a.k = 2
 ·rw [if_pos k2] at hg hy ⊢
  by_cases c : (0 ≤ a.n ∧ a.n < y.c.sh) ∧ y.locks.getD a.n.toNat 0 < 0
  case neg => rw [if_neg c] at hg hy ⊢; exact h.put hg rfl hy rfl hec (fun _ => rfl) same
  rw [if_pos c] at hg hy ⊢
  obtain ⟨n, hn⟩ : ∃ n : Nat, a.n = n := ⟨a.n.toNat, by omega⟩
  rw [hn, hyc, hsh, hlk, Int.toNat_natCast] at c
  have hnN : n < N := by omega
  have hf := h.free n hnN c.2
  have hlo : T4 x.own a.n 99 = x.own.set n 99 := by
   unfold T4; rw [if_pos (by omega), hn, g8 (by omega), if_pos hf]
  rw [hlo] at hg hy ⊢
  refine h.put hg rfl hy rfl hec (fun _ => rfl) fun i hi => ?_
  simp only
  rw [H6 (by omega)]
  by_cases d : n = i
  ·subst d; rw [if_pos rfl, hf]; right; omega
  ·rw [if_neg d]; exact Or.inl rfl
 rw [if_neg k2] at hg hy ⊢
 by_cases k3 : a.k = 3
 ·rw [if_pos k3] at hg hy ⊢
  by_cases c : (0 ≤ a.n ∧ a.n < y.c.sh) ∧ y.locks.getD a.n.toNat 0 = 99
  case neg => rw [if_neg c] at hg hy ⊢; exact h.put hg rfl hy rfl hec (fun _ => rfl) same
  rw [if_pos c] at hg hy ⊢
  obtain ⟨n, hn⟩ : ∃ n : Nat, a.n = n := ⟨a.n.toNat, by omega⟩
  rw [hn, hyc, hsh, hlk, Int.toNat_natCast] at c
  have hnN : n < N := by omega
  have hlo : K7 x.own a.n 99 = x.own.set n (-1) := by
   unfold K7; rw [if_pos (by omega), hn, g8 (by omega), if_pos c.2]
  rw [hlo] at hg hy ⊢
  refine h.put hg rfl hy rfl hec (fun _ => rfl) fun i hi => ?_
  simp only
  rw [H6 (by omega)]
  by_cases d : n = i
  ·subst d; rw [if_pos rfl, c.2]; right; omega
  ·rw [if_neg d]; exact Or.inl rfl
 rw [if_neg k3] at hg hy ⊢
 by_cases k4 : a.k = 4
 ·rw [if_pos k4] at hg hy ⊢; exact h.put hg rfl hy rfl hec (fun _ => rfl) same
 rw [if_neg k4] at hg hy ⊢
 by_cases k5 : a.k = 5
 ·rw [if_pos k5] at hg hy ⊢; exact h.put hg rfl hy rfl hec (fun _ => rfl) same
 rw [if_neg k5] at hg hy ⊢
 by_cases k6 : a.k = 6
 ·rw [if_pos k6] at hg hy ⊢
  by_cases c : -1 ≤ a.n ∧ a.n < y.c.sl
  case neg => rw [if_neg c] at hg hy ⊢; exact h.put hg rfl hy rfl hec (fun _ => rfl) same
  rw [if_pos c] at hg hy ⊢
  exact h.put hg rfl hy rfl (by simp only; rw [Q4 _ _ (by omega)]; exact hec) (fun g => Q4 _ _ (by have := hpr g; omega)) same
 rw [if_neg k6] at hg hy ⊢
 by_cases k7 : a.k = 7
 ·rw [if_pos k7] at hg hy ⊢; exact h.put hg rfl hy rfl hec (fun _ => rfl) same
 rw [if_neg k7] at hg hy ⊢; exact h.put hg rfl hy rfl hec (fun _ => rfl) same
theorem A59 : TabOk 0 ([] : List EnV) := ⟨rfl, by omega, fun x hx => by simp at hx, by decide +kernel⟩
theorem GI.new {c : CfgV} (hok : S4 c = true) (who : Int) (text : ByteArray) (ht : text.size ≤ 100) : GI c.sh.toNat 0 (A20 who text) (N8 c) := by
 have hw := C01 hok
 simp only [S4, e8, Bool.and_eq_true, decide_eq_true_eq] at hok
 have e0 : D5 (N8 c).cells 0 = 0 := A4s _ _
 have e1 : D5 (N8 c).cells 1 = 0 := A4s _ _
 refine ⟨hw, by omega, by show c.sh = _; omega, by simp [N8], fun t h => ?_, by simp [N8], by simp [N8], Or.inl A59, by rw [e0]; omega, by rw [e1]; omega, by simp [N8], ht, by simp [A20, noB], by simp only [A20]; omega, by simp [A20], by simp [A20], by simp [A20], fun h => by simp [A20] at h⟩
 rw [(List.mem_replicate.1 (show t ∈ List.replicate c.sh.toNat (newE c.cp.toNat) from h)).2]
 exact TabOk.new (n := c.cp.toNat) (by omega)
structure XI (E : Nat) (y : XS) : Prop where
 sh : 1 ≤ y.c.sh ∧ y.c.sh ≤ 16
 csl : y.c.sl ≤ 8
 now : 0 ≤ y.now ∧ y.now ≤ 1000000000
 locks : (y.locks.length : Int) = y.c.sh
 sl : y.sl.length ≤ 8
 ep : 0 ≤ y.ep ∧ y.ep ≤ E
theorem B9w (l : List Q7) (i : Int) (p : List G8) (x : Option Addr × Nat × Nat) : (S6 l i p x).length = l.length := by unfold S6; split; exact A58 _ _ _; rfl
theorem XI.hap {E : Nat} {y : XS} (h : XI E y) (a : ActV) : XI (E + 1) (Q8 a y) := by
 have hep := h.ep
 have up : XI (E + 1) y := { h with ep := by omega }
 unfold Q8
 split
 ·exact { up with ep := by simp only; omega }
 split
 ·split
  ·exact { up with locks := by simp only [List.length_set]; exact h.locks }
  ·exact up
 split
 ·split
  ·exact { up with locks := by simp only [List.length_set]; exact h.locks }
  ·exact up
 split
 ·refine { up with sl := ?_ }
  simp only
  split
  ·rw [B9w, show (L7 y.sl a.n).length = y.sl.length from A58 _ _ _]; exact h.sl
  ·exact h.sl
 split
 ·exact { up with sl := by simp only; rw [show (S9 y.sl a.n).length = y.sl.length from A58 _ _ _]; exact h.sl }
 split
 ·split
  ·exact { up with }
  ·exact up
 split
 ·exact { up with now := B5e h.now }
 ·exact up
theorem XI.lk {E : Nat} {y : XS} (h : XI E y) {l : List Int} (hl : (l.length : Int) = y.c.sh) : XI E { y with locks := l } := { h with locks := hl }
end Go.Proofs.YtpnidmkaobfhiaaGreat
namespace Go.Proofs.YtpnidmkaobfhiaaGreat
open Go
structure XRel (x : WS) (y : XS) : Prop where
 c : y.c = x.c
 ep : y.ep = D5 x.cells 0
 cur : y.cur = D5 x.cells 1
 pl : (y.pins.length : Int) = x.c.wk + 1
 pins : ∀ i : Nat, 1 ≤ i → (i : Int) ≤ x.c.wk → y.pins.getD i 0 = D5 x.cells (1 + i)
 locks : y.locks = x.own
 sl : p8 y.sl = x.sl
 keep : y.keep = x.keep
 tabs : y.tabs = x.tabs
 places : y.pl = x.places
 now : y.now = x.now
def d9 (x : WS) : Prop := ∀ i : Nat, i < x.own.length → x.own.getD i 0 < 0 → x.own.getD i 0 = -1
theorem A7e (l : List Q7) (i : Int) (r : Q7) : p8 (s7 l i r) = g5 (p8 l) i r.1 := by
 unfold s7 g5 p8
 rw [List.length_map]
 by_cases c : 0 ≤ i ∧ i < l.length
 ·rw [if_pos c, if_pos c, List.map_set]
 ·rw [if_neg c, if_neg c]
theorem B6c (l : List Q7) (i : Int) (p : List G8) (q : Option Addr × Nat × Nat) : p8 (S6 l i p q) = r4 (p8 l) i p := by
 unfold S6 flR B1u r4
 cases h : N4 (p8 l) i with
 | no => simp
 | rdy p => simp
 | bld =>
  by_cases c : G2 p = 0
  ·simp [c, A7e]
  ·simp [c]
theorem C4q (l : List Q7) (i : Int) (p : List G8) (q : Option Addr × Nat × Nat) : p8 (if Y1 l.length i then S6 (L7 l i) i p q else l) = r4 (g5 (p8 l) i .bld) i p := by
 cases h : Y1 l.length i with
 | true => rw [if_pos rfl, B6c]; unfold L7; rw [A7e]
 | false =>
  rw [if_neg (by simp)]
  have hn : ¬ (0 ≤ i ∧ i < (p8 l).length) := by
   intro g
   rw [show (p8 l).length = l.length from List.length_map _] at g
   simp [Y1] at h; omega
  unfold r4 N4 g5
  rw [if_neg hn, if_neg hn]
theorem XRel.hap {x : WS} {y : XS} (h : XRel x y) (hok : WsOk x) (hf : d9 x) (hep : 0 ≤ D5 x.cells 0 ∧ D5 x.cells 0 ≤ 1000000) (a : ActV) (hsh : (x.own.length : Int) = x.c.sh) : XRel (N6 a x y) (Q8 a y) ∧ d9 (N6 a x y) := by
 have hcl := hok.cells
 have hwk := hok.wk
 unfold N6 Q8
 by_cases k1 : a.k = 1
 ·rw [if_pos k1, if_pos k1]
  have e0 : D5 (K9 x.cells 0 (IntKind.i64.wrap (D5 x.cells 0 + 1))) 0 = D5 x.cells 0 + 1 := by
   rw [b9, if_pos (by omega)]; exact N1 (by omega) (by omega)
  exact ⟨{ h with ep := by simp only; rw [e0, h.ep], cur := by simp only; rw [Q4 _ _ (by omega)]; exact h.cur, pins := fun i h1 h2 => by simp only; rw [Q4 _ _ (by omega)]; exact h.pins i h1 h2 }, hf⟩
 rw [if_neg k1, if_neg k1]
 by_cases k2 : a.k = 2
 ·rw [if_pos k2, if_pos k2]
  by_cases c : (0 ≤ a.n ∧ a.n < y.c.sh) ∧ y.locks.getD a.n.toNat 0 < 0
  case neg => rw [if_neg c, if_neg c]; exact ⟨h, hf⟩
  rw [if_pos c, if_pos c]
  obtain ⟨n, hn⟩ : ∃ n : Nat, a.n = n := ⟨a.n.toNat, by omega⟩
  rw [hn, h.c, h.locks, Int.toNat_natCast] at c
  have hnl : n < x.own.length := by omega
  have hlo : T4 x.own a.n 99 = x.own.set n 99 := by
   unfold T4; rw [if_pos (by omega), hn, g8 hnl, if_pos (hf n hnl c.2)]
  refine ⟨{ h with locks := by simp only; rw [hlo, hn, Int.toNat_natCast, h.locks] }, fun i hi g => ?_⟩
  simp only [hlo, List.length_set] at hi g ⊢
  rw [H6 (by omega)] at g ⊢
  by_cases d : n = i
  ·rw [if_pos d] at g; omega
  ·rw [if_neg d] at g ⊢; exact hf i hi g
 rw [if_neg k2, if_neg k2]
 by_cases k3 : a.k = 3
 ·rw [if_pos k3, if_pos k3]
  by_cases c : (0 ≤ a.n ∧ a.n < y.c.sh) ∧ y.locks.getD a.n.toNat 0 = 99
  case neg => rw [if_neg c, if_neg c]; exact ⟨h, hf⟩
  rw [if_pos c, if_pos c]
  obtain ⟨n, hn⟩ : ∃ n : Nat, a.n = n := ⟨a.n.toNat, by omega⟩
  rw [hn, h.c, h.locks, Int.toNat_natCast] at c
  have hnl : n < x.own.length := by omega
  have hlo : K7 x.own a.n 99 = x.own.set n (-1) := by
   unfold K7; rw [if_pos (by omega), hn, g8 hnl, if_pos c.2]
  refine ⟨{ h with locks := by simp only; rw [hlo, hn, Int.toNat_natCast, h.locks] }, fun i hi g => ?_⟩
  simp only [hlo, List.length_set] at hi g ⊢
  rw [H6 (by omega)] at g ⊢
  by_cases d : n = i
  ·rw [if_pos d]
  ·rw [if_neg d] at g ⊢; exact hf i hi g
 rw [if_neg k3, if_neg k3]
 by_cases k4 : a.k = 4
 ·rw [if_pos k4, if_pos k4]
  exact ⟨{ h with sl := by simp only; rw [C4q, h.sl] }, hf⟩
 rw [if_neg k4, if_neg k4]
 by_cases k5 : a.k = 5
 ·rw [if_pos k5, if_pos k5]
  exact ⟨{ h with sl := by simp only; unfold S9; rw [A7e, h.sl]; rfl }, hf⟩
 rw [if_neg k5, if_neg k5]
 by_cases k6 : a.k = 6
 ·rw [if_pos k6, if_pos k6]
  by_cases c : -1 ≤ a.n ∧ a.n < y.c.sl
  case neg => rw [if_neg c, if_neg c]; exact ⟨h, hf⟩
  rw [if_pos c, if_pos c]
  exact ⟨{ h with ep := by simp only; rw [Q4 _ _ (by omega)]; exact h.ep, cur := by simp only; rw [b9, if_pos (by omega)], pins := fun i h1 h2 => by simp only; rw [Q4 _ _ (by omega)]; exact h.pins i h1 h2 }, hf⟩
 rw [if_neg k6, if_neg k6]
 by_cases k7 : a.k = 7
 ·rw [if_pos k7, if_pos k7]
  exact ⟨{ h with now := by simp only; rw [h.now] }, hf⟩
 rw [if_neg k7, if_neg k7]
 exact ⟨h, hf⟩
def stX (q : Nat) (j : JW) (y : XS) : XS :=
 match q with
 | 1 => { y with pins := y.pins.set j.who.toNat (j.ep + 1) }
 | 3 => { y with locks := y.locks.set j.shard.toNat j.who }
 | 7 => { y with tabs := y.tabs.set j.shard.toNat j.table }
 | 8 => { y with locks := y.locks.set j.shard.toNat (-1) }
 | 9 => { y with pins := y.pins.set j.who.toNat 0 }
 | _ => y
structure JobX (N : Nat) (j : JW) (x : WS) : Prop where
 pin : 1 ≤ j.st → j.st < 10 → 1 ≤ j.who ∧ j.who ≤ x.c.wk
 own : 4 ≤ j.st → j.st ≤ 8 → x.own.getD j.shard.toNat 0 = j.who
theorem XRel.stage {N E : Nat} {j : JW} {x : WS} {y : XS} (h : XRel x y) (hf : d9 x) (hg : GI N E j x) (hE : E ≤ 1000) (hj : JobX N j x) (q : Nat) (hq : q < 10) (hs : j.st = (q : Nat)) (hr : j.ready x = true) :
  XRel (E1 q { j with st := j.st + 1 } x).2.1 (stX q j y) ∧ d9 (E1 q { j with st := j.st + 1 } x).2.1 ∧ JobX N (E1 q { j with st := j.st + 1 } x).1 (E1 q { j with st := j.st + 1 } x).2.1 := by
 have hcase : q = 0 ∨ q = 1 ∨ q = 2 ∨ q = 3 ∨ q = 4 ∨ q = 5 ∨ q = 6 ∨ q = 7 ∨ q = 8 ∨ q = 9 := by omega
 have hcl := hg.ok.cells
 have hwk := hg.ok.wk
 have how := hg.ow
 have hsd := hg.shard
 have hje := hg.jep
 have hpl := h.pl
 have hn := hg.n
 have hpin := hj.pin
 have hown := hj.own
 obtain ⟨sd, hsd2⟩ : ∃ n : Nat, j.shard = n := ⟨j.shard.toNat, by omega⟩
 rcases hcase with rfl | rfl | rfl | rfl | rfl | rfl | rfl | rfl | rfl | rfl
 ·show XRel (jw0 _ x).2.1 y ∧ d9 (jw0 _ x).2.1 ∧ JobX N (jw0 _ x).1 (jw0 _ x).2.1
  unfold jw0
  by_cases c1 : F9 x.c j.who < 0
  ·rw [if_pos c1]; exact ⟨h, hf, fun _ (g : (10 : Int) < 10) => by omega, fun _ (g : (10 : Int) ≤ 8) => by omega⟩
  rw [if_neg c1]
  by_cases c2 : (M2 j.text).2.2 = 0
  ·rw [if_neg (by simpa using c2)]
   refine ⟨h, hf, fun _ _ => ?_, fun (g : 4 ≤ j.st + 1) => by omega⟩
   simp only [JW.rd]
   unfold F9 at c1; split at c1 <;> omega
  ·rw [if_pos c2]; exact ⟨h, hf, fun _ (g : (10 : Int) < 10) => by omega, fun _ (g : (10 : Int) ≤ 8) => by omega⟩
 ·have hp := hpin (by omega) (by omega)
  obtain ⟨w, hw⟩ : ∃ n : Nat, j.who = n := ⟨j.who.toNat, by omega⟩
  have hpi : F9 x.c j.who = 1 + (w : Nat) := by unfold F9; rw [if_neg (by omega), hw]
  rw [show E1 1 { j with st := j.st + 1 } x = ({ j with st := j.st + 1 }, { x with cells := K9 x.cells (F9 x.c j.who) (IntKind.i64.wrap (j.ep + 1)) }, noT) from rfl, N1 (by omega) (by omega), hpi]
  refine ⟨{ h with ep := by simp only [stX]; rw [Q4 _ _ (by omega)]; exact h.ep, cur := by simp only [stX]; rw [Q4 _ _ (by omega)]; exact h.cur, pl := by simp only [stX, List.length_set]; exact h.pl, pins := fun i h1 h2 => ?_ }, hf, fun _ _ => hp, fun (g : 4 ≤ j.st + 1) => by omega⟩
  simp only [stX, hw, Int.toNat_natCast]
  rw [H6 (by omega), B1D]
  by_cases d : w = i
  ·rw [if_pos d, if_pos (by omega)]
  ·rw [if_neg d, if_neg (by omega)]; exact h.pins i h1 h2
 ·have hp := hpin (by omega) (by omega)
  show XRel (jw2 _ x).2.1 y ∧ d9 (jw2 _ x).2.1 ∧ JobX N (jw2 _ x).1 (jw2 _ x).2.1
  unfold jw2
  split
  ·exact ⟨h, hf, fun _ _ => hp, fun (g : 4 ≤ j.st + 1) => by omega⟩
  ·exact ⟨h, hf, fun _ _ => hp, fun (g : (4 : Int) ≤ 1) => by omega⟩
 ·have hp := hpin (by omega) (by omega)
  have hnl : sd < x.own.length := by omega
  have hfr : x.own.getD sd 0 = -1 := by
   refine hf sd hnl ?_
   unfold JW.ready at hr
   rw [hs, hsd2, A8N hnl] at hr
   simpa using hr
  have hlo : T4 x.own j.shard j.who = x.own.set sd j.who := by
   unfold T4; rw [if_pos (by omega), hsd2, g8 hnl, if_pos hfr]
  rw [show E1 3 { j with st := j.st + 1 } x = ({ j with st := j.st + 1 }, { x with own := T4 x.own j.shard j.who }, noT) from rfl, hlo]
  refine ⟨{ h with locks := by simp only [stX, hsd2, Int.toNat_natCast]; rw [h.locks] }, fun i hi g => ?_, fun _ _ => hp, fun _ _ => ?_⟩
  ·simp only [List.length_set] at hi g ⊢
   rw [H6 (by omega)] at g ⊢
   by_cases d : sd = i
   ·rw [if_pos d] at g; omega
   ·rw [if_neg d] at g ⊢; exact hf i hi g
  ·simp only [hsd2, Int.toNat_natCast]
   rw [H6 (by omega), if_pos rfl]
 ·have hp := hpin (by omega) (by omega)
  have ho := hown (by omega) (by omega)
  exact ⟨h, hf, fun _ _ => hp, fun _ _ => ho⟩
 ·have hp := hpin (by omega) (by omega)
  have ho := hown (by omega) (by omega)
  exact ⟨h, hf, fun _ _ => hp, fun _ _ => ho⟩
 ·have hp := hpin (by omega) (by omega)
  have ho := hown (by omega) (by omega)
  exact ⟨h, hf, fun _ _ => hp, fun _ _ => ho⟩
 ·have hp := hpin (by omega) (by omega)
  have ho := hown (by omega) (by omega)
  exact ⟨{ h with tabs := by show y.tabs.set _ _ = x.tabs.set _ _; rw [h.tabs] }, hf, fun _ _ => hp, fun _ _ => ho⟩
 ·have hp := hpin (by omega) (by omega)
  have ho := hown (by omega) (by omega)
  have hnl : sd < x.own.length := by omega
  rw [hsd2, Int.toNat_natCast] at ho
  have hlo : K7 x.own j.shard j.who = x.own.set sd (-1) := by
   unfold K7; rw [if_pos (by omega), hsd2, g8 hnl, if_pos ho]
  rw [show E1 8 { j with st := j.st + 1 } x = ({ j with st := j.st + 1 }, { x with own := K7 x.own j.shard j.who }, noT) from rfl, hlo]
  refine ⟨{ h with locks := by simp only [stX, hsd2, Int.toNat_natCast]; rw [h.locks] }, fun i hi g => ?_, fun _ _ => hp, fun _ (g : j.st + 1 ≤ 8) => by omega⟩
  simp only [List.length_set] at hi g ⊢
  rw [H6 (by omega)] at g ⊢
  by_cases d : sd = i
  ·rw [if_pos d]
  ·rw [if_neg d] at g ⊢; exact hf i hi g
 ·have hp := hpin (by omega) (by omega)
  obtain ⟨w, hw⟩ : ∃ n : Nat, j.who = n := ⟨j.who.toNat, by omega⟩
  have hpi : F9 x.c j.who = 1 + (w : Nat) := by unfold F9; rw [if_neg (by omega), hw]
  rw [show E1 9 { j with st := j.st + 1 } x = ({ j with st := j.st + 1 }, { x with cells := K9 x.cells (F9 x.c j.who) 0 }, false, true, false) from rfl, hpi]
  refine ⟨{ h with ep := by simp only [stX]; rw [Q4 _ _ (by omega)]; exact h.ep, cur := by simp only [stX]; rw [Q4 _ _ (by omega)]; exact h.cur, pl := by simp only [stX, List.length_set]; exact h.pl, pins := fun i h1 h2 => ?_ }, hf, fun _ (g : j.st + 1 < 10) => by omega, fun _ (g : j.st + 1 ≤ 8) => by omega⟩
  simp only [stX, hw, Int.toNat_natCast]
  rw [H6 (by omega), B1D]
  by_cases d : w = i
  ·rw [if_pos d, if_pos (by omega)]
  ·rw [if_neg d, if_neg (by omega)]; exact h.pins i h1 h2
theorem JobX.hap {N : Nat} {j : JW} {x : WS} {y : XS} (h : JobX N j x) (hr : XRel x y) (hf : d9 x) (hwk : x.c.wk ≤ 64) (a : ActV) (hsh : (x.own.length : Int) = x.c.sh) (hsd : 0 ≤ j.shard ∧ j.shard < x.c.sh) : JobX N j (N6 a x y) := by
 have hpin := h.pin
 have hown := h.own
 obtain ⟨sd, hsd2⟩ : ∃ n : Nat, j.shard = n := ⟨j.shard.toNat, by omega⟩
 unfold N6
 by_cases k1 : a.k = 1
 ·rw [if_pos k1]; exact ⟨hpin, hown⟩
 rw [if_neg k1]
 by_cases k2 : a.k = 2
 ·rw [if_pos k2]
  by_cases c : (0 ≤ a.n ∧ a.n < y.c.sh) ∧ y.locks.getD a.n.toNat 0 < 0
  case neg => rw [if_neg c]; exact h
  rw [if_pos c]
  obtain ⟨n, hn⟩ : ∃ n : Nat, a.n = n := ⟨a.n.toNat, by omega⟩
  rw [hn, hr.c, hr.locks, Int.toNat_natCast] at c
  have hnl : n < x.own.length := by omega
  have hlo : T4 x.own a.n 99 = x.own.set n 99 := by
   unfold T4; rw [if_pos (by omega), hn, g8 hnl, if_pos (hf n hnl c.2)]
  refine ⟨hpin, fun g1 g2 => ?_⟩
  have hp := hpin (by omega) (by omega)
  have ho := hown g1 g2
  rw [hsd2, Int.toNat_natCast] at ho ⊢
  simp only [hlo]
  rw [H6 (by omega)]
  by_cases d : n = sd
  ·subst d; omega
  ·rw [if_neg d]; exact ho
 rw [if_neg k2]
 by_cases k3 : a.k = 3
 ·rw [if_pos k3]
  by_cases c : (0 ≤ a.n ∧ a.n < y.c.sh) ∧ y.locks.getD a.n.toNat 0 = 99
  case neg => rw [if_neg c]; exact h
  rw [if_pos c]
  obtain ⟨n, hn⟩ : ∃ n : Nat, a.n = n := ⟨a.n.toNat, by omega⟩
  rw [hn, hr.c, hr.locks, Int.toNat_natCast] at c
  have hnl : n < x.own.length := by omega
  have hlo : K7 x.own a.n 99 = x.own.set n (-1) := by
   unfold K7; rw [if_pos (by omega), hn, g8 hnl, if_pos c.2]
  refine ⟨hpin, fun g1 g2 => ?_⟩
  have hp := hpin (by omega) (by omega)
  have ho := hown g1 g2
  rw [hsd2, Int.toNat_natCast] at ho ⊢
  simp only [hlo]
  rw [H6 (by omega)]
  by_cases d : n = sd
  ·subst d; omega
  ·rw [if_neg d]; exact ho
 rw [if_neg k3]
 by_cases k4 : a.k = 4
 ·rw [if_pos k4]; exact ⟨hpin, hown⟩
 rw [if_neg k4]
 by_cases k5 : a.k = 5
 ·rw [if_pos k5]; exact ⟨hpin, hown⟩
 rw [if_neg k5]
 by_cases k6 : a.k = 6
 ·rw [if_pos k6]; split
  ·exact ⟨hpin, hown⟩
  ·exact h
 rw [if_neg k6]
 by_cases k7 : a.k = 7
 ·rw [if_pos k7]; exact ⟨hpin, hown⟩
 rw [if_neg k7]; exact h
theorem XRel.new {c : CfgV} (hok : S4 c = true) {y : XS} (h1 : y.c = c) (h2 : y.ep = 0) (h3 : y.cur = 0) (h4 : y.pins = List.replicate (c.wk.toNat + 1) 0) (h5 : y.locks = List.replicate c.sh.toNat (-1)) (h6 : y.sl = List.replicate c.sl.toNat noR) (h7 : y.keep = List.replicate c.sl.toNat (0, 0))
  (h8 : y.tabs = List.replicate c.sh.toNat (newE c.cp.toNat)) (h9 : y.pl = List.replicate c.sh.toNat 0) (h10 : y.now = 0) : XRel (N8 c) y ∧ d9 (N8 c) := by
 simp only [S4, e8, Bool.and_eq_true, decide_eq_true_eq] at hok
 refine ⟨⟨h1, by rw [h2]; exact (A4s _ _).symm, by rw [h3]; exact (A4s _ _).symm, by rw [h4, List.length_replicate]; show _ = c.wk + 1; omega, fun i _ g => ?_, h5, by rw [h6]; simp [N8, p8, noR], h7, h8, h9, h10⟩, fun i hi _ => ?_⟩
 ·rw [h4]
  have g : (i : Int) ≤ c.wk := g
  rw [show D5 (N8 c).cells (1 + i) = 0 from A4s _ _, List.getD_eq_getElem?_getD, List.getElem?_replicate_of_lt (by omega)]; rfl
 ·have hi : i < c.sh.toNat := by simpa [N8] using hi
  show (List.replicate c.sh.toNat (-1 : Int)).getD i 0 = -1
  rw [List.getD_eq_getElem?_getD, List.getElem?_replicate_of_lt hi]; rfl
theorem JobX.new (N : Nat) (who : Int) (text : ByteArray) (x : WS) : JobX N (A20 who text) x := ⟨fun h => by simp [A20] at h, fun h => by simp [A20] at h⟩
end Go.Proofs.YtpnidmkaobfhiaaGreat
namespace Go.Proofs.YtpnidmkaobfhiaaGreat
open Go
abbrev WI (N E : Nat) (x : WS) : Prop := GI N E (A20 0 ByteArray.empty) x
theorem WI.up2 {N E : Nat} {x : WS} (h : WI N E x) : WI N (E + 1) x := { h with ep := by have := h.ep; omega, jep := by have := h.jep; omega }
structure KpI (x : WS) : Prop where
 len : x.keep.length = x.sl.length
 z : ∀ y ∈ x.keep, y.1 = 0 → y.2 = 0
def holds (o : List Int) (i : Nat) (who : Int) : Prop := o.getD i 0 = who ∨ (who = 99 ∧ o.getD i 0 = -1)
def JvI (N : Nat) (x : WS) : JV → Prop
 | .upd j => (-1 ≤ j.b.st ∧ j.b.st ≤ x.c.wk + 4) ∧ (j.pins.length : Int) ≤ x.c.wk ∧ (0 ≤ j.b.st → (j.pins.length : Int) ≤ j.b.st) ∧ (-1 ≤ j.slot ∧ j.slot ≤ 8) ∧ (0 ≤ j.old ∧ j.old ≤ 500)
 | .exp j => 0 ≤ j.b.who ∧ (-1 ≤ j.b.st ∧ j.b.st ≤ 3) ∧ (TabOk 0 j.table ∨ TabOk x.c.cp.toNat j.table) ∧ (2 ≤ j.b.st → TabOk x.c.cp.toNat j.table) ∧ (1 ≤ j.b.st → (0 ≤ j.shard ∧ j.shard < N) ∧ holds x.own j.shard.toNat j.b.who)
 | .sta b => 0 ≤ b.who ∧ (-1 ≤ b.st ∧ b.st < 3 * (N : Int)) ∧ ∀ i : Nat, i < N → (i : Int) < b.st → b.st ≤ 2 * (N : Int) + i → holds x.own i b.who
 | .non b => b.st = 0 ∨ b.st = -1
structure CI (N E : Nat) (j : JV) (x : WS) : Prop where
 w : WI N E x
 j : JvI N x j
 f : d9 x
 k : KpI x
 cp : 1 ≤ x.c.cp
theorem x8 {o : List Int} {i : Nat} {who : Int} (hi : i < o.length) (hw : 0 ≤ who) (h : holds o i who) : K7 o (i : Nat) who = o.set i (-1) := by
 unfold K7
 rw [if_pos hw, g8 hi]
 rcases h with h | ⟨rfl, h⟩
 ·rw [if_pos h]
 ·rw [if_neg (by omega)]
  refine C19 (by rw [List.length_set]) fun j hj => ?_
  rw [H6 hi]
  by_cases c : i = j
  ·rw [if_pos c, ← c, h]
  ·rw [if_neg c]
theorem A3x {o : List Int} {i : Nat} {who : Int} (hi : i < o.length) (hw : 0 ≤ who) (h : o.getD i 0 = -1) : T4 o (i : Nat) who = o.set i who := by
 unfold T4; rw [if_pos hw, g8 hi, if_pos h]
theorem d9.set2 {o : List Int} {i : Nat} {v : Int} (h : ∀ i : Nat, i < o.length → o.getD i 0 < 0 → o.getD i 0 = -1) (hi : i < o.length) (hv : -1 ≤ v) : ∀ k : Nat, k < (o.set i v).length → (o.set i v).getD k 0 < 0 → (o.set i v).getD k 0 = -1 := fun k hk g => by
 rw [List.length_set] at hk
 rw [H6 hi] at g ⊢
 by_cases d : i = k
 ·rw [if_pos d] at g ⊢; omega
 ·rw [if_neg d] at g ⊢; exact h k hk g
theorem A6L {o : List Int} {i k : Nat} {who v : Int} (hi : i < o.length) (h : holds o k who) (hne : i ≠ k) : holds (o.set i v) k who := by
 unfold holds at h ⊢; rw [H6 hi, if_neg hne]; exact h
theorem B7u {l : List (Int × Int)} {i a : Int} {s : Int × Int} (h : ∀ y ∈ l, y.1 = 0 → y.2 = 0) (hs : s.1 = 0 → s.2 = 0) : ∀ y ∈ A1d l i a s, y.1 = 0 → y.2 = 0 := fun y hy => by
 unfold A1d at hy
 split at hy
 ·rcases List.mem_or_eq_of_mem_set hy with hy | rfl
  ·exact h y hy
  ·exact hs
 ·exact h y hy
theorem C3L {l : List (Int × Int)} (h : ∀ y ∈ l, y.1 = 0 → y.2 = 0) : ∀ y ∈ M6 l, y.1 = 0 → y.2 = 0 := fun y hy => by
 unfold M6 at hy
 split at hy
 ·exact h y hy
 ·rcases List.mem_or_eq_of_mem_set hy with hy | rfl
  ·exact h y hy
  ·intro g; simp at g
theorem C5y {N E : Nat} {j : JU} {x : WS} (h : CI N E (.upd j) x) (hE : E ≤ 1000) (hst : j.b.st ≠ -1) : CI N (E + 1) (.upd (H0 j x).1) (H0 j x).2.1 := by
 obtain ⟨hw, ⟨s1, s2, s3, s4, s5⟩, hf, hk, hcp⟩ := h
 have hwu := hw.up2
 have hwk := hw.ok.wk
 have hcl := hw.ok.cells
 have hep := hw.ep
 have hcu := hw.cur
 have ht := B18 x.keep
 have hks := hw.ok.keep
 have s3' := s3 (by omega)
 unfold H0
 by_cases c1 : j.b.st = 0 ∧ T9 j ≠ 0
 ·rw [if_pos c1]
  exact ⟨hwu, ⟨⟨by simp [JB.refuse], by simp only [JB.refuse]; omega⟩, s2, fun g => absurd g (by simp [JB.refuse]), s4, s5⟩, hf, hk, hcp⟩
 rw [if_neg c1]
 by_cases c2 : j.b.st = 0 ∨ j.b.st - x.c.wk < 0
 ·rw [if_pos c2]
  refine ⟨hwu, ⟨?_, ?_, fun _ => ?_, s4, s5⟩, hf, hk, hcp⟩
  ·simp only [E4]; omega
  ·simp only [List.length_append, List.length_singleton]; omega
  ·simp only [E4, List.length_append, List.length_singleton]; omega
 rw [if_neg c2]
 by_cases d0 : j.b.st - x.c.wk = 0
 ·rw [if_pos d0]
  unfold U0
  by_cases e1 : 0 ≤ G3 x.keep j.pins
  ·rw [if_pos e1]
   exact ⟨{ hwu with ok := ⟨hw.ok.wk, hw.ok.cells, hw.ok.own, by simp only [d5]; exact hw.ok.sl, by simp only [m4, A2L]; exact hw.ok.keep⟩ }, ⟨s1, s2, s3, s4, s5⟩, hf, ⟨by simp only [m4, A2L, d5]; exact hk.len, B7u hk.z fun _ => rfl⟩, hcp⟩
  rw [if_neg e1]
  by_cases e2 : E5 x.keep < 0
  ·rw [if_pos e2]
   exact ⟨hwu, ⟨⟨by simp [JB.refuse], by simp only [JB.refuse]; omega⟩, s2, fun g => absurd g (by simp [JB.refuse]), by simp only; omega, s5⟩, hf, hk, hcp⟩
  rw [if_neg e2]
  exact ⟨{ hwu with ok := ⟨hw.ok.wk, hw.ok.cells, hw.ok.own, by simp only [d5]; exact hw.ok.sl, by simp only [A21]; exact hw.ok.keep⟩ }, ⟨by simp only; omega, s2, fun _ => by simp only; omega, by simp only; omega, s5⟩, hf, ⟨by simp only [A21, d5]; exact hk.len, C3L hk.z⟩, hcp⟩
 rw [if_neg d0]
 by_cases d1 : j.b.st - x.c.wk = 1
 ·rw [if_pos d1]
  exact ⟨{ hwu with ok := ⟨hw.ok.wk, hw.ok.cells, hw.ok.own, by simp only [A3y]; exact hw.ok.sl, hw.ok.keep⟩ }, ⟨by simp only [E4]; omega, s2, fun _ => by simp only [E4]; omega, s4, s5⟩, hf, ⟨by simp only [A3y]; exact hk.len, hk.z⟩, hcp⟩
 rw [if_neg d1]
 by_cases d2 : j.b.st - x.c.wk = 2
 ·rw [if_pos d2]
  exact ⟨hwu, ⟨by simp only [E4]; omega, s2, fun _ => by simp only [E4]; omega, s4, by simp only; omega⟩, hf, hk, hcp⟩
 rw [if_neg d2]
 by_cases d3 : j.b.st - x.c.wk = 3
 ·rw [if_pos d3]
  refine ⟨{ hwu with ok := ⟨hw.ok.wk, by simp only [p5]; exact hcl, hw.ok.own, hw.ok.sl, hw.ok.keep⟩, ep := by simp only; rw [Q4 _ _ (by omega)]; omega, cur := by simp only; rw [b9, if_pos (by omega)]; omega }, ⟨by simp only [E4]; omega, s2, fun _ => by simp only [E4]; omega, s4, s5⟩, hf, ⟨hk.len, hk.z⟩, hcp⟩
 rw [if_neg d3]
 unfold A5F
 have e0 : D5 (K9 x.cells 0 (IntKind.i64.wrap (D5 x.cells 0 + 1))) 0 = D5 x.cells 0 + 1 := by
  rw [b9, if_pos (by omega)]; exact N1 (by omega) (by omega)
 have hkl : (if 0 < (E4 j).old then l6 x.keep ((E4 j).old - 1) (IntKind.i64.wrap (D5 x.cells 0 + 1)) else x.keep).length = x.keep.length := by
  split
  ·simp only [l6, A2L]
  ·rfl
 refine ⟨{ hwu with ok := ⟨hw.ok.wk, by simp only [p5]; exact hcl, hw.ok.own, hw.ok.sl, by simp only; rw [hkl]; exact hks⟩, ep := by simp only; rw [e0]; omega, cur := by simp only; rw [Q4 _ _ (by omega)]; omega }, ⟨⟨by simp, by simp only; omega⟩, s2, fun g => absurd g (by simp), s4, s5⟩, hf, ⟨by simp only; rw [hkl]; exact hk.len, ?_⟩, hcp⟩
 simp only
 split
 ·exact B7u hk.z fun g => absurd g (by simp)
 ·exact hk.z
theorem B9S {N : Nat} {x : WS} (hl : x.tabs.length = N) {i : Int} : A2n x i = false ↔ ¬ (0 ≤ i ∧ i < N) := by
 unfold A2n; rw [hl, Bool.and_eq_false_iff, decide_eq_false_iff_not, decide_eq_false_iff_not]; omega
theorem B4b {j : JE} {x : WS} (hf : d9 x) (hr : (JV.exp j).ready x = true) (d0 : j.b.st = 0) {s : Nat} (hs : j.shard = s) (hl : s < x.own.length) : x.own.getD s 0 = -1 := by
 simp [JV.ready, JV.waits, JV.b, d0, hs] at hr
 rw [A8N hl] at hr
 exact hf s hl hr
theorem B41 {b : JB} {x : WS} {N : Nat} (htl : x.tabs.length = N) (hf : d9 x) (hr : (JV.sta b).ready x = true) {s : Nat} (hs : b.st = s) (hN : s < N) (hl : s < x.own.length) : x.own.getD s 0 = -1 := by
 have h1 : b.st < (x.tabs.length : Int) := by omega
 have h2 : ¬ b.st = -1 := by omega
 simp [JV.ready, JV.waits, JV.b, h1, h2] at hr
 rw [hs, A8N hl] at hr
 exact hf s hl hr
theorem C6E {N E : Nat} {j : JE} {x : WS} (h : CI N E (.exp j) x) (hr : (JV.exp j).ready x = true) : CI N (E + 1) (.exp (M1 j x).1) (M1 j x).2.1 := by
 obtain ⟨hw, ⟨s0, s1, s2, s3, s4⟩, hf, hk, hcp⟩ := h
 have hwu := hw.up2
 have how := hw.ow
 have htl := hw.tl
 have hst : j.b.st ≠ -1 := fun h => by simp [JV.ready, JV.b, h] at hr
 unfold M1
 by_cases c0 : A2n x j.shard = false
 ·rw [if_pos c0]
  exact ⟨hwu, ⟨s0, by simp [JB.refuse], s2, fun g => absurd g (by simp [JB.refuse]), fun g => absurd g (by simp [JB.refuse])⟩, hf, hk, hcp⟩
 rw [if_neg c0]
 have hin : 0 ≤ j.shard ∧ j.shard < N := Decidable.byContradiction fun g => c0 ((B9S htl).2 g)
 obtain ⟨s, hs⟩ : ∃ s : Nat, j.shard = s := ⟨j.shard.toNat, by omega⟩
 have hsl : s < x.own.length := by omega
 by_cases d0 : j.b.st = 0
 ·rw [if_pos d0]
  have hfr := B4b hf hr d0 hs hsl
  rw [hs, A3x hsl s0 hfr]
  refine ⟨{ hwu with ok := ⟨hw.ok.wk, hw.ok.cells, by simp only [List.length_set]; exact hw.ok.own, hw.ok.sl, hw.ok.keep⟩, ow := by simp only [List.length_set]; exact how }, ⟨s0, by simp only [JE.up]; omega, s2, fun g => absurd g (by simp only [JE.up]; omega), fun _ => ⟨hin, ?_⟩⟩, d9.set2 hf hsl (by omega), ⟨hk.len, hk.z⟩, hcp⟩
  left
  simp only [JE.up, hs, Int.toNat_natCast]
  rw [H6 hsl, if_pos rfl]
 rw [if_neg d0]
 obtain ⟨_, hh⟩ := s4 (by omega)
 rw [hs, Int.toNat_natCast] at hh
 by_cases d1 : j.b.st = 1
 ·rw [if_pos d1]
  have key : TabOk x.c.cp.toNat (Z2 x j.shard) := by
   unfold Z2
   rw [hs, Int.toNat_natCast, List.getD_eq_getElem?_getD, List.getElem?_eq_getElem (by omega)]
   exact hw.te _ (List.getElem_mem _)
  have key2 : TabOk x.c.cp.toNat (H5 (Z2 x j.shard) (A1L x j.shard) 4 x.now).1 := (C0e key (by omega)).1
  exact ⟨hwu, ⟨s0, by simp only; omega, Or.inr key2, fun _ => key2, fun _ => ⟨hin, by simp only [hs, Int.toNat_natCast]; exact hh⟩⟩, hf, hk, hcp⟩
 rw [if_neg d1]
 have key := s3 (by omega)
 by_cases d2 : j.b.st = 2
 ·rw [if_pos d2]
  refine ⟨{ hwu with ok := ⟨hw.ok.wk, hw.ok.cells, hw.ok.own, hw.ok.sl, hw.ok.keep⟩, tl := by simp only [List.length_set]; exact htl, pl := by simp only [List.length_set]; exact hw.pl, te := fun t ht => ?_ }, ⟨s0, by simp only [JE.up]; omega, Or.inr key, fun _ => key, fun _ => ⟨hin, by simp only [JE.up, hs, Int.toNat_natCast]; exact hh⟩⟩, hf, ⟨hk.len, hk.z⟩, hcp⟩
  rcases List.mem_or_eq_of_mem_set (show t ∈ x.tabs.set j.shard.toNat j.table from ht) with ht | rfl
  ·exact hw.te t ht
  ·exact key
 rw [if_neg d2]
 rw [hs, x8 hsl s0 hh]
 exact ⟨{ hwu with ok := ⟨hw.ok.wk, hw.ok.cells, by simp only [List.length_set]; exact hw.ok.own, hw.ok.sl, hw.ok.keep⟩, ow := by simp only [List.length_set]; exact how }, ⟨s0, by simp, s2, fun g => absurd g (by simp), fun g => absurd g (by simp)⟩, d9.set2 hf hsl (by omega), ⟨hk.len, hk.z⟩, hcp⟩
theorem C6C {N E : Nat} {b : JB} {x : WS} (h : CI N E (.sta b) x) (hr : (JV.sta b).ready x = true) : CI N (E + 1) (.sta (Q2 b x).1) (Q2 b x).2.1 := by
 obtain ⟨hw, ⟨s0, s1, s2⟩, hf, hk, hcp⟩ := h
 have hwu := hw.up2
 have how := hw.ow
 have htl := hw.tl
 have hst : b.st ≠ -1 := fun h => by simp [JV.ready, JV.b, h] at hr
 obtain ⟨k, hk0⟩ : ∃ k : Nat, b.st = k := ⟨b.st.toNat, by omega⟩
 have em : b.st % (N : Int) = ((k % N : Nat) : Int) := by rw [hk0]; rfl
 unfold Q2
 simp only [htl, em]
 by_cases c0 : k < N
 ·have hmod : k % N = k := Nat.mod_eq_of_lt c0
  have hkl : k < x.own.length := by omega
  rw [if_pos (show b.st < (N : Int) by omega), hmod]
  have hfr := B41 htl hf hr hk0 c0 hkl
  rw [A3x hkl s0 hfr]
  refine ⟨{ hwu with ok := ⟨hw.ok.wk, hw.ok.cells, by simp only [List.length_set]; exact hw.ok.own, hw.ok.sl, hw.ok.keep⟩, ow := by simp only [List.length_set]; exact how }, ⟨s0, by simp only; omega, fun i hi h1 h2 => ?_⟩, d9.set2 hf hkl (by omega), ⟨hk.len, hk.z⟩, hcp⟩
  simp only at h1 h2 ⊢
  by_cases c : k = i
  ·subst c; left; rw [H6 hkl, if_pos rfl]
  ·exact A6L hkl (s2 i hi (by omega) (by omega)) c
 rw [if_neg (show ¬ b.st < (N : Int) by omega)]
 by_cases c1 : k < 2 * N
 ·rw [if_pos (show b.st < 2 * (N : Int) by omega)]
  exact ⟨hwu, ⟨s0, by simp only; omega, fun i hi h1 h2 => s2 i hi (by omega) (by simp only at h2; omega)⟩, hf, hk, hcp⟩
 rw [if_neg (show ¬ b.st < 2 * (N : Int) by omega)]
 obtain ⟨r, rfl⟩ : ∃ r, k = 2 * N + r := ⟨k - 2 * N, by omega⟩
 have hmod : (2 * N + r) % N = r := by rw [show 2 * N + r = r + N * 2 by omega, Nat.add_mul_mod_self_left]; exact Nat.mod_eq_of_lt (by omega)
 have hrl : r < x.own.length := by omega
 rw [hmod, x8 hrl s0 (s2 r (by omega) (by omega) (by omega))]
 have hW : WI N (E + 1) { x with own := x.own.set r (-1) } := { hwu with ok := ⟨hw.ok.wk, hw.ok.cells, by simp only [List.length_set]; exact hw.ok.own, hw.ok.sl, hw.ok.keep⟩, ow := by simp only [List.length_set]; exact how }
 by_cases c2 : ((r : Nat) : Int) = (N : Int) - 1
 ·rw [if_pos c2]
  exact ⟨hW, ⟨s0, by simp only; omega, fun i hi h1 h2 => absurd h1 (by simp only; omega)⟩, d9.set2 hf hrl (by omega), ⟨hk.len, hk.z⟩, hcp⟩
 ·rw [if_neg c2]
  refine ⟨hW, ⟨s0, by simp only; omega, fun i hi h1 h2 => ?_⟩, d9.set2 hf hrl (by omega), ⟨hk.len, hk.z⟩, hcp⟩
  simp only at h1 h2 ⊢
  exact A6L hrl (s2 i hi (by omega) (by omega)) (by omega)
theorem CI.up {N E : Nat} {j : JV} {x : WS} (h : CI N E j x) : CI N (E + 1) j x := ⟨h.w.up2, h.j, h.f, h.k, h.cp⟩
theorem A1y {j : JV} {x : WS} (h : j.ready x = true) : j.step x = j.step0 x := if_pos h
theorem A3V {j : JV} {x : WS} (h : j.ready x = false) : j.step x = (j, x, false, false, false) := if_neg (by rw [h]; decide)
theorem A6G {j : JV} {x : WS} (h : j.ready x = true) : j.b.st ≠ -1 := fun g => by simp [JV.ready, g] at h
theorem CI.step {N E : Nat} {j : JV} {x : WS} (h : CI N E j x) (hE : E ≤ 1000) : CI N (E + 1) (j.step x).1 (j.step x).2.1 := by
 cases hr : j.ready x with
 | false => rw [A3V hr]; exact h.up
 | true =>
  rw [A1y hr]
  have hst := A6G hr
  cases j with
  | upd j => exact C5y h hE hst
  | exp j => exact C6E h hr
  | sta b => exact C6C h hr
  | non b => exact ⟨h.w.up2, Or.inr rfl, h.f, h.k, h.cp⟩
theorem A7a (a : ActV) (x : WS) (y : XS) : (N6 a x y).c = x.c := by
 unfold N6
 repeat' split
 all_goals rfl
theorem B4j (a : ActV) (x : WS) (y : XS) : (N6 a x y).keep = x.keep := by
 unfold N6
 repeat' split
 all_goals rfl
theorem C5K (a : ActV) (x : WS) (y : XS) : (N6 a x y).sl.length = x.sl.length := by
 unfold N6
 repeat' split
 all_goals simp only [d5, A3y]
theorem B4v {x : WS} {y : XS} {who : Int} {i : Nat} (hr : XRel x y) (hf : d9 x) (hsh : (x.own.length : Int) = x.c.sh) (a : ActV) (hw : 0 ≤ who) (h : holds x.own i who) : holds (N6 a x y).own i who := by
 unfold N6
 by_cases k1 : a.k = 1
 ·rw [if_pos k1]; exact h
 rw [if_neg k1]
 by_cases k2 : a.k = 2
 ·rw [if_pos k2]
  by_cases c : (0 ≤ a.n ∧ a.n < y.c.sh) ∧ y.locks.getD a.n.toNat 0 < 0
  case neg => rw [if_neg c]; exact h
  rw [if_pos c]
  obtain ⟨n, hn⟩ : ∃ n : Nat, a.n = n := ⟨a.n.toNat, by omega⟩
  rw [hn, hr.c, hr.locks, Int.toNat_natCast] at c
  have hnl : n < x.own.length := by omega
  simp only [hn]
  rw [A3x hnl (by omega) (hf n hnl c.2)]
  by_cases d : n = i
  ·subst d
   rcases h with h | ⟨h1, h2⟩
   ·omega
   ·left; rw [H6 hnl, if_pos rfl, h1]
  ·exact A6L hnl h d
 rw [if_neg k2]
 by_cases k3 : a.k = 3
 ·rw [if_pos k3]
  by_cases c : (0 ≤ a.n ∧ a.n < y.c.sh) ∧ y.locks.getD a.n.toNat 0 = 99
  case neg => rw [if_neg c]; exact h
  rw [if_pos c]
  obtain ⟨n, hn⟩ : ∃ n : Nat, a.n = n := ⟨a.n.toNat, by omega⟩
  rw [hn, hr.c, hr.locks, Int.toNat_natCast] at c
  have hnl : n < x.own.length := by omega
  simp only [hn]
  rw [x8 hnl (by omega) (Or.inl c.2)]
  by_cases d : n = i
  ·subst d
   rcases h with h | ⟨h1, h2⟩
   ·right; exact ⟨by omega, by rw [H6 hnl, if_pos rfl]⟩
   ·omega
  ·exact A6L hnl h d
 rw [if_neg k3]
 repeat' split
 all_goals exact h
theorem CI.hap {N E : Nat} {j : JV} {x : WS} {y : XS} (h : CI N E j x) (hE : E ≤ 1000) (hr : XRel x y) (a : ActV) (hcs : x.c.sl ≤ 8) : CI N (E + 1) j (N6 a x y) := by
 obtain ⟨hw, hj, hf, hk, hcp⟩ := h
 have hep := hw.ep
 have hsh : (x.own.length : Int) = x.c.sh := by rw [hw.ow, hw.sh]
 refine ⟨GI.hap hw hE a y hr.c hcs, ?_, (hr.hap hw.ok hf ⟨hep.1, by omega⟩ a hsh).2, ⟨by rw [B4j, C5K]; exact hk.len, by rw [B4j]; exact hk.z⟩, by rw [A7a]; exact hcp⟩
 cases j with
 | upd j => obtain ⟨s1, s2, s3, s4, s5⟩ := hj; exact ⟨by rw [A7a]; exact s1, by rw [A7a]; exact s2, s3, s4, s5⟩
 | exp j => obtain ⟨s0, s1, s2, s3, s4⟩ := hj; exact ⟨s0, s1, by rw [A7a]; exact s2, by rw [A7a]; exact s3, fun g => ⟨(s4 g).1, B4v hr hf hsh a s0 (s4 g).2⟩⟩
 | sta b => obtain ⟨s0, s1, s2⟩ := hj; exact ⟨s0, s1, fun i hi h1 h2 => B4v hr hf hsh a s0 (s2 i hi h1 h2)⟩
 | non b => exact hj
end Go.Proofs.YtpnidmkaobfhiaaGreat
namespace Go.Proofs.YtpnidmkaobfhiaaGreat
open Go
def A4J (b : Nat) (j : JB) : Res := .pt b (.cells (D3 j []) 106)
theorem C21 (w : World) (b : Nat) (j : JB) (v : Value) (P : K8) (m : WoH) (hw : LW false (B1 (A4J b j :: C8 P :: B8 m)) w (A4J b j :: C8 P :: B8 m) w) :
  Fn PR B6 252 #[.pointer (some ⟨b, 0, none⟩), v] w (Rn (B1 (A4J b j :: C8 P :: B8 m)) w (fun (_ : Unit) u => u = D8 (true, true, false) ∧ True) fun _ => A4J b (j.refuse 1) :: C8 P :: B8 m) := by
 refine A9E (TW.goH (κ := false) ?_ hw)
 unfold A2v
 (have zz:=trivial;repeat((first|clear zz|with_reducible first|refine A3 ?_|refine A5 fun _=>?_|refine A4 fun _=>?_);try simp(disch:=first|omega|assumption|((repeat(first|exact A1|exact uH|apply A2|apply uT));first|done|fail)|(simp;first|done|omega|fail))[]))
 rename_i bt
 refine C0 (Hc := [A4J b j]) (Hk := .pt bt (.cells #[.bool false, .bool false, .bool false] 49) :: C8 P :: B8 m) S1 (fun w' _ hs => A2m w' b _ j [] 1 hs) (by (repeat' constructor)) ?_
 rintro _ v rfl
 simp only [List.cons_append, List.nil_append, D8]
 (have zz:=trivial;repeat((first|clear zz|with_reducible first|refine A3 ?_|refine A5 fun _=>?_|refine A4 fun _=>?_);try simp(disch:=first|omega|assumption|((repeat(first|exact A1|exact uH|apply A2|apply uT));first|done|fail)|(simp;first|done|omega|fail))[]))
 refine TW.sub (B0 () (by simp) (P5 _)) (List.Sublist.cons_cons _ (List.sublist_cons_self _ _))
inductive CJ where
 | upd (j : JU) (pv qv : Value)
 | exp (j : JE) (tv : Value)
 | sta (j : JB)
 | non (j : JB)
def CJ.v : CJ → JV
 | .upd j _ _ => .upd j
 | .exp j _ => .exp j
 | .sta j => .sta j
 | .non j => .non j
def CJ.I (b : Nat) : CJ → Value
 | .upd _ _ _ => Q5 b
 | .exp _ _ => A23 b
 | .sta _ => A2k b
 | .non _ => A2j b
abbrev CA := CJ × WoG × K8
def V4 (m : WoH) (a : CA) : WS := (m.ug a.2.1).ws
def p6 (b : Nat) : CJ → List Res
 | .upd j pv qv => [M3 b j pv qv, P1 j qv]
 | .exp j tv => [v7 b j tv]
 | .sta j => [A2Y b j]
 | .non j => [A4J b j]
def W4 (jb b : Nat) (m : WoH) : CA → List Res
 | (.upd j pv qv, d, P) => (F7 jb (Q5 b) :: M3 b j pv qv :: P1 j qv :: B8 (m.ug d)) ++ [C8 P]
 | (.exp j tv, d, P) => F7 jb (A23 b) :: v7 b j tv :: C8 P :: B8 (m.ug d)
 | (.sta j, d, P) => F7 jb (A2k b) :: A2Y b j :: C8 P :: B8 (m.ug d)
 | (.non j, d, P) => F7 jb (A2j b) :: A4J b j :: C8 P :: B8 (m.ug d)
theorem A3d (jb b : Nat) (m : WoH) (a : CA) : (W4 jb b m a).Perm (B8 (m.ug a.2.1) ++ (F7 jb (a.1.I b) :: (p6 b a.1 ++ [C8 a.2.2]))) := by
 obtain ⟨j, d, P⟩ := a
 cases j with
 | upd j pv qv =>
  simp only [W4, p6, CJ.I, List.cons_append, List.nil_append]
  exact (List.perm_append_comm (l₁ := [F7 jb (Q5 b), M3 b j pv qv, P1 j qv]) (l₂ := B8 (m.ug d))).append_right [C8 P] |>.trans (by simp)
 | exp j tv => exact List.perm_append_comm (l₁ := [F7 jb (A23 b), v7 b j tv, C8 P]) (l₂ := B8 (m.ug d))
 | sta j => exact List.perm_append_comm (l₁ := [F7 jb (A2k b), A2Y b j, C8 P]) (l₂ := B8 (m.ug d))
 | non j => exact List.perm_append_comm (l₁ := [F7 jb (A2j b), A4J b j, C8 P]) (l₂ := B8 (m.ug d))
def cjT : CJ → K8 → Prop
 | .exp j tv, P => (tv, j.table) ∈ P
 | _, _ => True
structure CjC (cp : Nat) (a : CA) : Prop where
 tab : ∀ t ∈ a.2.2, TabOk 0 t.2 ∨ TabOk cp t.2
 sub : c6 a.2.1.ts a.2.2
 tb : cjT a.1 a.2.2
def CJ.RdP (w : World) : CJ → Prop
 | .upd j pv _ => j.pool.length ≤ 1000 ∧ D2 w pv j.pool.length (j.pool.flatMap E6)
 | _ => True
def CJ.pl : CJ → Option (List G8 × Value)
 | .upd j pv _ => some (j.pool, pv)
 | _ => none
theorem CJ.RdP.of {w : World} {a a' : CJ} (h : a.RdP w) (e : a'.pl = a.pl) : a'.RdP w := by
 cases a <;> cases a' <;> simp only [CJ.pl, Option.some.injEq, Prod.mk.injEq, reduceCtorEq] at e <;> first | trivial | skip
 obtain ⟨e1, e2⟩ := e
 subst e2
 exact ⟨by rw [e1]; exact h.1, by rw [e1]; exact h.2⟩
theorem CjC.ok {N E : Nat} {m : WoH} {a : CA} {cp : Nat} (h : CjC cp a) (hg : WI N E (V4 m a)) : TabsOk (m.ug a.2.1) a.2.2 := by
 obtain ⟨j, d, P⟩ := a
 have hts : d.ts.length = N := by have := hg.tl; simpa [V4, WoH.ws, WoH.ug] using this
 have hn := hg.n
 have hpl : d.pl.length = N := hg.pl
 have how : d.own.length = N := hg.ow
 have key : ∀ t : List EnV, TabOk 0 t ∨ TabOk cp t → L5 t ∧ t.length ≤ 64 := fun t ht => by
  rcases ht with ht | ht
  ·exact ⟨ht.keys, by rw [ht.len]; omega⟩
  ·exact ⟨ht.keys, by rw [ht.len]; exact ht.few⟩
 refine ⟨by show d.ts.length ≤ _; omega, by show d.pl.length = d.ts.length; omega, fun t ht => ?_, fun t ht => (key _ (h.tab _ (h.sub _ ht))).1, by show d.own.length ≤ _; omega, h.sub⟩
 have := (key _ (h.tab _ (h.sub _ ht))).2; omega
theorem C4C {jb b : Nat} {m : WoH} {a : CA} {H : List Res} (hm : ∀ r ∈ W4 jb b m a, r ∈ H) : ∀ r ∈ B8 (m.ug a.2.1), r ∈ H := fun r hr => hm r ((A3d jb b m a).mem_iff.2 (List.mem_append_left _ hr))
theorem B6A {jb b : Nat} {m : WoH} {a : CA} {H : List Res} (hm : ∀ r ∈ W4 jb b m a, r ∈ H) : F7 jb (a.1.I b) ∈ H := hm _ ((A3d jb b m a).mem_iff.2 (List.mem_append_right _ (List.mem_cons_self ..)))
theorem B52 {jb b : Nat} {m : WoH} {a : CA} {H : List Res} (hm : ∀ r ∈ W4 jb b m a, r ∈ H) : ∀ r ∈ p6 b a.1, r ∈ H := fun r hr => hm r ((A3d jb b m a).mem_iff.2 (List.mem_append_right _ (List.mem_cons_of_mem _ (List.mem_append_left _ hr))))
theorem C70 {κ : Bool} {S : List Nat} {w0 w : World} {jb b : Nat} {m : WoH} {a : CA} {H : List Res} (hm : ∀ r ∈ W4 jb b m a, r ∈ H) (hw : LW κ S w0 H w) : ∃ x c, (m.ug a.2.1).tv = .slice x (m.ug a.2.1).ts.length c := by
 have := hw.hold (.own 55 1 (m.ug a.2.1).tv (m.ug a.2.1).ts.length ((m.ug a.2.1).ts.map (·.1))) (C4C hm _ (by unfold B8; (repeat constructor)))
 exact U9.form this
theorem B7w (b : Nat) (a : CJ) : ∃ rest T, Res.pt b (.cells (D3 a.v.b rest) T) ∈ p6 b a ∧ (a.I b = Q5 b ∨ a.I b = A23 b ∨ a.I b = A2k b ∨ a.I b = A2j b) := by
 cases a with
 | upd j pv qv => exact ⟨_, _, List.mem_cons_self .., Or.inl rfl⟩
 | exp j tv => exact ⟨_, _, List.mem_cons_self .., Or.inr (Or.inl rfl)⟩
 | sta j => exact ⟨_, _, List.mem_cons_self .., Or.inr (Or.inr (Or.inl rfl))⟩
 | non j => exact ⟨_, _, List.mem_cons_self .., Or.inr (Or.inr (Or.inr rfl))⟩
theorem B9F {N E : Nat} {κ : Bool} {S : List Nat} (w w' : World) (jb b : Nat) (m : WoH) (a : CA) {H : List Res} (hm0 : ∀ r ∈ W4 jb b m a, r ∈ H) (hg : WI N E (V4 m a)) (hw : LW κ S w H w') :
  Fn PR B6 15 #[.pointer (some ⟨jb, 0, none⟩), .pointer (some ⟨m.b, 0, none⟩)] w' (fun u w'' => u = .bool (a.1.v.ready (V4 m a)) ∧ D6 [] w' w'') := by
 have hwo : WoAt w' (m.ug a.2.1) := WoAt.own hw (C4C hm0)
 have htv := C70 hm0 hw
 have hn := hg.n
 have hj := hw.pt (b := jb) (o := .cells #[a.1.I b] 98 (0, 0)) (B6A hm0)
 have hts : a.2.1.ts.length = N := by have := hg.tl; simpa [V4, WoH.ws, WoH.ug] using this
 have hm : ∀ r ∈ p6 b a.1, r ∈ H := B52 hm0
 clear hm0
 obtain ⟨j, d, P⟩ := a
 cases j with
 | upd j pv qv =>
  have hb : bl w' b = some (.cells (D3 j.b [pv, qv, .int .i64 j.slot, .int .i64 j.old]) 94 (0, 0)) := hw.pt (hm _ (List.mem_cons_self ..))
  exact p9 w' jb b (Q5 b) j.b _ _ (.pointer (some ⟨m.b, 0, none⟩)) false _ _ (Or.inl rfl) hj hb (fun w => x6 w b _) (fun w'' _ => A6A w'' _ _)
 | exp j tv =>
  have hb : bl w' b = some (.cells (D3 j.b [.int .i64 j.shard, .int .i64 (j.place : Nat), tv]) 101 (0, 0)) := hw.pt (hm _ (List.mem_cons_self ..))
  exact p9 w' jb b (A23 b) j.b _ _ (.pointer (some ⟨m.b, 0, none⟩)) ((JV.exp j).waits (m.ug d).ws) _ _ (Or.inr (Or.inl rfl)) hj hb (fun w => A6Z w b _) (fun w'' hk => B4W w'' b j tv (m.ug d) (hk.2.1 _ _ (by simp) rfl hb) (hwo.ks hk))
 | sta j =>
  have hb : bl w' b = some (.cells (D3 j []) 104 (0, 0)) := hw.pt (hm _ (List.mem_cons_self ..))
  exact p9 w' jb b (A2k b) j _ _ (.pointer (some ⟨m.b, 0, none⟩)) ((JV.sta j).waits (m.ug d).ws) _ _ (Or.inr (Or.inr (Or.inl rfl))) hj hb (fun w => A6Q w b _) (fun w'' hk => B4V w'' b j (m.ug d) (by show d.ts.length ≤ 1000; simp only at hts; omega) (hk.2.1 _ _ (by simp) rfl hb) (hwo.ks hk) htv)
 | non j =>
  have hb : bl w' b = some (.cells (D3 j []) 106 (0, 0)) := hw.pt (hm _ (List.mem_cons_self ..))
  exact p9 w' jb b (A2j b) j _ _ (.pointer (some ⟨m.b, 0, none⟩)) false _ _ (Or.inr (Or.inr (Or.inr rfl))) hj hb (fun w => A6Y w b _) (fun w'' _ => B4n w'' _ _)
theorem B8w {κ : Bool} {S : List Nat} (w w' : World) (jb b : Nat) (m : WoH) (a : CA) {H : List Res} (hm0 : ∀ r ∈ W4 jb b m a, r ∈ H) (hw : LW κ S w H w') :
  Fn PR B6 19 #[.pointer (some ⟨jb, 0, none⟩)] w' (fun u w'' => u = .int .i64 a.1.v.b.st ∧ D6 [] w' w'') := by
 obtain ⟨rest, T, h1, h2⟩ := B7w b a.1
 exact B0K w' jb b (a.1.I b) a.1.v.b rest T h2 (hw.pt (B6A hm0)) (hw.pt (B52 hm0 _ h1))
theorem B7G {κ : Bool} {S : List Nat} (w w' : World) (jb b : Nat) (m : WoH) (a : CA) {H : List Res} (hm0 : ∀ r ∈ W4 jb b m a, r ∈ H) (hw : LW κ S w H w') :
  Fn PR B6 20 #[.pointer (some ⟨jb, 0, none⟩)] w' (fun u w'' => u = a.1.v.b.ans.val ∧ D6 [] w' w'') := by
 obtain ⟨rest, T, h1, h2⟩ := B7w b a.1
 exact A8d w' jb b (a.1.I b) a.1.v.b rest T h2 (hw.pt (B6A hm0)) (hw.pt (B52 hm0 _ h1))
def WoG.uu (d : WoG) (z : WoD) : WoG := { d with cn := z.cn, cells := z.cells, ls := z.ls, keep := z.keep }
def WoG.ul (d : WoG) (z : WoX) : WoG := { d with cn := z.cn, own := z.own, tv := z.tv, pv := z.pv, ts := z.ts, pl := z.pl }
structure CjN (cp : Nat) (m : WoH) (a a' : CA) : Prop where
 v : a'.1.v = (a.1.v.step (V4 m a)).1
 x : V4 m a' = (a.1.v.step (V4 m a)).2.1
 c : CjC cp a'
 i : ∀ b, a'.1.I b = a.1.I b
 sub : c6 a.2.2 a'.2.2
 p : a'.1.pl = a.1.pl
set_option maxHeartbeats 1000000 in
theorem C0j {N E : Nat} (w' : World) (jb b : Nat) (m : WoH) (a : CA) (cp : Nat) (hc : CjC cp a) (hE : E ≤ 1000) (hg : CI N E a.1.v (V4 m a)) (hcp : (V4 m a).c.cp.toNat = cp) (hv : ∀ w'', KS false (B1 (W4 jb b m a)) w' w'' → a.1.RdP w'') (hw : LW false (B1 (W4 jb b m a)) w' (W4 jb b m a) w') :
  Fn PR B6 17 #[.pointer (some ⟨jb, 0, none⟩), .pointer (some ⟨m.b, 0, none⟩)] w' (Rn (B1 (W4 jb b m a)) w' (fun (a' : CA) u => u = D8 (a.1.v.step (V4 m a)).2.2 ∧ CjN cp m a a') (W4 jb b m)) := by
 have hok := hc.ok hg.w
 have hn := hg.w.n
 have hwk := hg.w.ok.wk
 have hg' := hg.step hE
 obtain ⟨j, d, P⟩ := a
 have hts : d.ts.length = N := by have := hg.w.tl; simpa [V4, WoH.ws, WoH.ug] using this
 have hcx : ∀ x : WS, x.c = (m.ug d).c → x.c.cp.toNat = cp := fun x e => by rw [e]; exact hcp
 cases j with
 | upd j pv qv =>
  obtain ⟨s1, s2, s3, s4, s5⟩ := hg.j
  have s1' : -1 ≤ j.b.st ∧ j.b.st ≤ (m.ug d).ws.c.wk + 4 := s1
  have s2' : (j.pins.length : Int) ≤ (m.ug d).ws.c.wk := s2
  have hwk' : 1 ≤ (m.ug d).ws.c.wk ∧ (m.ug d).ws.c.wk ≤ 64 := hwk
  have hv0 := (hv w' (KS.refl ..)).1
  have h := (B4u w' jb b j pv qv (m.ug d) hg.w.ok (by omega) hv0 (by omega) (by omega) (by omega)
   (fun w'' hk => (hv w'' (hk.mono (fun x hx => by obtain ⟨r, hr, hxr⟩ := K5.1 hx; exact K5.2 ⟨r, List.mem_append_left _ hr, hxr⟩))).2) (hw.sub (List.sublist_append_left _ _)).self).frame hw
  have hst : (JV.upd j).step (m.ug d).ws = (.upd (A3g j (m.ug d).ws).1, (A3g j (m.ug d).ws).2) := by
   by_cases c : j.b.st = -1
   ·unfold A3g; rw [if_pos c]; exact A3V (by simp [JV.ready, JV.b, c])
   ·unfold A3g; rw [if_neg c]; exact A1y (by simp [JV.ready, JV.waits, JV.b, c])
  refine h.mono fun u w'' hr => ?_
  obtain ⟨y, ⟨h1, h2⟩, h3⟩ := hr
  refine ⟨(.upd (A3g j (m.ug d).ws).1 pv y.1, d.uu y.2, P), ⟨?_, ?_, ?_, ⟨hc.tab, hc.sub, trivial⟩, fun _ => rfl, fun t ht => ht, ?_⟩, h3⟩
  ·show u = D8 ((JV.upd j).step (m.ug d).ws).2.2
   rw [hst]; exact h1
  ·show JV.upd (A3g j (m.ug d).ws).1 = ((JV.upd j).step (m.ug d).ws).1
   rw [hst]
  ·show ((m.ug d).up y.2).ws = ((JV.upd j).step (m.ug d).ws).2.1
   rw [hst]; exact h2
  ·simp only [CJ.pl]
   unfold A3g
   split
   ·rfl
   ·rw [B0x]
 | exp j tv =>
  have hs1 : -1 ≤ j.b.st ∧ j.b.st ≤ 3 := hg.j.2.1
  have h := A9A w' jb b (A23 b) j.b [.int .i64 j.shard, .int .i64 (j.place : Nat), tv] 101 (.pointer (some ⟨m.b, 0, none⟩)) ((JV.exp j).waits (m.ug d).ws) (M1 j (m.ug d).ws).2.2 _ _ _ _ (Or.inr (Or.inl rfl))
   (v7 b j tv :: C8 P :: B8 (m.ug d)) (fun y : Value × WoX × K8 => ((m.ug d).ux y.2.1).ws = (M1 j (m.ug d).ws).2.1 ∧ c6 y.2.1.ts y.2.2 ∧ (y.1, (M1 j (m.ug d).ws).1.table) ∈ y.2.2 ∧ A8l P y.2.2 (M1 j (m.ug d).ws).1.table)
   (fun y => v7 b (M1 j (m.ug d).ws).1 y.1 :: C8 y.2.2 :: B8 ((m.ug d).ux y.2.1))
   (fun w => A6Z w b _) (fun w => B3g w b _) (by unfold v7; (repeat constructor))
   (fun w'' hw'' => B4W w'' b j tv (m.ug d) (hw''.pt (by unfold v7; (repeat constructor))) (WoAt.own hw'' fun r hr => List.mem_cons_of_mem _ (List.mem_cons_of_mem _ (List.mem_cons_of_mem _ hr))))
   (fun h1 h2 w'' hw'' hs => C2E w'' b j tv (m.ug d) P hok (by omega) hc.tb hs) hw
  refine h.mono fun u w'' hr => ?_
  obtain ⟨y, h1, h2⟩ := hr
  cases y with
  | none =>
   obtain ⟨h1, h3⟩ := h1
   have hr : (JV.exp j).ready (m.ug d).ws = false := by rcases h1 with h1 | h1 <;> simp [JV.ready, JV.b, h1]
   have hst := A3V hr
   exact ⟨(.exp j tv, d, P), ⟨by show u = D8 ((JV.exp j).step (m.ug d).ws).2.2; rw [hst]; exact h3, by show JV.exp j = ((JV.exp j).step (m.ug d).ws).1; rw [hst], by show (m.ug d).ws = ((JV.exp j).step (m.ug d).ws).2.1; rw [hst], hc, fun _ => rfl, fun t ht => ht, rfl⟩, h2⟩
  | some y =>
   obtain ⟨⟨h1, h3⟩, h4, h5, h6, h7, h8⟩ := h1
   have hr : (JV.exp j).ready (m.ug d).ws = true := by simp [JV.ready, JV.b, h1, h3]
   have hst : (JV.exp j).step (m.ug d).ws = (.exp (M1 j (m.ug d).ws).1, (M1 j (m.ug d).ws).2) := A1y hr
   refine ⟨(.exp (M1 j (m.ug d).ws).1 y.1, d.ul y.2.1, y.2.2), ⟨by show u = D8 ((JV.exp j).step (m.ug d).ws).2.2; rw [hst]; exact h4, by show JV.exp _ = ((JV.exp j).step (m.ug d).ws).1; rw [hst], by show ((m.ug d).ux y.2.1).ws = ((JV.exp j).step (m.ug d).ws).2.1; rw [hst]; exact h5, ⟨fun t ht => ?_, h6, h7⟩, fun _ => rfl, h8.1, rfl⟩, h2⟩
   rcases h8.2 t ht with h | h
   ·exact hc.tab t h
   ·rw [h]
    have hx := hg'.j
    rw [show (CJ.v (CJ.exp j tv)) = JV.exp j from rfl, show V4 m (.exp j tv, d, P) = (m.ug d).ws from rfl, hst] at hx
    have hx := hx.2.2.1
    rw [hcx _ (by rw [← h5]; rfl)] at hx
    exact hx
 | sta j =>
  have hs1 : -1 ≤ j.st ∧ j.st < 3 * (N : Int) := hg.j.2.1
  have h := A9A w' jb b (A2k b) j [] 104 (.pointer (some ⟨m.b, 0, none⟩)) ((JV.sta j).waits (m.ug d).ws) (Q2 j (m.ug d).ws).2.2 _ _ _ _ (Or.inr (Or.inr (Or.inl rfl)))
   (A2Y b j :: C8 P :: B8 (m.ug d)) (fun y : WoX => ((m.ug d).ux y).ws = (Q2 j (m.ug d).ws).2.1 ∧ y.ts = d.ts)
   (fun y => A2Y b (Q2 j (m.ug d).ws).1 :: C8 P :: B8 ((m.ug d).ux y))
   (fun w => A6Q w b _) (fun w => B38 w b _) (by unfold A2Y; (repeat constructor))
   (fun w'' hw'' => B4V w'' b j (m.ug d) (by show d.ts.length ≤ 1000; omega) (hw''.pt (by unfold A2Y; (repeat constructor))) (WoAt.own hw'' fun r hr => List.mem_cons_of_mem _ (List.mem_cons_of_mem _ (List.mem_cons_of_mem _ hr))) (U9.form (hw''.hold (.own 55 1 (m.ug d).tv (m.ug d).ts.length ((m.ug d).ts.map (·.1))) (by unfold B8; (repeat constructor)))))
   (fun h1 h2 w'' hw'' hs => C14 w'' b j (m.ug d) P hok (by show 1 ≤ d.ts.length; omega) (by omega) hs) hw
  refine h.mono fun u w'' hr => ?_
  obtain ⟨y, h1, h2⟩ := hr
  cases y with
  | none =>
   obtain ⟨h1, h3⟩ := h1
   have hr : (JV.sta j).ready (m.ug d).ws = false := by rcases h1 with h1 | h1 <;> simp [JV.ready, JV.b, h1]
   have hst := A3V hr
   exact ⟨(.sta j, d, P), ⟨by show u = D8 ((JV.sta j).step (m.ug d).ws).2.2; rw [hst]; exact h3, by show JV.sta j = ((JV.sta j).step (m.ug d).ws).1; rw [hst], by show (m.ug d).ws = ((JV.sta j).step (m.ug d).ws).2.1; rw [hst], hc, fun _ => rfl, fun t ht => ht, rfl⟩, h2⟩
  | some y =>
   obtain ⟨⟨h1, h3⟩, h4, h5, h6⟩ := h1
   have hr : (JV.sta j).ready (m.ug d).ws = true := by simp [JV.ready, JV.b, h1, h3]
   have hst : (JV.sta j).step (m.ug d).ws = (.sta (Q2 j (m.ug d).ws).1, (Q2 j (m.ug d).ws).2) := A1y hr
   exact ⟨(.sta (Q2 j (m.ug d).ws).1, d.ul y, P), ⟨by show u = D8 ((JV.sta j).step (m.ug d).ws).2.2; rw [hst]; exact h4, by show JV.sta _ = ((JV.sta j).step (m.ug d).ws).1; rw [hst], by show ((m.ug d).ux y).ws = ((JV.sta j).step (m.ug d).ws).2.1; rw [hst]; exact h5, ⟨hc.tab, fun t ht => hc.sub t (by rw [← h6]; exact ht), trivial⟩, fun _ => rfl, fun t ht => ht, rfl⟩, h2⟩
 | non j =>
  have h := A9A w' jb b (A2j b) j [] 106 (.pointer (some ⟨m.b, 0, none⟩)) false (true, true, false) _ _ _ _ (Or.inr (Or.inr (Or.inr rfl)))
   (A4J b j :: C8 P :: B8 (m.ug d)) (fun _ : Unit => True) (fun y => A4J b (j.refuse 1) :: C8 P :: B8 (m.ug d))
   (fun w => A6Y w b _) (fun w => B3S w b _) (by unfold A4J; (repeat constructor))
   (fun w'' hw'' => B4n w'' _ _) (fun h1 h2 w'' hw'' hs => C21 w'' b j _ P (m.ug d) hs) hw
  refine h.mono fun u w'' hr => ?_
  obtain ⟨y, h1, h2⟩ := hr
  cases y with
  | none =>
   obtain ⟨h1, h3⟩ := h1
   have hr : (JV.non j).ready (m.ug d).ws = false := by rcases h1 with h1 | h1; simp [JV.ready, JV.b, h1]; cases h1
   have hst := A3V hr
   exact ⟨(.non j, d, P), ⟨by show u = D8 ((JV.non j).step (m.ug d).ws).2.2; rw [hst]; exact h3, by show JV.non j = ((JV.non j).step (m.ug d).ws).1; rw [hst], by show (m.ug d).ws = ((JV.non j).step (m.ug d).ws).2.1; rw [hst], hc, fun _ => rfl, fun t ht => ht, rfl⟩, h2⟩
  | some y =>
   obtain ⟨⟨h1, h3⟩, h4, _⟩ := h1
   have hr : (JV.non j).ready (m.ug d).ws = true := by simp [JV.ready, JV.waits, JV.b, h1]
   have hst : (JV.non j).step (m.ug d).ws = (.non (j.refuse 1), (m.ug d).ws, true, true, false) := A1y hr
   exact ⟨(.non (j.refuse 1), d, P), ⟨by show u = D8 ((JV.non j).step (m.ug d).ws).2.2; rw [hst]; exact h4, by show JV.non _ = ((JV.non j).step (m.ug d).ws).1; rw [hst], by show (m.ug d).ws = ((JV.non j).step (m.ug d).ws).2.1; rw [hst], ⟨hc.tab, hc.sub, trivial⟩, fun _ => rfl, fun t ht => ht, rfl⟩, h2⟩
theorem D1v {N E : Nat} {S : List Nat} {w0 : World} {H Hk : List Res} {X : Nat → Prop} {K : Value → WP} (jb b : Nat) (m : WoH) (a : CA) (cp : Nat) (hc : CjC cp a) (hE : E ≤ 1000) (hg : CI N E a.1.v (V4 m a)) (hcp : (V4 m a).c.cp.toNat = cp) (hv : ∀ w', KS false S w0 w' → a.1.RdP w') (hs : Sels (W4 jb b m a ++ Hk) H)
  (hK : ∀ a' : CA, CjN cp m a a' → TW false S w0 (W4 jb b m a' ++ Hk) (K (D8 (a.1.v.step (V4 m a)).2.2))) :
  TW false S w0 H (B3 PR X 17 [.pointer (some ⟨jb, 0, none⟩), .pointer (some ⟨m.b, 0, none⟩)] K) := by
 refine Sels.tw hs ?_
 refine C0 (Hc := W4 jb b m a) (Hk := Hk) q9 (fun w' hw' hs => C0j w' jb b m a cp hc hE hg hcp (B1F hv hw') hs) (A1n _ _) ?_
 rintro a' v ⟨rfl, h⟩
 exact hK a' h
theorem C6r {N E : Nat} {S : List Nat} {w0 : World} {H Hk : List Res} {X : Nat → Prop} {K : Value → WP} (jb b : Nat) (m : WoH) (a : CA) (x : XH) (ac : ActV) (cp : Nat) (hc : CjC cp a) (hE : E ≤ 1000) (hg : WI N E (V4 m a)) (hx : XI E x.xs) (ha : ac.pool.length ≤ 8) (hv : ∀ w', KS false S w0 w' → D2 w' ac.pv ac.pool.length (ac.pool.flatMap E6))
  (hs : Sels (W4 jb b m a ++ (D0 x ++ Hk)) H)
  (hK : ∀ (a' : CA) (x' : XH), a'.1 = a.1 → V4 m a' = N6 ac (V4 m a) x.xs → x'.b = x.b → x'.xs = Q8 ac x.xs → x'.ts = x.ts → CjC cp a' → a'.2.2 = a.2.2 → TW false S w0 (W4 jb b m a' ++ (D0 x' ++ Hk)) (K (.tuple #[]))) :
  TW false S w0 H (B3 PR X 14 [.pointer (some ⟨m.b, 0, none⟩), .pointer (some ⟨x.b, 0, none⟩), ac.val] K) := by
 have hls : (m.ug a.2.1).ls.length ≤ 8 := by have := hg.ok.sl; simpa [V4, WoH.ws] using this
 have hh1 : (m.ug a.2.1).cells.length = _ := hg.ok.cells
 have hh2 := hg.ok.wk
 have hh3 : (m.ug a.2.1).own.length = N := hg.ow
 have hh4 := hg.n
 have hok : HapOk (m.ug a.2.1) x ac := ⟨by omega, by omega, hls, hg.now, hx.now, hx.locks, hx.sh.2, hx.csl, hx.sl, by have := hx.ep; show 0 ≤ x.xs.ep ∧ x.xs.ep ≤ _; omega, by omega⟩
 have hperm : ∀ (d : WoG) (x : XH), (W4 jb b m (a.1, d, a.2.2) ++ (D0 x ++ Hk)).Perm ((B8 (m.ug d) ++ D0 x) ++ ((F7 jb (a.1.I b) :: (p6 b a.1 ++ [C8 a.2.2])) ++ Hk)) := fun d x => by
  refine ((A3d jb b m (a.1, d, a.2.2)).append_right _).trans ?_
  simp only [List.append_assoc]
  refine List.Perm.append_left _ ?_
  rw [← List.append_assoc, ← List.append_assoc]
  refine (List.perm_append_comm.append_right _).trans ?_
  rw [List.append_assoc]
 refine Sels.tw hs ?_
 refine TW.perm ?_ (hperm a.2.1 x)
 refine C0 (Hc := B8 (m.ug a.2.1) ++ D0 x) A4j (fun w' hw' hs => B9d w' (m.ug a.2.1) x ac hok (B1F hv hw') hs) (A1n _ _) ?_
 rintro ⟨d', x'⟩ v ⟨rfl, h1, h2, h3, h4, h5⟩
 refine TW.perm ?_ (hperm d' x').symm
 exact hK (a.1, d', a.2.2) x' rfl h1 h2 h3 h5 ⟨hc.tab, fun t ht => hc.sub t (by rw [← show d'.ts = a.2.1.ts from h4]; exact ht), hc.tb⟩ rfl
end Go.Proofs.YtpnidmkaobfhiaaGreat
namespace Go.Proofs.YtpnidmkaobfhiaaGreat
open Go
def A1q (X : Nat → Prop) (t0 t1 : Value) (R : Value → WP) : WP :=
 B9 PR X (Instr.box 38 t1) fun t3 =>
 A6 PR (Instr.loadAt 38 t3) fun t6 =>
 A0 PR (Instr.build 59 #[(0, t0), (1, t6)]) fun t7 =>
 B9 PR X (Instr.box 59 t7) fun t8 =>
 R t8
theorem A1U : B2 PR 13 := A7 Tryz.func13 (by kernel_rfl) rfl
theorem A7l {X : Nat → Prop} {t0 t1 : Value} {R : Value → WP} {w : World} (h : A1q X t0 t1 R w) : Fn PR X 13 #[t0, t1] w R := C9 (args := [t0, t1]) mixed Tryz.func13 (by kernel_rfl) h
def q4 (X : Nat → Prop) (t0 t1 : Value) (R : Value → WP) : WP :=
 B3 PR X 55 [t0, t1] fun t8 =>
 A0 PR (A9 t0) fun t10 =>
 A0 PR (Instr.fieldAt 59 t10 2) fun t11 =>
 A6 PR (Instr.loadAt 3 t11) fun t12 =>
 A0 PR (binOp .geq 3 t12 (.int .i64 0)) fun t13 =>
 gj t13 true (fun J => J t8) fun t15 =>
 gj t13 true (fun J => A0 PR (binOp .lss 3 t15 (.int .i64 0)) J) fun t16 =>
 gj t13 true (fun J => J t16) fun t17 =>
 gj t17 false (fun J => J t1) fun t18 =>
 gj t17 false (fun J => A0 PR (A9 t18) J) fun t19 =>
 gj t17 false (fun J => A0 PR (Instr.fieldAt 110 t19 4) J) fun t20 =>
 gj t17 false (fun J => A6 PR (Instr.loadAt 54 t20) J) fun t21 =>
 gj t17 false (fun J => J t8) fun t22 =>
 gj t17 false (fun J => A0 PR (Instr.indexAt 54 t21 t22) J) fun t23 =>
 gj t17 false (fun J => A6 PR (Instr.loadAt 3 t23) J) fun t24 =>
 gj t17 false (fun J => A0 PR (binOp .lss 3 t24 (.int .i64 0)) J) fun t25 =>
 gj t13 true (fun J => A0 PR (do pure (if ← asBool t17 then (.bool true) else t25)) J) fun t26 =>
 A0 PR (do pure (if ← asBool t13 then t26 else (.bool false))) fun t27 =>
 R t27
theorem n8 : B2 PR 16 := A7 Tryz.func16 (by kernel_rfl) rfl
theorem A36 {X : Nat → Prop} {t0 t1 : Value} {R : Value → WP} {w : World} (h : q4 X t0 t1 R w) : Fn PR X 16 #[t0, t1] w R := C9 (args := [t0, t1]) mixed Tryz.func16 (by kernel_rfl) h
def u6 (X : Nat → Prop) (t0 t1 : Value) (R : Value → WP) : WP :=
 B9 PR X (Instr.alloc 51 true (.tuple #[])) fun t4 =>
 jn (n := 0) (
 jn (n := 0) (
 B3 PR X 59 [t0, (.int .i64 1)] fun t31 =>
 C2 PR X (Instr.storeAt 51 t4 t31) <|
 A6 PR (F1 [.c 51 t4]) R) fun J1 =>
 A0 PR (A9 t0) fun t11 =>
 A0 PR (Instr.fieldAt 59 t11 1) fun t12 =>
 A0 PR (Instr.fieldAt 38 t12 0) fun t13 =>
 A6 PR (Instr.loadAt 3 t13) fun t14 =>
 A0 PR (binOp .eql 3 t14 (.int .i64 1)) fun t16 =>
 B7 t16 (
 B3 PR X 56 [t0, t1] fun t19 =>
 C2 PR X (Instr.storeAt 51 t4 t19) <|
 A6 PR (F1 [.c 51 t4]) R) (
 A0 PR (binOp .eql 3 t14 (.int .i64 2)) fun t21 =>
 B7 t21 (
 B3 PR X 57 [t0, t1] fun t24 =>
 C2 PR X (Instr.storeAt 51 t4 t24) <|
 A6 PR (F1 [.c 51 t4]) R) (
 A0 PR (binOp .eql 3 t14 (.int .i64 3)) fun t26 =>
 B7 t26 (
 B3 PR X 58 [t0, t1] fun t29 =>
 C2 PR X (Instr.storeAt 51 t4 t29) <|
 A6 PR (F1 [.c 51 t4]) R) (
 J1)))) fun J2 =>
 B3 PR X 16 [t0, t1] fun t7 =>
 A0 PR (Op.unary .not t7) fun t8 =>
 B7 t8 (
 A0 PR (Instr.build 51 #[]) fun t9 =>
 C2 PR X (Instr.storeAt 51 t4 t9) <|
 A6 PR (F1 [.c 51 t4]) R) (
 J2)
theorem A4B : B2 PR 18 := A7 Tryz.func18 (by kernel_rfl) rfl
theorem A4L {X : Nat → Prop} {t0 t1 : Value} {R : Value → WP} {w : World} (h : u6 X t0 t1 R w) : Fn PR X 18 #[t0, t1] w R := C9 (args := [t0, t1]) mixed Tryz.func18 (by kernel_rfl) h
def u0 (X : Nat → Prop) (t0 t1 : Value) (R : Value → WP) : WP :=
 jn (n := 1) (fun t4 =>
 jn (n := 1) (fun t4_1 =>
 R (.int .i64 (-1))) fun J1 =>
 drw <|
 A0 PR (A9 t0) fun t45 =>
 A0 PR (Instr.fieldAt 59 t45 1) fun t46 =>
 A0 PR (Instr.fieldAt 38 t46 0) fun t47 =>
 A6 PR (Instr.loadAt 3 t47) fun t48 =>
 A0 PR (binOp .eql 3 t48 (.int .i64 3)) fun t49 =>
 gj t49 true (fun J => J t0) fun t51 =>
 gj t49 true (fun J => A0 PR (A9 t51) J) fun t52 =>
 gj t49 true (fun J => A0 PR (Instr.fieldAt 59 t52 2) J) fun t53 =>
 gj t49 true (fun J => A6 PR (Instr.loadAt 3 t53) J) fun t54 =>
 gj t49 true (fun J => A0 PR (binOp .geq 3 t54 (.int .i64 0)) J) fun t55 =>
 A0 PR (do pure (if ← asBool t49 then t55 else (.bool false))) fun t56 =>
 gj t56 true (fun J => J t0) fun t58 =>
 gj t56 true (fun J => A0 PR (A9 t58) J) fun t59 =>
 gj t56 true (fun J => A0 PR (Instr.fieldAt 59 t59 2) J) fun t60 =>
 gj t56 true (fun J => A6 PR (Instr.loadAt 3 t60) J) fun t61 =>
 gj t56 true (fun J => J t1) fun t62 =>
 gj t56 true (fun J => A0 PR (A9 t62) J) fun t63 =>
 gj t56 true (fun J => A0 PR (Instr.fieldAt 110 t63 0) J) fun t64 =>
 gj t56 true (fun J => A0 PR (Instr.fieldAt 23 t64 1) J) fun t65 =>
 gj t56 true (fun J => A6 PR (Instr.loadAt 3 t65) J) fun t66 =>
 gj t56 true (fun J => A0 PR (binOp .lss 3 t61 t66) J) fun t67 =>
 A0 PR (do pure (if ← asBool t56 then t67 else (.bool false))) fun t68 =>
 B7 t68 (
 A0 PR (A9 t0) fun t70 =>
 A0 PR (Instr.fieldAt 59 t70 2) fun t71 =>
 A6 PR (Instr.loadAt 3 t71) fun t72 =>
 R t72) (
 J1 t4)) fun J2 =>
 drw <|
 A0 PR (A9 t0) fun t6 =>
 A0 PR (Instr.fieldAt 59 t6 1) fun t7 =>
 A0 PR (Instr.fieldAt 38 t7 0) fun t8 =>
 A6 PR (Instr.loadAt 3 t8) fun t9 =>
 A0 PR (binOp .eql 3 t9 (.int .i64 2)) fun t10 =>
 gj t10 true (fun J => J t0) fun t12 =>
 gj t10 true (fun J => A0 PR (A9 t12) J) fun t13 =>
 gj t10 true (fun J => A0 PR (Instr.fieldAt 59 t13 2) J) fun t14 =>
 gj t10 true (fun J => A6 PR (Instr.loadAt 3 t14) J) fun t15 =>
 gj t10 true (fun J => A0 PR (binOp .eql 3 t15 (.int .i64 0)) J) fun t16 =>
 A0 PR (do pure (if ← asBool t10 then t16 else (.bool false))) fun t17 =>
 gj t17 true (fun J => J t0) fun t19 =>
 gj t17 true (fun J => A0 PR (A9 t19) J) fun t20 =>
 gj t17 true (fun J => A0 PR (Instr.fieldAt 59 t20 1) J) fun t21 =>
 gj t17 true (fun J => A0 PR (Instr.fieldAt 38 t21 3) J) fun t22 =>
 gj t17 true (fun J => A6 PR (Instr.loadAt 3 t22) J) fun t23 =>
 gj t17 true (fun J => A0 PR (binOp .geq 3 t23 (.int .i64 0)) J) fun t24 =>
 A0 PR (do pure (if ← asBool t17 then t24 else (.bool false))) fun t25 =>
 gj t25 true (fun J => J t0) fun t27 =>
 gj t25 true (fun J => A0 PR (A9 t27) J) fun t28 =>
 gj t25 true (fun J => A0 PR (Instr.fieldAt 59 t28 1) J) fun t29 =>
 gj t25 true (fun J => A0 PR (Instr.fieldAt 38 t29 3) J) fun t30 =>
 gj t25 true (fun J => A6 PR (Instr.loadAt 3 t30) J) fun t31 =>
 gj t25 true (fun J => J t1) fun t32 =>
 gj t25 true (fun J => A0 PR (A9 t32) J) fun t33 =>
 gj t25 true (fun J => A0 PR (Instr.fieldAt 110 t33 0) J) fun t34 =>
 gj t25 true (fun J => A0 PR (Instr.fieldAt 23 t34 1) J) fun t35 =>
 gj t25 true (fun J => A6 PR (Instr.loadAt 3 t35) J) fun t36 =>
 gj t25 true (fun J => A0 PR (binOp .lss 3 t31 t36) J) fun t37 =>
 A0 PR (do pure (if ← asBool t25 then t37 else (.bool false))) fun t38 =>
 B7 t38 (
 A0 PR (A9 t0) fun t40 =>
 A0 PR (Instr.fieldAt 59 t40 1) fun t41 =>
 A0 PR (Instr.fieldAt 38 t41 3) fun t42 =>
 A6 PR (Instr.loadAt 3 t42) fun t43 =>
 R t43) (
 J2 (.int .i64 0))
theorem A33 : B2 PR 55 := A7 Tryz.func55 (by kernel_rfl) rfl
theorem A4K {X : Nat → Prop} {t0 t1 : Value} {R : Value → WP} {w : World} (h : u0 X t0 t1 R w) : Fn PR X 55 #[t0, t1] w R := C9 (args := [t0, t1]) mixed Tryz.func55 (by kernel_rfl) h
def E9 (X : Nat → Prop) (t0 t1 : Value) (R : Value → WP) : WP :=
 B9 PR X (Instr.alloc 51 true (.tuple #[])) fun t4 =>
 drw <|
 A0 PR (A9 t0) fun t8 =>
 A0 PR (Instr.fieldAt 59 t8 2) fun t9 =>
 A6 PR (Instr.loadAt 3 t9) fun t10 =>
 A0 PR (A9 t1) fun t12 =>
 A0 PR (Instr.fieldAt 110 t12 0) fun t13 =>
 A0 PR (Instr.fieldAt 23 t13 0) fun t14 =>
 A6 PR (Instr.loadAt 3 t14) fun t15 =>
 A0 PR (binOp .sub 3 t10 t15) fun t16 =>
 jn (n := 0) (
 A0 PR (A9 t0) fun t32 =>
 A0 PR (Instr.fieldAt 59 t32 1) fun t33 =>
 A0 PR (Instr.fieldAt 38 t33 2) fun t34 =>
 A6 PR (Instr.loadAt 36 t34) fun t35 =>
 B3 PR X 81 [t35] fun t36 =>
 jn (n := 0) (
 jn (n := 0) (
 A0 PR (A9 t0) fun t56 =>
 A0 PR (Instr.fieldAt 59 t56 2) fun t57 =>
 A6 PR (Instr.loadAt 3 t57) fun t58 =>
 A0 PR (binOp .add 3 t58 (.int .i64 1)) fun t59 =>
 A0 PR (A9 t0) fun t60 =>
 A0 PR (Instr.fieldAt 59 t60 2) fun t61 =>
 C2 PR X (Instr.storeAt 3 t61 t59) <|
 jn (n := 0) (
 A0 PR (Instr.build 51 #[]) fun t165 =>
 C2 PR X (Instr.storeAt 51 t4 t165) <|
 A6 PR (F1 [.c 51 t4]) R) fun J1 =>
 A0 PR (binOp .eql 3 t16 (.int .i64 1)) fun t85 =>
 B7 t85 (
 drw <|
 A0 PR (A9 t1) fun t89 =>
 A0 PR (Instr.fieldAt 110 t89 5) fun t90 =>
 A6 PR (Instr.loadAt 107 t90) fun t91 =>
 A0 PR (A9 t0) fun t93 =>
 A0 PR (Instr.fieldAt 59 t93 4) fun t94 =>
 A6 PR (Instr.loadAt 3 t94) fun t95 =>
 A0 PR (A9 t0) fun t97 =>
 A0 PR (Instr.fieldAt 59 t97 1) fun t98 =>
 A0 PR (Instr.fieldAt 38 t98 2) fun t99 =>
 A6 PR (Instr.loadAt 36 t99) fun t100 =>
 B3 PR X 49 [t91, t95, t100] fun t101 =>
 A0 PR (Instr.extract t101 0) fun t102 =>
 A0 PR (Instr.extract t101 1) fun t103 =>
 A0 PR (A9 t1) fun t104 =>
 A0 PR (Instr.fieldAt 110 t104 5) fun t105 =>
 C2 PR X (Instr.storeAt 107 t105 t102) <|
 J1) (
 A0 PR (binOp .eql 3 t16 (.int .i64 2)) fun t107 =>
 B7 t107 (
 A0 PR (A9 t1) fun t110 =>
 A0 PR (Instr.fieldAt 110 t110 2) fun t111 =>
 A6 PR (Instr.loadAt 3 t111) fun t112 =>
 A0 PR (A9 t0) fun t113 =>
 A0 PR (Instr.fieldAt 59 t113 5) fun t114 =>
 C2 PR X (Instr.storeAt 3 t114 t112) <|
 J1) (
 A0 PR (binOp .eql 3 t16 (.int .i64 3)) fun t116 =>
 B7 t116 (
 A0 PR (A9 t0) fun t119 =>
 A0 PR (Instr.fieldAt 59 t119 4) fun t120 =>
 A6 PR (Instr.loadAt 3 t120) fun t121 =>
 A0 PR (binOp .add 3 t121 (.int .i64 1)) fun t122 =>
 A0 PR (A9 t1) fun t123 =>
 A0 PR (Instr.fieldAt 110 t123 2) fun t124 =>
 C2 PR X (Instr.storeAt 3 t124 t122) <|
 A0 PR (Instr.build 51 #[(0, (.bool true))]) fun t125 =>
 C2 PR X (Instr.storeAt 51 t4 t125) <|
 A6 PR (F1 [.c 51 t4]) R) (
 A0 PR (binOp .eql 3 t16 (.int .i64 4)) fun t127 =>
 B7 t127 (
 A0 PR (A9 t1) fun t130 =>
 A0 PR (Instr.fieldAt 110 t130 1) fun t131 =>
 A6 PR (Instr.loadAt 3 t131) fun t132 =>
 A0 PR (binOp .add 3 t132 (.int .i64 1)) fun t133 =>
 A0 PR (A9 t1) fun t134 =>
 A0 PR (Instr.fieldAt 110 t134 1) fun t135 =>
 C2 PR X (Instr.storeAt 3 t135 t133) <|
 jn (n := 0) (
 A0 PR (A9 t0) fun t162 =>
 A0 PR (Instr.fieldAt 59 t162 2) fun t163 =>
 C2 PR X (Instr.storeAt 3 t163 (.int .i64 (-1))) <|
 A0 PR (Instr.build 51 #[(1, (.bool true))]) fun t164 =>
 C2 PR X (Instr.storeAt 51 t4 t164) <|
 A6 PR (F1 [.c 51 t4]) R) fun J2 =>
 A0 PR (A9 t0) fun t137 =>
 A0 PR (Instr.fieldAt 59 t137 5) fun t138 =>
 A6 PR (Instr.loadAt 3 t138) fun t139 =>
 A0 PR (binOp .gtr 3 t139 (.int .i64 0)) fun t140 =>
 B7 t140 (
 drw <|
 A0 PR (A9 t1) fun t144 =>
 A0 PR (Instr.fieldAt 110 t144 6) fun t145 =>
 A6 PR (Instr.loadAt 108 t145) fun t146 =>
 A0 PR (A9 t0) fun t148 =>
 A0 PR (Instr.fieldAt 59 t148 5) fun t149 =>
 A6 PR (Instr.loadAt 3 t149) fun t150 =>
 A0 PR (binOp .sub 3 t150 (.int .i64 1)) fun t151 =>
 A0 PR (A9 t1) fun t153 =>
 A0 PR (Instr.fieldAt 110 t153 1) fun t154 =>
 A6 PR (Instr.loadAt 3 t154) fun t155 =>
 B3 PR X 83 [t146, t151, t155] fun t156 =>
 A0 PR (Instr.extract t156 0) fun t157 =>
 A0 PR (Instr.extract t156 1) fun t158 =>
 A0 PR (A9 t1) fun t159 =>
 A0 PR (Instr.fieldAt 110 t159 6) fun t160 =>
 C2 PR X (Instr.storeAt 108 t160 t157) <|
 J2) (
 J2)) (
 drw <|
 kt (n := 0) (
 J1) fun C3 =>
 A0 PR (A9 t0) fun t66_1 =>
 A0 PR (Instr.fieldAt 59 t66_1 3) fun t67_1 =>
 A6 PR (Instr.loadAt 54 t67_1) fun t68_1 =>
 A0 PR (A9 t1) fun t71_1 =>
 A0 PR (Instr.fieldAt 110 t71_1 3) fun t72_1 =>
 A6 PR (Instr.loadAt 54 t72_1) fun t73_1 =>
 A0 PR (A9 t0) fun t75_1 =>
 A0 PR (Instr.fieldAt 59 t75_1 2) fun t76_1 =>
 A6 PR (Instr.loadAt 3 t76_1) fun t77_1 =>
 A0 PR (Instr.indexAt 54 t73_1 t77_1) fun t78_1 =>
 A6 PR (Instr.loadAt 3 t78_1) fun t79_1 =>
 both (B9 PR X (Instr.buildSlice 54 0 #[]) fun t64_2 =>
 watch PR [(none, (Instr.loadAt 3 t78_1), t79_1), (none, (Instr.loadAt 3 t76_1), t77_1), (none, (Instr.loadAt 54 t72_1), t73_1), (none, (Instr.loadAt 54 t67_1), t68_1)] <|
 both (B9 PR X (A8 .append #[54, 54] 54 [t64_2, t68_1]) fun t69_3 =>
 watch PR [(none, (Instr.loadAt 3 t78_1), t79_1), (none, (Instr.loadAt 3 t76_1), t77_1), (none, (Instr.loadAt 54 t72_1), t73_1)] <|
 B9 PR X (Instr.buildSlice 54 1 #[(0, t79_1)]) fun t80_3 =>
 B9 PR X (A8 .append #[54, 54] 54 [t69_3, t80_3]) fun t81_3 =>
 A0 PR (A9 t0) fun t82_3 =>
 A0 PR (Instr.fieldAt 59 t82_3 3) fun t83_3 =>
 C2 PR X (Instr.storeAt 54 t83_3 t81_3) <|
 C3) (both (B9 PR X (Instr.buildSlice 54 1 #[(0, t79_1)]) fun t80_2 =>
 watch PR [(none, (Instr.loadAt 54 t67_1), t68_1)] <|
 B9 PR X (A8 .append #[54, 54] 54 [t64_2, t68_1]) fun t69_2 =>
 B9 PR X (A8 .append #[54, 54] 54 [t69_2, t80_2]) fun t81_2 =>
 A0 PR (A9 t0) fun t82_2 =>
 A0 PR (Instr.fieldAt 59 t82_2 3) fun t83_2 =>
 C2 PR X (Instr.storeAt 54 t83_2 t81_2) <|
 C3) ((fun _ => True)))) (both (B9 PR X (Instr.buildSlice 54 1 #[(0, t79_1)]) fun t80_1 =>
 watch PR [(none, (Instr.loadAt 54 t67_1), t68_1)] <|
 B9 PR X (Instr.buildSlice 54 0 #[]) fun t64_1 =>
 watch PR [(none, (Instr.loadAt 54 t67_1), t68_1)] <|
 B9 PR X (A8 .append #[54, 54] 54 [t64_1, t68_1]) fun t69_1 =>
 B9 PR X (A8 .append #[54, 54] 54 [t69_1, t80_1]) fun t81_1 =>
 A0 PR (A9 t0) fun t82_1 =>
 A0 PR (Instr.fieldAt 59 t82_1 3) fun t83_1 =>
 C2 PR X (Instr.storeAt 54 t83_1 t81_1) <|
 C3) ((fun _ => True)))))))) fun J4 =>
 A0 PR (binOp .eql 3 t16 (.int .i64 0)) fun t50 =>
 B7 t50 (
 B3 PR X 82 [t0, t1] fun t53 =>
 C2 PR X (Instr.storeAt 51 t4 t53) <|
 A6 PR (F1 [.c 51 t4]) R) (
 J4)) fun J5 =>
 A0 PR (A9 t0) fun t38 =>
 A0 PR (Instr.fieldAt 59 t38 2) fun t39 =>
 A6 PR (Instr.loadAt 3 t39) fun t40 =>
 A0 PR (binOp .eql 3 t40 (.int .i64 0)) fun t41 =>
 gj t41 true (fun J => J t36) fun t43 =>
 gj t41 true (fun J => A0 PR (binOp .neq 31 t43 (.int .i64 0)) J) fun t44 =>
 A0 PR (do pure (if ← asBool t41 then t44 else (.bool false))) fun t45 =>
 B7 t45 (
 B3 PR X 59 [t0, t36] fun t48 =>
 C2 PR X (Instr.storeAt 51 t4 t48) <|
 A6 PR (F1 [.c 51 t4]) R) (
 J5)) fun J6 =>
 A0 PR (A9 t0) fun t18 =>
 A0 PR (Instr.fieldAt 59 t18 2) fun t19 =>
 A6 PR (Instr.loadAt 3 t19) fun t20 =>
 A0 PR (binOp .eql 3 t20 (.int .i64 0)) fun t21 =>
 gj t21 true (fun J => J t0) fun t23 =>
 gj t21 true (fun J => A0 PR (A9 t23) J) fun t24 =>
 gj t21 true (fun J => A0 PR (Instr.fieldAt 59 t24 0) J) fun t25 =>
 gj t21 true (fun J => A6 PR (Instr.loadAt 3 t25) J) fun t26 =>
 gj t21 true (fun J => A0 PR (binOp .neq 3 t26 (.int .i64 0)) J) fun t27 =>
 A0 PR (do pure (if ← asBool t21 then t27 else (.bool false))) fun t28 =>
 B7 t28 (
 B3 PR X 59 [t0, (.int .i64 1)] fun t30 =>
 C2 PR X (Instr.storeAt 51 t4 t30) <|
 A6 PR (F1 [.c 51 t4]) R) (
 J6)
theorem A3A : B2 PR 56 := A7 Tryz.func56 (by kernel_rfl) rfl
theorem F8 {X : Nat → Prop} {t0 t1 : Value} {R : Value → WP} {w : World} (h : E9 X t0 t1 R w) : Fn PR X 56 #[t0, t1] w R := C9 (args := [t0, t1]) mixed Tryz.func56 (by kernel_rfl) h
def K6 (X : Nat → Prop) (t0 t1 : Value) (R : Value → WP) : WP :=
 B9 PR X (Instr.alloc 51 true (.tuple #[])) fun t4 =>
 A0 PR (A9 t0) fun t8 =>
 A0 PR (Instr.fieldAt 59 t8 1) fun t9 =>
 A0 PR (Instr.fieldAt 38 t9 3) fun t10 =>
 A6 PR (Instr.loadAt 3 t10) fun t11 =>
 jn (n := 0) (
 A0 PR (A9 t0) fun t33 =>
 A0 PR (Instr.fieldAt 59 t33 2) fun t34 =>
 A6 PR (Instr.loadAt 3 t34) fun t35 =>
 A0 PR (binOp .add 3 t35 (.int .i64 1)) fun t38 =>
 A0 PR (A9 t0) fun t39 =>
 A0 PR (Instr.fieldAt 59 t39 2) fun t40 =>
 C2 PR X (Instr.storeAt 3 t40 t38) <|
 jn (n := 0) (
 A0 PR (Instr.build 51 #[]) fun t124 =>
 C2 PR X (Instr.storeAt 51 t4 t124) <|
 A6 PR (F1 [.c 51 t4]) R) fun J1 =>
 A0 PR (binOp .eql 3 t35 (.int .i64 0)) fun t43 =>
 B7 t43 (
 drw <|
 A0 PR (A9 t1) fun t45 =>
 A0 PR (Instr.fieldAt 110 t45 4) fun t46 =>
 A6 PR (Instr.loadAt 54 t46) fun t47 =>
 A0 PR (A9 t0) fun t50 =>
 A0 PR (Instr.fieldAt 59 t50 0) fun t51 =>
 A6 PR (Instr.loadAt 3 t51) fun t52 =>
 A0 PR (Instr.indexAt 54 t47 t11) fun t53 =>
 C2 PR X (Instr.storeAt 3 t53 t52) <|
 J1) (
 A0 PR (binOp .eql 3 t35 (.int .i64 1)) fun t55 =>
 B7 t55 (
 drw <|
 A0 PR (A9 t1) fun t61 =>
 A0 PR (Instr.fieldAt 110 t61 7) fun t62 =>
 A6 PR (Instr.loadAt 72 t62) fun t63 =>
 A0 PR (Instr.indexAt 72 t63 t11) fun t65 =>
 A6 PR (Instr.loadAt 55 t65) fun t66 =>
 A0 PR (A9 t1) fun t68 =>
 A0 PR (Instr.fieldAt 110 t68 8) fun t69 =>
 A6 PR (Instr.loadAt 54 t69) fun t70 =>
 A0 PR (Instr.indexAt 54 t70 t11) fun t72 =>
 A6 PR (Instr.loadAt 3 t72) fun t73 =>
 A0 PR (A9 t1) fun t75 =>
 A0 PR (Instr.fieldAt 110 t75 9) fun t76 =>
 A6 PR (Instr.loadAt 3 t76) fun t77 =>
 B3 PR X 84 [t66, t73, (.int .i64 4), t77] fun t78 =>
 A0 PR (Instr.extract t78 0) fun t79 =>
 A0 PR (Instr.extract t78 1) fun t80 =>
 A0 PR (Instr.extract t78 2) fun t81 =>
 A0 PR (A9 t0) fun t82 =>
 A0 PR (Instr.fieldAt 59 t82 6) fun t83 =>
 C2 PR X (Instr.storeAt 55 t83 t79) <|
 A0 PR (A9 t0) fun t84 =>
 A0 PR (Instr.fieldAt 59 t84 7) fun t85 =>
 C2 PR X (Instr.storeAt 3 t85 t80) <|
 A0 PR (A9 t0) fun t86 =>
 A0 PR (Instr.fieldAt 59 t86 8) fun t87 =>
 A0 PR (Instr.fieldAt 57 t87 3) fun t88 =>
 C2 PR X (Instr.storeAt 3 t88 t81) <|
 A0 PR (Instr.build 51 #[(0, (.bool true))]) fun t89 =>
 C2 PR X (Instr.storeAt 51 t4 t89) <|
 A6 PR (F1 [.c 51 t4]) R) (
 A0 PR (binOp .eql 3 t35 (.int .i64 2)) fun t91 =>
 B7 t91 (
 drw <|
 A0 PR (A9 t1) fun t93 =>
 A0 PR (Instr.fieldAt 110 t93 7) fun t94 =>
 A6 PR (Instr.loadAt 72 t94) fun t95 =>
 A0 PR (A9 t0) fun t98 =>
 A0 PR (Instr.fieldAt 59 t98 6) fun t99 =>
 A6 PR (Instr.loadAt 55 t99) fun t100 =>
 A0 PR (Instr.indexAt 72 t95 t11) fun t101 =>
 C2 PR X (Instr.storeAt 55 t101 t100) <|
 drw <|
 A0 PR (A9 t1) fun t103 =>
 A0 PR (Instr.fieldAt 110 t103 8) fun t104 =>
 A6 PR (Instr.loadAt 54 t104) fun t105 =>
 A0 PR (A9 t0) fun t108 =>
 A0 PR (Instr.fieldAt 59 t108 7) fun t109 =>
 A6 PR (Instr.loadAt 3 t109) fun t110 =>
 A0 PR (Instr.indexAt 54 t105 t11) fun t111 =>
 C2 PR X (Instr.storeAt 3 t111 t110) <|
 J1) (
 A0 PR (binOp .eql 3 t35 (.int .i64 3)) fun t113 =>
 B7 t113 (
 A0 PR (A9 t1) fun t115 =>
 A0 PR (Instr.fieldAt 110 t115 4) fun t116 =>
 A6 PR (Instr.loadAt 54 t116) fun t117 =>
 A0 PR (Instr.indexAt 54 t117 t11) fun t119 =>
 C2 PR X (Instr.storeAt 3 t119 (.int .i64 (-1))) <|
 A0 PR (A9 t0) fun t121 =>
 A0 PR (Instr.fieldAt 59 t121 2) fun t122 =>
 C2 PR X (Instr.storeAt 3 t122 (.int .i64 (-1))) <|
 A0 PR (Instr.build 51 #[(1, (.bool true))]) fun t123 =>
 C2 PR X (Instr.storeAt 51 t4 t123) <|
 A6 PR (F1 [.c 51 t4]) R) (
 J1))))) fun J2 =>
 A0 PR (A9 t0) fun t13 =>
 A0 PR (Instr.fieldAt 59 t13 2) fun t14 =>
 A6 PR (Instr.loadAt 3 t14) fun t15 =>
 A0 PR (binOp .eql 3 t15 (.int .i64 0)) fun t16 =>
 gj t16 true (fun J => J t11) fun t18 =>
 gj t16 true (fun J => A0 PR (binOp .lss 3 t18 (.int .i64 0)) J) fun t19 =>
 gj t16 true (fun J => J t19) fun t20 =>
 gj t20 false (fun J => J t11) fun t21 =>
 gj t20 false (fun J => J t1) fun t22 =>
 gj t20 false (fun J => A0 PR (A9 t22) J) fun t23 =>
 gj t20 false (fun J => A0 PR (Instr.fieldAt 110 t23 0) J) fun t24 =>
 gj t20 false (fun J => A0 PR (Instr.fieldAt 23 t24 1) J) fun t25 =>
 gj t20 false (fun J => A6 PR (Instr.loadAt 3 t25) J) fun t26 =>
 gj t20 false (fun J => A0 PR (binOp .geq 3 t21 t26) J) fun t27 =>
 gj t16 true (fun J => A0 PR (do pure (if ← asBool t20 then (.bool true) else t27)) J) fun t28 =>
 A0 PR (do pure (if ← asBool t16 then t28 else (.bool false))) fun t29 =>
 B7 t29 (
 B3 PR X 59 [t0, (.int .i64 1)] fun t31 =>
 C2 PR X (Instr.storeAt 51 t4 t31) <|
 A6 PR (F1 [.c 51 t4]) R) (
 J2)
theorem A3C : B2 PR 57 := A7 Tryz.func57 (by kernel_rfl) rfl
theorem N7 {X : Nat → Prop} {t0 t1 : Value} {R : Value → WP} {w : World} (h : K6 X t0 t1 R w) : Fn PR X 57 #[t0, t1] w R := C9 (args := [t0, t1]) mixed Tryz.func57 (by kernel_rfl) h
def S5 (X : Nat → Prop) (t0 t1 : Value) (R : Value → WP) : WP :=
 B9 PR X (Instr.alloc 51 true (.tuple #[])) fun t4 =>
 drw <|
 A0 PR (A9 t1) fun t8 =>
 A0 PR (Instr.fieldAt 110 t8 0) fun t9 =>
 A0 PR (Instr.fieldAt 23 t9 1) fun t10 =>
 A6 PR (Instr.loadAt 3 t10) fun t11 =>
 A0 PR (A9 t0) fun t13 =>
 A0 PR (Instr.fieldAt 59 t13 2) fun t14 =>
 A6 PR (Instr.loadAt 3 t14) fun t15 =>
 A0 PR (binOp .add 3 t15 (.int .i64 1)) fun t18 =>
 A0 PR (A9 t0) fun t19 =>
 A0 PR (Instr.fieldAt 59 t19 2) fun t20 =>
 C2 PR X (Instr.storeAt 3 t20 t18) <|
 jn (n := 0) (
 jn (n := 0) (
 A0 PR (A9 t1) fun t65 =>
 A0 PR (Instr.fieldAt 110 t65 4) fun t66 =>
 A6 PR (Instr.loadAt 54 t66) fun t67 =>
 A0 PR (binOp .mul 3 (.int .i64 2) t11) fun t70 =>
 A0 PR (binOp .sub 3 t15 t70) fun t71 =>
 A0 PR (Instr.indexAt 54 t67 t71) fun t72 =>
 C2 PR X (Instr.storeAt 3 t72 (.int .i64 (-1))) <|
 jn (n := 0) (
 A0 PR (Instr.build 51 #[]) fun t82 =>
 C2 PR X (Instr.storeAt 51 t4 t82) <|
 A6 PR (F1 [.c 51 t4]) R) fun J1 =>
 A0 PR (binOp .mul 3 (.int .i64 3) t11) fun t75 =>
 A0 PR (binOp .sub 3 t75 (.int .i64 1)) fun t76 =>
 A0 PR (binOp .eql 3 t15 t76) fun t77 =>
 B7 t77 (
 A0 PR (A9 t0) fun t79 =>
 A0 PR (Instr.fieldAt 59 t79 2) fun t80 =>
 C2 PR X (Instr.storeAt 3 t80 (.int .i64 (-1))) <|
 A0 PR (Instr.build 51 #[(1, (.bool true))]) fun t81 =>
 C2 PR X (Instr.storeAt 51 t4 t81) <|
 A6 PR (F1 [.c 51 t4]) R) (
 J1)) fun J2 =>
 A0 PR (binOp .mul 3 (.int .i64 2) t11) fun t41 =>
 A0 PR (binOp .lss 3 t15 t41) fun t42 =>
 B7 t42 (
 drw <|
 A0 PR (A9 t0) fun t45 =>
 A0 PR (Instr.fieldAt 59 t45 8) fun t46 =>
 A0 PR (Instr.fieldAt 57 t46 3) fun t47 =>
 A6 PR (Instr.loadAt 3 t47) fun t48 =>
 A0 PR (A9 t1) fun t50 =>
 A0 PR (Instr.fieldAt 110 t50 7) fun t51 =>
 A6 PR (Instr.loadAt 72 t51) fun t52 =>
 A0 PR (binOp .sub 3 t15 t11) fun t55 =>
 A0 PR (Instr.indexAt 72 t52 t55) fun t56 =>
 A6 PR (Instr.loadAt 55 t56) fun t57 =>
 B3 PR X 85 [t57, (.int .i64 1)] fun t58 =>
 watch PR [(none, (Instr.loadAt 3 t47), t48)] <|
 A0 PR (binOp .add 3 t48 t58) fun t59 =>
 A0 PR (A9 t0) fun t60 =>
 A0 PR (Instr.fieldAt 59 t60 8) fun t61 =>
 A0 PR (Instr.fieldAt 57 t61 3) fun t62 =>
 C2 PR X (Instr.storeAt 3 t62 t59) <|
 A0 PR (Instr.build 51 #[]) fun t63 =>
 C2 PR X (Instr.storeAt 51 t4 t63) <|
 A6 PR (F1 [.c 51 t4]) R) (
 J2)) fun J3 =>
 A0 PR (binOp .lss 3 t15 t11) fun t23 =>
 B7 t23 (
 drw <|
 A0 PR (A9 t1) fun t25 =>
 A0 PR (Instr.fieldAt 110 t25 4) fun t26 =>
 A6 PR (Instr.loadAt 54 t26) fun t27 =>
 A0 PR (A9 t0) fun t30 =>
 A0 PR (Instr.fieldAt 59 t30 0) fun t31 =>
 A6 PR (Instr.loadAt 3 t31) fun t32 =>
 A0 PR (Instr.indexAt 54 t27 t15) fun t33 =>
 C2 PR X (Instr.storeAt 3 t33 t32) <|
 A0 PR (binOp .sub 3 t11 (.int .i64 1)) fun t36 =>
 A0 PR (binOp .eql 3 t15 t36) fun t37 =>
 A0 PR (Instr.build 51 #[(0, t37)]) fun t38 =>
 C2 PR X (Instr.storeAt 51 t4 t38) <|
 A6 PR (F1 [.c 51 t4]) R) (
 J3)
theorem A3e : B2 PR 58 := A7 Tryz.func58 (by kernel_rfl) rfl
theorem Y0 {X : Nat → Prop} {t0 t1 : Value} {R : Value → WP} {w : World} (h : S5 X t0 t1 R w) : Fn PR X 58 #[t0, t1] w R := C9 (args := [t0, t1]) mixed Tryz.func58 (by kernel_rfl) h
def m7 (X : Nat → Prop) (t0 t1 : Value) (R : Value → WP) : WP :=
 B9 PR X (Instr.alloc 51 true (.tuple #[])) fun t4 =>
 A0 PR (A9 t0) fun t6 =>
 A0 PR (Instr.fieldAt 59 t6 2) fun t7 =>
 C2 PR X (Instr.storeAt 3 t7 (.int .i64 (-1))) <|
 A0 PR (Instr.build 57 #[(0, t1)]) fun t10 =>
 A0 PR (A9 t0) fun t11 =>
 A0 PR (Instr.fieldAt 59 t11 8) fun t12 =>
 C2 PR X (Instr.storeAt 57 t12 t10) <|
 A0 PR (Instr.build 51 #[(0, (.bool true)), (1, (.bool true))]) fun t13 =>
 C2 PR X (Instr.storeAt 51 t4 t13) <|
 A6 PR (F1 [.c 51 t4]) R
theorem H9 : B2 PR 59 := A7 Tryz.func59 (by kernel_rfl) rfl
theorem A3b {X : Nat → Prop} {t0 t1 : Value} {R : Value → WP} {w : World} (h : m7 X t0 t1 R w) : Fn PR X 59 #[t0, t1] w R := C9 (args := [t0, t1]) mixed Tryz.func59 (by kernel_rfl) h
def T1 (X : Nat → Prop) (t0 t1 : Value) (R : Value → WP) : WP :=
 B9 PR X (Instr.alloc 51 true (.tuple #[])) fun t4 =>
 drw <|
 A0 PR (A9 t1) fun t9 =>
 A0 PR (Instr.fieldAt 110 t9 6) fun t10 =>
 A6 PR (Instr.loadAt 108 t10) fun t11 =>
 A0 PR (A9 t0) fun t13 =>
 A0 PR (Instr.fieldAt 59 t13 3) fun t14 =>
 A6 PR (Instr.loadAt 54 t14) fun t15 =>
 B3 PR X 103 [t11, t15] fun t16 =>
 jn (n := 0) (
 A0 PR (A9 t1) fun t46 =>
 A0 PR (Instr.fieldAt 110 t46 6) fun t47 =>
 A6 PR (Instr.loadAt 108 t47) fun t48 =>
 B3 PR X 105 [t48] fun t49 =>
 A0 PR (Instr.extract t49 0) fun t50 =>
 A0 PR (Instr.extract t49 1) fun t51 =>
 jn (n := 0) (
 A0 PR (A9 t1) fun t58 =>
 A0 PR (Instr.fieldAt 110 t58 6) fun t59 =>
 C2 PR X (Instr.storeAt 108 t59 t50) <|
 A0 PR (A9 t1) fun t63 =>
 A0 PR (Instr.fieldAt 110 t63 5) fun t64 =>
 A6 PR (Instr.loadAt 107 t64) fun t65 =>
 B3 PR X 48 [t65, t51] fun t67 =>
 A0 PR (Instr.extract t67 0) fun t68 =>
 A0 PR (Instr.extract t67 1) fun t69 =>
 A0 PR (A9 t1) fun t70 =>
 A0 PR (Instr.fieldAt 110 t70 5) fun t71 =>
 C2 PR X (Instr.storeAt 107 t71 t68) <|
 A0 PR (A9 t0) fun t74 =>
 A0 PR (Instr.fieldAt 59 t74 4) fun t75 =>
 C2 PR X (Instr.storeAt 3 t75 t51) <|
 A0 PR (A9 t0) fun t78 =>
 A0 PR (Instr.fieldAt 59 t78 2) fun t79 =>
 A6 PR (Instr.loadAt 3 t79) fun t80 =>
 A0 PR (binOp .add 3 t80 (.int .i64 1)) fun t81 =>
 A0 PR (A9 t0) fun t82 =>
 A0 PR (Instr.fieldAt 59 t82 2) fun t83 =>
 C2 PR X (Instr.storeAt 3 t83 t81) <|
 A0 PR (Instr.build 51 #[]) fun t84 =>
 C2 PR X (Instr.storeAt 51 t4 t84) <|
 A6 PR (F1 [.c 51 t4]) R) fun J1 =>
 A0 PR (binOp .lss 3 t51 (.int .i64 0)) fun t53 =>
 B7 t53 (
 B3 PR X 59 [t0, (.int .i64 13)] fun t55 =>
 C2 PR X (Instr.storeAt 51 t4 t55) <|
 A6 PR (F1 [.c 51 t4]) R) (
 J1)) fun J2 =>
 A0 PR (binOp .geq 3 t16 (.int .i64 0)) fun t18 =>
 B7 t18 (
 A0 PR (A9 t1) fun t22 =>
 A0 PR (Instr.fieldAt 110 t22 5) fun t23 =>
 A6 PR (Instr.loadAt 107 t23) fun t24 =>
 B3 PR X 51 [t24, t16] fun t26 =>
 A0 PR (Instr.extract t26 0) fun t27 =>
 A0 PR (Instr.extract t26 1) fun t28 =>
 A0 PR (A9 t1) fun t29 =>
 A0 PR (Instr.fieldAt 110 t29 5) fun t30 =>
 C2 PR X (Instr.storeAt 107 t30 t27) <|
 A0 PR (A9 t1) fun t34 =>
 A0 PR (Instr.fieldAt 110 t34 6) fun t35 =>
 A6 PR (Instr.loadAt 108 t35) fun t36 =>
 B3 PR X 104 [t36, t16] fun t38 =>
 A0 PR (Instr.extract t38 0) fun t39 =>
 A0 PR (Instr.extract t38 1) fun t40 =>
 A0 PR (A9 t1) fun t41 =>
 A0 PR (Instr.fieldAt 110 t41 6) fun t42 =>
 C2 PR X (Instr.storeAt 108 t42 t39) <|
 A0 PR (Instr.build 51 #[]) fun t43 =>
 C2 PR X (Instr.storeAt 51 t4 t43) <|
 A6 PR (F1 [.c 51 t4]) R) (
 J2)
theorem A4A : B2 PR 82 := A7 Tryz.func82 (by kernel_rfl) rfl
theorem Z3 {X : Nat → Prop} {t0 t1 : Value} {R : Value → WP} {w : World} (h : T1 X t0 t1 R w) : Fn PR X 82 #[t0, t1] w R := C9 (args := [t0, t1]) mixed Tryz.func82 (by kernel_rfl) h
end Go.Proofs.YtpnidmkaobfhiaaGreat
namespace Go.Proofs.YtpnidmkaobfhiaaGreat
open Go
end Go.Proofs.YtpnidmkaobfhiaaGreat
namespace Go.Proofs.YtpnidmkaobfhiaaGreat
open Go
end Go.Proofs.YtpnidmkaobfhiaaGreat
namespace Go.Proofs.YtpnidmkaobfhiaaGreat
open Go
end Go.Proofs.YtpnidmkaobfhiaaGreat
namespace Go.Proofs.YtpnidmkaobfhiaaGreat
open Go
section
variable {κ : Bool} {S : List Nat} {w0 : World} {H : List Res} {K0 : WP} {l : List Rd}
end
abbrev XBl (w : World) (x : XH) : Prop := bl w x.b = some (.cells (H2 x.c x.ep x.cur x.piv x.lov x.slv x.kev x.tav x.plv x.now) 110 (0, 0))
structure JobR (j : JW) (X : WS) : Prop where
 r : 1 ≤ j.st → j.st < 10 → (M2 j.text).2.2 = 0 ∧ j.key = A3c (M2 j.text).1 ∧ j.shard = ((u4 (A3c (M2 j.text).1) X.c.sh : Nat) : Int) ∧ j.closing = B14 (M2 j.text).1 (M2 j.text).2.1
def C37 (j : JW) : Value := .agg #[.string j.key, .int .i64 j.shard, .bool j.closing, .int .i64 0]
theorem JobR.flow {j : JW} {X : WS} (h : JobR j X) (h1 : 1 ≤ j.st) (h2 : j.st < 10) : C39 j.text X.c.sh = C37 j := by
 obtain ⟨g1, g2, g3, g4⟩ := h.r h1 h2
 unfold C39 C37
 rw [if_neg (by simpa using g1), g2, g3, g4]
theorem JobR.stage {N E : Nat} {j : JW} {X : WS} (h : JobR j X) (q : Nat) (hq : q < 10) (hs : j.st = (q : Nat)) : JobR (E1 q { j with st := j.st + 1 } X).1 (E1 q { j with st := j.st + 1 } X).2.1 := by
 have hr := h.r
 have hcase : q = 0 ∨ q = 1 ∨ q = 2 ∨ q = 3 ∨ q = 4 ∨ q = 5 ∨ q = 6 ∨ q = 7 ∨ q = 8 ∨ q = 9 := by omega
 rcases hcase with rfl | rfl | rfl | rfl | rfl | rfl | rfl | rfl | rfl | rfl
 ·show JobR (jw0 _ X).1 (jw0 _ X).2.1
  unfold jw0
  by_cases c1 : F9 X.c j.who < 0
  ·rw [if_pos c1]; exact ⟨fun _ (g : (10 : Int) < 10) => by omega⟩
  rw [if_neg c1]
  by_cases c2 : (M2 j.text).2.2 = 0
  ·rw [if_neg (by simpa using c2)]; exact ⟨fun _ _ => ⟨c2, rfl, rfl, rfl⟩⟩
  ·rw [if_pos c2]; exact ⟨fun _ (g : (10 : Int) < 10) => by omega⟩
 ·exact ⟨fun _ _ => hr (by omega) (by omega)⟩
 ·show JobR (jw2 _ X).1 (jw2 _ X).2.1
  unfold jw2
  split
  ·exact ⟨fun _ _ => hr (by omega) (by omega)⟩
  ·exact ⟨fun _ _ => hr (by omega) (by omega)⟩
 ·exact ⟨fun _ _ => hr (by omega) (by omega)⟩
 ·exact ⟨fun _ _ => hr (by omega) (by omega)⟩
 ·exact ⟨fun _ _ => hr (by omega) (by omega)⟩
 ·exact ⟨fun _ _ => hr (by omega) (by omega)⟩
 ·exact ⟨fun _ _ => hr (by omega) (by omega)⟩
 ·exact ⟨fun _ _ => hr (by omega) (by omega)⟩
 ·exact ⟨fun _ _ => hr (by omega) (by omega)⟩
theorem B9P (w : World) (v : Value) (l : List Q7) (i : Int) (hv : D2 w v l.length (l.flatMap S2)) (hn : l.length ≤ 8) :
  Fn PR B6 86 #[v, .int .i64 i] w (fun u w' => u = .bool (match N4 (p8 l) i with | .rdy _ => true | _ => false) ∧ D6 [] w w') := by
 refine Fn.pure (A5V (TW.go (κ := false) (S := []) ?_))
 unfold A0W
 obtain ⟨a, c, rfl, _⟩ := hv.form
 (have zz:=trivial;repeat((first|clear zz|with_reducible first|refine A3 ?_|refine A5 fun _=>?_|refine A4 fun _=>?_);try simp(disch:=first|omega|assumption|((repeat(first|exact A1|exact uH|apply A2|apply uT));first|done|fail)|(simp;first|done|omega|fail))[]))
 refine D4 Y7 (fun w' _ => B1C w' a l.length c i) ?_
 cases hi : Y1 l.length i with
 | false =>
  have hb : N4 (p8 l) i = .no := by unfold N4; rw [if_neg (by simp [Y1] at hi; simp; omega)]
  rw [hb]
  (have zz:=trivial;repeat((first|clear zz|with_reducible first|refine A3 ?_|refine A5 fun _=>?_|refine A4 fun _=>?_);try simp(disch:=first|omega|assumption|((repeat(first|exact A1|exact uH|apply A2|apply uT));first|done|fail)|(simp;first|done|omega|fail))[]))
  exact B4 rfl
 | true =>
  obtain ⟨k, rfl⟩ : ∃ k : Nat, i = k := ⟨i.toNat, by simp [Y1] at hi; omega⟩
  have hk : k < l.length := by simp [Y1] at hi; exact hi
  have hk' : ¬ l.length ≤ k := by omega
  obtain ⟨b, o, rfl, g0, _⟩ := Q7.cell hv hk
  rw [B6x hk]
  cases hx : l[k].1 with
  | no =>
   have g : w.cell? ⟨b, o + k * 2, none⟩ = some (.int .i64 0) := by rw [g0]; unfold S2; rw [hx]; rfl
   (have zz:=trivial;repeat((first|clear zz|with_reducible first|refine A3 ?_|refine A5 fun _=>?_|refine A4 fun _=>?_);try simp(disch:=first|omega|assumption|((repeat(first|exact A1|exact uH|apply A2|apply uT));first|done|fail)|(simp;first|done|omega|fail))[hk, hk', g])); exact B4 rfl
  | bld =>
   have g : w.cell? ⟨b, o + k * 2, none⟩ = some (.int .i64 1) := by rw [g0]; unfold S2; rw [hx]; rfl
   (have zz:=trivial;repeat((first|clear zz|with_reducible first|refine A3 ?_|refine A5 fun _=>?_|refine A4 fun _=>?_);try simp(disch:=first|omega|assumption|((repeat(first|exact A1|exact uH|apply A2|apply uT));first|done|fail)|(simp;first|done|omega|fail))[hk, hk', g])); exact B4 rfl
  | rdy p =>
   have g : w.cell? ⟨b, o + k * 2, none⟩ = some (.int .i64 2) := by rw [g0]; unfold S2; rw [hx]; rfl
   (have zz:=trivial;repeat((first|clear zz|with_reducible first|refine A3 ?_|refine A5 fun _=>?_|refine A4 fun _=>?_);try simp(disch:=first|omega|assumption|((repeat(first|exact A1|exact uH|apply A2|apply uT));first|done|fail)|(simp;first|done|omega|fail))[hk, hk', g])); exact B4 rfl
def U2 (w : World) (l : List Q7) : Prop := ∀ r ∈ l, ∀ p, r.1 = .rdy p → r.2.2.1 = p.length ∧ p.length ≤ 1000 ∧ D2 w (rsP r) p.length (p.flatMap E6)
end Go.Proofs.YtpnidmkaobfhiaaGreat
namespace Go.Proofs.YtpnidmkaobfhiaaGreat
open Go
structure RJ where
 who : Int
 op : OpV
 pv : Value
 st : Int
 pins : Value
 slot : Int
 old : Int
 tab : Value
 place : Int
 ans : AnsV
def P6 (j : RJ) : Array Value := #[.int .i64 j.who, .int .i64 j.op.kind, .string j.op.packet, j.pv, .int .i64 j.op.shard, .int .i64 j.st, j.pins, .int .i64 j.slot, .int .i64 j.old, j.tab, .int .i64 j.place, .int .i64 j.ans.err, .int .i64 j.ans.bk, .bool j.ans.made, .int .i64 j.ans.count]
def D9 (b : Nat) (j : RJ) : Res := .pt b (.cells (P6 j) 59)
def A2T (who : Int) (op : OpV) (pv : Value) : RJ := ⟨who, op, pv, 0, L9, 0, 0, L9, 0, noA⟩
theorem B6L (w : World) (who : Int) (op : OpV) (a : Option Addr) (n c : Nat) :
  Fn PR B6 13 #[.int .i64 who, op.val (.slice a n c)] w (Rn [] w (fun (b : Nat) u => u = .pointer (some ⟨b, 0, none⟩)) fun b => [D9 b (A2T who op (.slice a n c))]) := by
 refine A7l (TW.go (κ := false) (S := []) ?_)
 unfold A1q
 unfold OpV.val
 (have zz:=trivial;repeat((first|clear zz|with_reducible first|refine A3 ?_|refine A5 fun _=>?_|refine A4 fun _=>?_);try simp(disch:=first|omega|assumption|((repeat(first|exact A1|exact uH|apply A2|apply uT));first|done|fail)|(simp;first|done|omega|fail))[]))
 rename_i b1 b2
 refine B0 b2 rfl ?_
 simp only [D9, P6, A2T, noA, L9]
 (repeat' constructor)
abbrev QBl (w : World) (b : Nat) (j : RJ) : Prop := bl w b = some (.cells (P6 j) 59 (0, 0))
def A2r (j : RJ) (sh : Int) : Int :=
 if j.op.kind = 2 ∧ j.st = 0 ∧ 0 ≤ j.op.shard ∧ j.op.shard < sh then j.op.shard
 else if j.op.kind = 3 ∧ 0 ≤ j.st ∧ j.st < sh then j.st else -1
theorem B95 (w : World) (b : Nat) (j : RJ) (x : XH) (hb : QBl w b j) (hx : XBl w x) :
  Fn PR B6 55 #[.pointer (some ⟨b, 0, none⟩), .pointer (some ⟨x.b, 0, none⟩)] w (fun u w' => u = .int .i64 (A2r j x.c.sh) ∧ D6 [] w w') := by
 refine Fn.pure (A4K (TW.go (κ := false) (S := []) ?_))
 unfold u0
 have h1 : w.cell? ⟨b, 1, none⟩ = some (.int .i64 j.op.kind) := by rw [D7 hb]; rfl
 have h4 : w.cell? ⟨b, 4, none⟩ = some (.int .i64 j.op.shard) := by rw [D7 hb]; rfl
 have h5 : w.cell? ⟨b, 5, none⟩ = some (.int .i64 j.st) := by rw [D7 hb]; rfl
 have g1 : w.cell? ⟨x.b, 1, none⟩ = some (.int .i64 x.c.sh) := by rw [D7 hx]; rfl
 unfold A2r
 by_cases k2 : j.op.kind = 2
 ·have k3 : ¬ j.op.kind = 3 := by omega
  by_cases c1 : j.st = 0
  case neg => (have zz:=trivial;repeat((first|clear zz|with_reducible first|refine A3 ?_|refine A5 fun _=>?_|refine A4 fun _=>?_);try simp(disch:=first|omega|assumption|((repeat(first|exact A1|exact uH|apply A2|apply uT));first|done|fail)|(simp;first|done|omega|fail))[h1, h4, h5, g1, k2, k3, c1])); exact B4 (by simp [k2, c1])
  by_cases c2 : 0 ≤ j.op.shard
  case neg => (have zz:=trivial;repeat((first|clear zz|with_reducible first|refine A3 ?_|refine A5 fun _=>?_|refine A4 fun _=>?_);try simp(disch:=first|omega|assumption|((repeat(first|exact A1|exact uH|apply A2|apply uT));first|done|fail)|(simp;first|done|omega|fail))[h1, h4, h5, g1, k2, k3, c1, c2])); exact B4 (by simp [k2, c1, c2])
  by_cases c3 : j.op.shard < x.c.sh
  case neg => (have zz:=trivial;repeat((first|clear zz|with_reducible first|refine A3 ?_|refine A5 fun _=>?_|refine A4 fun _=>?_);try simp(disch:=first|omega|assumption|((repeat(first|exact A1|exact uH|apply A2|apply uT));first|done|fail)|(simp;first|done|omega|fail))[h1, h4, h5, g1, k2, k3, c1, c2, c3])); exact B4 (by simp [k2, c1, c2, c3])
  (have zz:=trivial;repeat((first|clear zz|with_reducible first|refine A3 ?_|refine A5 fun _=>?_|refine A4 fun _=>?_);try simp(disch:=first|omega|assumption|((repeat(first|exact A1|exact uH|apply A2|apply uT));first|done|fail)|(simp;first|done|omega|fail))[h1, h4, h5, g1, k2, k3, c1, c2, c3])); exact B4 (by simp [k2, c1, c2, c3])
 by_cases k3 : j.op.kind = 3
 case neg => (have zz:=trivial;repeat((first|clear zz|with_reducible first|refine A3 ?_|refine A5 fun _=>?_|refine A4 fun _=>?_);try simp(disch:=first|omega|assumption|((repeat(first|exact A1|exact uH|apply A2|apply uT));first|done|fail)|(simp;first|done|omega|fail))[h1, h4, h5, g1, k2, k3])); exact B4 (by simp [k2, k3])
 by_cases c2 : 0 ≤ j.st
 case neg => (have zz:=trivial;repeat((first|clear zz|with_reducible first|refine A3 ?_|refine A5 fun _=>?_|refine A4 fun _=>?_);try simp(disch:=first|omega|assumption|((repeat(first|exact A1|exact uH|apply A2|apply uT));first|done|fail)|(simp;first|done|omega|fail))[h1, h4, h5, g1, k2, k3, c2])); exact B4 (by simp [k3, c2])
 by_cases c3 : j.st < x.c.sh
 case neg => (have zz:=trivial;repeat((first|clear zz|with_reducible first|refine A3 ?_|refine A5 fun _=>?_|refine A4 fun _=>?_);try simp(disch:=first|omega|assumption|((repeat(first|exact A1|exact uH|apply A2|apply uT));first|done|fail)|(simp;first|done|omega|fail))[h1, h4, h5, g1, k2, k3, c2, c3])); exact B4 (by simp [k3, c2, c3])
 (have zz:=trivial;repeat((first|clear zz|with_reducible first|refine A3 ?_|refine A5 fun _=>?_|refine A4 fun _=>?_);try simp(disch:=first|omega|assumption|((repeat(first|exact A1|exact uH|apply A2|apply uT));first|done|fail)|(simp;first|done|omega|fail))[h1, h4, h5, g1, k2, k3, c2, c3])); exact B4 (by simp [k3, c2, c3])
def RJ.refuse (j : RJ) (e : Int) : RJ := { j with st := -1, ans := ⟨e, 0, false, 0⟩ }
theorem u9 (w : World) (b : Nat) (j : RJ) (e : Int) (hw : LW false [b] w [D9 b j] w) :
  Fn PR B6 59 #[.pointer (some ⟨b, 0, none⟩), .int .i64 e] w (Rn [b] w (fun (_ : Unit) u => u = D8 (true, true, false)) fun _ => [D9 b (j.refuse e)]) := by
 refine A3b (TW.goH (κ := false) (S := [b]) ?_ hw)
 unfold m7
 simp only [D9, P6, RJ.refuse]
 (have zz:=trivial;repeat((first|clear zz|with_reducible first|refine A3 ?_|refine A5 fun _=>?_|refine A4 fun _=>?_);try simp(disch:=first|omega|assumption|((repeat(first|exact A1|exact uH|apply A2|apply uT));first|done|fail)|(simp;first|done|omega|fail))[]))
 refine B0 () rfl ?_
 (repeat' constructor)
def A8L (j : RJ) (x : XH) : Bool := decide (0 ≤ j.st) && (decide (A2r j x.c.sh < 0) || decide (x.locks.getD (A2r j x.c.sh).toNat 0 < 0))
theorem B2b (w : World) (b : Nat) (j : RJ) (x : XH) (hb : QBl w b j) (hx : XBl w x) (hl : D2 w x.lov x.locks.length (C1 x.locks)) (hn : (x.locks.length : Int) = x.c.sh) :
  Fn PR B6 16 #[.pointer (some ⟨b, 0, none⟩), .pointer (some ⟨x.b, 0, none⟩)] w (fun u w' => u = .bool (A8L j x) ∧ D6 [] w w') := by
 refine Fn.pure (A36 (TW.go (κ := false) (S := []) ?_))
 unfold q4
 have h5 : w.cell? ⟨b, 5, none⟩ = some (.int .i64 j.st) := by rw [D7 hb]; rfl
 have h8 : w.cell? ⟨x.b, 8, none⟩ = some x.lov := by rw [D7 hx]; rfl
 refine D4 A33 (fun w' hw' => B95 w' b j x (hw'.ks.2.1 _ _ (by simp) rfl hb) (hw'.ks.2.1 _ _ (by simp) rfl hx)) ?_
 unfold A8L
 have hle : A2r j x.c.sh < x.c.sh ∨ A2r j x.c.sh < 0 := by
  unfold A2r
  split
  ·omega
  ·split <;> omega
 generalize A2r j x.c.sh = q at *
 by_cases c1 : 0 ≤ j.st
 case neg => (have zz:=trivial;repeat((first|clear zz|with_reducible first|refine A3 ?_|refine A5 fun _=>?_|refine A4 fun _=>?_);try simp(disch:=first|omega|assumption|((repeat(first|exact A1|exact uH|apply A2|apply uT));first|done|fail)|(simp;first|done|omega|fail))[h5, h8, c1])); exact B4 (by simp [c1])
 by_cases c2 : q < 0
 ·(have zz:=trivial;repeat((first|clear zz|with_reducible first|refine A3 ?_|refine A5 fun _=>?_|refine A4 fun _=>?_);try simp(disch:=first|omega|assumption|((repeat(first|exact A1|exact uH|apply A2|apply uT));first|done|fail)|(simp;first|done|omega|fail))[h5, h8, c1, c2])); exact B4 (by simp [c1, c2])
 obtain ⟨i, rfl⟩ : ∃ i : Nat, q = i := ⟨q.toNat, by omega⟩
 obtain ⟨la, lc, hlv, hrow⟩ := hl.form
 rw [hlv] at h8
 have hlt : i < x.locks.length := by omega
 obtain ⟨lb, lo, rfl, hrow2⟩ := hrow (by omega)
 have g1 := hrow2.get (W5 hlt)
 have hge : ¬ x.locks.length ≤ i := by omega
 rw [Int.toNat_natCast]
 obtain ⟨z, hz⟩ : ∃ z, z = x.locks.getD i 0 := ⟨_, rfl⟩
 rw [← hz] at g1 ⊢
 (have zz:=trivial;repeat((first|clear zz|with_reducible first|refine A3 ?_|refine A5 fun _=>?_|refine A4 fun _=>?_);try simp(disch:=first|omega|assumption|((repeat(first|exact A1|exact uH|apply A2|apply uT));first|done|fail)|(simp;first|done|omega|fail))[h5, h8, c1, c2, g1, hlt, hge]))
 exact B4 (by simp [c1, c2])
end Go.Proofs.YtpnidmkaobfhiaaGreat
namespace Go.Proofs.YtpnidmkaobfhiaaGreat
open Go
theorem A8K (x : Int × Int) : (W6 x).length = 2 := rfl
theorem C3V (l : List (Int × Int)) : (l.flatMap W6).all plain = true := by
 rw [List.all_flatMap, List.all_eq_true]
 rintro ⟨y1, y2⟩ hy
 rfl
theorem B0q (w : World) (v : Value) (l : List (Int × Int)) (i : Nat) (x : Int × Int) (hn : l.length ≤ 8) (hi : i < l.length) (hv : D2 w v l.length (l.flatMap W6)) :
  Fn PR B6 106 #[v, .int .i64 (i : Nat), .agg #[.int .i64 x.1, .int .i64 x.2]] w (Rn [] w (fun r u => u = r) fun r => [.own 186 2 r (l.set i x).length ((l.set i x).flatMap W6)]) := by
 refine A62 (TW.go (κ := false) (S := []) ?_)
 unfold A00
 obtain ⟨a, c, rfl, _⟩ := hv.form
 (have zz:=trivial;repeat((first|clear zz|with_reducible first|refine A3 ?_|refine A5 fun _=>?_|refine A4 fun _=>?_|refine T6 fun _=>?_|refine T0 (hK:=fun _=>?_)|refine T8 (hK:=fun _=>?_)|refine T2 (hK:=fun _=>?_)|refine T3 (hK:=fun _=>?_)|refine T7 (hK:=fun _=>?_));try simp(disch:=first|omega|assumption|((repeat(first|exact A1|exact uH|apply A2|apply uT));first|done|fail)|(simp;first|done|omega|fail))[]))
 refine W9 (e := 186) (k := 2) (q := 0) (r := l.length) (xs := []) (news := l.flatMap W6) (by (repeat constructor)) (fun w' hw' => hv.ks hw'.ks (by simp)) (by decide) (P0 A8K l) (C3V l) (by simp only [maxLen]; omega) (by omega) fun a' c' => ?_
 rw [List.nil_append, Nat.zero_add]
 refine P8 (e := 186) (k := 2) (v := .slice a' l.length c') (q := l.length) (xs := l.flatMap W6) (by (repeat constructor)) (by omega) fun g gc hg => ?_
 cases hg
 (have zz:=trivial;repeat((first|clear zz|with_reducible first|refine A3 ?_|refine A5 fun _=>?_|refine A4 fun _=>?_);try simp(disch:=first|omega|assumption|((repeat(first|exact A1|exact uH|apply A2|apply uT));first|done|fail)|(simp;first|done|omega|fail))[hi]))
 refine N0 (by (repeat constructor)) (by simp) (by rw [P0 A8K]; show i * 2 + 2 ≤ _; omega) (by simp) ?_
 refine B0 _ rfl ?_
 have := A6E (f := W6) (k := 2) A8K l i x hi
 rw [List.length_set, ← this]
 (repeat' constructor)
theorem B33 {w : World} {b o : Nat} {l : List (Int × Int)} (hr : P9 w b o (l.flatMap W6)) {i : Nat} {x : Int × Int} (hx : l[i]? = some x) : w.cell? ⟨b, o + i * 2, none⟩ = some (.int .i64 x.1) ∧ w.cell? ⟨b, o + i * 2 + 1, none⟩ = some (.int .i64 x.2) := by
 have h0 := hr.cellAt (f := W6) (k := 2) (j := 0) A8K hx rfl
 have h1 := hr.cellAt (f := W6) (k := 2) (j := 1) A8K hx rfl
 exact ⟨by simpa using h0, by simpa [Nat.add_assoc] using h1⟩
theorem A8w (w : World) (v : Value) (l : List (Int × Int)) (i : Int) (hn : l.length ≤ 8) (hv : D2 w v l.length (l.flatMap W6)) :
  Fn PR B6 62 #[v, .int .i64 i] w (fun u w' => u = .int .i64 (Z5 l i) ∧ D6 [] w w') := by
 refine Fn.pure (A53 (TW.go (κ := false) (S := []) ?_))
 unfold A0c
 obtain ⟨a, c, rfl, hr⟩ := hv.form
 unfold Z5
 by_cases c1 : i < 0
 ·rw [if_neg (by omega)]
  (have zz:=trivial;repeat((first|clear zz|with_reducible first|refine A3 ?_|refine A5 fun _=>?_|refine A4 fun _=>?_);try simp(disch:=first|omega|assumption|((repeat(first|exact A1|exact uH|apply A2|apply uT));first|done|fail)|(simp;first|done|omega|fail))[c1]))
  exact B4 rfl
 by_cases c2 : (l.length : Int) ≤ i
 ·rw [if_neg (by omega)]
  (have zz:=trivial;repeat((first|clear zz|with_reducible first|refine A3 ?_|refine A5 fun _=>?_|refine A4 fun _=>?_);try simp(disch:=first|omega|assumption|((repeat(first|exact A1|exact uH|apply A2|apply uT));first|done|fail)|(simp;first|done|omega|fail))[c1, c2]))
  exact B4 rfl
 rw [if_pos (by omega)]
 obtain ⟨k, rfl⟩ : ∃ k : Nat, i = k := ⟨i.toNat, by omega⟩
 have hk : k < l.length := by omega
 have hk' : ¬ l.length ≤ k := by omega
 obtain ⟨b, o, rfl, hrow⟩ := hr (by omega)
 have hx := List.getElem?_eq_getElem hk
 obtain ⟨g0, g1⟩ := B33 hrow hx
 (have zz:=trivial;repeat((first|clear zz|with_reducible first|refine A3 ?_|refine A5 fun _=>?_|refine A4 fun _=>?_);try simp(disch:=first|omega|assumption|((repeat(first|exact A1|exact uH|apply A2|apply uT));first|done|fail)|(simp;first|done|omega|fail))[c1, c2, hk, hk', g0]))
 exact B4 (by first | rfl | simp)
theorem B8k (w : World) (v : Value) (l : List Int) (e : Int) (hn : l.length ≤ 1000000) (hv : D2 w v l.length (C1 l)) :
  Fn PR B6 134 #[v, .int .i64 e] w (fun u w' => u = .bool (c7 l e) ∧ D6 [] w w') := by
 refine Fn.pure (A5W (TW.go (κ := false) (S := []) ?_))
 unfold A0b
 obtain ⟨a, c, rfl, hr⟩ := hv.form
 (have zz:=trivial;repeat((first|clear zz|with_reducible first|refine A3 ?_|refine A5 fun _=>?_|refine A4 fun _=>?_);try simp(disch:=first|omega|assumption|((repeat(first|exact A1|exact uH|apply A2|apply uT));first|done|fail)|(simp;first|done|omega|fail))[]))
 refine Q6 (α := Unit) l.length (fun _ _ => .bool false) (fun _ _ => []) (fun i _ => ∀ (k : Nat) z, k < i → l[k]? = some z → z = 0 ∨ e < z) () (by intros; omega) ?_
 rintro i _ hi hφ L hL
 by_cases hlt : i < l.length
 ·have hlt' : ((i : Nat) : Int) < (l.length : Nat) := by omega
  obtain ⟨b, o, rfl, hrow⟩ := hr (by omega)
  have hx := List.getElem?_eq_getElem hlt
  have g1 := hrow.get (W5 hlt)
  obtain ⟨z, hz⟩ : ∃ z, z = l.getD i 0 := ⟨_, rfl⟩
  have hz2 : l[i] = z := by rw [hz, List.getD_eq_getElem?_getD, hx]; rfl
  rw [← hz] at g1
  have hnext : z = 0 ∨ e < z → ∀ (k : Nat) y, k < i + 1 → l[k]? = some y → y = 0 ∨ e < y := fun h k y hk hy => by
   by_cases g : k < i
   ·exact hφ k y g hy
   ·obtain rfl : k = i := by omega
    rw [hx] at hy; injection hy with hy; rw [← hy, hz2]; exact h
  by_cases c1 : z = 0
  ·(have zz:=trivial;repeat((first|clear zz|with_reducible first|refine A3 ?_|refine A5 fun _=>?_|refine A4 fun _=>?_);try simp(disch:=first|omega|assumption|((repeat(first|exact A1|exact uH|apply A2|apply uT));first|done|fail)|(simp;first|done|omega|fail))[hlt, hlt', g1, c1]))
   exact hL hlt () (hnext (Or.inl c1))
  by_cases c2 : z ≤ e
  ·(have zz:=trivial;repeat((first|clear zz|with_reducible first|refine A3 ?_|refine A5 fun _=>?_|refine A4 fun _=>?_);try simp(disch:=first|omega|assumption|((repeat(first|exact A1|exact uH|apply A2|apply uT));first|done|fail)|(simp;first|done|omega|fail))[hlt, hlt', g1, c1, c2]))
   have : c7 l e = false := by
    unfold c7
    rw [List.all_eq_false]
    exact ⟨l[i], List.getElem_mem hlt, by rw [hz2]; simp [c1]; omega⟩
   exact B4 (by rw [this])
  ·(have zz:=trivial;repeat((first|clear zz|with_reducible first|refine A3 ?_|refine A5 fun _=>?_|refine A4 fun _=>?_);try simp(disch:=first|omega|assumption|((repeat(first|exact A1|exact uH|apply A2|apply uT));first|done|fail)|(simp;first|done|omega|fail))[hlt, hlt', g1, c1, c2]))
   exact hL hlt () (hnext (Or.inr (by omega)))
 ·obtain rfl : i = l.length := by omega
  (have zz:=trivial;repeat((first|clear zz|with_reducible first|refine A3 ?_|refine A5 fun _=>?_|refine A4 fun _=>?_);try simp(disch:=first|omega|assumption|((repeat(first|exact A1|exact uH|apply A2|apply uT));first|done|fail)|(simp;first|done|omega|fail))[Int.lt_irrefl]))
  have : c7 l e = true := by
   unfold c7
   rw [List.all_eq_true]
   intro x hx
   obtain ⟨k, hk, rfl⟩ := List.getElem_of_mem hx
   have := hφ k _ hk (List.getElem?_eq_getElem hk)
   simp; omega
  exact B4 (by rw [this])
theorem B7r {α : Type} {l : List α} {p : α → Bool} {i : Nat} {x : α} (hx : l[i]? = some x) (hp : p x = true) (h : ∀ (k : Nat) y, k < i → l[k]? = some y → p y = false) : l.findIdx p = i := by
 have hi : i < l.length := by
  by_cases c : i < l.length
  ·exact c
  ·rw [List.getElem?_eq_none (by omega)] at hx; cases hx
 have hg : l[i] = x := (List.getElem?_eq_some_iff.1 hx).2
 exact (List.findIdx_eq hi).2 ⟨by rw [hg]; exact hp, fun j hj => by simpa using h j _ hj (List.getElem?_eq_getElem (by omega))⟩
theorem B7x {α : Type} {l : List α} {p : α → Bool} (h : ∀ (k : Nat) y, k < l.length → l[k]? = some y → p y = false) : l.findIdx p = l.length := by
 rw [List.findIdx_eq_length]
 intro x hx
 obtain ⟨k, hk, rfl⟩ := List.getElem_of_mem hx
 simpa using h k _ hk (List.getElem?_eq_getElem hk)
theorem B0Y (w : World) (v u : Value) (l : List (Int × Int)) (pins : List Int) (hn : l.length ≤ 8) (hp : pins.length ≤ 1000000) (hv : D2 w v l.length (l.flatMap W6)) (hu : D2 w u pins.length (C1 pins)) :
  Fn PR B6 103 #[v, u] w (fun r w' => r = .int .i64 (G3 l pins) ∧ D6 [] w w') := by
 refine Fn.pure (A7V (TW.go (κ := false) (S := []) ?_))
 unfold A09
 have hab := fun (w' : World) (H : List Res) (hw' : LW false [] w H w') (e : Int) => B8k w' u pins e hp (hu.ks hw'.ks (by simp))
 obtain ⟨a, c, rfl, hr⟩ := hv.form
 (have zz:=trivial;repeat((first|clear zz|with_reducible first|refine A3 ?_|refine A5 fun _=>?_|refine A4 fun _=>?_);try simp(disch:=first|omega|assumption|((repeat(first|exact A1|exact uH|apply A2|apply uT));first|done|fail)|(simp;first|done|omega|fail))[]))
 refine Q6 (α := Unit) l.length (fun _ _ => .int .i64 0) (fun _ _ => []) (fun i _ => ∀ (k : Nat) y, k < i → l[k]? = some y → K3 pins y = false) () (by intros; omega) ?_
 rintro i _ hi hφ L hL
 by_cases hlt : i < l.length
 ·have hlt' : ((i : Nat) : Int) < (l.length : Nat) := by omega
  obtain ⟨b, o, rfl, hrow⟩ := hr (by omega)
  obtain ⟨⟨s, e⟩, hx⟩ : ∃ x, l[i]? = some x := ⟨_, List.getElem?_eq_getElem hlt⟩
  obtain ⟨g0, g1⟩ := B33 hrow hx
  simp only at g0 g1
  have hnext : K3 pins (s, e) = false → ∀ (k : Nat) y, k < i + 1 → l[k]? = some y → K3 pins y = false := fun h k y hk hy => by
   by_cases g : k < i
   ·exact hφ k y g hy
   ·obtain rfl : k = i := by omega
    rw [hx] at hy; injection hy with hy; rw [← hy]; exact h
  by_cases c1 : s = 2
  case neg =>
   (have zz:=trivial;repeat((first|clear zz|with_reducible first|refine A3 ?_|refine A5 fun _=>?_|refine A4 fun _=>?_);try simp(disch:=first|omega|assumption|((repeat(first|exact A1|exact uH|apply A2|apply uT));first|done|fail)|(simp;first|done|omega|fail))[hlt, hlt', g0, c1]))
   exact hL hlt () (hnext (by simp [K3, c1]))
  (have zz:=trivial;repeat((first|clear zz|with_reducible first|refine A3 ?_|refine A5 fun _=>?_|refine A4 fun _=>?_);try simp(disch:=first|omega|assumption|((repeat(first|exact A1|exact uH|apply A2|apply uT));first|done|fail)|(simp;first|done|omega|fail))[hlt, hlt', g0, g1, c1]))
  refine D4 A48 (fun w' hw' => hab w' _ hw' e) ?_
  cases ha : c7 pins e with
  | false =>
   (have zz:=trivial;repeat((first|clear zz|with_reducible first|refine A3 ?_|refine A5 fun _=>?_|refine A4 fun _=>?_);try simp(disch:=first|omega|assumption|((repeat(first|exact A1|exact uH|apply A2|apply uT));first|done|fail)|(simp;first|done|omega|fail))[]))
   exact hL hlt () (hnext (by simp [K3, ha]))
  | true =>
   (have zz:=trivial;repeat((first|clear zz|with_reducible first|refine A3 ?_|refine A5 fun _=>?_|refine A4 fun _=>?_);try simp(disch:=first|omega|assumption|((repeat(first|exact A1|exact uH|apply A2|apply uT));first|done|fail)|(simp;first|done|omega|fail))[]))
   have hf := B7r (p := K3 pins) hx (by simp [K3, c1, ha]) hφ
   exact B4 (by unfold G3; rw [hf, if_pos hlt])
 ·obtain rfl : i = l.length := by omega
  (have zz:=trivial;repeat((first|clear zz|with_reducible first|refine A3 ?_|refine A5 fun _=>?_|refine A4 fun _=>?_);try simp(disch:=first|omega|assumption|((repeat(first|exact A1|exact uH|apply A2|apply uT));first|done|fail)|(simp;first|done|omega|fail))[Int.lt_irrefl]))
  have hf := B7x (l := l) (p := K3 pins) hφ
  exact B4 (by unfold G3; rw [hf, if_neg (Nat.lt_irrefl _)])
theorem C0K {l : List (Int × Int)} {i : Int} {s : Int} (x : Int × Int) (h : Z5 l i = s) (hs : s ≠ -1) : ∃ k : Nat, i = k ∧ k < l.length ∧ A1d l i s x = l.set k x := by
 unfold Z5 at h
 by_cases c : 0 ≤ i ∧ i < l.length
 ·obtain ⟨k, rfl⟩ : ∃ k : Nat, i = k := ⟨i.toNat, by omega⟩
  refine ⟨k, rfl, by omega, ?_⟩
  unfold A1d Z5
  rw [if_pos c] at h ⊢
  rw [if_pos ⟨h, c.1⟩, Int.toNat_natCast]
 ·rw [if_neg c] at h; exact absurd h.symm hs
theorem B7H (w : World) (v : Value) (l : List (Int × Int)) (i e : Int) (hn : l.length ≤ 8) (hv : D2 w v l.length (l.flatMap W6)) :
  Fn PR B6 83 #[v, .int .i64 i, .int .i64 e] w (Rn [] w (fun r u => u = .tuple #[if Z5 l i = 1 then r else v, .bool (decide (Z5 l i = 1))]) fun r => if Z5 l i = 1 then [.own 186 2 r (l6 l i e).length ((l6 l i e).flatMap W6)] else []) := by
 refine A42 (TW.go (κ := false) (S := []) ?_)
 unfold z8
 (have zz:=trivial;repeat((first|clear zz|with_reducible first|refine A3 ?_|refine A5 fun _=>?_|refine A4 fun _=>?_);try simp(disch:=first|omega|assumption|((repeat(first|exact A1|exact uH|apply A2|apply uT));first|done|fail)|(simp;first|done|omega|fail))[]))
 refine D4 d6 (fun w' hw' => A8w w' v l i hn (hv.ks hw'.ks (by simp))) ?_
 by_cases c1 : Z5 l i = 1
 ·obtain ⟨k, rfl, hk, ht⟩ := C0K (2, e) c1 (by omega)
  have e1 : l6 l (k : Nat) e = l.set k (2, e) := ht
  rw [c1, e1]
  simp only [if_true, decide_true]
  (have zz:=trivial;repeat((first|clear zz|with_reducible first|refine A3 ?_|refine A5 fun _=>?_|refine A4 fun _=>?_);try simp(disch:=first|omega|assumption|((repeat(first|exact A1|exact uH|apply A2|apply uT));first|done|fail)|(simp;first|done|omega|fail))[]))
  refine G7 f5 (fun w' hw' => B0q w' v l k (2, e) hn hk (hv.ks hw'.ks (by simp))) ?_
  rintro _ r rfl
  (have zz:=trivial;repeat((first|clear zz|with_reducible first|refine A3 ?_|refine A5 fun _=>?_|refine A4 fun _=>?_);try simp(disch:=first|omega|assumption|((repeat(first|exact A1|exact uH|apply A2|apply uT));first|done|fail)|(simp;first|done|omega|fail))[]))
  exact B0 r rfl (Sels.cons Sel.here Sels.nil)
 ·simp only [if_neg c1, decide_eq_false c1]
  (have zz:=trivial;repeat((first|clear zz|with_reducible first|refine A3 ?_|refine A5 fun _=>?_|refine A4 fun _=>?_);try simp(disch:=first|omega|assumption|((repeat(first|exact A1|exact uH|apply A2|apply uT));first|done|fail)|(simp;first|done|omega|fail))[c1]))
  exact B0 v rfl Sels.nil
theorem C1F (w : World) (v : Value) (l : List (Int × Int)) (i : Int) (hn : l.length ≤ 8) (hv : D2 w v l.length (l.flatMap W6)) :
  Fn PR B6 104 #[v, .int .i64 i] w (Rn [] w (fun r u => u = .tuple #[if Z5 l i = 2 then r else v, .bool (decide (Z5 l i = 2))]) fun r => if Z5 l i = 2 then [.own 186 2 r (m4 l i).length ((m4 l i).flatMap W6)] else []) := by
 refine A7D (TW.go (κ := false) (S := []) ?_)
 unfold A1T
 (have zz:=trivial;repeat((first|clear zz|with_reducible first|refine A3 ?_|refine A5 fun _=>?_|refine A4 fun _=>?_);try simp(disch:=first|omega|assumption|((repeat(first|exact A1|exact uH|apply A2|apply uT));first|done|fail)|(simp;first|done|omega|fail))[]))
 refine D4 d6 (fun w' hw' => A8w w' v l i hn (hv.ks hw'.ks (by simp))) ?_
 by_cases c1 : Z5 l i = 2
 ·obtain ⟨k, rfl, hk, ht⟩ := C0K (0, 0) c1 (by omega)
  have e1 : m4 l (k : Nat) = l.set k (0, 0) := ht
  rw [c1, e1]
  simp only [if_true, decide_true]
  (have zz:=trivial;repeat((first|clear zz|with_reducible first|refine A3 ?_|refine A5 fun _=>?_|refine A4 fun _=>?_);try simp(disch:=first|omega|assumption|((repeat(first|exact A1|exact uH|apply A2|apply uT));first|done|fail)|(simp;first|done|omega|fail))[]))
  refine G7 f5 (fun w' hw' => B0q w' v l k (0, 0) hn hk (hv.ks hw'.ks (by simp))) ?_
  rintro _ r rfl
  (have zz:=trivial;repeat((first|clear zz|with_reducible first|refine A3 ?_|refine A5 fun _=>?_|refine A4 fun _=>?_);try simp(disch:=first|omega|assumption|((repeat(first|exact A1|exact uH|apply A2|apply uT));first|done|fail)|(simp;first|done|omega|fail))[]))
  exact B0 r rfl (Sels.cons Sel.here Sels.nil)
 ·simp only [if_neg c1, decide_eq_false c1]
  (have zz:=trivial;repeat((first|clear zz|with_reducible first|refine A3 ?_|refine A5 fun _=>?_|refine A4 fun _=>?_);try simp(disch:=first|omega|assumption|((repeat(first|exact A1|exact uH|apply A2|apply uT));first|done|fail)|(simp;first|done|omega|fail))[c1]))
  exact B0 v rfl Sels.nil
theorem B4f (w : World) (v : Value) (l : List (Int × Int)) (hn : l.length ≤ 8) (hz : ∀ x ∈ l, x.1 = 0 → x.2 = 0) (hv : D2 w v l.length (l.flatMap W6)) :
  Fn PR B6 105 #[v] w (Rn [] w (fun r u => u = .tuple #[if E5 l < 0 then v else r, .int .i64 (E5 l)]) fun r => if E5 l < 0 then [] else [.own 186 2 r (M6 l).length ((M6 l).flatMap W6)]) := by
 refine A6q (TW.go (κ := false) (S := []) ?_)
 unfold A08
 have hvk := fun (w' : World) (H : List Res) (hw' : LW false [] w H w') => hv.ks hw'.ks (by simp)
 obtain ⟨a, c, rfl, hr⟩ := hv.form
 (have zz:=trivial;repeat((first|clear zz|with_reducible first|refine A3 ?_|refine A5 fun _=>?_|refine A4 fun _=>?_);try simp(disch:=first|omega|assumption|((repeat(first|exact A1|exact uH|apply A2|apply uT));first|done|fail)|(simp;first|done|omega|fail))[]))
 refine C6P (α := Unit) l.length (fun _ _ => .slice none 0 0) (fun _ _ => .int .i64 0) (fun _ _ => []) (fun i _ => ∀ (k : Nat) y, k < i → l[k]? = some y → decide (y = (0, 0)) = false) () (by intros; omega) ?_
 rintro i _ hi hφ L hL
 by_cases hlt : i < l.length
 ·have hlt' : ((i : Nat) : Int) < (l.length : Nat) := by omega
  obtain ⟨b, o, rfl, hrow⟩ := hr (by omega)
  obtain ⟨⟨s, e⟩, hx⟩ : ∃ x, l[i]? = some x := ⟨_, List.getElem?_eq_getElem hlt⟩
  have hxm := List.mem_of_getElem? hx
  obtain ⟨g0, g1⟩ := B33 hrow hx
  simp only at g0 g1
  by_cases c1 : s = 0
  ·subst c1
   have he : e = 0 := hz _ hxm rfl
   subst he
   have hf := B7r (p := fun y : Int × Int => decide (y = (0, 0))) hx (by simp) hφ
   have ht : E5 l = (i : Nat) := by unfold E5; rw [hf, if_pos hlt]
   have htk : M6 l = l.set i (1, 0) := by
    unfold M6
    rw [ht, if_neg (by omega), Int.toNat_natCast, List.getD_eq_getElem?_getD, hx]; rfl
   rw [htk, ht]
   have hneg : ¬ ((i : Nat) : Int) < 0 := by omega
   simp only [if_neg hneg]
   (have zz:=trivial;repeat((first|clear zz|with_reducible first|refine A3 ?_|refine A5 fun _=>?_|refine A4 fun _=>?_);try simp(disch:=first|omega|assumption|((repeat(first|exact A1|exact uH|apply A2|apply uT));first|done|fail)|(simp;first|done|omega|fail))[hlt, hlt', g0]))
   refine G7 f5 (fun w' hw' => B0q w' _ l i (1, 0) hn hlt (hvk w' _ hw')) ?_
   rintro _ r rfl
   (have zz:=trivial;repeat((first|clear zz|with_reducible first|refine A3 ?_|refine A5 fun _=>?_|refine A4 fun _=>?_);try simp(disch:=first|omega|assumption|((repeat(first|exact A1|exact uH|apply A2|apply uT));first|done|fail)|(simp;first|done|omega|fail))[]))
   exact B0 r rfl (Sels.cons Sel.here Sels.nil)
  ·(have zz:=trivial;repeat((first|clear zz|with_reducible first|refine A3 ?_|refine A5 fun _=>?_|refine A4 fun _=>?_);try simp(disch:=first|omega|assumption|((repeat(first|exact A1|exact uH|apply A2|apply uT));first|done|fail)|(simp;first|done|omega|fail))[hlt, hlt', g0, c1]))
   refine hL hlt () fun k y hk hy => ?_
   by_cases g : k < i
   ·exact hφ k y g hy
   ·obtain rfl : k = i := by omega
    rw [hx] at hy; injection hy with hy; rw [← hy]; simp [c1]
 ·obtain rfl : i = l.length := by omega
  have hf := B7x (l := l) (p := fun y : Int × Int => decide (y = (0, 0))) hφ
  have ht : E5 l = -1 := by unfold E5; rw [hf, if_neg (Nat.lt_irrefl _)]
  rw [ht]
  simp only [show (-1 : Int) < 0 from by omega, if_true]
  (have zz:=trivial;repeat((first|clear zz|with_reducible first|refine A3 ?_|refine A5 fun _=>?_|refine A4 fun _=>?_);try simp(disch:=first|omega|assumption|((repeat(first|exact A1|exact uH|apply A2|apply uT));first|done|fail)|(simp;first|done|omega|fail))[Int.lt_irrefl]))
  exact B0 (.slice a l.length c) rfl Sels.nil
end Go.Proofs.YtpnidmkaobfhiaaGreat
namespace Go.Proofs.YtpnidmkaobfhiaaGreat
open Go
theorem B91 {l : List (Int × Int)} {pins : List Int} (h : 0 ≤ G3 l pins) : G3 l pins < l.length ∧ Z5 l (G3 l pins) = 2 := by
 unfold G3 at h ⊢
 by_cases c : l.findIdx (K3 pins) < l.length
 case neg => rw [if_neg c] at h; omega
 rw [if_pos c]
 have g := List.findIdx_getElem (w := c)
 unfold K3 at g
 simp only [Bool.and_eq_true, decide_eq_true_eq] at g
 refine ⟨by omega, ?_⟩
 unfold Z5
 rw [if_pos (by omega), Int.toNat_natCast, List.getD_eq_getElem?_getD, List.getElem?_eq_getElem c]
 exact g.1
theorem C1E (l : List (Int × Int)) : E5 l < l.length ∧ -1 ≤ E5 l := by
 unfold E5; split <;> omega
def G0 (b : Nat) (j : RJ) (pins : List Int) (x : XH) : List Res := D9 b j :: .own 3 1 j.pins pins.length (C1 pins) :: D0 x
set_option maxHeartbeats 1000000 in
theorem B8W (w : World) (b : Nat) (j : RJ) (x : XH) (pins : List Int) (hp : pins.length ≤ 1000) (hs8 : x.sl.length ≤ 8) (hk8 : x.keep.length = x.sl.length) (hr : 0 ≤ G3 x.keep pins) (hw : LW false (B1 (G0 b j pins x)) w (G0 b j pins x) w) :
  Fn PR B6 82 #[.pointer (some ⟨b, 0, none⟩), .pointer (some ⟨x.b, 0, none⟩)] w (Rn (B1 (G0 b j pins x)) w (fun (v : Value × Value) u => u = D8 (false, false, false)) fun v => G0 b j pins { x with slv := v.1, kev := v.2, sl := S9 x.sl (G3 x.keep pins), keep := m4 x.keep (G3 x.keep pins) }) := by
 refine Z3 (TW.goH (κ := false) ?_ hw)
 unfold T1
 generalize hS : B1 (G0 b j pins x) = S at *
 obtain ⟨hr1, hr2⟩ := B91 hr
 have hR := fun (w' : World) (h1 : D2 w' x.kev x.keep.length (x.keep.flatMap W6)) (h2 : D2 w' j.pins pins.length (C1 pins)) => B0Y w' x.kev j.pins x.keep pins (by omega) (by omega) h1 h2
 have hSp := fun (w' : World) (h1 : D2 w' x.slv x.sl.length (x.sl.flatMap S2)) => B29 w' x.slv x.sl (G3 x.keep pins) hs8 h1
 have hFr := fun (w' : World) (h1 : D2 w' x.kev x.keep.length (x.keep.flatMap W6)) => C1F w' x.kev x.keep (G3 x.keep pins) (by omega) h1
 have hI : Y1 x.sl.length (G3 x.keep pins) = true := by simp [Y1]; omega
 rw [hI] at hSp
 rw [hr2] at hFr
 simp only [if_true] at hSp hFr
 generalize G3 x.keep pins = r at *
 simp only [G0, D9, P6, D0, G5, H2]
 (have zz:=trivial;repeat((first|clear zz|with_reducible first|refine A3 ?_|refine A5 fun _=>?_|refine A4 fun _=>?_);try simp(disch:=first|omega|assumption|((repeat(first|exact A1|exact uH|apply A2|apply uT));first|done|fail)|(simp;first|done|omega|fail))[]))
 rename_i bt
 refine D4 f8 (fun w' hw' => hR w' (H3.own (e := 186) (k := 2) (by (repeat constructor)) w' hw') (H3.own (e := 3) (k := 1) (by (repeat constructor)) w' hw')) ?_
 (have zz:=trivial;repeat((first|clear zz|with_reducible first|refine A3 ?_|refine A5 fun _=>?_|refine A4 fun _=>?_);try simp(disch:=first|omega|assumption|((repeat(first|exact A1|exact uH|apply A2|apply uT));first|done|fail)|(simp;first|done|omega|fail))[hr]))
 refine G7 y5 (fun w' hw' => hSp w' (H3.own (e := 179) (k := 2) (by (repeat constructor)) w' hw')) ?_
 intro r1 v hv
 subst hv
 refine H7 (e := 179) (k := 2) (v := r1) (q := (S9 x.sl r).length) (xs := (S9 x.sl r).flatMap S2) (by (repeat constructor)) fun ra rc hu => ?_
 subst hu
 simp only [List.cons_append, List.nil_append]
 (have zz:=trivial;repeat((first|clear zz|with_reducible first|refine A3 ?_|refine A5 fun _=>?_|refine A4 fun _=>?_);try simp(disch:=first|omega|assumption|((repeat(first|exact A1|exact uH|apply A2|apply uT));first|done|fail)|(simp;first|done|omega|fail))[]))
 refine G7 A5Y (fun w' hw' => hFr w' (H3.own (e := 186) (k := 2) (by (repeat constructor)) w' hw')) ?_
 intro r2 v hv
 subst hv
 refine H7 (e := 186) (k := 2) (v := r2) (q := (m4 x.keep r).length) (xs := (m4 x.keep r).flatMap W6) (by (repeat constructor)) fun sa sc hu => ?_
 subst hu
 simp only [List.cons_append, List.nil_append]
 (have zz:=trivial;repeat((first|clear zz|with_reducible first|refine A3 ?_|refine A5 fun _=>?_|refine A4 fun _=>?_);try simp(disch:=first|omega|assumption|((repeat(first|exact A1|exact uH|apply A2|apply uT));first|done|fail)|(simp;first|done|omega|fail))[]))
 refine B0 (.slice ra (S9 x.sl r).length rc, .slice sa (m4 x.keep r).length sc) rfl ?_
 (repeat' constructor)
set_option maxHeartbeats 1000000 in
theorem B8v (w : World) (b : Nat) (j : RJ) (x : XH) (pins : List Int) (hp : pins.length ≤ 1000) (hs8 : x.sl.length ≤ 8) (hk8 : x.keep.length = x.sl.length) (hz : ∀ y ∈ x.keep, y.1 = 0 → y.2 = 0) (hr : ¬ 0 ≤ G3 x.keep pins) (ht : E5 x.keep < 0) (hw : LW false (B1 (G0 b j pins x)) w (G0 b j pins x) w) :
  Fn PR B6 82 #[.pointer (some ⟨b, 0, none⟩), .pointer (some ⟨x.b, 0, none⟩)] w (Rn (B1 (G0 b j pins x)) w (fun (_ : Unit) u => u = D8 (true, true, false)) fun _ => G0 b (j.refuse 13) pins x) := by
 refine Z3 (TW.goH (κ := false) ?_ hw)
 unfold T1
 generalize hS : B1 (G0 b j pins x) = S at *
 have hR := fun (w' : World) (h1 : D2 w' x.kev x.keep.length (x.keep.flatMap W6)) (h2 : D2 w' j.pins pins.length (C1 pins)) => B0Y w' x.kev j.pins x.keep pins (by omega) (by omega) h1 h2
 have hT := fun (w' : World) (h1 : D2 w' x.kev x.keep.length (x.keep.flatMap W6)) => B4f w' x.kev x.keep (by omega) hz h1
 simp only [if_pos ht] at hT
 generalize E5 x.keep = q at *
 generalize G3 x.keep pins = r at *
 simp only [G0, D9, P6, D0, G5, H2]
 (have zz:=trivial;repeat((first|clear zz|with_reducible first|refine A3 ?_|refine A5 fun _=>?_|refine A4 fun _=>?_);try simp(disch:=first|omega|assumption|((repeat(first|exact A1|exact uH|apply A2|apply uT));first|done|fail)|(simp;first|done|omega|fail))[]))
 rename_i bt
 refine D4 f8 (fun w' hw' => hR w' (H3.own (e := 186) (k := 2) (by (repeat constructor)) w' hw') (H3.own (e := 3) (k := 1) (by (repeat constructor)) w' hw')) ?_
 (have zz:=trivial;repeat((first|clear zz|with_reducible first|refine A3 ?_|refine A5 fun _=>?_|refine A4 fun _=>?_);try simp(disch:=first|omega|assumption|((repeat(first|exact A1|exact uH|apply A2|apply uT));first|done|fail)|(simp;first|done|omega|fail))[hr]))
 refine G7 A0l (fun w' hw' => hT w' (H3.own (e := 186) (k := 2) (by (repeat constructor)) w' hw')) ?_
 intro r1 v hv
 subst hv
 simp only [List.nil_append]
 (have zz:=trivial;repeat((first|clear zz|with_reducible first|refine A3 ?_|refine A5 fun _=>?_|refine A4 fun _=>?_);try simp(disch:=first|omega|assumption|((repeat(first|exact A1|exact uH|apply A2|apply uT));first|done|fail)|(simp;first|done|omega|fail))[ht]))
 refine C0 (Hc := [D9 b j]) H9 (fun w' _ hs => u9 w' b j 13 hs) (by simp only [D9, P6]; (repeat' constructor)) ?_
 rintro _ v rfl
 simp only [List.cons_append, List.nil_append, D8]
 (have zz:=trivial;repeat((first|clear zz|with_reducible first|refine A3 ?_|refine A5 fun _=>?_|refine A4 fun _=>?_);try simp(disch:=first|omega|assumption|((repeat(first|exact A1|exact uH|apply A2|apply uT));first|done|fail)|(simp;first|done|omega|fail))[]))
 refine B0 () rfl ?_
 simp only [D9, P6, RJ.refuse]
 (repeat' constructor)
set_option maxHeartbeats 1000000 in
theorem B9Z (w : World) (b : Nat) (j : RJ) (x : XH) (pins : List Int) (hp : pins.length ≤ 1000) (hst : 0 ≤ j.st ∧ j.st ≤ 1000) (hs8 : x.sl.length ≤ 8) (hk8 : x.keep.length = x.sl.length) (hz : ∀ y ∈ x.keep, y.1 = 0 → y.2 = 0) (hr : ¬ 0 ≤ G3 x.keep pins) (ht : ¬ E5 x.keep < 0) (hw : LW false (B1 (G0 b j pins x)) w (G0 b j pins x) w) :
  Fn PR B6 82 #[.pointer (some ⟨b, 0, none⟩), .pointer (some ⟨x.b, 0, none⟩)] w (Rn (B1 (G0 b j pins x)) w (fun (v : Value × Value) u => u = D8 (false, false, false)) fun v => G0 b { j with st := j.st + 1, slot := E5 x.keep } pins { x with slv := v.1, kev := v.2, sl := L7 x.sl (E5 x.keep), keep := M6 x.keep }) := by
 refine Z3 (TW.goH (κ := false) ?_ hw)
 unfold T1
 generalize hS : B1 (G0 b j pins x) = S at *
 have hwr : IntKind.i64.wrap (j.st + 1) = j.st + 1 := N1 (by omega) (by omega)
 have hR := fun (w' : World) (h1 : D2 w' x.kev x.keep.length (x.keep.flatMap W6)) (h2 : D2 w' j.pins pins.length (C1 pins)) => B0Y w' x.kev j.pins x.keep pins (by omega) (by omega) h1 h2
 have hT := fun (w' : World) (h1 : D2 w' x.kev x.keep.length (x.keep.flatMap W6)) => B4f w' x.kev x.keep (by omega) hz h1
 have hB := fun (w' : World) (h1 : D2 w' x.slv x.sl.length (x.sl.flatMap S2)) => B2z w' x.slv x.sl (E5 x.keep) hs8 h1
 have hI : Y1 x.sl.length (E5 x.keep) = true := by have := C1E x.keep; simp [Y1]; omega
 rw [hI] at hB
 simp only [if_neg ht] at hT
 simp only [if_true] at hB
 generalize M6 x.keep = tk at *
 generalize E5 x.keep = q at *
 generalize G3 x.keep pins = r at *
 simp only [G0, D9, P6, D0, G5, H2]
 (have zz:=trivial;repeat((first|clear zz|with_reducible first|refine A3 ?_|refine A5 fun _=>?_|refine A4 fun _=>?_);try simp(disch:=first|omega|assumption|((repeat(first|exact A1|exact uH|apply A2|apply uT));first|done|fail)|(simp;first|done|omega|fail))[]))
 rename_i bt
 refine D4 f8 (fun w' hw' => hR w' (H3.own (e := 186) (k := 2) (by (repeat constructor)) w' hw') (H3.own (e := 3) (k := 1) (by (repeat constructor)) w' hw')) ?_
 (have zz:=trivial;repeat((first|clear zz|with_reducible first|refine A3 ?_|refine A5 fun _=>?_|refine A4 fun _=>?_);try simp(disch:=first|omega|assumption|((repeat(first|exact A1|exact uH|apply A2|apply uT));first|done|fail)|(simp;first|done|omega|fail))[hr]))
 refine G7 A0l (fun w' hw' => hT w' (H3.own (e := 186) (k := 2) (by (repeat constructor)) w' hw')) ?_
 intro r1 v hv
 subst hv
 refine H7 (e := 186) (k := 2) (v := r1) (q := tk.length) (xs := tk.flatMap W6) (by (repeat constructor)) fun sa sc hu => ?_
 subst hu
 simp only [List.cons_append, List.nil_append]
 (have zz:=trivial;repeat((first|clear zz|with_reducible first|refine A3 ?_|refine A5 fun _=>?_|refine A4 fun _=>?_);try simp(disch:=first|omega|assumption|((repeat(first|exact A1|exact uH|apply A2|apply uT));first|done|fail)|(simp;first|done|omega|fail))[ht]))
 refine G7 y7 (fun w' hw' => hB w' (H3.own (e := 179) (k := 2) (by (repeat constructor)) w' hw')) ?_
 intro r2 v hv
 subst hv
 refine H7 (e := 179) (k := 2) (v := r2) (q := (L7 x.sl q).length) (xs := (L7 x.sl q).flatMap S2) (by (repeat constructor)) fun ra rc hu => ?_
 subst hu
 simp only [List.cons_append, List.nil_append]
 (have zz:=trivial;repeat((first|clear zz|with_reducible first|refine A3 ?_|refine A5 fun _=>?_|refine A4 fun _=>?_);try simp(disch:=first|omega|assumption|((repeat(first|exact A1|exact uH|apply A2|apply uT));first|done|fail)|(simp;first|done|omega|fail))[hwr]))
 refine B0 (.slice ra (L7 x.sl q).length rc, .slice sa tk.length sc) rfl ?_
 (repeat' constructor)
end Go.Proofs.YtpnidmkaobfhiaaGreat
namespace Go.Proofs.YtpnidmkaobfhiaaGreat
open Go
theorem B9y (w : World) (b : Nat) (j : RJ) (pins : List Int) (x : XH) (hst : j.st = 0) (hwk : 1 ≤ x.c.wk ∧ x.c.wk ≤ 64) (hw0 : ¬ j.who = 0) (hw : LW false (B1 (G0 b j pins x)) w (G0 b j pins x) w) :
  Fn PR B6 56 #[.pointer (some ⟨b, 0, none⟩), .pointer (some ⟨x.b, 0, none⟩)] w (Rn (B1 (G0 b j pins x)) w (fun (_ : Unit) u => u = D8 (true, true, false)) fun _ => G0 b (j.refuse 1) pins x) := by
 refine F8 (TW.goH (κ := false) ?_ hw)
 unfold E9
 generalize hS : B1 (G0 b j pins x) = S at *
 simp only [G0, D9, P6, D0, G5, H2, hst]
 (have zz:=trivial;repeat((first|clear zz|with_reducible first|refine A3 ?_|refine A5 fun _=>?_|refine A4 fun _=>?_);try simp(disch:=first|omega|assumption|((repeat(first|exact A1|exact uH|apply A2|apply uT));first|done|fail)|(simp;first|done|omega|fail))[hw0]))
 rename_i bt
 refine C0 (Hc := [D9 b j]) H9 (fun w' _ hs => u9 w' b j 1 hs) (by simp only [D9, P6, hst]; (repeat' constructor)) ?_
 rintro _ v rfl
 simp only [List.cons_append, List.nil_append, D8]
 (have zz:=trivial;repeat((first|clear zz|with_reducible first|refine A3 ?_|refine A5 fun _=>?_|refine A4 fun _=>?_);try simp(disch:=first|omega|assumption|((repeat(first|exact A1|exact uH|apply A2|apply uT));first|done|fail)|(simp;first|done|omega|fail))[]))
 refine B0 () rfl ?_
 simp only [D9, P6, RJ.refuse]
 (repeat' constructor)
theorem C0b (w : World) (b : Nat) (j : RJ) (pins : List Int) (x : XH) (pa : Option Addr) (pc : Nat) (hst : j.st = 0) (hwk : 1 ≤ x.c.wk ∧ x.c.wk ≤ 64) (hw0 : j.who = 0) (hpv : j.pv = .slice pa j.op.pool.length pc) (hpl : j.op.pool.length ≤ 1000) (hck : ¬ G2 j.op.pool = 0)
  (hv : ∀ w', KS false (B1 (G0 b j pins x)) w w' → D2 w' (.slice pa j.op.pool.length pc) j.op.pool.length (j.op.pool.flatMap E6)) (hw : LW false (B1 (G0 b j pins x)) w (G0 b j pins x) w) :
  Fn PR B6 56 #[.pointer (some ⟨b, 0, none⟩), .pointer (some ⟨x.b, 0, none⟩)] w (Rn (B1 (G0 b j pins x)) w (fun (_ : Unit) u => u = D8 (true, true, false)) fun _ => G0 b (j.refuse (G2 j.op.pool)) pins x) := by
 refine F8 (TW.goH (κ := false) ?_ hw)
 unfold E9
 generalize hS : B1 (G0 b j pins x) = S at *
 have hC := fun (w' : World) (h : D2 w' (.slice pa j.op.pool.length pc) j.op.pool.length (j.op.pool.flatMap E6)) => q5 w' _ j.op.pool (by omega) h
 generalize G2 j.op.pool = e at *
 simp only [G0, D9, P6, D0, G5, H2, hst, hw0, hpv]
 (have zz:=trivial;repeat((first|clear zz|with_reducible first|refine A3 ?_|refine A5 fun _=>?_|refine A4 fun _=>?_);try simp(disch:=first|omega|assumption|((repeat(first|exact A1|exact uH|apply A2|apply uT));first|done|fail)|(simp;first|done|omega|fail))[]))
 rename_i bt
 refine D4 F5 (fun w' hw' => hC w' (hv w' hw'.ks)) ?_
 (have zz:=trivial;repeat((first|clear zz|with_reducible first|refine A3 ?_|refine A5 fun _=>?_|refine A4 fun _=>?_);try simp(disch:=first|omega|assumption|((repeat(first|exact A1|exact uH|apply A2|apply uT));first|done|fail)|(simp;first|done|omega|fail))[hck]))
 refine C0 (Hc := [D9 b j]) H9 (fun w' _ hs => u9 w' b j e hs) (by simp only [D9, P6, hst, hw0, hpv]; (repeat' constructor)) ?_
 rintro _ v rfl
 simp only [List.cons_append, List.nil_append, D8]
 (have zz:=trivial;repeat((first|clear zz|with_reducible first|refine A3 ?_|refine A5 fun _=>?_|refine A4 fun _=>?_);try simp(disch:=first|omega|assumption|((repeat(first|exact A1|exact uH|apply A2|apply uT));first|done|fail)|(simp;first|done|omega|fail))[]))
 refine B0 () rfl ?_
 simp only [D9, P6, RJ.refuse, hw0, hpv]
 (repeat' constructor)
structure UpG (w : World) (b : Nat) (j : RJ) (pins : List Int) (x : XH) (pa : Option Addr) (pc : Nat) : Prop where
 wk : 1 ≤ x.c.wk ∧ x.c.wk ≤ 64
 go : j.st = 0 → j.who = 0 ∧ G2 j.op.pool = 0
 st : 0 ≤ j.st ∧ j.st ≤ x.c.wk + 4
 pv : j.pv = .slice pa j.op.pool.length pc
 pl : j.op.pool.length ≤ 1000
 rd : ∀ w', KS false (B1 (G0 b j pins x)) w w' → D2 w' (.slice pa j.op.pool.length pc) j.op.pool.length (j.op.pool.flatMap E6)
theorem B0m {α : Type} {φ : α → Value → Prop} {Hn : α → List Res} (w : World) (b : Nat) (j : RJ) (pins : List Int) (x : XH) (pa : Option Addr) (pc : Nat) (h : UpG w b j pins x pa pc) (hst : j.st = x.c.wk) (hφ : ∀ a u, φ a u → ∃ t, u = D8 t)
  (hp : ∀ w', LW false (B1 (G0 b j pins x)) w' (G0 b j pins x) w' → Fn PR B6 82 #[.pointer (some ⟨b, 0, none⟩), .pointer (some ⟨x.b, 0, none⟩)] w' (Rn (B1 (G0 b j pins x)) w' φ Hn))
  (hw : LW false (B1 (G0 b j pins x)) w (G0 b j pins x) w) :
  Fn PR B6 56 #[.pointer (some ⟨b, 0, none⟩), .pointer (some ⟨x.b, 0, none⟩)] w (Rn (B1 (G0 b j pins x)) w φ Hn) := by
 refine F8 (TW.goH (κ := false) ?_ hw)
 unfold E9
 obtain ⟨hwk, hgo, hs, hpv, hpl, hv⟩ := h
 have hfo : B1 (G0 b j pins x) = B1 (G0 b j pins x) := rfl
 generalize hS : B1 (G0 b j pins x) = S at hv ⊢
 have hC := fun (w' : World) (h : D2 w' (.slice pa j.op.pool.length pc) j.op.pool.length (j.op.pool.flatMap E6)) => q5 w' _ j.op.pool (by omega) h
 generalize G2 j.op.pool = e at *
 have c0 : ¬ x.c.wk = 0 := by omega
 have c1 : x.c.wk - x.c.wk = 0 := by omega
 simp only [G0, D9, P6, D0, G5, H2, hst, hpv]
 (have zz:=trivial;repeat((first|clear zz|with_reducible first|refine A3 ?_|refine A5 fun _=>?_|refine A4 fun _=>?_);try simp(disch:=first|omega|assumption|((repeat(first|exact A1|exact uH|apply A2|apply uT));first|done|fail)|(simp;first|done|omega|fail))[c0, c1]))
 rename_i bt
 refine D4 F5 (fun w' hw' => hC w' (hv w' hw'.ks)) ?_
 (have zz:=trivial;repeat((first|clear zz|with_reducible first|refine A3 ?_|refine A5 fun _=>?_|refine A4 fun _=>?_);try simp(disch:=first|omega|assumption|((repeat(first|exact A1|exact uH|apply A2|apply uT));first|done|fail)|(simp;first|done|omega|fail))[c0, c1]))
 refine C0 (Hc := G0 b j pins x) (Hk := [.pt bt (.cells #[.bool false, .bool false, .bool false] 51)]) A4A (fun w' _ hs => hp w' hs) (by simp only [G0, D9, P6, D0, G5, H2, hst, hpv, List.cons_append, List.nil_append]; (repeat' constructor)) ?_
 intro a v hv2
 obtain ⟨⟨t1, t2, t3⟩, rfl⟩ := hφ a v hv2
 refine TW.perm ?_ List.perm_append_comm
 simp only [List.cons_append, List.nil_append, D8]
 (have zz:=trivial;repeat((first|clear zz|with_reducible first|refine A3 ?_|refine A5 fun _=>?_|refine A4 fun _=>?_);try simp(disch:=first|omega|assumption|((repeat(first|exact A1|exact uH|apply A2|apply uT));first|done|fail)|(simp;first|done|omega|fail))[]))
 exact TW.sub (B0 a hv2 (P5 _)) (List.sublist_cons_self _ _)
theorem C0W (w : World) (b : Nat) (j : RJ) (pins : List Int) (x : XH) (pa : Option Addr) (pc : Nat) (h : UpG w b j pins x pa pc) (hst : j.st = x.c.wk + 1) (hs8 : x.sl.length ≤ 8) (hw : LW false (B1 (G0 b j pins x)) w (G0 b j pins x) w) :
  Fn PR B6 56 #[.pointer (some ⟨b, 0, none⟩), .pointer (some ⟨x.b, 0, none⟩)] w (Rn (B1 (G0 b j pins x)) w (fun (v : Value) u => u = D8 (false, false, false)) fun v => G0 b { j with st := j.st + 1 } pins { x with slv := v, sl := S6 x.sl j.slot j.op.pool (pa, j.op.pool.length, pc) }) := by
 refine F8 (TW.goH (κ := false) ?_ hw)
 unfold E9
 obtain ⟨hwk, hgo, hs, hpv, hpl, hv⟩ := h
 generalize hS : B1 (G0 b j pins x) = S at *
 have hC := fun (w' : World) (h : D2 w' (.slice pa j.op.pool.length pc) j.op.pool.length (j.op.pool.flatMap E6)) => q5 w' _ j.op.pool (by omega) h
 have hF := fun (w' : World) (h1 : D2 w' x.slv x.sl.length (x.sl.flatMap S2)) (h2 : D2 w' (.slice pa j.op.pool.length pc) j.op.pool.length (j.op.pool.flatMap E6)) => B4K w' x.slv x.sl j.slot j.op.pool pa pc hs8 (by omega) h1 h2
 have hfl : flR x.sl j.slot j.op.pool = false → S6 x.sl j.slot j.op.pool (pa, j.op.pool.length, pc) = x.sl := fun h => by unfold S6; rw [h]; rfl
 generalize S6 x.sl j.slot j.op.pool (pa, j.op.pool.length, pc) = fl at *
 generalize flR x.sl j.slot j.op.pool = fb at *
 generalize G2 j.op.pool = e at *
 have c0 : ¬ x.c.wk + 1 = 0 := by omega
 have c1 : x.c.wk + 1 - x.c.wk = 1 := by omega
 simp only [G0, D9, P6, D0, G5, H2, hst, hpv]
 (have zz:=trivial;repeat((first|clear zz|with_reducible first|refine A3 ?_|refine A5 fun _=>?_|refine A4 fun _=>?_);try simp(disch:=first|omega|assumption|((repeat(first|exact A1|exact uH|apply A2|apply uT));first|done|fail)|(simp;first|done|omega|fail))[c0, c1]))
 rename_i bt
 refine D4 F5 (fun w' hw' => hC w' (hv w' hw'.ks)) ?_
 (have zz:=trivial;repeat((first|clear zz|with_reducible first|refine A3 ?_|refine A5 fun _=>?_|refine A4 fun _=>?_);try simp(disch:=first|omega|assumption|((repeat(first|exact A1|exact uH|apply A2|apply uT));first|done|fail)|(simp;first|done|omega|fail))[c0, c1]))
 refine G7 A0m (fun w' hw' => hF w' (H3.own (e := 179) (k := 2) (by (repeat constructor)) w' hw') (hv w' hw'.ks)) ?_
 rintro r1 v rfl
 cases fb with
 | false =>
  rw [hfl rfl]
  refine H7 (e := 179) (k := 2) (v := x.slv) (q := x.sl.length) (xs := x.sl.flatMap S2) (by (repeat constructor)) fun sa sc hu => ?_
  rw [hu]
  (have zz:=trivial;repeat((first|clear zz|with_reducible first|refine A3 ?_|refine A5 fun _=>?_|refine A4 fun _=>?_);try simp(disch:=first|omega|assumption|((repeat(first|exact A1|exact uH|apply A2|apply uT));first|done|fail)|(simp;first|done|omega|fail))[]))
  refine B0 (.slice sa x.sl.length sc) rfl ?_
  (repeat' constructor)
 | true =>
  simp only [if_true]
  refine H7 (e := 179) (k := 2) (v := r1) (q := fl.length) (xs := fl.flatMap S2) (by (repeat constructor)) fun sa sc hu => ?_
  subst hu
  (have zz:=trivial;repeat((first|clear zz|with_reducible first|refine A3 ?_|refine A5 fun _=>?_|refine A4 fun _=>?_);try simp(disch:=first|omega|assumption|((repeat(first|exact A1|exact uH|apply A2|apply uT));first|done|fail)|(simp;first|done|omega|fail))[]))
  refine B0 (.slice sa fl.length sc) rfl ?_
  (repeat' constructor)
theorem B9r (w : World) (b : Nat) (j : RJ) (pins : List Int) (x : XH) (pa : Option Addr) (pc : Nat) (h : UpG w b j pins x pa pc) (hst : j.st = x.c.wk + 2) (hw : LW false (B1 (G0 b j pins x)) w (G0 b j pins x) w) :
  Fn PR B6 56 #[.pointer (some ⟨b, 0, none⟩), .pointer (some ⟨x.b, 0, none⟩)] w (Rn (B1 (G0 b j pins x)) w (fun (_ : Unit) u => u = D8 (false, false, false)) fun _ => G0 b { j with st := j.st + 1, old := x.cur } pins x) := by
 refine F8 (TW.goH (κ := false) ?_ hw)
 unfold E9
 obtain ⟨hwk, hgo, hs, hpv, hpl, hv⟩ := h
 generalize hS : B1 (G0 b j pins x) = S at *
 have hC := fun (w' : World) (h : D2 w' (.slice pa j.op.pool.length pc) j.op.pool.length (j.op.pool.flatMap E6)) => q5 w' _ j.op.pool (by omega) h
 generalize G2 j.op.pool = e at *
 have c0 : ¬ x.c.wk + 2 = 0 := by omega
 have c1 : x.c.wk + 2 - x.c.wk = 2 := by omega
 simp only [G0, D9, P6, D0, G5, H2, hst, hpv]
 (have zz:=trivial;repeat((first|clear zz|with_reducible first|refine A3 ?_|refine A5 fun _=>?_|refine A4 fun _=>?_);try simp(disch:=first|omega|assumption|((repeat(first|exact A1|exact uH|apply A2|apply uT));first|done|fail)|(simp;first|done|omega|fail))[c0, c1]))
 rename_i bt
 refine D4 F5 (fun w' hw' => hC w' (hv w' hw'.ks)) ?_
 (have zz:=trivial;repeat((first|clear zz|with_reducible first|refine A3 ?_|refine A5 fun _=>?_|refine A4 fun _=>?_);try simp(disch:=first|omega|assumption|((repeat(first|exact A1|exact uH|apply A2|apply uT));first|done|fail)|(simp;first|done|omega|fail))[c0, c1]))
 refine B0 () rfl ?_
 (repeat' constructor)
theorem B97 (w : World) (b : Nat) (j : RJ) (pins : List Int) (x : XH) (pa : Option Addr) (pc : Nat) (h : UpG w b j pins x pa pc) (hst : j.st = x.c.wk + 3) (hsl : -1 ≤ j.slot ∧ j.slot ≤ 8) (hw : LW false (B1 (G0 b j pins x)) w (G0 b j pins x) w) :
  Fn PR B6 56 #[.pointer (some ⟨b, 0, none⟩), .pointer (some ⟨x.b, 0, none⟩)] w (Rn (B1 (G0 b j pins x)) w (fun (_ : Unit) u => u = D8 (true, false, false)) fun _ => G0 b { j with st := j.st + 1 } pins { x with cur := j.slot + 1 }) := by
 refine F8 (TW.goH (κ := false) ?_ hw)
 unfold E9
 obtain ⟨hwk, hgo, hs, hpv, hpl, hv⟩ := h
 generalize hS : B1 (G0 b j pins x) = S at *
 have hC := fun (w' : World) (h : D2 w' (.slice pa j.op.pool.length pc) j.op.pool.length (j.op.pool.flatMap E6)) => q5 w' _ j.op.pool (by omega) h
 generalize G2 j.op.pool = e at *
 have c0 : ¬ x.c.wk + 3 = 0 := by omega
 have c1 : x.c.wk + 3 - x.c.wk = 3 := by omega
 simp only [G0, D9, P6, D0, G5, H2, hst, hpv]
 (have zz:=trivial;repeat((first|clear zz|with_reducible first|refine A3 ?_|refine A5 fun _=>?_|refine A4 fun _=>?_);try simp(disch:=first|omega|assumption|((repeat(first|exact A1|exact uH|apply A2|apply uT));first|done|fail)|(simp;first|done|omega|fail))[c0, c1]))
 rename_i bt
 refine D4 F5 (fun w' hw' => hC w' (hv w' hw'.ks)) ?_
 (have zz:=trivial;repeat((first|clear zz|with_reducible first|refine A3 ?_|refine A5 fun _=>?_|refine A4 fun _=>?_);try simp(disch:=first|omega|assumption|((repeat(first|exact A1|exact uH|apply A2|apply uT));first|done|fail)|(simp;first|done|omega|fail))[c0, c1]))
 refine B0 () rfl ?_
 (repeat' constructor)
theorem B9x (w : World) (b : Nat) (j : RJ) (pins : List Int) (x : XH) (pa : Option Addr) (pc : Nat) (h : UpG w b j pins x pa pc) (hst : j.st = x.c.wk + 4) (hold : 0 ≤ j.old ∧ j.old ≤ 500) (hep : 0 ≤ x.ep ∧ x.ep ≤ 1000000) (hk8 : x.keep.length ≤ 8) (hw : LW false (B1 (G0 b j pins x)) w (G0 b j pins x) w) :
  Fn PR B6 56 #[.pointer (some ⟨b, 0, none⟩), .pointer (some ⟨x.b, 0, none⟩)] w (Rn (B1 (G0 b j pins x)) w (fun (v : Value) u => u = D8 (false, true, false)) fun v => G0 b { j with st := -1 } pins { x with kev := v, ep := x.ep + 1, keep := if 0 < j.old then l6 x.keep (j.old - 1) (x.ep + 1) else x.keep }) := by
 refine F8 (TW.goH (κ := false) ?_ hw)
 unfold E9
 obtain ⟨hwk, hgo, hs, hpv, hpl, hv⟩ := h
 generalize hS : B1 (G0 b j pins x) = S at *
 have hC := fun (w' : World) (h : D2 w' (.slice pa j.op.pool.length pc) j.op.pool.length (j.op.pool.flatMap E6)) => q5 w' _ j.op.pool (by omega) h
 have hR := fun (w' : World) (h1 : D2 w' x.kev x.keep.length (x.keep.flatMap W6)) => B7H w' x.kev x.keep (j.old - 1) (x.ep + 1) hk8 h1
 generalize G2 j.op.pool = e at *
 have c0 : ¬ x.c.wk + 4 = 0 := by omega
 have c1 : x.c.wk + 4 - x.c.wk = 4 := by omega
 by_cases o1 : 0 < j.old
 ·simp only [if_pos o1]
  simp only [G0, D9, P6, D0, G5, H2, hst, hpv]
  (have zz:=trivial;repeat((first|clear zz|with_reducible first|refine A3 ?_|refine A5 fun _=>?_|refine A4 fun _=>?_);try simp(disch:=first|omega|assumption|((repeat(first|exact A1|exact uH|apply A2|apply uT));first|done|fail)|(simp;first|done|omega|fail))[c0, c1, o1]))
  rename_i bt
  refine D4 F5 (fun w' hw' => hC w' (hv w' hw'.ks)) ?_
  (have zz:=trivial;repeat((first|clear zz|with_reducible first|refine A3 ?_|refine A5 fun _=>?_|refine A4 fun _=>?_);try simp(disch:=first|omega|assumption|((repeat(first|exact A1|exact uH|apply A2|apply uT));first|done|fail)|(simp;first|done|omega|fail))[c0, c1, o1]))
  refine G7 A4b (fun w' hw' => hR w' (H3.own (e := 186) (k := 2) (by (repeat constructor)) w' hw')) ?_
  intro r1 v hv1
  subst hv1
  by_cases c2 : Z5 x.keep (j.old - 1) = 1
  ·simp only [c2, if_true]
   generalize l6 x.keep (j.old - 1) (x.ep + 1) = rk at *
   refine H7 (e := 186) (k := 2) (v := r1) (q := rk.length) (xs := rk.flatMap W6) (by (repeat constructor)) fun sa sc hu => ?_
   subst hu
   (have zz:=trivial;repeat((first|clear zz|with_reducible first|refine A3 ?_|refine A5 fun _=>?_|refine A4 fun _=>?_);try simp(disch:=first|omega|assumption|((repeat(first|exact A1|exact uH|apply A2|apply uT));first|done|fail)|(simp;first|done|omega|fail))[]))
   refine B0 (.slice sa rk.length sc) rfl ?_
   (repeat' constructor)
  ·have er : l6 x.keep (j.old - 1) (x.ep + 1) = x.keep := by unfold l6 A1d; rw [if_neg (fun g => c2 g.1)]
   rw [er]
   simp only [if_neg c2]
   refine H7 (e := 186) (k := 2) (v := x.kev) (q := x.keep.length) (xs := x.keep.flatMap W6) (by (repeat constructor)) fun sa sc hu => ?_
   rw [hu]
   (have zz:=trivial;repeat((first|clear zz|with_reducible first|refine A3 ?_|refine A5 fun _=>?_|refine A4 fun _=>?_);try simp(disch:=first|omega|assumption|((repeat(first|exact A1|exact uH|apply A2|apply uT));first|done|fail)|(simp;first|done|omega|fail))[]))
   refine B0 (.slice sa x.keep.length sc) rfl ?_
   (repeat' constructor)
 ·simp only [if_neg o1]
  simp only [G0, D9, P6, D0, G5, H2, hst, hpv]
  (have zz:=trivial;repeat((first|clear zz|with_reducible first|refine A3 ?_|refine A5 fun _=>?_|refine A4 fun _=>?_);try simp(disch:=first|omega|assumption|((repeat(first|exact A1|exact uH|apply A2|apply uT));first|done|fail)|(simp;first|done|omega|fail))[c0, c1, o1]))
  rename_i bt
  refine D4 F5 (fun w' hw' => hC w' (hv w' hw'.ks)) ?_
  (have zz:=trivial;repeat((first|clear zz|with_reducible first|refine A3 ?_|refine A5 fun _=>?_|refine A4 fun _=>?_);try simp(disch:=first|omega|assumption|((repeat(first|exact A1|exact uH|apply A2|apply uT));first|done|fail)|(simp;first|done|omega|fail))[c0, c1, o1]))
  refine B0 x.kev rfl ?_
  (repeat' constructor)
end Go.Proofs.YtpnidmkaobfhiaaGreat
namespace Go.Proofs.YtpnidmkaobfhiaaGreat
open Go
theorem C0E (l : List Int) (x : Int) : C1 (l ++ [x]) = C1 l ++ [.int .i64 x] := by unfold C1; rw [List.map_append]; rfl
set_option maxHeartbeats 2000000 in
theorem B9j (w : World) (b : Nat) (j : RJ) (pins : List Int) (x : XH) (pa : Option Addr) (pc k : Nat) (z : Int) (h : UpG w b j pins x pa pc) (hst : j.st = k) (hk : (k : Int) < x.c.wk) (hpn : (x.pins.length : Int) = x.c.wk + 1) (hz : x.pins.getD (k + 1) 0 = z) (hp : pins.length ≤ 100) (hw : LW false (B1 (G0 b j pins x)) w (G0 b j pins x) w) :
  Fn PR B6 56 #[.pointer (some ⟨b, 0, none⟩), .pointer (some ⟨x.b, 0, none⟩)] w (Rn (B1 (G0 b j pins x)) w (fun (v : Value) u => u = D8 (false, false, false)) fun v => G0 b { j with st := k + 1, pins := v } (pins ++ [z]) x) := by
 refine F8 (TW.goH (κ := false) ?_ hw)
 unfold E9
 obtain ⟨hwk, hgo, hs, hpv, hpl, hv⟩ := h
 generalize hS : B1 (G0 b j pins x) = S at *
 have hC := fun (w' : World) (h : D2 w' (.slice pa j.op.pool.length pc) j.op.pool.length (j.op.pool.flatMap E6)) => q5 w' _ j.op.pool (by omega) h
 generalize G2 j.op.pool = e at *
 have hlt : k + 1 < x.pins.length := by omega
 have hge : ¬ x.pins.length ≤ k + 1 := by omega
 have hltI : ((k : Nat) : Int) + 1 < (x.pins.length : Nat) := by omega
 have g1 := W5 hlt
 rw [hz] at g1
 have g2 := (List.getElem?_eq_some_iff.1 g1).2
 obtain ⟨d, hd⟩ : ∃ d : Int, d = (k : Int) - x.c.wk := ⟨_, rfl⟩
 have hd' : IntKind.i64.wrap ((k : Int) - x.c.wk) = d := by rw [hd]; exact N1 (by omega) (by omega)
 have d0 : ¬ d = 0 := by omega
 have d1 : ¬ d = 1 := by omega
 have d2 : ¬ d = 2 := by omega
 have d3 : ¬ d = 3 := by omega
 have d4 : ¬ d = 4 := by omega
 clear hd
 refine P8 (e := 3) (k := 1) (v := x.piv) (q := x.pins.length) (xs := C1 x.pins) (by unfold G0 D0; (repeat constructor)) (by omega) fun pg pgc hxp => ?_
 refine H7 (e := 3) (k := 1) (v := j.pins) (q := pins.length) (xs := C1 pins) (by unfold G0; (repeat constructor)) fun ja jc hjp => ?_
 simp only [G0, D9, P6, D0, G5, H2, hst, hpv, hxp, hjp]
 by_cases c0 : k = 0
 rotate_left
 have c0' : ¬ ((k : Nat) : Int) = 0 := by omega
 (have zz:=trivial;repeat((first|clear zz|with_reducible first|refine A3 ?_|refine A5 fun _=>?_|refine A4 fun _=>?_);try simp(disch:=first|omega|assumption|((repeat(first|exact A1|exact uH|apply A2|apply uT));first|done|fail)|(simp;first|done|omega|fail))[c0, c0', hd']))
 rename_i bt
 refine D4 F5 (fun w' hw' => hC w' (hv w' hw'.ks)) ?_
 (have zz:=trivial;repeat((first|clear zz|with_reducible first|refine A3 ?_|refine A5 fun _=>?_|refine A4 fun _=>?_);try simp(disch:=first|omega|assumption|((repeat(first|exact A1|exact uH|apply A2|apply uT));first|done|fail)|(simp;first|done|omega|fail))[c0, c0', hd', d0, d1, d2, d3, d4]))
 rotate_left
 obtain ⟨hw0, he⟩ := hgo (by omega)
 have c0' : (((k : Nat) : Int) = 0) = True := eq_true (by omega)
 have c0n : (k = 0) = True := eq_true c0
 have hw0' := eq_true hw0
 subst he
 (have zz:=trivial;repeat((first|clear zz|with_reducible first|refine A3 ?_|refine A5 fun _=>?_|refine A4 fun _=>?_);try simp(disch:=first|omega|assumption|((repeat(first|exact A1|exact uH|apply A2|apply uT));first|done|fail)|(simp;first|done|omega|fail))[c0', c0n, hd', hw0']))
 rename_i bt
 refine D4 F5 (fun w' hw' => hC w' (hv w' hw'.ks)) ?_
 (have zz:=trivial;repeat((first|clear zz|with_reducible first|refine A3 ?_|refine A5 fun _=>?_|refine A4 fun _=>?_);try simp(disch:=first|omega|assumption|((repeat(first|exact A1|exact uH|apply A2|apply uT));first|done|fail)|(simp;first|done|omega|fail))[c0', c0n, hd', d0, d1, d2, d3, d4]))
 all_goals
  refine C7g (α := Value) (fun _ => True) (fun v => .pt bt (.cells #[.bool false, .bool false, .bool false] 51) :: .pt b (.cells #[.int .i64 j.who, .int .i64 j.op.kind, .string j.op.packet, .slice pa j.op.pool.length pc, .int .i64 j.op.shard, .int .i64 ((k : Int) + 1), v, .int .i64 j.slot, .int .i64 j.old, j.tab, .int .i64 j.place, .int .i64 j.ans.err, .int .i64 j.ans.bk, .bool j.ans.made, .int .i64 j.ans.count] 59) :: .own 3 1 v (pins ++ [z]).length (C1 (pins ++ [z])) :: D0 x) ?_ ?_
  ·intro v _
   (have zz:=trivial;repeat((first|clear zz|with_reducible first|refine A3 ?_|refine A5 fun _=>?_|refine A4 fun _=>?_);try simp(disch:=first|omega|assumption|((repeat(first|exact A1|exact uH|apply A2|apply uT));first|done|fail)|(simp;first|done|omega|fail))[]))
   refine B0 v rfl ?_
   simp only [D0, G5, H2, hxp]
   (repeat' constructor)
  ·intro J hJ
   simp only [D0, G5, H2, hxp] at hJ
   have ht : (((k : Nat) : Int) + 1).toNat = k + 1 := by omega
   simp only [C0E, List.length_append, List.length_singleton] at hJ
   (have zz:=trivial;repeat((first|clear zz|with_reducible first|refine A3 ?_|refine A5 fun _=>?_|refine A4 fun _=>?_);try simp(disch:=first|omega|assumption|((repeat(first|exact A1|exact uH|apply A2|apply uT));first|done|fail)|(simp;first|done|omega|fail))[hlt, hge, hltI, g1, g2, ht]))
   refine ⟨?_, ?_, fun _ _ => trivial⟩
   ·(have zz:=trivial;repeat((first|clear zz|with_reducible first|refine A3 ?_|refine A5 fun _=>?_|refine A4 fun _=>?_|refine T6 fun _=>?_|refine T0 (hK:=fun _=>?_)|refine T8 (hK:=fun _=>?_)|refine T2 (hK:=fun _=>?_)|refine T3 (hK:=fun _=>?_)|refine T7 (hK:=fun _=>?_));try simp(disch:=first|omega|assumption|((repeat(first|exact A1|exact uH|apply A2|apply uT));first|done|fail)|(simp;first|done|omega|fail))[ht, g1, g2, hlt]))
    refine ⟨?_, ?_, fun _ _ => trivial⟩
    ·(have zz:=trivial;repeat((first|clear zz|with_reducible first|refine A3 ?_|refine A5 fun _=>?_|refine A4 fun _=>?_|refine T6 fun _=>?_|refine T0 (hK:=fun _=>?_)|refine T8 (hK:=fun _=>?_)|refine T2 (hK:=fun _=>?_)|refine T3 (hK:=fun _=>?_)|refine T7 (hK:=fun _=>?_));try simp(disch:=first|omega|assumption|((repeat(first|exact A1|exact uH|apply A2|apply uT));first|done|fail)|(simp;first|done|omega|fail))[ht, g1, g2, hlt]))
     refine W9 (e := 3) (k := 1) (q := 0) (r := pins.length) (xs := []) (news := C1 pins) (by (repeat constructor)) (H3.own (by (repeat constructor))) (by decide) (by simp) (by simp [C1]) (by simp only [maxLen]; omega) (by omega) fun a1 c1 => ?_
     rw [List.nil_append, Nat.zero_add]
     (have zz:=trivial;repeat((first|clear zz|with_reducible first|refine A3 ?_|refine A5 fun _=>?_|refine A4 fun _=>?_|refine T6 fun _=>?_|refine T0 (hK:=fun _=>?_)|refine T8 (hK:=fun _=>?_)|refine T2 (hK:=fun _=>?_)|refine T3 (hK:=fun _=>?_)|refine T7 (hK:=fun _=>?_));try simp(disch:=first|omega|assumption|((repeat(first|exact A1|exact uH|apply A2|apply uT));first|done|fail)|(simp;first|done|omega|fail))[ht, g1, g2, hlt]))
     refine W9 (e := 3) (k := 1) (q := pins.length) (r := 1) (xs := C1 pins) (news := [.int .i64 z]) (by (repeat constructor)) (H3.own (by (repeat constructor))) (by decide) (by simp) (by simp) (by simp only [maxLen]; omega) (by omega) fun a2 c2 => ?_
     (have zz:=trivial;repeat((first|clear zz|with_reducible first|refine A3 ?_|refine A5 fun _=>?_|refine A4 fun _=>?_);try simp(disch:=first|omega|assumption|((repeat(first|exact A1|exact uH|apply A2|apply uT));first|done|fail)|(simp;first|done|omega|fail))[]))
     exact Sels.tw (by (repeat' constructor)) (hJ (.slice a2 (pins.length + 1) c2) trivial)
    ·(have zz:=trivial;repeat((first|clear zz|with_reducible first|refine A3 ?_|refine A5 fun _=>?_|refine A4 fun _=>?_|refine T6 fun _=>?_|refine T0 (hK:=fun _=>?_)|refine T8 (hK:=fun _=>?_)|refine T2 (hK:=fun _=>?_)|refine T3 (hK:=fun _=>?_)|refine T7 (hK:=fun _=>?_));try simp(disch:=first|omega|assumption|((repeat(first|exact A1|exact uH|apply A2|apply uT));first|done|fail)|(simp;first|done|omega|fail))[ht, g1, g2, hlt]))
     refine W9 (e := 3) (k := 1) (q := 0) (r := pins.length) (xs := []) (news := C1 pins) (by (repeat constructor)) (H3.own (by (repeat constructor))) (by decide) (by simp) (by simp [C1]) (by simp only [maxLen]; omega) (by omega) fun a1 c1 => ?_
     rw [List.nil_append, Nat.zero_add]
     (have zz:=trivial;repeat((first|clear zz|with_reducible first|refine A3 ?_|refine A5 fun _=>?_|refine A4 fun _=>?_|refine T6 fun _=>?_|refine T0 (hK:=fun _=>?_)|refine T8 (hK:=fun _=>?_)|refine T2 (hK:=fun _=>?_)|refine T3 (hK:=fun _=>?_)|refine T7 (hK:=fun _=>?_));try simp(disch:=first|omega|assumption|((repeat(first|exact A1|exact uH|apply A2|apply uT));first|done|fail)|(simp;first|done|omega|fail))[ht, g1, g2, hlt]))
     refine W9 (e := 3) (k := 1) (q := pins.length) (r := 1) (xs := C1 pins) (news := [.int .i64 z]) (by (repeat constructor)) (H3.own (by (repeat constructor))) (by decide) (by simp) (by simp) (by simp only [maxLen]; omega) (by omega) fun a2 c2 => ?_
     (have zz:=trivial;repeat((first|clear zz|with_reducible first|refine A3 ?_|refine A5 fun _=>?_|refine A4 fun _=>?_);try simp(disch:=first|omega|assumption|((repeat(first|exact A1|exact uH|apply A2|apply uT));first|done|fail)|(simp;first|done|omega|fail))[]))
     exact Sels.tw (by (repeat' constructor)) (hJ (.slice a2 (pins.length + 1) c2) trivial)
   ·(have zz:=trivial;repeat((first|clear zz|with_reducible first|refine A3 ?_|refine A5 fun _=>?_|refine A4 fun _=>?_|refine T6 fun _=>?_|refine T0 (hK:=fun _=>?_)|refine T8 (hK:=fun _=>?_)|refine T2 (hK:=fun _=>?_)|refine T3 (hK:=fun _=>?_)|refine T7 (hK:=fun _=>?_));try simp(disch:=first|omega|assumption|((repeat(first|exact A1|exact uH|apply A2|apply uT));first|done|fail)|(simp;first|done|omega|fail))[ht, g1, g2, hlt]))
    refine W9 (e := 3) (k := 1) (q := 0) (r := pins.length) (xs := []) (news := C1 pins) (by (repeat constructor)) (H3.own (by (repeat constructor))) (by decide) (by simp) (by simp [C1]) (by simp only [maxLen]; omega) (by omega) fun a1 c1 => ?_
    rw [List.nil_append, Nat.zero_add]
    (have zz:=trivial;repeat((first|clear zz|with_reducible first|refine A3 ?_|refine A5 fun _=>?_|refine A4 fun _=>?_|refine T6 fun _=>?_|refine T0 (hK:=fun _=>?_)|refine T8 (hK:=fun _=>?_)|refine T2 (hK:=fun _=>?_)|refine T3 (hK:=fun _=>?_)|refine T7 (hK:=fun _=>?_));try simp(disch:=first|omega|assumption|((repeat(first|exact A1|exact uH|apply A2|apply uT));first|done|fail)|(simp;first|done|omega|fail))[ht, g1, g2, hlt]))
    refine W9 (e := 3) (k := 1) (q := pins.length) (r := 1) (xs := C1 pins) (news := [.int .i64 z]) (by (repeat constructor)) (H3.own (by (repeat constructor))) (by decide) (by simp) (by simp) (by simp only [maxLen]; omega) (by omega) fun a2 c2 => ?_
    (have zz:=trivial;repeat((first|clear zz|with_reducible first|refine A3 ?_|refine A5 fun _=>?_|refine A4 fun _=>?_);try simp(disch:=first|omega|assumption|((repeat(first|exact A1|exact uH|apply A2|apply uT));first|done|fail)|(simp;first|done|omega|fail))[]))
    exact Sels.tw (by (repeat' constructor)) (hJ (.slice a2 (pins.length + 1) c2) trivial)
end Go.Proofs.YtpnidmkaobfhiaaGreat
namespace Go.Proofs.YtpnidmkaobfhiaaGreat
open Go
theorem B99 (w : World) (b : Nat) (j : RJ) (x : XH) (hst : j.st = 0) (hr : j.op.shard < 0 ∨ x.c.sh ≤ j.op.shard) (hw : LW false (B1 (D9 b j :: D0 x)) w (D9 b j :: D0 x) w) :
  Fn PR B6 57 #[.pointer (some ⟨b, 0, none⟩), .pointer (some ⟨x.b, 0, none⟩)] w (Rn (B1 (D9 b j :: D0 x)) w (fun (_ : Unit) u => u = D8 (true, true, false)) fun _ => D9 b (j.refuse 1) :: D0 x) := by
 refine N7 (TW.goH (κ := false) ?_ hw)
 unfold K6
 generalize hS : B1 (D9 b j :: D0 x) = S at *
 simp only [D9, P6, D0, G5, H2, hst]
 by_cases c1 : j.op.shard < 0
 ·(have zz:=trivial;repeat((first|clear zz|with_reducible first|refine A3 ?_|refine A5 fun _=>?_|refine A4 fun _=>?_);try simp(disch:=first|omega|assumption|((repeat(first|exact A1|exact uH|apply A2|apply uT));first|done|fail)|(simp;first|done|omega|fail))[c1]))
  rename_i bt
  refine C0 (Hc := [D9 b j]) H9 (fun w' _ hs => u9 w' b j 1 hs) (by simp only [D9, P6, hst]; (repeat' constructor)) ?_
  rintro _ v rfl
  simp only [List.cons_append, List.nil_append, D8]
  (have zz:=trivial;repeat((first|clear zz|with_reducible first|refine A3 ?_|refine A5 fun _=>?_|refine A4 fun _=>?_);try simp(disch:=first|omega|assumption|((repeat(first|exact A1|exact uH|apply A2|apply uT));first|done|fail)|(simp;first|done|omega|fail))[]))
  refine B0 () rfl ?_
  simp only [D9, P6, RJ.refuse]
  (repeat' constructor)
 ·have c2 : x.c.sh ≤ j.op.shard := by omega
  have c3 : ¬ j.op.shard < x.c.sh := by omega
  (have zz:=trivial;repeat((first|clear zz|with_reducible first|refine A3 ?_|refine A5 fun _=>?_|refine A4 fun _=>?_);try simp(disch:=first|omega|assumption|((repeat(first|exact A1|exact uH|apply A2|apply uT));first|done|fail)|(simp;first|done|omega|fail))[c1, c2, c3]))
  rename_i bt
  refine C0 (Hc := [D9 b j]) H9 (fun w' _ hs => u9 w' b j 1 hs) (by simp only [D9, P6, hst]; (repeat' constructor)) ?_
  rintro _ v rfl
  simp only [List.cons_append, List.nil_append, D8]
  (have zz:=trivial;repeat((first|clear zz|with_reducible first|refine A3 ?_|refine A5 fun _=>?_|refine A4 fun _=>?_);try simp(disch:=first|omega|assumption|((repeat(first|exact A1|exact uH|apply A2|apply uT));first|done|fail)|(simp;first|done|omega|fail))[]))
  refine B0 () rfl ?_
  simp only [D9, P6, RJ.refuse]
  (repeat' constructor)
theorem C1V (w : World) (b : Nat) (j : RJ) (x : XH) (k n : Nat) (hst : j.st = 0) (hsd : j.op.shard = k) (hc : x.c.sh = n) (hk : k < n) (hl : x.locks.length = n) (hw : LW false (B1 (D9 b j :: D0 x)) w (D9 b j :: D0 x) w) :
  Fn PR B6 57 #[.pointer (some ⟨b, 0, none⟩), .pointer (some ⟨x.b, 0, none⟩)] w (Rn (B1 (D9 b j :: D0 x)) w (fun (v : Value) u => u = D8 (false, false, false)) fun v => D9 b { j with st := 1 } :: D0 { x with lov := v, locks := x.locks.set k j.who }) := by
 refine N7 (TW.goH (κ := false) ?_ hw)
 unfold K6
 generalize hS : B1 (D9 b j :: D0 x) = S at *
 have hlt : k < x.locks.length := by omega
 have hge : ¬ x.locks.length ≤ k := by omega
 have c1 : ¬ n ≤ k := by omega
 have c2 : ¬ (k : Int) < 0 := by omega
 simp only [D9, P6, D0, G5, H2, hst, hc, hsd]
 refine P8 (e := 3) (k := 1) (v := x.lov) (q := x.locks.length) (xs := C1 x.locks) (by (repeat constructor)) (by omega) fun pg pc hpv => ?_
 rw [hpv]
 (have zz:=trivial;repeat((first|clear zz|with_reducible first|refine A3 ?_|refine A5 fun _=>?_|refine A4 fun _=>?_);try simp(disch:=first|omega|assumption|((repeat(first|exact A1|exact uH|apply A2|apply uT));first|done|fail)|(simp;first|done|omega|fail))[hk, hlt, hge, c1, c2]))
 refine N0 (by (repeat constructor)) (by simp) (by simp; omega) (by simp) ?_
 have e : U7 (C1 x.locks) k (Value.int .i64 j.who).cells.toList = C1 (x.locks.set k j.who) := l9 hlt _
 rw [e]
 (have zz:=trivial;repeat((first|clear zz|with_reducible first|refine A3 ?_|refine A5 fun _=>?_|refine A4 fun _=>?_);try simp(disch:=first|omega|assumption|((repeat(first|exact A1|exact uH|apply A2|apply uT));first|done|fail)|(simp;first|done|omega|fail))[hk, hlt, hge]))
 refine B0 (.slice (some ⟨pg, 0, none⟩) x.locks.length pc) rfl ?_
 (repeat' constructor)
theorem C0m (w : World) (b : Nat) (j : RJ) (x : XH) (k n : Nat) (hst : j.st = 3) (hsd : j.op.shard = k) (hk : k < n) (hl : x.locks.length = n) (hw : LW false (B1 (D9 b j :: D0 x)) w (D9 b j :: D0 x) w) :
  Fn PR B6 57 #[.pointer (some ⟨b, 0, none⟩), .pointer (some ⟨x.b, 0, none⟩)] w (Rn (B1 (D9 b j :: D0 x)) w (fun (v : Value) u => u = D8 (false, true, false)) fun v => D9 b { j with st := -1 } :: D0 { x with lov := v, locks := x.locks.set k (-1) }) := by
 refine N7 (TW.goH (κ := false) ?_ hw)
 unfold K6
 generalize hS : B1 (D9 b j :: D0 x) = S at *
 have hlt : k < x.locks.length := by omega
 have hge : ¬ x.locks.length ≤ k := by omega
 simp only [D9, P6, D0, G5, H2, hst, hsd]
 refine P8 (e := 3) (k := 1) (v := x.lov) (q := x.locks.length) (xs := C1 x.locks) (by (repeat constructor)) (by omega) fun pg pc hpv => ?_
 rw [hpv]
 (have zz:=trivial;repeat((first|clear zz|with_reducible first|refine A3 ?_|refine A5 fun _=>?_|refine A4 fun _=>?_);try simp(disch:=first|omega|assumption|((repeat(first|exact A1|exact uH|apply A2|apply uT));first|done|fail)|(simp;first|done|omega|fail))[hlt, hge]))
 refine N0 (by (repeat constructor)) (by simp) (by simp; omega) (by simp) ?_
 have e : U7 (C1 x.locks) k (Value.int .i64 (-1)).cells.toList = C1 (x.locks.set k (-1)) := l9 hlt _
 rw [e]
 (have zz:=trivial;repeat((first|clear zz|with_reducible first|refine A3 ?_|refine A5 fun _=>?_|refine A4 fun _=>?_);try simp(disch:=first|omega|assumption|((repeat(first|exact A1|exact uH|apply A2|apply uT));first|done|fail)|(simp;first|done|omega|fail))[hlt, hge]))
 refine B0 (.slice (some ⟨pg, 0, none⟩) x.locks.length pc) rfl ?_
 (repeat' constructor)
end Go.Proofs.YtpnidmkaobfhiaaGreat
namespace Go.Proofs.YtpnidmkaobfhiaaGreat
open Go
theorem C04 (w : World) (b : Nat) (j : RJ) (x : XH) (P : K8) (k n p : Nat) (l : List EnV) (hst : j.st = 2) (hsd : j.op.shard = k) (hpl : j.place = p) (hk : k < n) (ht : x.ts.length = n) (hl : x.pl.length = n) (htb : (j.tab, l) ∈ P) (hw : LW false (B1 (D9 b j :: C8 P :: D0 x)) w (D9 b j :: C8 P :: D0 x) w) :
  Fn PR B6 57 #[.pointer (some ⟨b, 0, none⟩), .pointer (some ⟨x.b, 0, none⟩)] w (Rn (B1 (D9 b j :: C8 P :: D0 x)) w (fun (v : Value × Value) u => u = D8 (false, false, false)) fun v => D9 b { j with st := 3 } :: C8 P :: D0 { x with tav := v.1, plv := v.2, ts := x.ts.set k (j.tab, l), pl := x.pl.set k p }) := by
 refine N7 (TW.goH (κ := false) ?_ hw)
 unfold K6
 generalize hS : B1 (D9 b j :: C8 P :: D0 x) = S at *
 have htl : k < x.ts.length := by omega
 have htl' : ¬ x.ts.length ≤ k := by omega
 have hpl1 : k < x.pl.length := by omega
 have hpl2 : ¬ x.pl.length ≤ k := by omega
 simp only [D9, P6, D0, G5, H2, hst, hsd, hpl]
 refine P8 (e := 55) (k := 1) (v := x.tav) (q := x.ts.length) (xs := x.ts.map (·.1)) (by (repeat constructor)) (by omega) fun tg tc hta => ?_
 refine P8 (e := 3) (k := 1) (v := x.plv) (q := x.pl.length) (xs := V6 x.pl) (by (repeat constructor)) (by omega) fun pg pc hpv => ?_
 rw [hta, hpv]
 refine A1w (P := P) (v := j.tab) (l := l) (by (repeat constructor)) htb fun xa xc hxa => ?_
 rw [hxa]
 (have zz:=trivial;repeat((first|clear zz|with_reducible first|refine A3 ?_|refine A5 fun _=>?_|refine A4 fun _=>?_);try simp(disch:=first|omega|assumption|((repeat(first|exact A1|exact uH|apply A2|apply uT));first|done|fail)|(simp;first|done|omega|fail))[htl, htl', hpl1, hpl2]))
 refine N0 (by (repeat constructor)) (by simp) (by simp; omega) (by simp) ?_
 have e1 : U7 (x.ts.map (·.1)) k (Value.slice xa l.length xc).cells.toList = (x.ts.set k (.slice xa l.length xc, l)).map (·.1) := A8r (f := (·.1)) x.ts k (.slice xa l.length xc, l) htl
 rw [e1]
 (have zz:=trivial;repeat((first|clear zz|with_reducible first|refine A3 ?_|refine A5 fun _=>?_|refine A4 fun _=>?_);try simp(disch:=first|omega|assumption|((repeat(first|exact A1|exact uH|apply A2|apply uT));first|done|fail)|(simp;first|done|omega|fail))[htl, htl', hpl1, hpl2]))
 refine N0 (by (repeat constructor)) (by simp) (by simp; omega) (by simp) ?_
 have e2 : U7 (V6 x.pl) k (Value.int .i64 (p : Nat)).cells.toList = V6 (x.pl.set k p) := A8r (f := fun n : Nat => Value.int .i64 n) x.pl k p hpl1
 rw [e2]
 (have zz:=trivial;repeat((first|clear zz|with_reducible first|refine A3 ?_|refine A5 fun _=>?_|refine A4 fun _=>?_);try simp(disch:=first|omega|assumption|((repeat(first|exact A1|exact uH|apply A2|apply uT));first|done|fail)|(simp;first|done|omega|fail))[]))
 refine B0 (.slice (some ⟨tg, 0, none⟩) x.ts.length tc, .slice (some ⟨pg, 0, none⟩) x.pl.length pc) rfl ?_
 simp only [List.length_set]
 (repeat' constructor)
end Go.Proofs.YtpnidmkaobfhiaaGreat
namespace Go.Proofs.YtpnidmkaobfhiaaGreat
open Go
theorem B56 {l : List EnV} {f n now : Int} (h : (H5 l f n now).2.2 = 0) : (H5 l f n now).1 = l := by
 unfold H5 at h ⊢
 simp only at h ⊢
 rw [if_neg (by omega)]
 exact B1n l _ _ now h
set_option maxRecDepth 10000 in
set_option maxHeartbeats 1000000 in
theorem B9p (w : World) (b : Nat) (j : RJ) (x : XH) (P : K8) (k n p : Nat) (l : List EnV) (hst : j.st = 1) (hsd : j.op.shard = k) (hk : k < n) (ht : x.ts.length = n) (hl : x.pl.length = n) (hpl : x.pl.getD k 0 = p) (hsub : c6 x.ts P) (hk0 : (x.ts.map (·.2)).getD k [] = l) (hkeys : L5 l) (hlen : l.length ≤ 1000000) (hw : LW false (B1 (D9 b j :: C8 P :: D0 x)) w (D9 b j :: C8 P :: D0 x) w) :
  Fn PR B6 57 #[.pointer (some ⟨b, 0, none⟩), .pointer (some ⟨x.b, 0, none⟩)] w (Rn (B1 (D9 b j :: C8 P :: D0 x)) w (fun (y : Value × K8) u => u = D8 (true, false, false) ∧ (y.1, (H5 l p 4 x.now).1) ∈ y.2 ∧ A8l P y.2 (H5 l p 4 x.now).1) fun y => D9 b { j with st := 2, tab := y.1, place := ((H5 l p 4 x.now).2.1 : Nat), ans := { j.ans with count := ((H5 l p 4 x.now).2.2 : Nat) } } :: C8 y.2 :: D0 x) := by
 refine N7 (TW.goH (κ := false) ?_ hw)
 unfold K6
 generalize hS : B1 (D9 b j :: C8 P :: D0 x) = S at *
 have htl : k < x.ts.length := by omega
 have htl' : ¬ x.ts.length ≤ k := by omega
 have hpl1 : k < x.pl.length := by omega
 have hpl2 : ¬ x.pl.length ≤ k := by omega
 obtain ⟨⟨tv0, tl⟩, hx0⟩ : ∃ y, x.ts[k]? = some y := ⟨_, List.getElem?_eq_getElem htl⟩
 have hxm := List.mem_of_getElem? hx0
 have g0 : (x.ts.map (·.1))[k]? = some tv0 := by rw [List.getElem?_map, hx0]; rfl
 have gg : x.ts[k]'htl = (tv0, tl) := (List.getElem?_eq_some_iff.1 hx0).2
 obtain rfl : tl = l := by rw [← hk0, List.getD_eq_getElem?_getD, List.getElem?_map, hx0]; rfl
 have gp : (V6 x.pl)[k]? = some (.int .i64 (p : Nat)) := by rw [B09 hpl1, hpl]
 have gp2 : (V6 x.pl)[k]'(by rw [C2p]; exact hpl1) = .int .i64 (p : Nat) := (List.getElem?_eq_some_iff.1 gp).2
 have hD := fun (w' : World) (v : Value) (hv : D2 w' v tl.length (tl.flatMap E3)) => B92 w' v tl p 4 x.now hkeys hlen hv
 have hsame := B56 (l := tl) (f := p) (n := 4) (now := x.now)
 obtain ⟨D, hDe⟩ : ∃ D, D = H5 tl p 4 x.now := ⟨_, rfl⟩
 simp only [← hDe] at hD hsame ⊢
 clear hDe
 simp only [D9, P6, D0, G5, H2, hst, hsd]
 refine P8 (e := 55) (k := 1) (v := x.tav) (q := x.ts.length) (xs := x.ts.map (·.1)) (by (repeat constructor)) (by omega) fun tg tc hta => ?_
 refine P8 (e := 3) (k := 1) (v := x.plv) (q := x.pl.length) (xs := V6 x.pl) (by (repeat constructor)) (by omega) fun pg pc hpv => ?_
 rw [hta, hpv]
 refine A1w (P := P) (v := tv0) (l := tl) (by (repeat constructor)) (hsub _ hxm) fun xa xc hxa => ?_
 subst hxa
 (have zz:=trivial;repeat((first|clear zz|with_reducible first|refine A3 ?_|refine A5 fun _=>?_|refine A4 fun _=>?_);try simp(disch:=first|omega|assumption|((repeat(first|exact A1|exact uH|apply A2|apply uT));first|done|fail)|(simp;first|done|omega|fail))[htl, htl', hpl1, hpl2, g0, gg, gp, gp2]))
 refine G7 A5f (fun w' hw' => hD w' _ (A7d (ts := P) (t := (.slice xa tl.length xc, tl)) hw' (by (repeat constructor)) (hsub _ hxm))) ?_
 intro r v hv
 subst hv
 by_cases hch : D.2.2 = 0
 ·have hs1 := hsame hch
  simp only [hch, if_true, List.nil_append]
  (have zz:=trivial;repeat((first|clear zz|with_reducible first|refine A3 ?_|refine A5 fun _=>?_|refine A4 fun _=>?_);try simp(disch:=first|omega|assumption|((repeat(first|exact A1|exact uH|apply A2|apply uT));first|done|fail)|(simp;first|done|omega|fail))[]))
  refine B0 (.slice xa tl.length xc, P) ⟨rfl, by rw [hs1]; exact hsub _ hxm, .same _ _⟩ ?_
  (repeat' constructor)
 ·simp only [if_neg hch]
  refine H7 (e := 155) (k := 4) (v := r) (q := D.1.length) (xs := D.1.flatMap E3) (by (repeat constructor)) fun ra rc hu => ?_
  subst hu
  simp only [List.cons_append, List.nil_append]
  (have zz:=trivial;repeat((first|clear zz|with_reducible first|refine A3 ?_|refine A5 fun _=>?_|refine A4 fun _=>?_);try simp(disch:=first|omega|assumption|((repeat(first|exact A1|exact uH|apply A2|apply uT));first|done|fail)|(simp;first|done|omega|fail))[]))
  refine A1v (r := .slice ra D.1.length rc) (l := D.1) (ts := P) (by (repeat' constructor)) ?_
  refine B0 (.slice ra D.1.length rc, P ++ [(.slice ra D.1.length rc, D.1)]) ⟨rfl, List.mem_append_right _ (List.mem_singleton.2 rfl), .push _ _ _⟩ ?_
  (repeat' constructor)
end Go.Proofs.YtpnidmkaobfhiaaGreat
