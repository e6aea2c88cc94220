/- The proof of a given statement, a part of it (Packet Bytes Sl Pool Vals ShProbe ShFnv Fnv Probe). No condition but what each lemma says. -/
import Derived.Lib.SlBytesRow
import Derived.Test.YtjobgnabneddjaaGreatK11
set_option maxHeartbeats 4000000
set_option linter.unusedVariables false
set_option linter.unusedSimpArgs false
namespace Go.Proofs.YtjobgnabneddjaaGreat
open Go
structure KeyV where
 v : Int
 src : ByteArray
 dst : ByteArray
 fr : Int
 tp : Int
 proto : Int
 deriving DecidableEq
def KeyV.cs (k : KeyV) : List Value := [.int .i64 k.v,.string k.src,.string k.dst,.int .i64 k.fr,.int .i64 k.tp,.int .i64 k.proto]
def KeyV.val (k : KeyV) : Value:=.agg #[.int .i64 k.v,.string k.src,.string k.dst,.int .i64 k.fr,.int .i64 k.tp,.int .i64 k.proto]
def noK : KeyV:=⟨0,M6,M6,0,0,0⟩
def N9 (s : ByteArray) : KeyV × ByteArray × Nat :=
 if s.size = 0 then (noK,M6,2) else if C9 s 0 / 16 = 4 then (⟨4,(Q9 s).src,(Q9 s).dst,0,0,(Q9 s).proto⟩,(Q9 s).rest,(Q9 s).e)
 else if C9 s 0 / 16 = 6 then (⟨6,(T4 s).src,(T4 s).dst,0,0,(T4 s).proto⟩,(T4 s).rest,(T4 s).e) else (noK,M6,3)
def keyed.val (x : KeyV × ByteArray × Nat) : Value:=.tuple #[x.1.val,.string x.2.1,.int .i64 x.2.2]
theorem C3u (w : World) (src dst : ByteArray) (p : Int) : Fn PR B8 140 #[.agg #[.string src,.string dst,.int .i64 p]] w (fun v w' => v = KeyV.val ⟨4,src,dst,0,0,p⟩ ∧ C7 [] w w'):=by
 refine Fn.pure (B3N (TW.go (κ:=false) (S := []) ?_))
 unfold A4w
 (repeat first|simp(disch:=solve|omega|assumption|repeat(first|exact A1|exact uH|apply A2|apply uT)|simp|(simp;omega)|fail)[]|with_reducible first|apply A3|refine A5 fun _=>?_|refine A4 fun _=>?_)
 exact A9 rfl
theorem C40 (w : World) (src dst : ByteArray) (p : Int) : Fn PR B8 143 #[.agg #[.string src,.string dst,.int .i64 p]] w (fun v w' => v = KeyV.val ⟨6,src,dst,0,0,p⟩ ∧ C7 [] w w'):=by
 refine Fn.pure (B3x (TW.go (κ:=false) (S := []) ?_))
 unfold A4v
 (repeat first|simp(disch:=solve|omega|assumption|repeat(first|exact A1|exact uH|apply A2|apply uT)|simp|(simp;omega)|fail)[]|with_reducible first|apply A3|refine A5 fun _=>?_|refine A4 fun _=>?_)
 exact A9 rfl
theorem C71 (w : World) (s : ByteArray) (hs : s.size < 2 ^ 63) : Fn PR B8 138 #[.string s,.func (.func 139) #[] #[],.func (.func 140) #[] #[]] w
  (fun v w' => v = keyed.val (⟨4,(Q9 s).src,(Q9 s).dst,0,0,(Q9 s).proto⟩,(Q9 s).rest,(Q9 s).e) ∧ C7 [] w w'):=by
 refine Fn.pure (A7p (TW.go (κ:=false) (S := []) ?_))
 unfold A1f
 (repeat first|simp(disch:=solve|omega|assumption|repeat(first|exact A1|exact uH|apply A2|apply uT)|simp|(simp;omega)|fail)[]|with_reducible first|apply A3|refine A5 fun _=>?_|refine A4 fun _=>?_)
 refine B7 B9H (fun w' _=> C2a w' s hs) ?_
 (repeat first|simp(disch:=solve|omega|assumption|repeat(first|exact A1|exact uH|apply A2|apply uT)|simp|(simp;omega)|fail)[HeadV.val]|with_reducible first|apply A3|refine A5 fun _=>?_|refine A4 fun _=>?_)
 refine B7 B2f (fun w' _=> C3u w' _ _ _) ?_
 (repeat first|simp(disch:=solve|omega|assumption|repeat(first|exact A1|exact uH|apply A2|apply uT)|simp|(simp;omega)|fail)[KeyV.val]|with_reducible first|apply A3|refine A5 fun _=>?_|refine A4 fun _=>?_)
 exact A9 (by simp [keyed.val,KeyV.val])
theorem C9p (w : World) (s : ByteArray) (hs : s.size < 2 ^ 63) : Fn PR B8 141 #[.string s,.func (.func 142) #[] #[],.func (.func 143) #[] #[]] w
  (fun v w' => v = keyed.val (⟨6,(T4 s).src,(T4 s).dst,0,0,(T4 s).proto⟩,(T4 s).rest,(T4 s).e) ∧ C7 [] w w'):=by
 refine Fn.pure (A7l (TW.go (κ:=false) (S := []) ?_))
 unfold A1e
 (repeat first|simp(disch:=solve|omega|assumption|repeat(first|exact A1|exact uH|apply A2|apply uT)|simp|(simp;omega)|fail)[]|with_reducible first|apply A3|refine A5 fun _=>?_|refine A4 fun _=>?_)
 refine B7 B9k (fun w' _=> C2f w' s hs) ?_
 (repeat first|simp(disch:=solve|omega|assumption|repeat(first|exact A1|exact uH|apply A2|apply uT)|simp|(simp;omega)|fail)[HeadV.val]|with_reducible first|apply A3|refine A5 fun _=>?_|refine A4 fun _=>?_)
 refine B7 B2w (fun w' _=> C40 w' _ _ _) ?_
 (repeat first|simp(disch:=solve|omega|assumption|repeat(first|exact A1|exact uH|apply A2|apply uT)|simp|(simp;omega)|fail)[KeyV.val]|with_reducible first|apply A3|refine A5 fun _=>?_|refine A4 fun _=>?_)
 exact A9 (by simp [keyed.val,KeyV.val])
theorem D1Z (w : World) (v : Int) : Fn PR B8 228 #[.int .i64 v] w (fun u w' => u = .int .i64 (if v = 4 then 4 else if v = 6 then 16 else 0) ∧ C7 [] w w'):=by
 refine Fn.pure (B77 (TW.go (κ:=false) (S := []) ?_))
 unfold A9q
 by_cases c1 : v = 4
 ·(repeat first|simp(disch:=solve|omega|assumption|repeat(first|exact A1|exact uH|apply A2|apply uT)|simp|(simp;omega)|fail)[c1]|with_reducible first|apply A3|refine A5 fun _=>?_|refine A4 fun _=>?_); exact A9 (by simp)
 by_cases c2 : v = 6
 ·(repeat first|simp(disch:=solve|omega|assumption|repeat(first|exact A1|exact uH|apply A2|apply uT)|simp|(simp;omega)|fail)[c1,c2]|with_reducible first|apply A3|refine A5 fun _=>?_|refine A4 fun _=>?_); exact A9 (by simp)
 ·(repeat first|simp(disch:=solve|omega|assumption|repeat(first|exact A1|exact uH|apply A2|apply uT)|simp|(simp;omega)|fail)[c1,c2]|with_reducible first|apply A3|refine A5 fun _=>?_|refine A4 fun _=>?_); exact A9 (by simp)
theorem C8c (w : World) (s : ByteArray) (hs : s.size < 2 ^ 63) : Fn PR B8 86 #[.string s] w (fun u w' => u = keyed.val (N9 s) ∧ C7 [] w w'):=by
 refine Fn.pure (B60 (TW.go (κ:=false) (S := []) ?_))
 unfold A8e
 by_cases c0 : s.size = 0
 ·have e : s = ByteArray.mk #[]:=by
   apply ByteArray.ext; exact Array.eq_empty_of_size_eq_zero c0
  (repeat first|simp(disch:=solve|omega|assumption|repeat(first|exact A1|exact uH|apply A2|apply uT)|simp|(simp;omega)|fail)[e]|with_reducible first|apply A3|refine A5 fun _=>?_|refine A4 fun _=>?_)
  exact A9 (by simp [N9,keyed.val,noK,KeyV.val])
 have c0' : ¬ s = ByteArray.mk #[]:=fun e=> c0 (by rw [e]; rfl)
 obtain ⟨by0,hb0,hb1⟩:=y8 (s:=s) (i:=0) (by omega)
 have hb0' : s[(0 : Int).toNat]? = some by0:=hb0
 have hl0:=P5 s 0
 have e1 : ((by0.toNat : Nat) : Int).fdiv (2 ^ min 4 IntKind.u8.bits) = (C9 s 0 / 16 : Nat):=by rw [show (2 : Int) ^ min 4 IntKind.u8.bits = 16 from rfl,Int.fdiv_eq_ediv_of_nonneg _ (by omega),hb1]; omega
 by_cases c1 : C9 s 0 / 16 = 4
 ·have c1' : ((C9 s 0 : Nat) : Int) / 16 = 4:=by omega
  (repeat first|simp(disch:=solve|omega|assumption|repeat(first|exact A1|exact uH|apply A2|apply uT)|simp|(simp;omega)|fail)[c0', b9]|with_reducible first|apply A3|refine A5 fun _=>?_|refine A4 fun _=>?_)
  rw [e1]
  (repeat first|simp(disch:=solve|omega|assumption|repeat(first|exact A1|exact uH|apply A2|apply uT)|simp|(simp;omega)|fail)[c1', c1]|with_reducible first|apply A3|refine A5 fun _=>?_|refine A4 fun _=>?_)
  refine B7 A6r (fun w' _=> C71 w' s hs) ?_
  (repeat first|simp(disch:=solve|omega|assumption|repeat(first|exact A1|exact uH|apply A2|apply uT)|simp|(simp;omega)|fail)[keyed.val,KeyV.val]|with_reducible first|apply A3|refine A5 fun _=>?_|refine A4 fun _=>?_)
  exact A9 (by simp [N9,keyed.val,KeyV.val,c0,c1])
 have c1' : ¬ ((C9 s 0 : Nat) : Int) / 16 = 4:=by omega
 by_cases c2 : C9 s 0 / 16 = 6
 ·have c2' : ((C9 s 0 : Nat) : Int) / 16 = 6:=by omega
  (repeat first|simp(disch:=solve|omega|assumption|repeat(first|exact A1|exact uH|apply A2|apply uT)|simp|(simp;omega)|fail)[c0', b9]|with_reducible first|apply A3|refine A5 fun _=>?_|refine A4 fun _=>?_)
  rw [e1]
  (repeat first|simp(disch:=solve|omega|assumption|repeat(first|exact A1|exact uH|apply A2|apply uT)|simp|(simp;omega)|fail)[c1', c1,c2', c2,b9]|with_reducible first|apply A3|refine A5 fun _=>?_|refine A4 fun _=>?_)
  refine B7 A7C (fun w' _=> C9p w' s hs) ?_
  (repeat first|simp(disch:=solve|omega|assumption|repeat(first|exact A1|exact uH|apply A2|apply uT)|simp|(simp;omega)|fail)[keyed.val,KeyV.val]|with_reducible first|apply A3|refine A5 fun _=>?_|refine A4 fun _=>?_)
  exact A9 (by simp [N9,keyed.val,KeyV.val,c0,c1,c2])
 have c2' : ¬ ((C9 s 0 : Nat) : Int) / 16 = 6:=by omega
 (repeat first|simp(disch:=solve|omega|assumption|repeat(first|exact A1|exact uH|apply A2|apply uT)|simp|(simp;omega)|fail)[c0', b9]|with_reducible first|apply A3|refine A5 fun _=>?_|refine A4 fun _=>?_)
 rw [e1]
 (repeat first|simp(disch:=solve|omega|assumption|repeat(first|exact A1|exact uH|apply A2|apply uT)|simp|(simp;omega)|fail)[c1', c1,c2', c2,b9]|with_reducible first|apply A3|refine A5 fun _=>?_|refine A4 fun _=>?_)
 exact A9 (by simp [N9,keyed.val,KeyV.val,c0,c1,c2,noK])
def D1 (s : ByteArray) : KeyV × Nat × Nat :=
 let x:=N9 s
 if x.2.2 ≠ 0 then (noK,0,x.2.2) else let y:=M9 x.1.proto x.2.1; if y.2.2.2 ≠ 0 then (noK,0,y.2.2.2) else ({ x.1 with fr:=y.1,tp:=y.2.1 },y.2.2.1,0)
def T9 (k : KeyV) (f : Int) : Value:=.agg #[.int .i64 k.v,.string k.src,.string k.dst,.int .i64 k.fr,.int .i64 k.tp,.int .i64 k.proto,.int .i64 f]
def packet.val (x : KeyV × Nat × Nat) : Value:=.tuple #[T9 x.1 x.2.1,.int .i64 x.2.2]
theorem C6E (s : ByteArray) : (Q9 s).rest.size ≤ s.size:=by
 unfold Q9; split
 ·simp only [ByteArray.size_extract]; omega
 ·simp [HeadV.err]
theorem C55 (s : ByteArray) : (T4 s).rest.size ≤ s.size:=by
 unfold T4; split
 ·simp only [ByteArray.size_extract]; omega
 ·simp [HeadV.err]
theorem C14 (s : ByteArray) : (N9 s).2.1.size ≤ s.size:=by
 unfold N9
 split
 ·simp
 split
 ·exact C6E s
 split
 ·exact C55 s
 ·simp
theorem C3l (s : ByteArray) : (N9 s).2.1.size ≤ 65535:=by
 have h1 : (Q9 s).rest.size ≤ 65535:=by
  have:=l4 s 2
  unfold Q9; split
  ·simp only [ByteArray.size_extract]; omega
  ·simp [HeadV.err]
 have h2 : (T4 s).rest.size ≤ 65535:=by
  have:=l4 s 4
  unfold T4; split
  ·simp only [ByteArray.size_extract]; omega
  ·simp [HeadV.err]
 unfold N9
 split
 ·simp
 split
 ·exact h1
 split
 ·exact h2
 ·simp
theorem B6e (w : World) (s : ByteArray) (hs : s.size < 2 ^ 63) : Fn PR B8 21 #[.string s] w (fun u w' => u = packet.val (D1 s) ∧ C7 [] w w'):=by
 refine Fn.pure (B6L (TW.go (κ:=false) (S := []) ?_))
 unfold A8Y
 (repeat first|simp(disch:=solve|omega|assumption|repeat(first|exact A1|exact uH|apply A2|apply uT)|simp|(simp;omega)|fail)[]|with_reducible first|apply A3|refine A5 fun _=>?_|refine A4 fun _=>?_)
 refine B7 B51 (fun w' _=> C8c w' s hs) ?_
 have hr:=C3l s
 by_cases c1 : (N9 s).2.2 = 0
 ·(repeat first|simp(disch:=solve|omega|assumption|repeat(first|exact A1|exact uH|apply A2|apply uT)|simp|(simp;omega)|fail)[keyed.val,KeyV.val,c1]|with_reducible first|apply A3|refine A5 fun _=>?_|refine A4 fun _=>?_)
  refine B7 B8J (fun w' _=> C1N w' _ (by omega) _) ?_
  by_cases c2 : (M9 (N9 s).1.proto (N9 s).2.1).2.2.2 = 0
  ·(repeat first|simp(disch:=solve|omega|assumption|repeat(first|exact A1|exact uH|apply A2|apply uT)|simp|(simp;omega)|fail)[M9.val,c2]|with_reducible first|apply A3|refine A5 fun _=>?_|refine A4 fun _=>?_)
   exact A9 (by simp [D1,packet.val,T9,KeyV.val,c1,c2])
  ·(repeat first|simp(disch:=solve|omega|assumption|repeat(first|exact A1|exact uH|apply A2|apply uT)|simp|(simp;omega)|fail)[M9.val,c2]|with_reducible first|apply A3|refine A5 fun _=>?_|refine A4 fun _=>?_)
   exact A9 (by simp [D1,packet.val,T9,KeyV.val,c1,c2,noK])
 ·(repeat first|simp(disch:=solve|omega|assumption|repeat(first|exact A1|exact uH|apply A2|apply uT)|simp|(simp;omega)|fail)[keyed.val,KeyV.val,c1]|with_reducible first|apply A3|refine A5 fun _=>?_|refine A4 fun _=>?_)
  exact A9 (by simp [D1,packet.val,T9,KeyV.val,c1,noK])
theorem B8U (w : World) (s : ByteArray) (hs : s.size < 2 ^ 40) : Fn PR B8 21 #[.string s] w (fun u w' => u = packet.val (D1 s) ∧ C7 [] w w'):=B6e w s (by omega)
def A0L (k : KeyV) (f : Int) : ByteArray × Nat :=
 if k.v ≠ 4 ∧ k.v ≠ 6 then (M6,3) else let s:=Z5 k.proto k.fr k.tp f; if s.2 ≠ 0 then (M6,s.2) else if k.v = 6 then B1Y k.src k.dst s.1 k.proto else B1a k.src k.dst s.1 k.proto
theorem C3d (number x y f : Int) : (Z5 number x y f).1.size ≤ 1000:=by
 have h6:=V1 6
 have h8:=V1 8
 unfold Z5 A45 A7D A8y
 repeat' split
 all_goals simp [h6,h8]
theorem C0a (w : World) (k : KeyV) (f : Int) : Fn PR B8 64 #[T9 k f] w (fun u w' => u = .tuple #[.string (A0L k f).1,.int .i64 (A0L k f).2] ∧ C7 [] w w'):=by
 refine Fn.pure (B9d (TW.go (κ:=false) (S := []) ?_))
 unfold B2H
 have hz:=C3d k.proto k.fr k.tp f
 by_cases c0 : k.v = 4
 ·(repeat first|simp(disch:=solve|omega|assumption|repeat(first|exact A1|exact uH|apply A2|apply uT)|simp|(simp;omega)|fail)[T9,KeyV.val,c0]|with_reducible first|apply A3|refine A5 fun _=>?_|refine A4 fun _=>?_)
  refine B7 A6z (fun w' _=> B1l w' _ _ _ _) ?_
  by_cases c1 : (Z5 k.proto k.fr k.tp f).2 = 0
  ·(repeat first|simp(disch:=solve|omega|assumption|repeat(first|exact A1|exact uH|apply A2|apply uT)|simp|(simp;omega)|fail)[c1,c0]|with_reducible first|apply A3|refine A5 fun _=>?_|refine A4 fun _=>?_)
   refine B7 C2c (fun w' _=> C53 w' _ _ _ _ (by omega)) ?_
   (repeat first|simp(disch:=solve|omega|assumption|repeat(first|exact A1|exact uH|apply A2|apply uT)|simp|(simp;omega)|fail)[]|with_reducible first|apply A3|refine A5 fun _=>?_|refine A4 fun _=>?_)
   exact A9 (by simp [A0L,c0,c1])
  ·(repeat first|simp(disch:=solve|omega|assumption|repeat(first|exact A1|exact uH|apply A2|apply uT)|simp|(simp;omega)|fail)[c1,c0]|with_reducible first|apply A3|refine A5 fun _=>?_|refine A4 fun _=>?_)
   exact A9 (by simp [A0L,c0,c1])
 by_cases c6 : k.v = 6
 ·(repeat first|simp(disch:=solve|omega|assumption|repeat(first|exact A1|exact uH|apply A2|apply uT)|simp|(simp;omega)|fail)[T9,KeyV.val,c6]|with_reducible first|apply A3|refine A5 fun _=>?_|refine A4 fun _=>?_)
  refine B7 A6z (fun w' _=> B1l w' _ _ _ _) ?_
  by_cases c1 : (Z5 k.proto k.fr k.tp f).2 = 0
  ·(repeat first|simp(disch:=solve|omega|assumption|repeat(first|exact A1|exact uH|apply A2|apply uT)|simp|(simp;omega)|fail)[c1,c6]|with_reducible first|apply A3|refine A5 fun _=>?_|refine A4 fun _=>?_)
   refine B7 C2e (fun w' _=> C7V w' _ _ _ _ (by omega)) ?_
   (repeat first|simp(disch:=solve|omega|assumption|repeat(first|exact A1|exact uH|apply A2|apply uT)|simp|(simp;omega)|fail)[]|with_reducible first|apply A3|refine A5 fun _=>?_|refine A4 fun _=>?_)
   exact A9 (by simp [A0L,c6,c1])
  ·(repeat first|simp(disch:=solve|omega|assumption|repeat(first|exact A1|exact uH|apply A2|apply uT)|simp|(simp;omega)|fail)[c1,c6]|with_reducible first|apply A3|refine A5 fun _=>?_|refine A4 fun _=>?_)
   exact A9 (by simp [A0L,c6,c1])
 ·(repeat first|simp(disch:=solve|omega|assumption|repeat(first|exact A1|exact uH|apply A2|apply uT)|simp|(simp;omega)|fail)[T9,KeyV.val,c0,c6]|with_reducible first|apply A3|refine A5 fun _=>?_|refine A4 fun _=>?_)
  exact A9 (by simp [A0L,c0,c6])
def A0A (k : KeyV) (f : Int) : Bool:=decide (k.proto = 6) && !decide (IntKind.i64.wrap ((f % 2 ^ IntKind.i64.bits).toNat &&& 5 % 2 ^ IntKind.i64.bits : Nat) = 0)
theorem C4B (w : World) (k : KeyV) (f : Int) : Fn PR B8 58 #[T9 k f] w (fun u w' => u = .bool (A0A k f) ∧ C7 [] w w'):=by
 refine Fn.pure (B4y (TW.go (κ:=false) (S := []) ?_))
 unfold A5f
 by_cases c0 : k.proto = 6
 ·(repeat first|simp(disch:=solve|omega|assumption|repeat(first|exact A1|exact uH|apply A2|apply uT)|simp|(simp;omega)|fail)[T9,KeyV.val,c0]|with_reducible first|apply A3|refine A5 fun _=>?_|refine A4 fun _=>?_)
  exact A9 (by simp [A0A,c0])
 ·(repeat first|simp(disch:=solve|omega|assumption|repeat(first|exact A1|exact uH|apply A2|apply uT)|simp|(simp;omega)|fail)[T9,KeyV.val,c0]|with_reducible first|apply A3|refine A5 fun _=>?_|refine A4 fun _=>?_)
  exact A9 (by simp [A0A,c0])
section
variable {κ : Bool} {X : Nat → Prop} {S : List Nat} {w0 : World} {H H' : List Res} {K : Value → WP}
theorem C66 {P : Program} {g : Sem Value} {u : Value} {b : Nat} {c c' : Array Value} {T : TypeId} (hrun : ∀ w,bl w b = some (.cells c T (0,0)) → g.run P w = .ok u (World.putb w b (.cells c' T (0,0))))
  (hu : Up (.pt b (.cells c T (0,0))) (.pt b (.cells c' T (0,0))) H H') (hK : TW κ S w0 H' (K u)) : TW κ S w0 H (B5 P X g K):=fun w hw=> by
 have hm : Res.pt b (.cells c T (0,0)) ∈ H:=by obtain ⟨A,B,rfl,_⟩:=hu.parts; simp
 have hb:=hw.pt hm
 rw [c8 (hrun w hb) (Sk.putb X hb)]
 refine hK _ (hw.up hu ⟨KS.putb hb (by simp [Res.foot]),?_,?_,by simp⟩)
 ·simp only [List.mem_singleton,forall_eq,Res.holds]; exact ⟨V9 (M2 hb),rfl⟩
 ·simp only [List.mem_singleton,forall_eq,Res.foot]; exact ⟨Or.inl (by simp),by have:=M2 hb; simpa using this⟩
theorem C21 (w : World) : (underlying 301).run PR w = .ok (.slice 5) w:=A5p.run_und
theorem D5H (w : World) : (underlying 355).run PR w = .ok (.array 38 5) w:=C4D.run_und
def b8 (s : ByteArray) (o : Nat) (t : ByteArray) : ByteArray:=s.extract 0 o ++ t ++ s.extract (o + t.size) s.size
theorem B30 {s t : ByteArray} {o : Nat} (h : o + t.size ≤ s.size) : (b8 s o t).size = s.size:=by simp [b8]; omega
theorem B85 (s t : ByteArray) (o : Nat) (h : o + t.size ≤ s.size) : E7 (G7 s).toArray o (G7 t) = (G7 (b8 s o t)).toArray:=by
 apply Array.toList_inj.1
 rw [A3f _ _ _ (by simpa using h)]
 simp [G7,b8,List.map_take,List.map_drop]
 rw [List.take_of_length_le (by simp)]
theorem B7c {b o n c : Nat} {s t : ByteArray} {T : TypeId} (hu : Up (.pt b (.cells (G7 s).toArray T)) (.pt b (.cells (G7 (b8 s o t)).toArray T)) H H') (hn : t.size ≤ n) (hs : o + t.size ≤ s.size)
  (hK : TW κ S w0 H' (K (.int .i64 t.size))) : TW κ S w0 H (B5 PR X (A8 .copy #[301,9] 3 [.slice (some ⟨b,o,none⟩) n c,.string t]) K):=by
 refine C66 (u:=.int .i64 t.size) (fun w hb=> ?_) hu hK
 have hst:=v8 (P:=PR) (o0:=o) (G7 t) 0 w (G7 s).toArray hb (by simpa using hs) (A84 t)
 rw [Nat.add_zero,B85 s t o hs] at hst
 have hl : Nat.min t.size n = t.size:=Nat.min_eq_left hn
 have htk : List.take t.size (List.map (fun b : UInt8=> Value.int IntKind.u8 (b.toNat : Int)) t.data.toList) = G7 t:=by
  rw [List.take_of_length_le (by simp)]; rfl
 show (Builtin.copy_ #[301,9] 3 #[.slice (some ⟨b,o,none⟩) n c,.string t]).run PR w = _
 simp [Builtin.copy_,C21,ty5.run_size,Builtin.lenOf,Builtin.firstCells,hl]
 rw [htk,hst]
 simp [goInt,Result.andThen]
def z38 : ByteArray:=T1 z1 38
theorem B1B : z38.size = 38:=V1 38
theorem C60 : (Builtin.zeroCells (Value.int .u8 0).cells 38).toList = G7 z38:=by kernel_rfl
theorem D1w : (G7 z38).toArray = #[.int .u8 0,.int .u8 0,.int .u8 0,.int .u8 0,.int .u8 0,.int .u8 0,.int .u8 0,.int .u8 0,.int .u8 0,.int .u8 0,.int .u8 0,.int .u8 0,.int .u8 0,.int .u8 0,.int .u8 0,.int .u8 0,.int .u8 0,.int .u8 0,.int .u8 0,.int .u8 0,.int .u8 0,.int .u8 0,.int .u8 0,.int .u8 0,.int .u8 0,.int .u8 0,.int .u8 0,.int .u8 0,.int .u8 0,.int .u8 0,.int .u8 0,.int .u8 0,.int .u8 0,.int .u8 0,.int .u8 0,.int .u8 0,.int .u8 0,.int .u8 0]:=by kernel_rfl
theorem C6y {b : Nat} {s : ByteArray} {T : TypeId} (hs : s.size = 38) (hu : Up (.pt b (.cells (G7 s).toArray T)) (.pt b (.cells (G7 z38).toArray T)) H H')
  (hK : TW κ S w0 H' (K (.tuple #[]))) : TW κ S w0 H (B5 PR X (A8 .clear #[301] 0 [.slice (some ⟨b,0,none⟩) 38 38]) K):=by
 refine C66 (u:=.tuple #[]) (fun w hb=> ?_) hu hK
 have h38:=B1B
 have hst:=v8 (P:=PR) (o0:=0) (G7 z38) 0 w (G7 s).toArray hb (by simp [hs,h38]) (A84 _)
 rw [Nat.add_zero,B85 s z38 0 (by omega)] at hst
 have e : b8 s 0 z38 = z38:=by
  apply ByteArray.ext
  simp [b8,h38,hs]
 rw [e] at hst
 show (Builtin.clear_ #[301] 0 #[.slice (some ⟨b,0,none⟩) 38 38]).run PR w = _
 simp only [Builtin.clear_,List.getElem?_toArray,List.getElem?_cons_zero,Sem.run_bind,C21,Result.andThen_ok,ty5.run_zero,C60,hst,Sem.run_pure]
theorem D3F {b : Nat} {s : ByteArray} {T : TypeId} (hm : Res.pt b (.cells (G7 s).toArray T) ∈ H) (c n : Nat) (hn : n = s.size) :
  TW κ S w0 H (A6 PR (convert 301 9 (.slice (some ⟨b,0,none⟩) n c)) K) = TW κ S w0 H (K (.string s)):=TW.congr fun w hw=> by
 refine W3 ?_ K
 subst hn
 have hb:=hw.pt hm
 have hB : Lib.Bytes w b 0 s:=fun i hi=> by
  rw [E8 hb]; simp [G7,hi]; rfl
 exact Lib.run_convert_whole w _ _ _ A5p.und ty5.und j7.und b 0 s hB c
end
theorem C5a {lo : Nat} (b : Nat) (h : lo < 38) (K : Value → WP) : A0 PR (Instr.sliceAt 355 (.pointer (some ⟨b,0,none⟩)) (some (.int .i64 (lo : Int))) none none) K = K (.slice (some ⟨b,lo,none⟩) (38 - lo) (38 - lo)) :=
 F9 (fun w=> by
  have h1 : ¬ ((38 : Int) < lo):=by omega
  have h2 : ¬ (38 = lo):=by omega
  simp [Instr.sliceAt,D5H,Instr.sliceBounds,Instr.sliceBound,asIntOf,h1,h2,ty5.run_size,Instr.sureAddr,d6]
  omega) K
def W5 (v : Int) : Nat:=if v = 4 then 4 else if v = 6 then 16 else 0
theorem C8S (w : World) (v : Int) : Fn PR B8 228 #[.int .i64 v] w (fun u w' => u = .int .i64 (W5 v : Nat) ∧ C7 [] w w'):=by
 have:=D1Z w v
 have e : ((W5 v : Nat) : Int) = if v = 4 then 4 else if v = 6 then 16 else 0:=by (unfold W5; repeat' split) <;> rfl
 rw [e]; exact this
def U0 (k : KeyV) : Bool:=decide (W5 k.v ≠ 0 ∧ k.src.size = W5 k.v ∧ k.dst.size = W5 k.v ∧ (Z5 k.proto k.fr k.tp 0).2 = 0)
def A2Y (k : KeyV) : ByteArray:=b8 (b8 (b8 z38 0 (F3 (k.v * 256 + k.proto) 2 ++ F3 k.fr 2 ++ F3 k.tp 2)) 6 k.src) 22 k.dst
def A01 (k : KeyV) : Value:=.tuple #[.string (if U0 k then A2Y k else M6),.bool (U0 k)]
theorem B7w {n x y f : Int} (h : (Z5 n x y f).2 = 0) : (n = 6 ∨ n = 17) ∧ K6 x y = true:=by
 unfold Z5 at h
 split at h
 ·simp at h
 split at h
 ·simp at h
 ·rename_i h1 h2
  refine ⟨by omega,?_⟩
  cases hp : K6 x y with
  | true=> rfl
  | false=> exact absurd (Or.inl hp) h2
theorem C87 (w : World) (k : KeyV) : Fn PR B8 166 #[k.val] w (fun u w' => u = A01 k ∧ C7 [] w w'):=by
 refine Fn.pure (B6l (TW.go (κ:=false) (S := []) ?_))
 unfold A8C KeyV.val
 (repeat first|simp(disch:=solve|omega|assumption|repeat(first|exact A1|exact uH|apply A2|apply uT)|simp|(simp;omega)|fail)[]|with_reducible first|apply A3|refine A5 fun _=>?_|refine A4 fun _=>?_)
 refine B7 B69 (fun w' _=> C8S w' _) ?_
 (repeat first|simp(disch:=solve|omega|assumption|repeat(first|exact A1|exact uH|apply A2|apply uT)|simp|(simp;omega)|fail)[]|with_reducible first|apply A3|refine A5 fun _=>?_|refine A4 fun _=>?_)
 refine B7 A6z (fun w' _=> B1l w' _ _ _ _) ?_
 have bad : U0 k = false → A01 k = .tuple #[.string M6,.bool false]:=fun h=> by simp [A01,h]
 by_cases c1 : W5 k.v = 0
 ·(repeat first|simp(disch:=solve|omega|assumption|repeat(first|exact A1|exact uH|apply A2|apply uT)|simp|(simp;omega)|fail)[c1]|with_reducible first|apply A3|refine A5 fun _=>?_|refine A4 fun _=>?_)
  exact A9 (bad (by simp [U0,c1])).symm
 have c1' : ¬ ((W5 k.v : Nat) : Int) = 0:=by omega
 by_cases c2 : k.src.size = W5 k.v
 case neg=>
  have c2' : ¬ ((k.src.size : Nat) : Int) = W5 k.v:=by omega
  (repeat first|simp(disch:=solve|omega|assumption|repeat(first|exact A1|exact uH|apply A2|apply uT)|simp|(simp;omega)|fail)[c1,c1', c2,c2']|with_reducible first|apply A3|refine A5 fun _=>?_|refine A4 fun _=>?_)
  exact A9 (bad (by simp [U0,c2])).symm
 by_cases c3 : k.dst.size = W5 k.v
 case neg=>
  have c3' : ¬ ((k.dst.size : Nat) : Int) = W5 k.v:=by omega
  (repeat first|simp(disch:=solve|omega|assumption|repeat(first|exact A1|exact uH|apply A2|apply uT)|simp|(simp;omega)|fail)[c1,c1', c2,c3,c3']|with_reducible first|apply A3|refine A5 fun _=>?_|refine A4 fun _=>?_)
  exact A9 (bad (by simp [U0,c3])).symm
 by_cases c4 : (Z5 k.proto k.fr k.tp 0).2 = 0
 case neg=>
  (repeat first|simp(disch:=solve|omega|assumption|repeat(first|exact A1|exact uH|apply A2|apply uT)|simp|(simp;omega)|fail)[c1,c1', c2,c3,c4]|with_reducible first|apply A3|refine A5 fun _=>?_|refine A4 fun _=>?_)
  exact A9 (bad (by simp [U0,c4])).symm
 (repeat first|simp(disch:=solve|omega|assumption|repeat(first|exact A1|exact uH|apply A2|apply uT)|simp|(simp;omega)|fail)[c1,c1', c2,c3,c4]|with_reducible first|apply A3|refine A5 fun _=>?_|refine A4 fun _=>?_)
 rename_i bk ba
 refine TW.eqH (H' := [.pt ba (.cells (G7 z38).toArray 355),.pt bk (.cells #[.int .i64 k.v,.string k.src,.string k.dst,.int .i64 k.fr,.int .i64 k.tp,.int .i64 k.proto] 45)]) (by rw [D1w]) ?_
 refine C6y B1B .here ?_
 obtain ⟨hp,hq⟩:=B7w c4
 simp only [K6,decide_eq_true_eq] at hq
 have hv : k.v = 4 ∨ k.v = 6:=by unfold W5 at c1; split at c1 <;> (try split at c1) <;> omega
 have hh : (F3 (k.v * 256 + k.proto) 2 ++ F3 k.fr 2 ++ F3 k.tp 2).size = 6:=by simp
 have h38:=B1B
 have s1 : (b8 z38 0 (F3 (k.v * 256 + k.proto) 2 ++ F3 k.fr 2 ++ F3 k.tp 2)).size = 38:=by rw [B30 (by omega),h38]
 have hl : W5 k.v ≤ 16:=by unfold W5; split <;> (try split) <;> omega
 have s2 : (b8 (b8 z38 0 (F3 (k.v * 256 + k.proto) 2 ++ F3 k.fr 2 ++ F3 k.tp 2)) 6 k.src).size = 38:=by rw [B30 (by omega),s1]
 have s3 : (A2Y k).size = 38:=by unfold A2Y; rw [B30 (by omega),s2]
 have i6:=fun K=> C5a (lo:=6) ba (by omega) K
 have i22:=fun K=> C5a (lo:=22) ba (by omega) K
 simp at i6 i22
 have ok : U0 k = true:=by simp [U0,c1,c2,c3,c4]
 have q1:=hq.1
 have q2:=hq.2.1
 have q3:=hq.2.2.1
 have q4:=hq.2.2.2
 have eor : IntKind.u64.wrap ((IntKind.u64.wrap (k.v * 2 ^ min 8 IntKind.u64.bits) % 2 ^ IntKind.u64.bits).toNat ||| (k.proto % 2 ^ IntKind.u64.bits).toNat : Nat) = k.v * 256 + k.proto:=by
  rcases hv with hv | hv <;> rcases hp with hp | hp <;> (rw [hv,hp]; decide)
 have ew1 : IntKind.u64.wrap k.fr = k.fr:=A1D (by omega) (by omega)
 have ew2 : IntKind.u64.wrap k.tp = k.tp:=A1D (by omega) (by omega)
 (repeat first|simp(disch:=solve|omega|assumption|repeat(first|exact A1|exact uH|apply A2|apply uT)|simp|(simp;omega)|fail)[]|with_reducible first|apply A3|refine A5 fun _=>?_|refine A4 fun _=>?_)
 rw [eor,ew1,ew2]
 refine B7 K8 (fun w' hw' => l5 w' _ _) ?_
 (repeat first|simp(disch:=solve|omega|assumption|repeat(first|exact A1|exact uH|apply A2|apply uT)|simp|(simp;omega)|fail)[]|with_reducible first|apply A3|refine A5 fun _=>?_|refine A4 fun _=>?_)
 refine B7 K8 (fun w' hw' => l5 w' _ _) ?_
 (repeat first|simp(disch:=solve|omega|assumption|repeat(first|exact A1|exact uH|apply A2|apply uT)|simp|(simp;omega)|fail)[S5]|with_reducible first|apply A3|refine A5 fun _=>?_|refine A4 fun _=>?_)
 refine B7 K8 (fun w' hw' => l5 w' _ _) ?_
 (repeat first|simp(disch:=solve|omega|assumption|repeat(first|exact A1|exact uH|apply A2|apply uT)|simp|(simp;omega)|fail)[S5]|with_reducible first|apply A3|refine A5 fun _=>?_|refine A4 fun _=>?_)
 refine B7c (o:=0) (s:=z38) (by (repeat constructor)) (by omega) (by omega) ?_
 (repeat first|simp(disch:=solve|omega|assumption|repeat(first|exact A1|exact uH|apply A2|apply uT)|simp|(simp;omega)|fail)[i6]|with_reducible first|apply A3|refine A5 fun _=>?_|refine A4 fun _=>?_)
 refine B7c (o:=6) (s:=b8 z38 0 (F3 (k.v * 256 + k.proto) 2 ++ F3 k.fr 2 ++ F3 k.tp 2)) (by (repeat constructor)) (by omega) (by omega) ?_
 (repeat first|simp(disch:=solve|omega|assumption|repeat(first|exact A1|exact uH|apply A2|apply uT)|simp|(simp;omega)|fail)[i22]|with_reducible first|apply A3|refine A5 fun _=>?_|refine A4 fun _=>?_)
 refine B7c (o:=22) (s:=b8 (b8 z38 0 (F3 (k.v * 256 + k.proto) 2 ++ F3 k.fr 2 ++ F3 k.tp 2)) 6 k.src) (by (repeat constructor)) (by omega) (by omega) ?_
 (repeat first|simp(disch:=solve|omega|assumption|repeat(first|exact A1|exact uH|apply A2|apply uT)|simp|(simp;omega)|fail)[]|with_reducible first|apply A3|refine A5 fun _=>?_|refine A4 fun _=>?_)
 rw [D3F (s:=A2Y k) (by (repeat constructor)) _ _ s3.symm]
 exact A9 (by simp [A01,ok])
@[simp] theorem D9l {κ : Bool} {S : List Nat} {w0 : World} {H : List Res} {K : Value → WP} {t : TypeId} {z : Value} [h : TS t z] {b o : Nat} {c : Array Value} {T : TypeId} {f : Nat × Nat} (hm : Res.pt b (.cells c T f) ∈ H) :
  TW κ S w0 H (A6 PR (E1 [.c t (.pointer (some ⟨b,o,none⟩))]) K) = TW κ S w0 H (rdc c[o]? K (A6 PR (E1 [.c t (.pointer (some ⟨b,o,none⟩))]) K)):=by
 cases hc : c[o]? with
 | none=> rfl
 | some v=> rw [D3E hm hc]; rfl
abbrev F8:=Int × Int
def H5 (b : F8) : List Value := [.int .i64 b.1,.int .i64 b.2]
structure EnV where
 st : Int
 key : ByteArray
 bk : Int
 dl : Int
 deriving DecidableEq
def F1 (x : EnV) : List Value := [.int .i64 x.st,.string x.key,.int .i64 x.bk,.int .i64 x.dl]
theorem D3Q {t u : TypeId} {n m : Nat} {z : Value} {a : Option Addr} {l c e : Nat} (h : TI PR t (.slice u) n m z) : EqV PR (e + 1) t (.slice a l c) (.slice none 0 0) a.isNone:=by
 intro w
 cases a with
 | none=> simp only [Op.equalIn,Sem.run_bind,h.run_und,Result.andThen_ok,Sem.run_pure,Option.isNone]
 | some a=> simp only [Op.equalIn,Sem.run_bind,h.run_und,Result.andThen_ok,Sem.run_pure]; rfl
theorem D2K {t u : TypeId} {n m : Nat} {z : Value} (h : TI PR t (.slice u) n m z) (x y : Operand) (a : Option Addr) (l c : Nat) (K : Value → WP) :
  A6 PR (H9 .eql t x y (.slice a l c) (.slice none 0 0)) K = K (.bool a.isNone):=by
 funext w
 refine W3 ?_ K
 have h1 : (eqGuard .eql t x y (.slice a l c) (.slice none 0 0)).run PR w = .ok () w:=by simp [eqGuard]
 have h2 : (Op.equalIn 10000 t (.slice a l c) (.slice none 0 0)).run PR w = .ok a.isNone w:=D3Q (e:=9999) h w
 simp [H9,h1,binOp,Op.equal,Op.maxDepth,h2]
theorem C97 (x y : Operand) (a : Option Addr) (l c : Nat) (K : Value → WP) : A6 PR (H9 .eql 58 x y (.slice a l c) (.slice none 0 0)) K = K (.bool a.isNone):=D2K B5s x y a l c K
theorem D0M (x y : Operand) (a : Option Addr) (l c : Nat) (K : Value → WP) : A6 PR (H9 .eql 84 x y (.slice a l c) (.slice none 0 0)) K = K (.bool a.isNone):=D2K B1y x y a l c K
theorem C6l (w : World) (v : Value) (n : Nat) (xs : List Value) (hn : n ≤ 1000000) (hx : xs.length = n * 2) (hp : xs.all plain = true) (hv : F5 w v n xs) :
  Fn PR B8 123 #[v] w (Rn [] w (fun r u=> u = r) fun r=> [.own 155 2 r n xs]):=by
 obtain ⟨a,c,rfl,hr⟩:=hv.form
 refine A0G (TW.go (κ:=false) (S := []) ?_)
 unfold Y0
 cases a with
 | none=>
  obtain rfl : n = 0:=by
   rcases Nat.eq_zero_or_pos n with h | h
   ·exact h
   ·obtain ⟨_,_,h,_⟩:=hr h; cases h
  obtain rfl : xs = []:=List.length_eq_zero_iff.1 (by omega)
  (repeat first|simp(disch:=solve|omega|assumption|repeat(first|exact A1|exact uH|apply A2|apply uT)|simp|(simp;omega)|fail)[C97]|with_reducible first|apply A3|refine A5 fun _=>?_|refine A4 fun _=>?_)
  refine l7 155 2 ?_
  exact s9 (.slice none 0 0) rfl (by simp)
 | some a=>
  (have zz:=trivial;repeat((first|clear zz|with_reducible first|refine A3 ?_|refine A5 fun _=>?_|refine A4 fun _=>?_|refine D6 fun _=>?_|refine D8 (hK:=fun _=>?_)|refine D9 (hK:=fun _=>?_)|refine E0 (hK:=fun _=>?_)|refine D4 (hK:=fun _=>?_)|refine D5 (hK:=fun _=>?_));try simp(disch:=first|omega|assumption|((repeat(first|exact A1|exact uH|apply A2|apply uT));first|done|fail)|(simp;first|done|omega|fail))[C97]))
  refine r9 (by (repeat constructor)) (M0.old0 hv) (by decide) hx hp (by simp only [maxLen]; omega) (by omega) fun a' c' => ?_
  simp only [Nat.zero_add,List.nil_append]
  exact B1 _ rfl (by (repeat' constructor))
theorem C7A (w : World) (v : Value) (n : Nat) (xs : List Value) (hn : n ≤ 1000000) (hx : xs.length = n * 4) (hp : xs.all plain = true) (hv : F5 w v n xs) :
  Fn PR B8 122 #[v] w (Rn [] w (fun r u=> u = r) fun r=> [.own 218 4 r n xs]):=by
 obtain ⟨a,c,rfl,hr⟩:=hv.form
 refine A1C (TW.go (κ:=false) (S := []) ?_)
 unfold Z4
 cases a with
 | none=>
  obtain rfl : n = 0:=by
   rcases Nat.eq_zero_or_pos n with h | h
   ·exact h
   ·obtain ⟨_,_,h,_⟩:=hr h; cases h
  obtain rfl : xs = []:=List.length_eq_zero_iff.1 (by omega)
  (repeat first|simp(disch:=solve|omega|assumption|repeat(first|exact A1|exact uH|apply A2|apply uT)|simp|(simp;omega)|fail)[D0M]|with_reducible first|apply A3|refine A5 fun _=>?_|refine A4 fun _=>?_)
  refine l7 218 4 ?_
  exact s9 (.slice none 0 0) rfl (by simp)
 | some a=>
  (have zz:=trivial;repeat((first|clear zz|with_reducible first|refine A3 ?_|refine A5 fun _=>?_|refine A4 fun _=>?_|refine D6 fun _=>?_|refine D8 (hK:=fun _=>?_)|refine D9 (hK:=fun _=>?_)|refine E0 (hK:=fun _=>?_)|refine D4 (hK:=fun _=>?_)|refine D5 (hK:=fun _=>?_));try simp(disch:=first|omega|assumption|((repeat(first|exact A1|exact uH|apply A2|apply uT));first|done|fail)|(simp;first|done|omega|fail))[D0M]))
  refine r9 (by (repeat constructor)) (M0.old0 hv) (by decide) hx hp (by simp only [maxLen]; omega) (by omega) fun a' c' => ?_
  simp only [Nat.zero_add,List.nil_append]
  exact B1 _ rfl (by (repeat' constructor))
theorem D2u {α : Type} {l m : List α} (hl : l.length = m.length) (h : ∀ j,j < l.length → l[j]? = m[j]?) : l = m:=List.ext_getElem? fun i=> by
 by_cases hi : i < l.length
 ·exact h i hi
 ·rw [List.getElem?_eq_none (by omega),List.getElem?_eq_none (by omega)]
def B1d {α : Type} (p : α → Bool) (l : List α) : Int:=match l.findIdx? p with | some i=> i | none=> -1
theorem A8Z {α : Type} {p : α → Bool} {l : List α} {i : Nat} {x : α} (hx : l[i]? = some x) (hp : p x = true) (h : ∀ j y,j < i → l[j]? = some y → p y = false) : B1d p l = i:=by
 have : l.findIdx? p = some i:=by
  rw [List.findIdx?_eq_some_iff_getElem]
  obtain ⟨hi,e⟩:=List.getElem?_eq_some_iff.1 hx
  exact ⟨hi,by rw [e]; exact hp,fun j hj=> by rw [h j l[j] hj (List.getElem?_eq_getElem (by omega))]; simp⟩
 simp [B1d,this]
theorem B4F {α : Type} {p : α → Bool} {l : List α} (h : ∀ (j : Nat) y,l[j]? = some y → p y = false) : B1d p l = -1:=by
 have : l.findIdx? p = none:=by
  rw [List.findIdx?_eq_none_iff]; intro x hx; obtain ⟨i,hi,rfl⟩:=List.getElem_of_mem hx; exact h i _ (List.getElem?_eq_getElem hi)
 simp [B1d,this]
theorem B9q (w : World) (v : Value) (l : List F8) (p : F8 → Bool) (f : FuncId) (cap : List Value) (hn : l.length ≤ 1000000) (hv : F5 w v l.length (l.flatMap H5)) (he : B0 PR f)
  (hf : ∀ w', KS false [] w w' → ∀ x : F8,Fn PR B8 f (.agg #[.int .i64 x.1,.int .i64 x.2] :: cap).toArray w' (fun r w'' => r = .bool (p x) ∧ C7 [] w' w'')) :
  Fn PR B8 266 #[v,.func (.func f) #[] cap.toArray] w (fun r w' => r = .int .i64 (B1d p l) ∧ C7 [] w w'):=by
 refine Fn.pure (r8 (TW.go (κ:=false) (S := []) ?_))
 unfold U9
 obtain ⟨a,c,rfl,hr⟩:=hv.form
 (repeat first|simp(disch:=solve|omega|assumption|repeat(first|exact A1|exact uH|apply A2|apply uT)|simp|(simp;omega)|fail)[]|with_reducible first|apply A3|refine A5 fun _=>?_|refine A4 fun _=>?_)
 refine P6 (α:=Unit) l.length (fun _ _=> .int .i64 0) (fun _ _=> []) (fun i _=> ∀ j y,j < i → l[j]? = some y → p y = false) () (by intro j _ hj; omega) ?_
 rintro i _ hi hpre L hL
 by_cases hlt : i < l.length
 ·obtain ⟨b,o,rfl,hrow⟩:=hr (by omega)
  obtain ⟨x,hx⟩ : ∃ x,l[i]? = some x:=⟨_,List.getElem?_eq_getElem (by omega)⟩
  have h1:=hrow.at (f:=H5) (k:=2) (fun _=> rfl) hx
  rw [H5] at h1
  (repeat first|simp(disch:=solve|omega|assumption|repeat(first|exact A1|exact uH|apply A2|apply uT)|simp|(simp;omega)|fail)[hlt,h1]|with_reducible first|apply A3|refine A5 fun _=>?_|refine A4 fun _=>?_)
  refine B8T he (φ:=fun r=> r = .bool (p x)) (fun w' hw' => by simpa using hf w' hw'.ks x) ?_
  rintro _ rfl
  cases hb : p x with
  | true=>
   (repeat first|simp(disch:=solve|omega|assumption|repeat(first|exact A1|exact uH|apply A2|apply uT)|simp|(simp;omega)|fail)[]|with_reducible first|apply A3|refine A5 fun _=>?_|refine A4 fun _=>?_)
   exact A9 (by rw [A8Z hx hb hpre])
  | false=>
   (repeat first|simp(disch:=solve|omega|assumption|repeat(first|exact A1|exact uH|apply A2|apply uT)|simp|(simp;omega)|fail)[]|with_reducible first|apply A3|refine A5 fun _=>?_|refine A4 fun _=>?_)
   refine Sels.tw .nil (hL hlt () ?_)
   intro j y hj hy
   by_cases hji : j = i
   ·subst hji; rw [hx] at hy; cases hy; exact hb
   ·exact hpre j y (by omega) hy
 ·obtain rfl : i = l.length:=by omega
  (repeat first|simp(disch:=solve|omega|assumption|repeat(first|exact A1|exact uH|apply A2|apply uT)|simp|(simp;omega)|fail)[]|with_reducible first|apply A3|refine A5 fun _=>?_|refine A4 fun _=>?_)
  exact A9 (by rw [B4F fun j y hy=> hpre j y (List.getElem?_eq_some_iff.1 hy).1 hy])
theorem B9j (w : World) (v : Value) (l : List (Int × Int)) (p : Int × Int → Bool) (f : FuncId) (cap : List Value) (hn : l.length ≤ 1000000) (hv : F5 w v l.length (l.flatMap H5)) (he : B0 PR f)
  (hf : ∀ w', KS false [] w w' → ∀ x : Int × Int,Fn PR B8 f (.agg #[.int .i64 x.1,.int .i64 x.2] :: cap).toArray w' (fun r w'' => r = .bool (p x) ∧ C7 [] w' w'')) :
  Fn PR B8 201 #[v,.func (.func f) #[] cap.toArray] w (fun r w' => r = .int .i64 (B1d p l) ∧ C7 [] w w'):=by
 refine Fn.pure (A3E (TW.go (κ:=false) (S := []) ?_))
 unfold l8
 obtain ⟨a,c,rfl,hr⟩:=hv.form
 (repeat first|simp(disch:=solve|omega|assumption|repeat(first|exact A1|exact uH|apply A2|apply uT)|simp|(simp;omega)|fail)[]|with_reducible first|apply A3|refine A5 fun _=>?_|refine A4 fun _=>?_)
 refine P6 (α:=Unit) l.length (fun _ _=> .int .i64 0) (fun _ _=> []) (fun i _=> ∀ j y,j < i → l[j]? = some y → p y = false) () (by intro j _ hj; omega) ?_
 rintro i _ hi hpre L hL
 by_cases hlt : i < l.length
 ·obtain ⟨b,o,rfl,hrow⟩:=hr (by omega)
  obtain ⟨x,hx⟩ : ∃ x,l[i]? = some x:=⟨_,List.getElem?_eq_getElem (by omega)⟩
  have h1:=hrow.at (f:=H5) (k:=2) (fun _=> rfl) hx
  rw [H5] at h1
  (repeat first|simp(disch:=solve|omega|assumption|repeat(first|exact A1|exact uH|apply A2|apply uT)|simp|(simp;omega)|fail)[hlt,h1]|with_reducible first|apply A3|refine A5 fun _=>?_|refine A4 fun _=>?_)
  refine B8T he (φ:=fun r=> r = .bool (p x)) (fun w' hw' => by simpa using hf w' hw'.ks x) ?_
  rintro _ rfl
  cases hb : p x with
  | true=>
   (repeat first|simp(disch:=solve|omega|assumption|repeat(first|exact A1|exact uH|apply A2|apply uT)|simp|(simp;omega)|fail)[]|with_reducible first|apply A3|refine A5 fun _=>?_|refine A4 fun _=>?_)
   exact A9 (by rw [A8Z hx hb hpre])
  | false=>
   (repeat first|simp(disch:=solve|omega|assumption|repeat(first|exact A1|exact uH|apply A2|apply uT)|simp|(simp;omega)|fail)[]|with_reducible first|apply A3|refine A5 fun _=>?_|refine A4 fun _=>?_)
   refine Sels.tw .nil (hL hlt () ?_)
   intro j y hj hy
   by_cases hji : j = i
   ·subst hji; rw [hx] at hy; cases hy; exact hb
   ·exact hpre j y (by omega) hy
 ·obtain rfl : i = l.length:=by omega
  (repeat first|simp(disch:=solve|omega|assumption|repeat(first|exact A1|exact uH|apply A2|apply uT)|simp|(simp;omega)|fail)[]|with_reducible first|apply A3|refine A5 fun _=>?_|refine A4 fun _=>?_)
  exact A9 (by rw [B4F fun j y hy=> hpre j y (List.getElem?_eq_some_iff.1 hy).1 hy])
theorem C8p {α : Type} (p : α → Bool) (l : List α) : decide (0 ≤ B1d p l) = l.any p:=by
 unfold B1d
 cases h : l.findIdx? p with
 | none=>
  have:=List.findIdx?_eq_none_iff.1 h
  rw [Bool.eq_iff_iff]; simp [List.any_eq_true]; intro x hx; have:=this x hx; simp_all
 | some i=>
  obtain ⟨hi,h1,_⟩:=List.findIdx?_eq_some_iff_getElem.1 h
  rw [Bool.eq_iff_iff]; simp only [List.any_eq_true,decide_eq_true_eq]
  exact ⟨fun _=> ⟨_,List.getElem_mem hi,h1⟩,fun _=> by omega⟩
theorem B5c (w : World) (v : Value) (l : List (Int × Int)) (p : Int × Int → Bool) (f : FuncId) (cap : List Value) (hn : l.length ≤ 1000000) (hv : F5 w v l.length (l.flatMap H5)) (he : B0 PR f)
  (hf : ∀ w', KS false [] w w' → ∀ x : Int × Int,Fn PR B8 f (.agg #[.int .i64 x.1,.int .i64 x.2] :: cap).toArray w' (fun r w'' => r = .bool (p x) ∧ C7 [] w' w'')) :
  Fn PR B8 148 #[v,.func (.func f) #[] cap.toArray] w (fun r w' => r = .bool (l.any p) ∧ C7 [] w w'):=by
 refine Fn.pure (A1q (TW.go (κ:=false) (S := []) ?_))
 unfold c9
 refine B7 A2e (fun w' hw' => B9j w' v l p f cap hn (hv.ks hw'.ks (by simp)) he fun w2 h=> hf w2 (hw'.ks.trans h)) ?_
 (repeat first|simp(disch:=solve|omega|assumption|repeat(first|exact A1|exact uH|apply A2|apply uT)|simp|(simp;omega)|fail)[]|with_reducible first|apply A3|refine A5 fun _=>?_|refine A4 fun _=>?_)
 exact A9 (by rw [C8p])
theorem C9v {t e : TypeId} {len n m n' m' : Nat} {z z' : Value} {d' : TypeDesc} {parts : Array (Nat × Value)} {cs : Array Value} {K : Value → WP} (h : TI PR t (.array len e) n m z) (he : TI PR e d' n' m' z')
  (hf : Instr.fill (fun i=> some (i * n', n')) z.cells parts.toList = some cs) : A0 PR (Instr.build t parts) K = K (.agg cs) :=
 F9 (fun w=> by
  simp only [Instr.build,Sem.run_bind,h.run_zero,Result.andThen_ok,h.run_und,he.run_size,hf,Sem.run_pure]) K
theorem bd2 {k0 k1 : IntKind} {a b : Int} (K : Value → WP) : A0 PR (Instr.build 158 #[(0,.int k0 a),(1,.int k1 b)]) K = K (.agg #[.int k0 a,.int k1 b]) :=
 C9v B6r H4 (by rw [show (#[(0,Value.int k0 a),(1,Value.int k1 b)] : Array (Nat × Value)).toList = [(0,Value.int k0 a),(1,Value.int k1 b)] from rfl,B6 rfl rfl (by simp),B6 rfl rfl (by simp [B9])]; rfl)
theorem C2m (w : World) (x : Int × Int) : Fn PR B8 149 #[.agg #[.int .i64 x.1,.int .i64 x.2]] w (fun r w' => r = .bool (decide (x.1 < 1 ∨ x.2 < x.1)) ∧ C7 [] w w'):=by
 refine Fn.pure (B4q (TW.go (κ:=false) (S := []) ?_))
 unfold A5Z
 by_cases c1 : x.1 < 1
 ·(repeat first|simp(disch:=solve|omega|assumption|repeat(first|exact A1|exact uH|apply A2|apply uT)|simp|(simp;omega)|fail)[c1]|with_reducible first|apply A3|refine A5 fun _=>?_|refine A4 fun _=>?_)
  exact A9 (by simp [c1])
 ·(repeat first|simp(disch:=solve|omega|assumption|repeat(first|exact A1|exact uH|apply A2|apply uT)|simp|(simp;omega)|fail)[c1]|with_reducible first|apply A3|refine A5 fun _=>?_|refine A4 fun _=>?_)
  exact A9 (by simp [c1])
theorem C7d (w : World) (v : Value) (l : List (Int × Int)) (hn : l.length ≤ 1000000) (hv : F5 w v l.length (l.flatMap H5)) :
  Fn PR B8 89 #[v] w (fun r w' => r = .bool (!l.any fun x=> decide (x.1 < 1 ∨ x.2 < x.1)) ∧ C7 [] w w'):=by
 refine Fn.pure (B8A (TW.go (κ:=false) (S := []) ?_))
 unfold B0M
 refine B7 A04 (fun w' hw' => B5c w' v l (fun x=> decide (x.1 < 1 ∨ x.2 < x.1)) 149 [] hn (hv.ks hw'.ks (by simp)) B3a fun w2 h x=> C2m w2 x) ?_
 (repeat first|simp(disch:=solve|omega|assumption|repeat(first|exact A1|exact uH|apply A2|apply uT)|simp|(simp;omega)|fail)[]|with_reducible first|apply A3|refine A5 fun _=>?_|refine A4 fun _=>?_)
 exact A9 rfl
theorem C3s (w : World) (x : F8) (id : Int) (b : Nat) (hb : w.cell? ⟨b,0,none⟩ = some (.int .i64 id)) : Fn PR B8 286 #[.agg #[.int .i64 x.1,.int .i64 x.2],.pointer (some ⟨b,0,none⟩)] w (fun r w' => r = .bool (decide (x.1 = id)) ∧ C7 [] w w'):=by
 refine Fn.pure (B5W (TW.go (κ:=false) (S := []) ?_))
 unfold A6G
 (repeat first|simp(disch:=solve|omega|assumption|repeat(first|exact A1|exact uH|apply A2|apply uT)|simp|(simp;omega)|fail)[hb]|with_reducible first|apply A3|refine A5 fun _=>?_|refine A4 fun _=>?_)
 exact A9 rfl
theorem C9u (w : World) (id : Int) : Fn PR B8 267 #[.int .i64 id] w (Rn [] w (fun b v=> v = .func (.func 286) #[] #[.pointer (some ⟨b,0,none⟩)]) fun b=> [.pt b (.cells #[.int .i64 id] 3)]):=by
 refine B9T (TW.go (κ:=false) (S := []) ?_)
 unfold B2P
 (repeat first|simp(disch:=solve|omega|assumption|repeat(first|exact A1|exact uH|apply A2|apply uT)|simp|(simp;omega)|fail)[]|with_reducible first|apply A3|refine A5 fun _=>?_|refine A4 fun _=>?_)
 exact s9 _ rfl (by simp)
def Q5 (l : List F8) (id : Int) : Int:=B1d (fun x=> decide (x.1 = id)) l
theorem C2B (w : World) (v : Value) (l : List F8) (id : Int) (hn : l.length ≤ 1000000) (hv : F5 w v l.length (l.flatMap H5)) :
  Fn PR B8 237 #[v,.int .i64 id] w (fun r w' => r = .int .i64 (Q5 l id) ∧ C7 [] w w'):=by
 refine Fn.pure (C1C (TW.go (κ:=false) (S := []) ?_))
 unfold B3f
 refine H0 B7q (fun w' _=> C9u w' id) ?_
 rintro b _ rfl
 refine B7 r4 (fun w' hw' => B9q w' v l (fun x=> decide (x.1 = id)) 286 [.pointer (some ⟨b,0,none⟩)] hn (hv.ks hw'.ks (by simp)) B40
  fun w2 h x=> C3s w2 x id b (h.cell (by simp) (hw'.cell1 (by (repeat constructor))))) ?_
 exact A9 rfl
def A3p (b : F8) : Bool:=decide (1 ≤ b.1 ∧ b.1 ≤ 65535 ∧ 1 ≤ b.2 ∧ b.2 ≤ 16)
def u6 : List F8 → Bool
 | []=> true
 | b :: l=> A3p b && !(l.any fun x=> decide (x.1 = b.1)) && u6 l
def Q3 (l : List F8) : Int:=if u6 l && decide (l.length ≤ 32) then 0 else 10
theorem A5r (l : List F8) : u6 l = true ↔ (∀ b ∈ l,A3p b = true) ∧ l.Pairwise fun a b=> a.1 ≠ b.1:=by
 induction l with
 | nil=> simp [u6]
 | cons b l ih=>
  simp only [u6,Bool.and_eq_true,ih,List.mem_cons,forall_eq_or_imp,List.pairwise_cons,Bool.not_eq_true', List.any_eq_false,decide_eq_true_eq]
  constructor
  ·rintro ⟨⟨h1,h2⟩,h3,h4⟩; exact ⟨⟨h1,h3⟩,fun a ha e=> h2 a ha e.symm,h4⟩
  ·rintro ⟨⟨h1,h3⟩,h2,h4⟩; exact ⟨⟨h1,fun a ha e=> h2 a ha e.symm⟩,h3,h4⟩
theorem D0K {α : Type} {R : α → α → Prop} {l : List α} (h : l.Pairwise R) {i j : Nat} {x y : α} (hij : i < j) (hx : l[i]? = some x) (hy : l[j]? = some y) : R x y:=by
 obtain ⟨h1,rfl⟩:=List.getElem?_eq_some_iff.1 hx
 obtain ⟨h2,rfl⟩:=List.getElem?_eq_some_iff.1 hy
 exact List.pairwise_iff_getElem.1 h i j h1 h2 hij
theorem D1L {α : Type} {R : α → α → Prop} {l : List α} {i : Nat} {x : α} (hx : l[i]? = some x) : (l.take (i + 1)).Pairwise R ↔ (l.take i).Pairwise R ∧ ∀ y ∈ l.take i,R y x:=by
 rw [List.take_add_one,hx]; simp [List.pairwise_append]
theorem C0B (w : World) (v : Value) (l : List F8) (hn : l.length ≤ 1000000) (hv : F5 w v l.length (l.flatMap H5)) :
  Fn PR B8 29 #[v] w (fun r w' => r = .int .i64 (Q3 l) ∧ C7 [] w w'):=by
 refine Fn.pure (B9F (TW.go (κ:=false) (S := []) ?_))
 unfold B2N
 obtain ⟨a,c,rfl,hr⟩:=hv.form
 refine C3T (Value.int .i64) fun r=> ?_
 (repeat first|simp(disch:=solve|omega|assumption|repeat(first|exact A1|exact uH|apply A2|apply uT)|simp|(simp;omega)|fail)[]|with_reducible first|apply A3|refine A5 fun _=>?_|refine A4 fun _=>?_)
 refine P6 (α:=List (Int × Value)) l.length (fun _ _=> .int .i64 0) (fun _ M=> [.pt r (A0a (Value.int .i64) M)]) (fun i M=> (∀ k,z6 k M = if (l.take i).any (fun x=> decide (x.1 = k)) then some (.bool true) else none) ∧ u6 (l.take i) = true) [] (by simp [z6,u6]) ?_
 rintro i M hi ⟨hM,hok⟩ L hL
 by_cases hlt : i < l.length
 ·obtain ⟨b,o,rfl,hrow⟩:=hr (by omega)
  obtain ⟨x,hx⟩ : ∃ x,l[i]? = some x:=⟨_,List.getElem?_eq_getElem (by omega)⟩
  have h1:=hrow.at (f:=H5) (k:=2) (fun _=> rfl) hx
  rw [H5] at h1
  have hxm : x ∈ l:=List.mem_of_getElem? hx
  (repeat first|simp(disch:=solve|omega|assumption|repeat(first|exact A1|exact uH|apply A2|apply uT)|simp|(simp;omega)|fail)[hlt,h1]|with_reducible first|apply A3|refine A5 fun _=>?_|refine A4 fun _=>?_)
  rw [B6H D0b ty4 (KeyT.int H4) (l:=M) (by (repeat constructor)),hM]
  cases hseen : (l.take i).any (fun y=> decide (y.1 = x.1)) with
  | true=>
   have hbad : Q3 l = 10:=by
    have : u6 l = false:=by
     rw [← Bool.not_eq_true,A5r]
     rintro ⟨_,h⟩
     obtain ⟨y,hy,he⟩:=List.any_eq_true.1 hseen
     obtain ⟨j,hj,rfl⟩:=List.getElem_of_mem hy
     simp only [List.length_take] at hj
     exact D0K (i:=j) (j:=i) h (by omega) (List.getElem?_eq_getElem (by omega)) hx (by simpa using he)
    simp [Q3,this]
   (repeat first|simp(disch:=solve|omega|assumption|repeat(first|exact A1|exact uH|apply A2|apply uT)|simp|(simp;omega)|fail)[]|with_reducible first|apply A3|refine A5 fun _=>?_|refine A4 fun _=>?_)
   exact A9 (by rw [hbad])
  | false=>
   simp only [Bool.false_eq_true,if_false,Option.getD_none]
   (have zz:=trivial;repeat((first|clear zz|with_reducible first|refine A3 ?_|refine A5 fun _=>?_|refine A4 fun _=>?_|refine D6 fun _=>?_|refine D8 (hK:=fun _=>?_)|refine D9 (hK:=fun _=>?_)|refine E0 (hK:=fun _=>?_)|refine D4 (hK:=fun _=>?_)|refine D5 (hK:=fun _=>?_));try simp(disch:=first|omega|assumption|((repeat(first|exact A1|exact uH|apply A2|apply uT));first|done|fail)|(simp;first|done|omega|fail))[bd2]))
   rename_i bs bx
   refine B7 (u:=.bool (A3p x)) B7a (fun w' hw' => ?_) ?_
   ·have:=C7d w' (.slice (some ⟨bx,0,none⟩) 2 2) [(x.1,65535),(x.2,16)] (by simp) (by simpa [H5] using M0.own (κ:=false) (S := []) (w0:=w) (e:=158) (k:=2) (q:=2) (v:=.slice (some ⟨bx,0,none⟩) 2 2) (by (repeat constructor)) w' hw')
    have e : (!([(x.1,65535),(x.2,16)] : List (Int × Int)).any fun x=> decide (x.1 < 1 ∨ x.2 < x.1)) = A3p x:=by
     rw [Bool.eq_iff_iff]; simp [A3p]; omega
    rw [e] at this
    exact this
   ·cases hbk : A3p x with
    | false=>
     have hbad : Q3 l = 10:=by
      have : u6 l = false:=by
       rw [← Bool.not_eq_true,A5r]
       rintro ⟨h,_⟩
       rw [h x hxm] at hbk; cases hbk
      simp [Q3,this]
     (repeat first|simp(disch:=solve|omega|assumption|repeat(first|exact A1|exact uH|apply A2|apply uT)|simp|(simp;omega)|fail)[]|with_reducible first|apply A3|refine A5 fun _=>?_|refine A4 fun _=>?_)
     exact A9 (by rw [hbad])
    | true=>
     (repeat first|simp(disch:=solve|omega|assumption|repeat(first|exact A1|exact uH|apply A2|apply uT)|simp|(simp;omega)|fail)[]|with_reducible first|apply A3|refine A5 fun _=>?_|refine A4 fun _=>?_)
     refine B6B D0b (KeyT.int H4) (k:=x.1) (by (repeat constructor)) ?_
     (repeat first|simp(disch:=solve|omega|assumption|repeat(first|exact A1|exact uH|apply A2|apply uT)|simp|(simp;omega)|fail)[]|with_reducible first|apply A3|refine A5 fun _=>?_|refine A4 fun _=>?_)
     refine Sels.tw (by (repeat' constructor)) (hL hlt _ ⟨?_,?_⟩)
     ·intro k
      rw [C56,hM,List.take_add_one,hx]
      by_cases hk : k = x.1
      ·subst hk; simp
      ·have hk' : ¬ x.1 = k:=fun e=> hk e.symm
       have hAB : (l.take i ++ (some x).toList).any (fun x=> decide (x.1 = k)) = (l.take i).any (fun x=> decide (x.1 = k)):=by
        rw [List.any_append]; simp only [Option.toList_some,List.any_cons,List.any_nil,decide_eq_false hk', Bool.or_false]
       rw [if_neg hk,hAB]
     ·rw [A5r] at hok ⊢
      refine ⟨fun y hy=> ?_,(D1L hx).2 ⟨hok.2,fun y hy e=> ?_⟩⟩
      ·rw [List.take_add_one,hx] at hy
       simp only [Option.toList_some,List.mem_append,List.mem_singleton] at hy
       rcases hy with hy | rfl
       ·exact hok.1 y hy
       ·exact hbk
      ·have:=List.any_eq_false.1 hseen y hy
       simp [e] at this
 ·obtain rfl : i = l.length:=by omega
  rw [List.take_length] at hok
  by_cases c1 : l.length ≤ 32
  ·have c1' : ¬ (32 : Int) < l.length:=by omega
   (repeat first|simp(disch:=solve|omega|assumption|repeat(first|exact A1|exact uH|apply A2|apply uT)|simp|(simp;omega)|fail)[c1']|with_reducible first|apply A3|refine A5 fun _=>?_|refine A4 fun _=>?_)
   exact A9 (by simp [Q3,hok,c1])
  ·have c1' : (32 : Int) < l.length:=by omega
   (repeat first|simp(disch:=solve|omega|assumption|repeat(first|exact A1|exact uH|apply A2|apply uT)|simp|(simp;omega)|fail)[c1']|with_reducible first|apply A3|refine A5 fun _=>?_|refine A4 fun _=>?_)
   exact A9 (by simp [Q3,c1])
structure CfgV where
 wk : Int
 sh : Int
 cp : Int
 idle : Int
 sl : Int
 deriving DecidableEq
def CfgV.val (c : CfgV) : Value:=.agg #[.int .i64 c.wk,.int .i64 c.sh,.int .i64 c.cp,.int .i64 c.idle,.int .i64 c.sl]
def j8 (n lo hi : Int) : Bool:=decide (lo ≤ n) && decide (n ≤ hi)
def Q8 (c : CfgV) : Bool:=j8 c.wk 1 64 && j8 c.sh 1 16 && j8 c.cp 1 64 && j8 c.idle 0 1000000 && j8 c.sl 2 8
structure AnsV where
 err : Int
 bk : Int
 made : Bool
 count : Int
 deriving DecidableEq
def AnsV.val (a : AnsV) : Value:=.agg #[.int .i64 a.err,.int .i64 a.bk,.bool a.made,.int .i64 a.count]
structure OpV where
 kind : Int
 packet : ByteArray
 pool : List F8
 shard : Int
def OpV.val (o : OpV) (v : Value) : Value:=.agg #[.int .i64 o.kind,.string o.packet,v,.int .i64 o.shard]
section
open Instr
variable {X : Nat → Prop} {t0 t1 t2 t3 t4 t5 t6 t7 : Value} {R : Value → WP} {w : World}
def B2F (X : Nat → Prop) (a b : Value) (R : Value → WP) : WP :=
 B5 PR X (box 9 b) fun c=>
 B5 PR X (alloc 3 true (.tuple #[])) fun d=>
 C1 PR X (storeAt 3 d (.int .i64 (-1))) <|
 jn (n:=0) (
 A6 PR (loadAt 3 d) fun e=>
 unw (R e)) fun J1=>
 A6 PR (loadAt 9 c) fun f=>
 B3 PR X 179 [a,f] fun g=>
 rng (N:=2) PR X (fun h k K2=>
 B5 PR (fun _=> False) (alloc 218 true (.tuple #[])) fun l=>
 C1 PR (fun _=> False) (storeAt 218 l k) <|
 bgn <|
 A0 PR (fieldAt 218 l 0) fun m=>
 A6 PR (loadAt 3 m) fun o=>
 A0 PR (binOp .eql 3 o (.int .i64 0)) fun p=>
 C0 p (
 K2 (some (.exit 0))) (
 A0 PR (fieldAt 218 l 0) fun q=>
 A6 PR (loadAt 3 q) fun r=>
 A0 PR (binOp .eql 3 r (.int .i64 1)) fun s=>
 gj s true (fun J=> A0 PR (fieldAt 218 l 1) J) fun t=>
 gj s true (fun J=> A6 PR (loadAt 9 t) J) fun u=>
 gj s true (fun J=> A6 PR (loadAt 9 c) J) fun v=>
 gj s true (fun J=> A0 PR (binOp .eql 9 u v) J) fun w=>
 A0 PR (do pure (if ← asBool s then w else (.bool false))) fun x=>
 C0 x (
 C1 PR (fun _=> False) (storeAt 3 d h) <|
 K2 (some (.exit 0))) (
 K2 none))) g (fun j=> match j with | none=> (J1) | some (.exit i)=> (match Nat.beq i 0 with | true=> (J1) | false=> (K9)) | some .ret=> (unw (R (.int .i64 0))) | some _=> K9)
theorem A1E : B0 PR 133:=A7 Tryz.func133 (by kernel_rfl) rfl
theorem B9c (h : B2F X t0 t1 R w) : Fn PR X 133 #[t0,t1] w R:=C4 (args := [t0,t1]) mixed Tryz.func133 (by kernel_rfl) h
def B38 (X : Nat → Prop) (a b : Value) (R : Value → WP) : WP :=
 B5 PR X (box 84 a) fun c=>
 B5 PR X (box 9 b) fun d=>
 A0 PR (makeFunc (.func 235) #[] #[d,c]) fun e=>
 R e
theorem B2G : B0 PR 179:=A7 Tryz.func179 (by kernel_rfl) rfl
theorem C0b (h : B38 X t0 t1 R w) : Fn PR X 179 #[t0,t1] w R:=C4 (args := [t0,t1]) mixed Tryz.func179 (by kernel_rfl) h
def B0c (X : Nat → Prop) (a b : Value) (R : Value → WP) : WP :=
 B5 PR X (box 3 b) fun c=>
 A0 PR (makeFunc (.func 241) #[] #[c]) fun d=>
 B3 PR X 240 [a,d] fun e=>
 R e
theorem B7E : B0 PR 186:=A7 Tryz.func186 (by kernel_rfl) rfl
theorem B7z (h : B0c X t0 t1 R w) : Fn PR X 186 #[t0,t1] w R:=C4 (args := [t0,t1]) mixed Tryz.func186 (by kernel_rfl) h
def A74 (X : Nat → Prop) (a b c : Value) (R : Value → WP) : WP :=
 A6 PR (loadAt 9 b) fun d=>
 A6 PR (loadAt 84 c) fun e=>
 A0 PR (A8 .len #[84] 0 [e]) fun f=>
 B3 PR X 236 [d,f] fun g=>
 A6 PR (loadAt 84 c) fun h=>
 A0 PR (A8 .len #[84] 0 [h]) fun i=>
 lp (n:=1) (fun L1 j=>
 A0 PR (binOp .lss 3 j i) fun k=>
 jn (n:=0) (
 jn (n:=0) (
 A0 PR (binOp .add 3 j (.int .i64 1)) fun l=>
 L1 l) fun J2=>
 A0 PR (binOp .add 3 g j) fun m=>
 A6 PR (loadAt 84 c) fun o=>
 A0 PR (A8 .len #[84] 0 [o]) fun p=>
 A0 PR (binOp .rem 3 m p) fun q=>
 A6 PR (loadAt 84 c) fun r=>
 A0 PR (indexAt 84 r q) fun s=>
 A6 PR (loadAt 218 s) fun t=>
 N7 PR X a [q,t] fun u=>
 A0 PR (Op.unary .not u) fun v=>
 C0 v (
 R (.tuple #[])) (
 J2)) fun J3=>
 C0 k (
 J3) (
 R (.tuple #[]))) (.int .i64 0)
theorem B5x : B0 PR 235:=A7 Tryz.func235 (by kernel_rfl) rfl
theorem B7Y (h : A74 X t0 t1 t2 R w) : Fn PR X 235 #[t0,t1,t2] w R:=C4 (args := [t0,t1,t2]) mixed Tryz.func235 (by kernel_rfl) h
end
theorem B6M {X : Nat → Prop} {t0 t1 t2 : Value} {K : Value → WP} {w : World} (h : Fn PR X 235 #[t0,t1,t2] w K) : A4a PR X 235 [t0,t1,t2] K w:=⟨B5x,h⟩
section
open Instr
variable {X : Nat → Prop} {t0 t1 t2 t3 t4 t5 t6 t7 : Value} {R : Value → WP} {w : World}
def B13 (X : Nat → Prop) (a b : Value) (R : Value → WP) : WP :=
 jn (n:=1) (fun c=>
 B3 PR X 135 [a] fun d=>
 A0 PR (convert 3 89 b) fun e=>
 A0 PR (binOp .rem 89 d e) fun f=>
 A0 PR (convert 89 3 f) fun g=>
 R g) fun J1=>
 A0 PR (binOp .lss 3 b (.int .i64 1)) fun h=>
 C0 h (
 R (.int .i64 0)) (
 J1 (.int .i64 0))
theorem B7k : B0 PR 236:=A7 Tryz.func236 (by kernel_rfl) rfl
theorem B9D (h : B13 X t0 t1 R w) : Fn PR X 236 #[t0,t1] w R:=C4 (args := [t0,t1]) mixed Tryz.func236 (by kernel_rfl) h
def A0w (X : Nat → Prop) (a b : Value) (R : Value → WP) : WP :=
 jn (n:=2) (fun c d=>
 R c) fun J1=>
 A0 PR (A8 .len #[84] 0 [a]) fun e=>
 lp (n:=2) (fun L2 f g=>
 A0 PR (binOp .lss 3 g e) fun h=>
 jn (n:=0) (
 jn (n:=1) (fun i=>
 A0 PR (binOp .add 3 g (.int .i64 1)) fun j=>
 L2 i j) fun J3=>
 A0 PR (indexAt 84 a g) fun k=>
 A6 PR (loadAt 218 k) fun l=>
 B5 PR X (alloc 218 true (.tuple #[])) fun m=>
 C1 PR X (storeAt 218 m l) <|
 A6 PR (loadAt 218 m) fun o=>
 N7 PR X b [o] fun p=>
 C0 p (
 A0 PR (binOp .add 3 f (.int .i64 1)) fun q=>
 J3 q) (
 J3 f)) fun J4=>
 C0 h (
 J4) (
 J1 f g)) (.int .i64 0) (.int .i64 0)
theorem A5z : B0 PR 240:=A7 Tryz.func240 (by kernel_rfl) rfl
theorem A6H (h : A0w X t0 t1 R w) : Fn PR X 240 #[t0,t1] w R:=C4 (args := [t0,t1]) mixed Tryz.func240 (by kernel_rfl) h
def A5V (X : Nat → Prop) (a b : Value) (R : Value → WP) : WP :=
 B5 PR X (box 218 a) fun c=>
 A0 PR (fieldAt 218 c 0) fun d=>
 A6 PR (loadAt 3 d) fun e=>
 A6 PR (loadAt 3 b) fun f=>
 A0 PR (binOp .eql 3 e f) fun g=>
 R g
theorem B3z : B0 PR 241:=A7 Tryz.func241 (by kernel_rfl) rfl
theorem B4n (h : A5V X t0 t1 R w) : Fn PR X 241 #[t0,t1] w R:=C4 (args := [t0,t1]) mixed Tryz.func241 (by kernel_rfl) h
def B2D (X : Nat → Prop) (a b : Value) (R : Value → WP) : WP :=
 B5 PR X (alloc 3 true (.tuple #[])) fun d=>
 jn (n:=0) (
 jn (n:=0) (
 C1 PR X (storeAt 3 d (.int .i64 (-1))) <|
 unw (A6 PR (E1 [.c 3 d]) R)) fun J1=>
 B3 PR X 179 [a,b] fun e=>
 rng (N:=2) PR X (fun f g K2=>
 B5 PR (fun _=> False) (alloc 218 true (.tuple #[])) fun h=>
 C1 PR (fun _=> False) (storeAt 218 h g) <|
 bgn <|
 A0 PR (fieldAt 218 h 0) fun k=>
 A6 PR (loadAt 3 k) fun l=>
 A0 PR (binOp .neq 3 l (.int .i64 1)) fun m=>
 C0 m (
 C1 PR (fun _=> False) (storeAt 3 d f) <|
 K2 (some .ret)) (
 K2 none)) e (fun j=> match j with | none=> (J1) | some (.exit i)=> (match Nat.beq i 0 with | true=> (J1) | false=> (K9)) | some .ret=> (unw (A6 PR (E1 [.c 3 d]) R)) | some _=> K9)) fun J3=>
 B3 PR X 133 [a,b] fun o=>
 A0 PR (binOp .geq 3 o (.int .i64 0)) fun p=>
 C0 p (
 C1 PR X (storeAt 3 d (.int .i64 (-1))) <|
 unw (A6 PR (E1 [.c 3 d]) R)) (
 J3)
theorem B72 : B0 PR 242:=A7 Tryz.func242 (by kernel_rfl) rfl
theorem B9C (h : B2D X t0 t1 R w) : Fn PR X 242 #[t0,t1] w R:=C4 (args := [t0,t1]) mixed Tryz.func242 (by kernel_rfl) h
def B7b (X : Nat → Prop) (a : Value) (R : Value → WP) : WP :=
 B3 PR X 183 [(.int .u64 14695981039346656037),a] fun b=>
 R b
theorem A4q : B0 PR 135:=A7 Tryz.func135 (by kernel_rfl) rfl
theorem C4L (h : B7b X t0 R w) : Fn PR X 135 #[t0] w R:=C4 (args := [t0]) mixed Tryz.func135 (by kernel_rfl) h
def B46 (X : Nat → Prop) (a b : Value) (R : Value → WP) : WP :=
 B5 PR X (alloc 368 true (.tuple #[])) fun c=>
 B5 PR X (alloc 370 true (.tuple #[])) fun d=>
 C1 PR X (storeAt 368 c (.func (.func 238) #[] #[])) <|
 C1 PR X (storeAt 370 d a) <|
 jn (n:=0) (
 A6 PR (loadAt 370 d) fun e=>
 unw (R e)) fun J1=>
 B3 PR X 239 [b] fun f=>
 rng (N:=1) PR X (fun g K2=>
 bgn <|
 A6 PR (loadAt 368 c) fun h=>
 A6 PR (loadAt 370 d) fun k=>
 N7 PR (fun _=> False) h [k,g] fun l=>
 C1 PR (fun _=> False) (storeAt 370 d l) <|
 K2 none) f (fun j=> match j with | none=> (J1) | some (.exit i)=> (match Nat.beq i 0 with | true=> (J1) | false=> (K9)) | some .ret=> (unw (R (.int .u64 0))) | some _=> K9)
theorem B3V : B0 PR 183:=A7 Tryz.func183 (by kernel_rfl) rfl
theorem C17 (h : B46 X t0 t1 R w) : Fn PR X 183 #[t0,t1] w R:=C4 (args := [t0,t1]) mixed Tryz.func183 (by kernel_rfl) h
def B0l (X : Nat → Prop) (a b : Value) (R : Value → WP) : WP :=
 A0 PR (convert 5 370 b) fun c=>
 A0 PR (binOp .xor 370 a c) fun d=>
 A0 PR (binOp .mul 370 d (.int .u64 1099511628211)) fun e=>
 R e
theorem B6Q : B0 PR 238:=A7 Tryz.func238 (by kernel_rfl) rfl
theorem B7d (h : B0l X t0 t1 R w) : Fn PR X 238 #[t0,t1] w R:=C4 (args := [t0,t1]) mixed Tryz.func238 (by kernel_rfl) h
def B5D (X : Nat → Prop) (a : Value) (R : Value → WP) : WP :=
 B5 PR X (box 9 a) fun b=>
 A0 PR (makeFunc (.func 268) #[] #[b]) fun c=>
 R c
theorem C1b : B0 PR 239:=A7 Tryz.func239 (by kernel_rfl) rfl
theorem C2l (h : B5D X t0 R w) : Fn PR X 239 #[t0] w R:=C4 (args := [t0]) mixed Tryz.func239 (by kernel_rfl) h
def B0S (X : Nat → Prop) (a b : Value) (R : Value → WP) : WP :=
 A6 PR (loadAt 9 b) fun c=>
 A0 PR (A8 .len #[9] 0 [c]) fun d=>
 lp (n:=1) (fun L1 e=>
 A0 PR (binOp .lss 3 e d) fun f=>
 jn (n:=0) (
 jn (n:=0) (
 A0 PR (binOp .add 3 e (.int .i64 1)) fun g=>
 L1 g) fun J2=>
 A6 PR (loadAt 9 b) fun h=>
 A0 PR (index 9 h e) fun i=>
 N7 PR X a [i] fun j=>
 A0 PR (Op.unary .not j) fun k=>
 C0 k (
 R (.tuple #[])) (
 J2)) fun J3=>
 C0 f (
 J3) (
 R (.tuple #[]))) (.int .i64 0)
theorem B6x : B0 PR 268:=A7 Tryz.func268 (by kernel_rfl) rfl
theorem B78 (h : B0S X t0 t1 R w) : Fn PR X 268 #[t0,t1] w R:=C4 (args := [t0,t1]) mixed Tryz.func268 (by kernel_rfl) h
end
theorem B8D {X : Nat → Prop} {t0 t1 : Value} {K : Value → WP} {w : World} (h : Fn PR X 268 #[t0,t1] w K) : A4a PR X 268 [t0,t1] K w:=⟨B6x,h⟩
def A67 (h b : Nat) : Nat:=((h ^^^ b) * 1099511628211) % 18446744073709551616
def A1p (h : Nat) (s : ByteArray) : Nat → Nat
 | 0=> h
 | i + 1=> A67 (A1p h s i) (C9 s i)
def B06 (h : Nat) (s : ByteArray) : Nat:=A1p h s s.size
def S2 (s : ByteArray) : Nat:=B06 14695981039346656037 s
theorem D1M (h b : Nat) : A67 h b < 2 ^ 64:=by unfold A67; omega
theorem B8Y {h : Nat} (hh : h < 2 ^ 64) (s : ByteArray) (i : Nat) : A1p h s i < 2 ^ 64:=by
 cases i with
 | zero=> exact hh
 | succ i=> exact D1M _ _
theorem D3s (w : World) (h b : Nat) (hh : h < 2 ^ 64) (hb : b < 256) : Fn PR B8 238 #[.int .u64 (h : Int),.int .u8 (b : Int)] w (fun v w' => v = .int .u64 (A67 h b : Nat) ∧ C7 [] w w'):=by
 refine Fn.pure (B7d (TW.go (κ:=false) (S := []) ?_))
 unfold B0l
 (repeat first|simp(disch:=solve|omega|assumption|repeat(first|exact A1|exact uH|apply A2|apply uT)|simp|(simp;omega)|fail)[]|with_reducible first|apply A3|refine A5 fun _=>?_|refine A4 fun _=>?_)
 have e1 : (h % 2 ^ IntKind.u64.bits ^^^ b % 2 ^ IntKind.u64.bits) = h ^^^ b:=by rw [show (2 : Nat) ^ IntKind.u64.bits = 2 ^ 64 from rfl,Nat.mod_eq_of_lt hh,Nat.mod_eq_of_lt (by omega)]
 have e2 : h ^^^ b < 2 ^ 64:=Nat.xor_lt_two_pow hh (by omega)
 rw [e1,A1D (n:=((h ^^^ b : Nat) : Int)) (by omega) (by omega)]
 refine A9 ?_
 have e3 : IntKind.u64.wrap (((h ^^^ b : Nat) : Int) * 1099511628211) = (A67 h b : Nat):=by
  simp only [IntKind.wrap,IntKind.bits,IntKind.signed,A67]
  simp
 rw [e3]
abbrev C96 (b : Nat) : Value:=.func (.func 268) #[] #[.pointer (some ⟨b,0,none⟩)]
theorem D1s (w : World) (s : ByteArray) : Fn PR B8 239 #[.string s] w (Rn [] w (fun b v=> v = C96 b) fun b=> [.pt b (.cells #[.string s] 9)]):=by
 refine C2l (TW.go (κ:=false) (S := []) ?_)
 unfold B5D
 (repeat first|simp(disch:=solve|omega|assumption|repeat(first|exact A1|exact uH|apply A2|apply uT)|simp|(simp;omega)|fail)[]|with_reducible first|apply A3|refine A5 fun _=>?_|refine A4 fun _=>?_)
 rename_i b
 exact s9 b rfl (by simp)
def B9x (s : ByteArray) (i : Nat) : List Value := [.int .u8 (C9 s i : Nat)]
theorem D1J (b : Nat) (s : ByteArray) (hs : s.size < 2 ^ 60) : B1D (C96 b) [.pt b (.cells #[.string s] 9)] (fun _ _=> True) ((List.range s.size).map (B9x s)):=by
 refine ⟨_,_,_,rfl,fun l J E hJ hE stJ stE hy w0 h0=> ?_⟩
 refine B8D (B78 (TW.at (κ:=true) ?_ (hJ _ _ _ h0).1))
 unfold B0S
 (repeat first|simp(disch:=solve|omega|assumption|repeat(first|exact A1|exact uH|apply A2|apply uT)|simp|(simp;omega)|fail)[]|with_reducible first|apply A3|refine A5 fun _=>?_|refine A4 fun _=>?_)
 refine B0U s.size (fun i=> i) (fun _=> _) hJ stJ h0 fun i a hi hJi _ L hL=> ?_
 by_cases hlt : i < s.size
 ·obtain ⟨by0,hb0,hb1⟩:=y8 (s:=s) (i:=i) hlt
  have hb0' : s[((i : Nat) : Int).toNat]? = some by0:=by rw [Int.toNat_natCast]; exact hb0
  (repeat first|simp(disch:=solve|omega|assumption|repeat(first|exact A1|exact uH|apply A2|apply uT)|simp|(simp;omega)|fail)[hlt,b9]|with_reducible first|apply A3|refine A5 fun _=>?_|refine A4 fun _=>?_)
  rw [hb1]
  refine B4T hJ hE stJ hy hJi (by simpa using hlt) (by simp [B9x]) (fun w3 h=> ?_) (fun w3 h=> ?_)
  ·(repeat first|simp(disch:=solve|omega|assumption|repeat(first|exact A1|exact uH|apply A2|apply uT)|simp|(simp;omega)|fail)[]|with_reducible first|apply A3|refine A5 fun _=>?_|refine A4 fun _=>?_)
   exact fun w' hw' => hL hlt w' (stJ _ _ _ _ _ h hw')
  ·(repeat first|simp(disch:=solve|omega|assumption|repeat(first|exact A1|exact uH|apply A2|apply uT)|simp|(simp;omega)|fail)[]|with_reducible first|apply A3|refine A5 fun _=>?_|refine A4 fun _=>?_)
   exact B0L stE h
 ·obtain rfl : i = s.size:=by omega
  (repeat first|simp(disch:=solve|omega|assumption|repeat(first|exact A1|exact uH|apply A2|apply uT)|simp|(simp;omega)|fail)[]|with_reducible first|apply A3|refine A5 fun _=>?_|refine A4 fun _=>?_)
  exact A9p stJ (by simpa using hJi)
theorem C22 (w : World) (h : Nat) (s : ByteArray) (hh : h < 2 ^ 64) (hs : s.size < 2 ^ 60) : Fn PR B8 183 #[.int .u64 (h : Int),.string s] w (fun v w' => v = .int .u64 (B06 h s : Nat) ∧ C7 [] w w'):=by
 refine Fn.pure (C17 (TW.go (κ:=false) (S := []) ?_))
 unfold B46
 (repeat first|simp(disch:=solve|omega|assumption|repeat(first|exact A1|exact uH|apply A2|apply uT)|simp|(simp;omega)|fail)[]|with_reducible first|apply A3|refine A5 fun _=>?_|refine A4 fun _=>?_)
 rename_i bf bx
 refine H0 C1b (fun w' _=> D1s w' s) ?_
 rintro b v rfl
 refine A72 (D1J b s hs) (by simp [B9x]) (fun _ (_ : Unit)=> True) (fun i _=> [.pt bx (.cells #[.int .u64 ((A1p h s i : Nat) : Int)] 370),.pt bf (.cells #[.func (.func 238) #[] #[]] 368)])
  (fun _ (_ : Unit)=> False) (fun _=> []) () trivial ?_ ?_ ?_ ?_ (by simp [A1p])
 ·intros; trivial
 ·rintro i hi _ F _ K' hK _
  simp only [List.getElem_map,List.getElem_range,B9x,VF.app]
  (repeat first|simp(disch:=solve|omega|assumption|repeat(first|exact A1|exact uH|apply A2|apply uT)|simp|(simp;omega)|fail)[]|with_reducible first|apply A3|refine A5 fun _=>?_|refine A4 fun _=>?_)
  refine B7 B6Q (fun w' _=> D3s w' _ _ (B8Y hh s i) (P5 s i)) ?_
  (repeat first|simp(disch:=solve|omega|assumption|repeat(first|exact A1|exact uH|apply A2|apply uT)|simp|(simp;omega)|fail)[]|with_reducible first|apply A3|refine A5 fun _=>?_|refine A4 fun _=>?_)
  exact TW.eqH (by simp [A1p]) (hK () trivial)
 ·rintro _ _
  (repeat first|simp(disch:=solve|omega|assumption|repeat(first|exact A1|exact uH|apply A2|apply uT)|simp|(simp;omega)|fail)[]|with_reducible first|apply A3|refine A5 fun _=>?_|refine A4 fun _=>?_)
  exact A9 (by simp [B06])
 ·rintro _ _ h; exact h.elim
theorem A78 (w : World) (s : ByteArray) (hs : s.size < 2 ^ 60) : Fn PR B8 135 #[.string s] w (fun v w' => v = .int .u64 (S2 s : Nat) ∧ C7 [] w w'):=by
 refine Fn.pure (C4L (TW.go (κ:=false) (S := []) ?_))
 unfold B7b
 refine B7 B3V (fun w' _=> C22 w' 14695981039346656037 s (by omega) hs) ?_
 exact A9 rfl
def K3 (key : ByteArray) (n : Nat) : Nat:=S2 key % n
theorem A9y (s : ByteArray) : S2 s < 2 ^ 64:=B8Y (by omega) s _
theorem D1u (w : World) (key : ByteArray) (n : Nat) (hk : key.size < 2 ^ 60) (hn : n ≤ 1000000) : Fn PR B8 236 #[.string key,.int .i64 (n : Int)] w (fun v w' => v = .int .i64 (if n = 0 then 0 else K3 key n : Nat) ∧ C7 [] w w'):=by
 refine Fn.pure (B9D (TW.go (κ:=false) (S := []) ?_))
 unfold B13
 by_cases c1 : n = 0
 ·have c1' : (n : Int) < 1:=by omega
  (repeat first|simp(disch:=solve|omega|assumption|repeat(first|exact A1|exact uH|apply A2|apply uT)|simp|(simp;omega)|fail)[c1']|with_reducible first|apply A3|refine A5 fun _=>?_|refine A4 fun _=>?_)
  exact A9 (by simp [c1])
 have c1' : ¬ (n : Int) < 1:=by omega
 have c1'' : ¬ (n : Int) = 0:=by omega
 (repeat first|simp(disch:=solve|omega|assumption|repeat(first|exact A1|exact uH|apply A2|apply uT)|simp|(simp;omega)|fail)[c1']|with_reducible first|apply A3|refine A5 fun _=>?_|refine A4 fun _=>?_)
 refine B7 A4q (fun w' _=> A78 w' key hk) ?_
 have hl:=A9y key
 have hm : K3 key n < n:=Nat.mod_lt _ (by omega)
 have e1 : ((S2 key : Nat) : Int).tmod n = (K3 key n : Nat):=by unfold K3; rw [Int.tmod_eq_emod_of_nonneg (by omega)]; omega
 have e2 : ((S2 key : Nat) : Int) % n = (K3 key n : Nat):=by unfold K3; omega
 (repeat first|simp(disch:=solve|omega|assumption|repeat(first|exact A1|exact uH|apply A2|apply uT)|simp|(simp;omega)|fail)[c1'', e1,U8]|with_reducible first|apply A3|refine A5 fun _=>?_|refine A4 fun _=>?_)
 exact A9 (by simp [c1])
def noE : EnV:=⟨0,M6,0,0⟩
def P7 (l : List EnV) (key : ByteArray) : List (Nat × EnV):=(List.range l.length).map fun i=> ((K3 key l.length + i) % l.length,l.getD ((K3 key l.length + i) % l.length) noE)
def B02 (p : Nat × EnV) : List Value := [.int .i64 (p.1 : Nat),.agg #[.int .i64 p.2.st,.string p.2.key,.int .i64 p.2.bk,.int .i64 p.2.dl]]
abbrev D2s (x : Nat × Nat) : Value:=.func (.func 235) #[] #[.pointer (some ⟨x.1,0,none⟩),.pointer (some ⟨x.2,0,none⟩)]
abbrev C1p (x : Nat × Nat) (v : Value) (key : ByteArray) : List Res := [.pt x.1 (.cells #[.string key] 9),.pt x.2 (.cells #[v] 84)]
theorem C7c (w : World) (v : Value) (key : ByteArray) (hv : ∃ a n c,v = .slice a n c) : Fn PR B8 179 #[v,.string key] w (Rn [] w (fun x u=> u = D2s x) fun x=> C1p x v key):=by
 obtain ⟨a,n,c,rfl⟩:=hv
 refine C0b (TW.go (κ:=false) (S := []) ?_)
 unfold B38
 (repeat first|simp(disch:=solve|omega|assumption|repeat(first|exact A1|exact uH|apply A2|apply uT)|simp|(simp;omega)|fail)[]|with_reducible first|apply A3|refine A5 fun _=>?_|refine A4 fun _=>?_)
 rename_i b1 b2
 exact B1 (b2,b1) rfl (by (repeat' constructor))
def RqS (v : Value) (n : Nat) (xs : List Value) (F : List Res) (w : World) : Prop := ∃ a c,v = .slice a n c ∧ (0 < n → ∃ b o,a = some ⟨b,o,none⟩ ∧ P3 w b o xs ∧ b ∉ C3 F)
theorem RqS.of {v : Value} {n : Nat} {xs : List Value} {w0 w : World} {A F : List Res} (h : F5 w0 v n xs) (hx : 0 < n → 0 < xs.length) (hw : LW false [] w0 (A ++ F) w) : RqS v n xs F w:=by
 obtain ⟨a,c,rfl,hr⟩:=h.form
 refine ⟨a,c,rfl,fun hn=> ?_⟩
 obtain ⟨b,o,rfl,hrow⟩:=hr hn
 refine ⟨b,o,rfl,hw.ks.row (by simp) hrow,hw.notin_old ?_ (by simp)⟩
 have h0:=hrow 0 (hx hn)
 rw [List.getElem?_eq_getElem (hx hn)] at h0
 obtain ⟨c', t', z', h1,h2⟩:=A0p h0
 exact M2 h1
theorem A59 (l : List EnV) : (l.flatMap F1).length = l.length * 4:=by
 induction l with
 | nil=> rfl
 | cons x l ih=> rw [List.flatMap_cons,List.length_append,ih]; simp [F1]; omega
theorem C61 (x : Nat × Nat) (v : Value) (l : List EnV) (key : ByteArray) (hk : key.size < 2 ^ 60) (hn : l.length ≤ 1000000) : B1D (D2s x) (C1p x v key) (RqS v l.length (l.flatMap F1)) ((P7 l key).map B02):=by
 obtain ⟨bk,bt⟩:=x
 refine ⟨_,_,_,rfl,fun y J E hJ hE stJ stE hy w0 h0=> ?_⟩
 obtain ⟨a,c,hv,hr⟩:=(hJ _ _ _ h0).2
 subst hv
 refine B6M (B7Y (TW.at (κ:=true) ?_ (hJ _ _ _ h0).1))
 unfold A74
 simp only [C1p]
 (repeat first|simp(disch:=solve|omega|assumption|repeat(first|exact A1|exact uH|apply A2|apply uT)|simp|(simp;omega)|fail)[]|with_reducible first|apply A3|refine A5 fun _=>?_|refine A4 fun _=>?_)
 refine B7 B7k (fun w' _=> D1u w' key l.length hk hn) ?_
 (repeat first|simp(disch:=solve|omega|assumption|repeat(first|exact A1|exact uH|apply A2|apply uT)|simp|(simp;omega)|fail)[]|with_reducible first|apply A3|refine A5 fun _=>?_|refine A4 fun _=>?_)
 refine B0U l.length (fun i=> i) (fun _=> _) hJ stJ h0 fun i a' hi hJi hRi L hL=> ?_
 by_cases hlt : i < l.length
 ·obtain ⟨_,_,hv,hr⟩:=hRi
  obtain ⟨b,o,hb,hrow,hnb⟩:=hr (by omega)
  cases hv
  have hh : K3 key l.length < l.length:=Nat.mod_lt _ (by omega)
  have e0 : (if l.length = 0 then 0 else K3 key l.length) = K3 key l.length:=if_neg (by omega)
  have hj : (K3 key l.length + i) % l.length < l.length:=Nat.mod_lt _ (by omega)
  have hx : l[(K3 key l.length + i) % l.length]? = some (l.getD ((K3 key l.length + i) % l.length) noE):=by
   rw [List.getD_eq_getElem?_getD,List.getElem?_eq_getElem hj]; rfl
  have h1:=hrow.at (f:=F1) (k:=4) (fun _=> rfl) hx
  have e1 : (((K3 key l.length : Nat) : Int) + (i : Nat)).tmod l.length = ((K3 key l.length + i) % l.length : Nat):=by rw [Int.tmod_eq_emod_of_nonneg (by omega),Int.natCast_emod,Int.natCast_add]
  have hwi : ∀ h,((P7 l key).map B02)[i]'h = B02 ((K3 key l.length + i) % l.length,l.getD ((K3 key l.length + i) % l.length) noE):=by
   intro h; simp only [List.getElem_map,P7,List.getElem_range]
  generalize hjd : (K3 key l.length + i) % l.length = j at *
  generalize hxd : l.getD j noE = x at *
  rw [F1] at h1
  have hnz : ¬ (l.length : Int) = 0:=by omega
  subst hb
  rw [e0]
  (repeat first|simp(disch:=solve|omega|assumption|repeat(first|exact A1|exact uH|apply A2|apply uT)|simp|(simp;omega)|fail)[hlt,e1,h1,hnz,U8]|with_reducible first|apply A3|refine A5 fun _=>?_|refine A4 fun _=>?_)
  refine B4T hJ hE stJ hy hJi (by simpa [P7] using hlt) (hwi _) (fun w3 h=> ?_) (fun w3 h=> ?_)
  ·(repeat first|simp(disch:=solve|omega|assumption|repeat(first|exact A1|exact uH|apply A2|apply uT)|simp|(simp;omega)|fail)[]|with_reducible first|apply A3|refine A5 fun _=>?_|refine A4 fun _=>?_)
   exact fun w' hw' => hL hlt w' (stJ _ _ _ _ _ h hw')
  ·(repeat first|simp(disch:=solve|omega|assumption|repeat(first|exact A1|exact uH|apply A2|apply uT)|simp|(simp;omega)|fail)[]|with_reducible first|apply A3|refine A5 fun _=>?_|refine A4 fun _=>?_)
   exact B0L stE h
 ·obtain rfl : i = l.length:=by omega
  (repeat first|simp(disch:=solve|omega|assumption|repeat(first|exact A1|exact uH|apply A2|apply uT)|simp|(simp;omega)|fail)[]|with_reducible first|apply A3|refine A5 fun _=>?_|refine A4 fun _=>?_)
  exact A9p stJ (by simpa [P7] using hJi)
def M5 (key : ByteArray) : List (Nat × EnV) → Int
 | []=> -1
 | p :: r=> if p.2.st = 0 then -1 else if p.2.st = 1 ∧ p.2.key = key then p.1 else M5 key r
def E4 (l : List EnV) (key : ByteArray) : Int:=M5 key (P7 l key)
theorem C3Q {α : Type} {l : List α} {i : Nat} (h : i < l.length) : l.drop i = l[i] :: l.drop (i + 1):=List.drop_eq_getElem_cons h
theorem B6E (L : List (Nat × EnV)) : ∀ x ∈ L.map B02,x.length = 2:=by
 intro x hx; obtain ⟨p,_,rfl⟩:=List.mem_map.1 hx; rfl
theorem A3Y (w : World) (v : Value) (l : List EnV) (key : ByteArray) (hk : key.size < 2 ^ 60) (hn : l.length ≤ 1000000) (hv : F5 w v l.length (l.flatMap F1)) :
  Fn PR B8 133 #[v,.string key] w (fun r w' => r = .int .i64 (E4 l key) ∧ C7 [] w w'):=by
 refine Fn.pure (B9c (TW.go (κ:=false) (S := []) ?_))
 unfold B2F
 (repeat first|simp(disch:=solve|omega|assumption|repeat(first|exact A1|exact uH|apply A2|apply uT)|simp|(simp;omega)|fail)[]|with_reducible first|apply A3|refine A5 fun _=>?_|refine A4 fun _=>?_)
 rename_i bk bf
 refine H0 B2G (fun w' _=> C7c w' v key (by obtain ⟨a,c,rfl,_⟩:=hv.form; exact ⟨a,_,c,rfl⟩)) ?_
 rintro x u rfl
 refine A72 (C61 x v l key hk hn) (B6E _) (fun i (_ : Unit)=> M5 key ((P7 l key).drop i) = E4 l key) (fun _ _=> [.pt bf (.cells #[.int .i64 (-1)] 3),.pt bk (.cells #[.string key] 9)])
  (fun c (y : Unit)=> c = .exit 0) (fun y=> [.pt bf (.cells #[.int .i64 (E4 l key)] 3)]) () rfl ?_ ?_ ?_ ?_ (by simp [C1p])
 ·intro i _ F w1 _ hw
  exact RqS.of hv (fun h=> by rw [A59]; omega) hw
 ·rintro i hi _ F hψ K' hK hE
  have hi' : i < (P7 l key).length:=by simpa using hi
  rw [C3Q hi'] at hψ
  simp only [List.getElem_map]
  generalize (P7 l key)[i] = p at *
  simp only [B02,VF.app]
  by_cases c0 : p.2.st = 0
  ·(repeat first|simp(disch:=solve|omega|assumption|repeat(first|exact A1|exact uH|apply A2|apply uT)|simp|(simp;omega)|fail)[c0]|with_reducible first|apply A3|refine A5 fun _=>?_|refine A4 fun _=>?_)
   refine TW.sub (hE (.exit 0) () rfl) ?_
   rw [← hψ]
   simp only [M5,c0,if_true]
   ((try simp only [List.cons_append,List.nil_append,List.append_assoc]); (repeat (first | exact List.Sublist.refl _ | exact List.nil_sublist _ | with_reducible apply List.Sublist.cons_cons | apply List.Sublist.cons)); first | done | fail)
  by_cases c1 : p.2.st = 1
  ·by_cases c2 : p.2.key = key
   ·(repeat first|simp(disch:=solve|omega|assumption|repeat(first|exact A1|exact uH|apply A2|apply uT)|simp|(simp;omega)|fail)[c0,c1,c2]|with_reducible first|apply A3|refine A5 fun _=>?_|refine A4 fun _=>?_)
    refine TW.sub (hE (.exit 0) () rfl) ?_
    rw [← hψ]
    simp [M5,c1,c2]
    ((try simp only [List.cons_append,List.nil_append,List.append_assoc]); (repeat (first | exact List.Sublist.refl _ | exact List.nil_sublist _ | with_reducible apply List.Sublist.cons_cons | apply List.Sublist.cons)); first | done | fail)
   ·(repeat first|simp(disch:=solve|omega|assumption|repeat(first|exact A1|exact uH|apply A2|apply uT)|simp|(simp;omega)|fail)[c0,c1,c2]|with_reducible first|apply A3|refine A5 fun _=>?_|refine A4 fun _=>?_)
    refine TW.sub (hK () ?_) (by ((try simp only [List.cons_append,List.nil_append,List.append_assoc]); (repeat (first | exact List.Sublist.refl _ | exact List.nil_sublist _ | with_reducible apply List.Sublist.cons_cons | apply List.Sublist.cons)); first | done | fail))
    rw [← hψ]
    simp [M5,c1,c2]
  ·(repeat first|simp(disch:=solve|omega|assumption|repeat(first|exact A1|exact uH|apply A2|apply uT)|simp|(simp;omega)|fail)[c0,c1]|with_reducible first|apply A3|refine A5 fun _=>?_|refine A4 fun _=>?_)
   refine TW.sub (hK () ?_) (by ((try simp only [List.cons_append,List.nil_append,List.append_assoc]); (repeat (first | exact List.Sublist.refl _ | exact List.nil_sublist _ | with_reducible apply List.Sublist.cons_cons | apply List.Sublist.cons)); first | done | fail))
   rw [← hψ]
   simp [M5,c0,c1]
 ·intro _ hψ
  (repeat first|simp(disch:=solve|omega|assumption|repeat(first|exact A1|exact uH|apply A2|apply uT)|simp|(simp;omega)|fail)[]|with_reducible first|apply A3|refine A5 fun _=>?_|refine A4 fun _=>?_)
  simp only [List.length_map,List.drop_length,M5] at hψ
  exact A9 (by rw [← hψ])
 ·rintro _ _ rfl
  (repeat first|simp(disch:=solve|omega|assumption|repeat(first|exact A1|exact uH|apply A2|apply uT)|simp|(simp;omega)|fail)[]|with_reducible first|apply A3|refine A5 fun _=>?_|refine A4 fun _=>?_)
  exact A9 rfl
def Q4 : List (Nat × EnV) → Int
 | []=> -1
 | p :: r=> if p.2.st = 1 then Q4 r else p.1
def V7 (l : List EnV) (key : ByteArray) : Int:=if 0 ≤ E4 l key then -1 else Q4 (P7 l key)
theorem C1W (w : World) (v : Value) (l : List EnV) (key : ByteArray) (hk : key.size < 2 ^ 60) (hn : l.length ≤ 1000000) (hv : F5 w v l.length (l.flatMap F1)) :
  Fn PR B8 242 #[v,.string key] w (fun r w' => r = .int .i64 (V7 l key) ∧ C7 [] w w'):=by
 refine Fn.pure (B9C (TW.go (κ:=false) (S := []) ?_))
 unfold B2D
 (repeat first|simp(disch:=solve|omega|assumption|repeat(first|exact A1|exact uH|apply A2|apply uT)|simp|(simp;omega)|fail)[]|with_reducible first|apply A3|refine A5 fun _=>?_|refine A4 fun _=>?_)
 rename_i bf
 refine B7 A1E (fun w' hw' => A3Y w' v l key hk hn (hv.ks hw'.ks (by simp))) ?_
 by_cases c1 : 0 ≤ E4 l key
 ·(repeat first|simp(disch:=solve|omega|assumption|repeat(first|exact A1|exact uH|apply A2|apply uT)|simp|(simp;omega)|fail)[c1]|with_reducible first|apply A3|refine A5 fun _=>?_|refine A4 fun _=>?_)
  exact A9 (by simp [V7,c1])
 have e1 : V7 l key = Q4 (P7 l key):=if_neg c1
 (repeat first|simp(disch:=solve|omega|assumption|repeat(first|exact A1|exact uH|apply A2|apply uT)|simp|(simp;omega)|fail)[c1]|with_reducible first|apply A3|refine A5 fun _=>?_|refine A4 fun _=>?_)
 refine H0 B2G (fun w' _=> C7c w' v key (by obtain ⟨a,c,rfl,_⟩:=hv.form; exact ⟨a,_,c,rfl⟩)) ?_
 rintro x u rfl
 refine A72 (C61 x v l key hk hn) (B6E _) (fun i (_ : Unit)=> Q4 ((P7 l key).drop i) = V7 l key) (fun _ _=> [.pt bf (.cells #[.int .i64 0] 3)])
  (fun c (y : Unit)=> c = .ret) (fun y=> [.pt bf (.cells #[.int .i64 (V7 l key)] 3)]) () (by rw [List.drop_zero,e1]) ?_ ?_ ?_ ?_ (by simp [C1p])
 ·intro i _ F w1 _ hw
  exact RqS.of hv (fun h=> by rw [A59]; omega) hw
 ·rintro i hi _ F hψ K' hK hE
  have hi' : i < (P7 l key).length:=by simpa using hi
  rw [C3Q hi'] at hψ
  simp only [List.getElem_map]
  generalize (P7 l key)[i] = p at *
  simp only [B02,VF.app]
  by_cases c1 : p.2.st = 1
  ·(repeat first|simp(disch:=solve|omega|assumption|repeat(first|exact A1|exact uH|apply A2|apply uT)|simp|(simp;omega)|fail)[c1]|with_reducible first|apply A3|refine A5 fun _=>?_|refine A4 fun _=>?_)
   refine TW.sub (hK () ?_) (by ((try simp only [List.cons_append,List.nil_append,List.append_assoc]); (repeat (first | exact List.Sublist.refl _ | exact List.nil_sublist _ | with_reducible apply List.Sublist.cons_cons | apply List.Sublist.cons)); first | done | fail))
   rw [← hψ]
   simp [Q4,c1]
  ·(repeat first|simp(disch:=solve|omega|assumption|repeat(first|exact A1|exact uH|apply A2|apply uT)|simp|(simp;omega)|fail)[c1]|with_reducible first|apply A3|refine A5 fun _=>?_|refine A4 fun _=>?_)
   refine TW.sub (hE .ret () rfl) ?_
   rw [← hψ]
   simp only [Q4,c1,if_false]
   ((try simp only [List.cons_append,List.nil_append,List.append_assoc]); (repeat (first | exact List.Sublist.refl _ | exact List.nil_sublist _ | with_reducible apply List.Sublist.cons_cons | apply List.Sublist.cons)); first | done | fail)
 ·intro _ hψ
  (repeat first|simp(disch:=solve|omega|assumption|repeat(first|exact A1|exact uH|apply A2|apply uT)|simp|(simp;omega)|fail)[]|with_reducible first|apply A3|refine A5 fun _=>?_|refine A4 fun _=>?_)
  simp only [List.length_map,List.drop_length,Q4] at hψ
  exact A9 (by rw [← hψ])
 ·rintro _ _ rfl
  (repeat first|simp(disch:=solve|omega|assumption|repeat(first|exact A1|exact uH|apply A2|apply uT)|simp|(simp;omega)|fail)[]|with_reducible first|apply A3|refine A5 fun _=>?_|refine A4 fun _=>?_)
  exact A9 rfl
theorem C3y (w : World) (x : EnV) (st : Int) (b : Nat) (hb : w.cell? ⟨b,0,none⟩ = some (.int .i64 st)) : Fn PR B8 241 #[.agg #[.int .i64 x.st,.string x.key,.int .i64 x.bk,.int .i64 x.dl],.pointer (some ⟨b,0,none⟩)] w (fun r w' => r = .bool (decide (x.st = st)) ∧ C7 [] w w'):=by
 refine Fn.pure (B4n (TW.go (κ:=false) (S := []) ?_))
 unfold A5V
 (repeat first|simp(disch:=solve|omega|assumption|repeat(first|exact A1|exact uH|apply A2|apply uT)|simp|(simp;omega)|fail)[hb]|with_reducible first|apply A3|refine A5 fun _=>?_|refine A4 fun _=>?_)
 exact A9 rfl
def S3 (l : List EnV) (st : Int) : Nat:=l.countP fun x=> decide (x.st = st)
theorem B48 {α : Type} {p : α → Bool} {l : List α} {i : Nat} {x : α} (hx : l[i]? = some x) : (l.take (i + 1)).countP p = (l.take i).countP p + if p x then 1 else 0:=by
 rw [List.take_add_one,hx,List.countP_append]; simp [List.countP_cons]
theorem C9B (w : World) (v : Value) (l : List EnV) (p : EnV → Bool) (f : FuncId) (cap : List Value) (hn : l.length ≤ 1000000) (hv : F5 w v l.length (l.flatMap F1)) (he : B0 PR f)
  (hf : ∀ w', KS false [] w w' → ∀ x : EnV,Fn PR B8 f (.agg #[.int .i64 x.st,.string x.key,.int .i64 x.bk,.int .i64 x.dl] :: cap).toArray w' (fun r w'' => r = .bool (p x) ∧ C7 [] w' w'')) :
  Fn PR B8 240 #[v,.func (.func f) #[] cap.toArray] w (fun r w' => r = .int .i64 (l.countP p : Nat) ∧ C7 [] w w'):=by
 refine Fn.pure (A6H (TW.go (κ:=false) (S := []) ?_))
 unfold A0w
 obtain ⟨a,c,rfl,hr⟩:=hv.form
 (repeat first|simp(disch:=solve|omega|assumption|repeat(first|exact A1|exact uH|apply A2|apply uT)|simp|(simp;omega)|fail)[]|with_reducible first|apply A3|refine A5 fun _=>?_|refine A4 fun _=>?_)
 refine P6 (α:=Unit) l.length (fun i _=> .int .i64 ((l.take i).countP p : Nat)) (fun _ _=> []) (fun i _=> True) () trivial ?_
 rintro i _ hi _ L hL
 by_cases hlt : i < l.length
 ·obtain ⟨b,o,rfl,hrow⟩:=hr (by omega)
  obtain ⟨x,hx⟩ : ∃ x,l[i]? = some x:=⟨_,List.getElem?_eq_getElem (by omega)⟩
  have h1:=hrow.at (f:=F1) (k:=4) (fun _=> rfl) hx
  rw [F1] at h1
  (repeat first|simp(disch:=solve|omega|assumption|repeat(first|exact A1|exact uH|apply A2|apply uT)|simp|(simp;omega)|fail)[hlt,h1]|with_reducible first|apply A3|refine A5 fun _=>?_|refine A4 fun _=>?_)
  refine B8T he (φ:=fun r=> r = .bool (p x)) (fun w' hw' => by simpa using hf w' hw'.ks x) ?_
  rintro _ rfl
  have hc:=B48 (p:=p) hx
  have hle : (l.take i).countP p ≤ i:=Nat.le_trans List.countP_le_length (by simp; omega)
  have hL' := hL hlt () trivial
  rw [hc] at hL'
  cases hb : p x with
  | true=>
   rw [hb] at hL'
   (repeat first|simp(disch:=solve|omega|assumption|repeat(first|exact A1|exact uH|apply A2|apply uT)|simp|(simp;omega)|fail)[]|with_reducible first|apply A3|refine A5 fun _=>?_|refine A4 fun _=>?_)
   exact Sels.tw .nil (by simpa using hL')
  | false=>
   rw [hb] at hL'
   (repeat first|simp(disch:=solve|omega|assumption|repeat(first|exact A1|exact uH|apply A2|apply uT)|simp|(simp;omega)|fail)[]|with_reducible first|apply A3|refine A5 fun _=>?_|refine A4 fun _=>?_)
   exact Sels.tw .nil (by simpa using hL')
 ·obtain rfl : i = l.length:=by omega
  (repeat first|simp(disch:=solve|omega|assumption|repeat(first|exact A1|exact uH|apply A2|apply uT)|simp|(simp;omega)|fail)[]|with_reducible first|apply A3|refine A5 fun _=>?_|refine A4 fun _=>?_)
  exact A9 rfl
theorem C9K (w : World) (v : Value) (l : List EnV) (st : Int) (hn : l.length ≤ 1000000) (hv : F5 w v l.length (l.flatMap F1)) :
  Fn PR B8 186 #[v,.int .i64 st] w (fun r w' => r = .int .i64 (S3 l st : Nat) ∧ C7 [] w w'):=by
 refine Fn.pure (B7z (TW.go (κ:=false) (S := []) ?_))
 unfold B0c
 (repeat first|simp(disch:=solve|omega|assumption|repeat(first|exact A1|exact uH|apply A2|apply uT)|simp|(simp;omega)|fail)[]|with_reducible first|apply A3|refine A5 fun _=>?_|refine A4 fun _=>?_)
 rename_i b
 refine B7 A5z (fun w' hw' => C9B w' v l (fun x=> decide (x.st = st)) 241 [.pointer (some ⟨b,0,none⟩)] hn (hv.ks hw'.ks (by simp)) B3z
  fun w2 h x=> C3y w2 x st b (h.cell (by simp) (hw'.cell1 (by (repeat constructor))))) ?_
 exact A9 rfl
end Go.Proofs.YtjobgnabneddjaaGreat
