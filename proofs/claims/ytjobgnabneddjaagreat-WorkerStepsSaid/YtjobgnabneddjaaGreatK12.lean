/- The proof of a given statement, a part of it (Packet Bytes Sl Pool Vals ShProbe ShFnv Fnv Probe). No condition but what each lemma says. -/
import Derived.Lib.SlBytesRow
import Derived.Test.YtjobgnabneddjaaGreatK11
set_option linter.unusedVariables false
set_option linter.unusedSimpArgs false
namespace Go.Proofs.YtjobgnabneddjaaGreat
open Go
structure KeyV where
 v : Int
 src : ByteArray
 dst : ByteArray
 fr : Int
 tp : Int
 proto : Int
 deriving DecidableEq
def KeyV.cs (k : KeyV) : List Value := [.int .i64 k.v,.string k.src,.string k.dst,.int .i64 k.fr,.int .i64 k.tp,.int .i64 k.proto]
def KeyV.val (k : KeyV) : Value:=.agg #[.int .i64 k.v,.string k.src,.string k.dst,.int .i64 k.fr,.int .i64 k.tp,.int .i64 k.proto]
def noK : KeyV:=⟨0,M6,M6,0,0,0⟩
def N8 (s : ByteArray) : KeyV × ByteArray × Nat :=
 if s.size = 0 then (noK,M6,2) else if C9 s 0 / 16 = 4 then (⟨4,(S4 s).src,(S4 s).dst,0,0,(S4 s).proto⟩,(S4 s).rest,(S4 s).e)
 else if C9 s 0 / 16 = 6 then (⟨6,(T3 s).src,(T3 s).dst,0,0,(T3 s).proto⟩,(T3 s).rest,(T3 s).e) else (noK,M6,3)
def keyed.val (x : KeyV × ByteArray × Nat) : Value:=.tuple #[x.1.val,.string x.2.1,.int .i64 x.2.2]
theorem C3b (w : World) (src dst : ByteArray) (p : Int) : Fn PR B8 140 #[.agg #[.string src,.string dst,.int .i64 p]] w (fun v w' => v = KeyV.val ⟨4,src,dst,0,0,p⟩ ∧ C7 [] w w'):=by
 refine Fn.pure (B3D (TW.go (κ:=false) (S := []) ?_))
 unfold A5C
 (repeat first|simp(disch:=solve|omega|assumption|repeat(first|exact A1|exact uH|apply A2|apply uT)|simp|(simp;omega)|fail)[]|with_reducible first|apply A3|refine A5 fun _=>?_|refine A4 fun _=>?_)
 exact A9 rfl
theorem C4S (w : World) (src dst : ByteArray) (p : Int) : Fn PR B8 143 #[.agg #[.string src,.string dst,.int .i64 p]] w (fun v w' => v = KeyV.val ⟨6,src,dst,0,0,p⟩ ∧ C7 [] w w'):=by
 refine Fn.pure (B21 (TW.go (κ:=false) (S := []) ?_))
 unfold A43
 (repeat first|simp(disch:=solve|omega|assumption|repeat(first|exact A1|exact uH|apply A2|apply uT)|simp|(simp;omega)|fail)[]|with_reducible first|apply A3|refine A5 fun _=>?_|refine A4 fun _=>?_)
 exact A9 rfl
theorem C8j (w : World) (s : ByteArray) (hs : s.size < 2 ^ 63) : Fn PR B8 138 #[.string s,.func (.func 139) #[] #[],.func (.func 140) #[] #[]] w
  (fun v w' => v = keyed.val (⟨4,(S4 s).src,(S4 s).dst,0,0,(S4 s).proto⟩,(S4 s).rest,(S4 s).e) ∧ C7 [] w w'):=by
 refine Fn.pure (A7s (TW.go (κ:=false) (S := []) ?_))
 unfold A1k
 (repeat first|simp(disch:=solve|omega|assumption|repeat(first|exact A1|exact uH|apply A2|apply uT)|simp|(simp;omega)|fail)[]|with_reducible first|apply A3|refine A5 fun _=>?_|refine A4 fun _=>?_)
 refine B7 B9G (fun w' _=> C2C w' s hs) ?_
 (repeat first|simp(disch:=solve|omega|assumption|repeat(first|exact A1|exact uH|apply A2|apply uT)|simp|(simp;omega)|fail)[HeadV.val]|with_reducible first|apply A3|refine A5 fun _=>?_|refine A4 fun _=>?_)
 refine B7 B2s (fun w' _=> C3b w' _ _ _) ?_
 (repeat first|simp(disch:=solve|omega|assumption|repeat(first|exact A1|exact uH|apply A2|apply uT)|simp|(simp;omega)|fail)[KeyV.val]|with_reducible first|apply A3|refine A5 fun _=>?_|refine A4 fun _=>?_)
 exact A9 (by simp [keyed.val,KeyV.val])
theorem C8q (w : World) (s : ByteArray) (hs : s.size < 2 ^ 63) : Fn PR B8 141 #[.string s,.func (.func 142) #[] #[],.func (.func 143) #[] #[]] w
  (fun v w' => v = keyed.val (⟨6,(T3 s).src,(T3 s).dst,0,0,(T3 s).proto⟩,(T3 s).rest,(T3 s).e) ∧ C7 [] w w'):=by
 refine Fn.pure (A7a (TW.go (κ:=false) (S := []) ?_))
 unfold A1Z
 (repeat first|simp(disch:=solve|omega|assumption|repeat(first|exact A1|exact uH|apply A2|apply uT)|simp|(simp;omega)|fail)[]|with_reducible first|apply A3|refine A5 fun _=>?_|refine A4 fun _=>?_)
 refine B7 B9N (fun w' _=> C2f w' s hs) ?_
 (repeat first|simp(disch:=solve|omega|assumption|repeat(first|exact A1|exact uH|apply A2|apply uT)|simp|(simp;omega)|fail)[HeadV.val]|with_reducible first|apply A3|refine A5 fun _=>?_|refine A4 fun _=>?_)
 refine B7 B2x (fun w' _=> C4S w' _ _ _) ?_
 (repeat first|simp(disch:=solve|omega|assumption|repeat(first|exact A1|exact uH|apply A2|apply uT)|simp|(simp;omega)|fail)[KeyV.val]|with_reducible first|apply A3|refine A5 fun _=>?_|refine A4 fun _=>?_)
 exact A9 (by simp [keyed.val,KeyV.val])
theorem D1s (w : World) (v : Int) : Fn PR B8 228 #[.int .i64 v] w (fun u w' => u = .int .i64 (if v = 4 then 4 else if v = 6 then 16 else 0) ∧ C7 [] w w'):=by
 refine Fn.pure (B8B (TW.go (κ:=false) (S := []) ?_))
 unfold B0g
 by_cases c1 : v = 4
 ·(repeat first|simp(disch:=solve|omega|assumption|repeat(first|exact A1|exact uH|apply A2|apply uT)|simp|(simp;omega)|fail)[c1]|with_reducible first|apply A3|refine A5 fun _=>?_|refine A4 fun _=>?_); exact A9 (by simp)
 by_cases c2 : v = 6
 ·(repeat first|simp(disch:=solve|omega|assumption|repeat(first|exact A1|exact uH|apply A2|apply uT)|simp|(simp;omega)|fail)[c1,c2]|with_reducible first|apply A3|refine A5 fun _=>?_|refine A4 fun _=>?_); exact A9 (by simp)
 ·(repeat first|simp(disch:=solve|omega|assumption|repeat(first|exact A1|exact uH|apply A2|apply uT)|simp|(simp;omega)|fail)[c1,c2]|with_reducible first|apply A3|refine A5 fun _=>?_|refine A4 fun _=>?_); exact A9 (by simp)
theorem C8B (w : World) (s : ByteArray) (hs : s.size < 2 ^ 63) : Fn PR B8 86 #[.string s] w (fun u w' => u = keyed.val (N8 s) ∧ C7 [] w w'):=by
 refine Fn.pure (B6k (TW.go (κ:=false) (S := []) ?_))
 unfold A74
 by_cases c0 : s.size = 0
 ·have e : s = ByteArray.mk #[]:=by
   apply ByteArray.ext; exact Array.eq_empty_of_size_eq_zero c0
  (repeat first|simp(disch:=solve|omega|assumption|repeat(first|exact A1|exact uH|apply A2|apply uT)|simp|(simp;omega)|fail)[e]|with_reducible first|apply A3|refine A5 fun _=>?_|refine A4 fun _=>?_)
  exact A9 (by simp [N8,keyed.val,noK,KeyV.val])
 have c0' : ¬ s = ByteArray.mk #[]:=fun e=> c0 (by rw [e]; rfl)
 obtain ⟨by0,hb0,hb1⟩:=A0A (s:=s) (i:=0) (by omega)
 have hb0' : s[(0 : Int).toNat]? = some by0:=hb0
 have hl0:=P6 s 0
 have e1 : ((by0.toNat : Nat) : Int).fdiv (2 ^ min 4 IntKind.u8.bits) = (C9 s 0 / 16 : Nat):=by rw [show (2 : Int) ^ min 4 IntKind.u8.bits = 16 from rfl,Int.fdiv_eq_ediv_of_nonneg _ (by omega),hb1]; omega
 by_cases c1 : C9 s 0 / 16 = 4
 ·have c1' : ((C9 s 0 : Nat) : Int) / 16 = 4:=by omega
  (repeat first|simp(disch:=solve|omega|assumption|repeat(first|exact A1|exact uH|apply A2|apply uT)|simp|(simp;omega)|fail)[c0', c9]|with_reducible first|apply A3|refine A5 fun _=>?_|refine A4 fun _=>?_)
  rw [e1]
  (repeat first|simp(disch:=solve|omega|assumption|repeat(first|exact A1|exact uH|apply A2|apply uT)|simp|(simp;omega)|fail)[c1', c1]|with_reducible first|apply A3|refine A5 fun _=>?_|refine A4 fun _=>?_)
  refine B7 A6v (fun w' _=> C8j w' s hs) ?_
  (repeat first|simp(disch:=solve|omega|assumption|repeat(first|exact A1|exact uH|apply A2|apply uT)|simp|(simp;omega)|fail)[keyed.val,KeyV.val]|with_reducible first|apply A3|refine A5 fun _=>?_|refine A4 fun _=>?_)
  exact A9 (by simp [N8,keyed.val,KeyV.val,c0,c1])
 have c1' : ¬ ((C9 s 0 : Nat) : Int) / 16 = 4:=by omega
 by_cases c2 : C9 s 0 / 16 = 6
 ·have c2' : ((C9 s 0 : Nat) : Int) / 16 = 6:=by omega
  (repeat first|simp(disch:=solve|omega|assumption|repeat(first|exact A1|exact uH|apply A2|apply uT)|simp|(simp;omega)|fail)[c0', c9]|with_reducible first|apply A3|refine A5 fun _=>?_|refine A4 fun _=>?_)
  rw [e1]
  (repeat first|simp(disch:=solve|omega|assumption|repeat(first|exact A1|exact uH|apply A2|apply uT)|simp|(simp;omega)|fail)[c1', c1,c2', c2,c9]|with_reducible first|apply A3|refine A5 fun _=>?_|refine A4 fun _=>?_)
  refine B7 A6g (fun w' _=> C8q w' s hs) ?_
  (repeat first|simp(disch:=solve|omega|assumption|repeat(first|exact A1|exact uH|apply A2|apply uT)|simp|(simp;omega)|fail)[keyed.val,KeyV.val]|with_reducible first|apply A3|refine A5 fun _=>?_|refine A4 fun _=>?_)
  exact A9 (by simp [N8,keyed.val,KeyV.val,c0,c1,c2])
 have c2' : ¬ ((C9 s 0 : Nat) : Int) / 16 = 6:=by omega
 (repeat first|simp(disch:=solve|omega|assumption|repeat(first|exact A1|exact uH|apply A2|apply uT)|simp|(simp;omega)|fail)[c0', c9]|with_reducible first|apply A3|refine A5 fun _=>?_|refine A4 fun _=>?_)
 rw [e1]
 (repeat first|simp(disch:=solve|omega|assumption|repeat(first|exact A1|exact uH|apply A2|apply uT)|simp|(simp;omega)|fail)[c1', c1,c2', c2,c9]|with_reducible first|apply A3|refine A5 fun _=>?_|refine A4 fun _=>?_)
 exact A9 (by simp [N8,keyed.val,KeyV.val,c0,c1,c2,noK])
def D1 (s : ByteArray) : KeyV × Nat × Nat :=
 let x:=N8 s
 if x.2.2 ≠ 0 then (noK,0,x.2.2) else let y:=M8 x.1.proto x.2.1; if y.2.2.2 ≠ 0 then (noK,0,y.2.2.2) else ({ x.1 with fr:=y.1,tp:=y.2.1 },y.2.2.1,0)
def U1 (k : KeyV) (f : Int) : Value:=.agg #[.int .i64 k.v,.string k.src,.string k.dst,.int .i64 k.fr,.int .i64 k.tp,.int .i64 k.proto,.int .i64 f]
def packet.val (x : KeyV × Nat × Nat) : Value:=.tuple #[U1 x.1 x.2.1,.int .i64 x.2.2]
theorem C7e (s : ByteArray) : (S4 s).rest.size ≤ s.size:=by
 unfold S4; split
 ·simp only [ByteArray.size_extract]; omega
 ·simp [HeadV.err]
theorem C7A (s : ByteArray) : (T3 s).rest.size ≤ s.size:=by
 unfold T3; split
 ·simp only [ByteArray.size_extract]; omega
 ·simp [HeadV.err]
theorem C2d (s : ByteArray) : (N8 s).2.1.size ≤ s.size:=by
 unfold N8
 split
 ·simp
 split
 ·exact C7e s
 split
 ·exact C7A s
 ·simp
theorem C4J (s : ByteArray) : (N8 s).2.1.size ≤ 65535:=by
 have h1 : (S4 s).rest.size ≤ 65535:=by
  have:=l0 s 2
  unfold S4; split
  ·simp only [ByteArray.size_extract]; omega
  ·simp [HeadV.err]
 have h2 : (T3 s).rest.size ≤ 65535:=by
  have:=l0 s 4
  unfold T3; split
  ·simp only [ByteArray.size_extract]; omega
  ·simp [HeadV.err]
 unfold N8
 split
 ·simp
 split
 ·exact h1
 split
 ·exact h2
 ·simp
theorem B7Q (w : World) (s : ByteArray) (hs : s.size < 2 ^ 63) : Fn PR B8 21 #[.string s] w (fun u w' => u = packet.val (D1 s) ∧ C7 [] w w'):=by
 refine Fn.pure (B7A (TW.go (κ:=false) (S := []) ?_))
 unfold A8M
 (repeat first|simp(disch:=solve|omega|assumption|repeat(first|exact A1|exact uH|apply A2|apply uT)|simp|(simp;omega)|fail)[]|with_reducible first|apply A3|refine A5 fun _=>?_|refine A4 fun _=>?_)
 refine B7 B59 (fun w' _=> C8B w' s hs) ?_
 have hr:=C4J s
 by_cases c1 : (N8 s).2.2 = 0
 ·(repeat first|simp(disch:=solve|omega|assumption|repeat(first|exact A1|exact uH|apply A2|apply uT)|simp|(simp;omega)|fail)[keyed.val,KeyV.val,c1]|with_reducible first|apply A3|refine A5 fun _=>?_|refine A4 fun _=>?_)
  refine B7 B7m (fun w' _=> C0c w' _ (by omega) _) ?_
  by_cases c2 : (M8 (N8 s).1.proto (N8 s).2.1).2.2.2 = 0
  ·(repeat first|simp(disch:=solve|omega|assumption|repeat(first|exact A1|exact uH|apply A2|apply uT)|simp|(simp;omega)|fail)[M8.val,c2]|with_reducible first|apply A3|refine A5 fun _=>?_|refine A4 fun _=>?_)
   exact A9 (by simp [D1,packet.val,U1,KeyV.val,c1,c2])
  ·(repeat first|simp(disch:=solve|omega|assumption|repeat(first|exact A1|exact uH|apply A2|apply uT)|simp|(simp;omega)|fail)[M8.val,c2]|with_reducible first|apply A3|refine A5 fun _=>?_|refine A4 fun _=>?_)
   exact A9 (by simp [D1,packet.val,U1,KeyV.val,c1,c2,noK])
 ·(repeat first|simp(disch:=solve|omega|assumption|repeat(first|exact A1|exact uH|apply A2|apply uT)|simp|(simp;omega)|fail)[keyed.val,KeyV.val,c1]|with_reducible first|apply A3|refine A5 fun _=>?_|refine A4 fun _=>?_)
  exact A9 (by simp [D1,packet.val,U1,KeyV.val,c1,noK])
theorem B8A (w : World) (s : ByteArray) (hs : s.size < 2 ^ 40) : Fn PR B8 21 #[.string s] w (fun u w' => u = packet.val (D1 s) ∧ C7 [] w w'):=B7Q w s (by omega)
def A0K (k : KeyV) (f : Int) : ByteArray × Nat :=
 if k.v ≠ 4 ∧ k.v ≠ 6 then (M6,3) else let s:=Z7 k.proto k.fr k.tp f; if s.2 ≠ 0 then (M6,s.2) else if k.v = 6 then B1l k.src k.dst s.1 k.proto else B1D k.src k.dst s.1 k.proto
theorem C4K (number x y f : Int) : (Z7 number x y f).1.size ≤ 1000:=by
 have h6:=V3 6
 have h8:=V3 8
 unfold Z7 A45 A65 A86
 repeat' split
 all_goals simp [h6,h8]
theorem C1T (w : World) (k : KeyV) (f : Int) : Fn PR B8 64 #[U1 k f] w (fun u w' => u = .tuple #[.string (A0K k f).1,.int .i64 (A0K k f).2] ∧ C7 [] w w'):=by
 refine Fn.pure (B9V (TW.go (κ:=false) (S := []) ?_))
 unfold B18
 have hz:=C4K k.proto k.fr k.tp f
 by_cases c0 : k.v = 4
 ·(repeat first|simp(disch:=solve|omega|assumption|repeat(first|exact A1|exact uH|apply A2|apply uT)|simp|(simp;omega)|fail)[U1,KeyV.val,c0]|with_reducible first|apply A3|refine A5 fun _=>?_|refine A4 fun _=>?_)
  refine B7 A6J (fun w' _=> B1x w' _ _ _ _) ?_
  by_cases c1 : (Z7 k.proto k.fr k.tp f).2 = 0
  ·(repeat first|simp(disch:=solve|omega|assumption|repeat(first|exact A1|exact uH|apply A2|apply uT)|simp|(simp;omega)|fail)[c1,c0]|with_reducible first|apply A3|refine A5 fun _=>?_|refine A4 fun _=>?_)
   refine B7 C2P (fun w' _=> C6D w' _ _ _ _ (by omega)) ?_
   (repeat first|simp(disch:=solve|omega|assumption|repeat(first|exact A1|exact uH|apply A2|apply uT)|simp|(simp;omega)|fail)[]|with_reducible first|apply A3|refine A5 fun _=>?_|refine A4 fun _=>?_)
   exact A9 (by simp [A0K,c0,c1])
  ·(repeat first|simp(disch:=solve|omega|assumption|repeat(first|exact A1|exact uH|apply A2|apply uT)|simp|(simp;omega)|fail)[c1,c0]|with_reducible first|apply A3|refine A5 fun _=>?_|refine A4 fun _=>?_)
   exact A9 (by simp [A0K,c0,c1])
 by_cases c6 : k.v = 6
 ·(repeat first|simp(disch:=solve|omega|assumption|repeat(first|exact A1|exact uH|apply A2|apply uT)|simp|(simp;omega)|fail)[U1,KeyV.val,c6]|with_reducible first|apply A3|refine A5 fun _=>?_|refine A4 fun _=>?_)
  refine B7 A6J (fun w' _=> B1x w' _ _ _ _) ?_
  by_cases c1 : (Z7 k.proto k.fr k.tp f).2 = 0
  ·(repeat first|simp(disch:=solve|omega|assumption|repeat(first|exact A1|exact uH|apply A2|apply uT)|simp|(simp;omega)|fail)[c1,c6]|with_reducible first|apply A3|refine A5 fun _=>?_|refine A4 fun _=>?_)
   refine B7 C12 (fun w' _=> C7k w' _ _ _ _ (by omega)) ?_
   (repeat first|simp(disch:=solve|omega|assumption|repeat(first|exact A1|exact uH|apply A2|apply uT)|simp|(simp;omega)|fail)[]|with_reducible first|apply A3|refine A5 fun _=>?_|refine A4 fun _=>?_)
   exact A9 (by simp [A0K,c6,c1])
  ·(repeat first|simp(disch:=solve|omega|assumption|repeat(first|exact A1|exact uH|apply A2|apply uT)|simp|(simp;omega)|fail)[c1,c6]|with_reducible first|apply A3|refine A5 fun _=>?_|refine A4 fun _=>?_)
   exact A9 (by simp [A0K,c6,c1])
 ·(repeat first|simp(disch:=solve|omega|assumption|repeat(first|exact A1|exact uH|apply A2|apply uT)|simp|(simp;omega)|fail)[U1,KeyV.val,c0,c6]|with_reducible first|apply A3|refine A5 fun _=>?_|refine A4 fun _=>?_)
  exact A9 (by simp [A0K,c0,c6])
def z7 (k : KeyV) (f : Int) : Bool:=decide (k.proto = 6) && !decide (IntKind.i64.wrap ((f % 2 ^ IntKind.i64.bits).toNat &&& 5 % 2 ^ IntKind.i64.bits : Nat) = 0)
theorem C3r (w : World) (k : KeyV) (f : Int) : Fn PR B8 58 #[U1 k f] w (fun u w' => u = .bool (z7 k f) ∧ C7 [] w w'):=by
 refine Fn.pure (B4q (TW.go (κ:=false) (S := []) ?_))
 unfold A5b
 by_cases c0 : k.proto = 6
 ·(repeat first|simp(disch:=solve|omega|assumption|repeat(first|exact A1|exact uH|apply A2|apply uT)|simp|(simp;omega)|fail)[U1,KeyV.val,c0]|with_reducible first|apply A3|refine A5 fun _=>?_|refine A4 fun _=>?_)
  exact A9 (by simp [z7,c0])
 ·(repeat first|simp(disch:=solve|omega|assumption|repeat(first|exact A1|exact uH|apply A2|apply uT)|simp|(simp;omega)|fail)[U1,KeyV.val,c0]|with_reducible first|apply A3|refine A5 fun _=>?_|refine A4 fun _=>?_)
  exact A9 (by simp [z7,c0])
section
variable {κ : Bool} {X : Nat → Prop} {S : List Nat} {w0 : World} {H H' : List Res} {K : Value → WP}
theorem C53 {P : Program} {g : Sem Value} {u : Value} {b : Nat} {c c' : Array Value} {T : TypeId} (hrun : ∀ w,bl w b = some (.cells c T (0,0)) → g.run P w = .ok u (World.putb w b (.cells c' T (0,0))))
  (hu : Up (.pt b (.cells c T (0,0))) (.pt b (.cells c' T (0,0))) H H') (hK : TW κ S w0 H' (K u)) : TW κ S w0 H (B5 P X g K):=fun w hw=> by
 have hm : Res.pt b (.cells c T (0,0)) ∈ H:=by obtain ⟨A,B,rfl,_⟩:=hu.parts; simp
 have hb:=hw.pt hm
 rw [b9 (hrun w hb) (Sk.putb X hb)]
 refine hK _ (hw.up hu ⟨KS.putb hb (by simp [Res.foot]),?_,?_,by simp⟩)
 ·simp only [List.mem_singleton,forall_eq,Res.holds]; exact ⟨W2 (M2 hb),rfl⟩
 ·simp only [List.mem_singleton,forall_eq,Res.foot]; exact ⟨Or.inl (by simp),by have:=M2 hb; simpa using this⟩
theorem C3P (w : World) : (underlying 301).run PR w = .ok (.slice 5) w:=A5q.run_und
theorem D4U (w : World) : (underlying 355).run PR w = .ok (.array 38 5) w:=C44.run_und
def a7 (s : ByteArray) (o : Nat) (t : ByteArray) : ByteArray:=s.extract 0 o ++ t ++ s.extract (o + t.size) s.size
theorem B3A {s t : ByteArray} {o : Nat} (h : o + t.size ≤ s.size) : (a7 s o t).size = s.size:=by simp [a7]; omega
theorem B83 (s t : ByteArray) (o : Nat) (h : o + t.size ≤ s.size) : E7 (G7 s).toArray o (G7 t) = (G7 (a7 s o t)).toArray:=by
 apply Array.toList_inj.1
 rw [A3c _ _ _ (by simpa using h)]
 simp [G7,a7,List.map_take,List.map_drop]
 rw [List.take_of_length_le (by simp)]
theorem B7c {b o n c : Nat} {s t : ByteArray} {T : TypeId} (hu : Up (.pt b (.cells (G7 s).toArray T)) (.pt b (.cells (G7 (a7 s o t)).toArray T)) H H') (hn : t.size ≤ n) (hs : o + t.size ≤ s.size)
  (hK : TW κ S w0 H' (K (.int .i64 t.size))) : TW κ S w0 H (B5 PR X (A8 .copy #[301,9] 3 [.slice (some ⟨b,o,none⟩) n c,.string t]) K):=by
 refine C53 (u:=.int .i64 t.size) (fun w hb=> ?_) hu hK
 have hst:=u6 (P:=PR) (o0:=o) (G7 t) 0 w (G7 s).toArray hb (by simpa using hs) (A9Q t)
 rw [Nat.add_zero,B83 s t o hs] at hst
 have hl : Nat.min t.size n = t.size:=Nat.min_eq_left hn
 have htk : List.take t.size (List.map (fun b : UInt8=> Value.int IntKind.u8 (b.toNat : Int)) t.data.toList) = G7 t:=by
  rw [List.take_of_length_le (by simp)]; rfl
 show (Builtin.copy_ #[301,9] 3 #[.slice (some ⟨b,o,none⟩) n c,.string t]).run PR w = _
 simp [Builtin.copy_,C3P,ty5.run_size,Builtin.lenOf,Builtin.firstCells,hl]
 rw [htk,hst]
 simp [goInt,Result.andThen]
def z38 : ByteArray:=T5 z1 38
theorem B1b : z38.size = 38:=V3 38
theorem C5W : (Builtin.zeroCells (Value.int .u8 0).cells 38).toList = G7 z38:=by kernel_rfl
theorem D1k : (G7 z38).toArray = #[.int .u8 0,.int .u8 0,.int .u8 0,.int .u8 0,.int .u8 0,.int .u8 0,.int .u8 0,.int .u8 0,.int .u8 0,.int .u8 0,.int .u8 0,.int .u8 0,.int .u8 0,.int .u8 0,.int .u8 0,.int .u8 0,.int .u8 0,.int .u8 0,.int .u8 0,.int .u8 0,.int .u8 0,.int .u8 0,.int .u8 0,.int .u8 0,.int .u8 0,.int .u8 0,.int .u8 0,.int .u8 0,.int .u8 0,.int .u8 0,.int .u8 0,.int .u8 0,.int .u8 0,.int .u8 0,.int .u8 0,.int .u8 0,.int .u8 0,.int .u8 0]:=by kernel_rfl
theorem C5b {b : Nat} {s : ByteArray} {T : TypeId} (hs : s.size = 38) (hu : Up (.pt b (.cells (G7 s).toArray T)) (.pt b (.cells (G7 z38).toArray T)) H H')
  (hK : TW κ S w0 H' (K (.tuple #[]))) : TW κ S w0 H (B5 PR X (A8 .clear #[301] 0 [.slice (some ⟨b,0,none⟩) 38 38]) K):=by
 refine C53 (u:=.tuple #[]) (fun w hb=> ?_) hu hK
 have h38:=B1b
 have hst:=u6 (P:=PR) (o0:=0) (G7 z38) 0 w (G7 s).toArray hb (by simp [hs,h38]) (A9Q _)
 rw [Nat.add_zero,B83 s z38 0 (by omega)] at hst
 have e : a7 s 0 z38 = z38:=by
  apply ByteArray.ext
  simp [a7,h38,hs]
 rw [e] at hst
 show (Builtin.clear_ #[301] 0 #[.slice (some ⟨b,0,none⟩) 38 38]).run PR w = _
 simp only [Builtin.clear_,List.getElem?_toArray,List.getElem?_cons_zero,Sem.run_bind,C3P,Result.andThen_ok,ty5.run_zero,C5W,hst,Sem.run_pure]
theorem D2D {b : Nat} {s : ByteArray} {T : TypeId} (hm : Res.pt b (.cells (G7 s).toArray T) ∈ H) (c n : Nat) (hn : n = s.size) :
  TW κ S w0 H (A6 PR (convert 301 9 (.slice (some ⟨b,0,none⟩) n c)) K) = TW κ S w0 H (K (.string s)):=TW.congr fun w hw=> by
 refine V9 ?_ K
 subst hn
 have hb:=hw.pt hm
 have hB : Lib.Bytes w b 0 s:=fun i hi=> by
  rw [E9 hb]; simp [G7,hi]; rfl
 exact Lib.run_convert_whole w _ _ _ A5q.und ty5.und k8.und b 0 s hB c
end
theorem C6Y {lo : Nat} (b : Nat) (h : lo < 38) (K : Value → WP) : A0 PR (Instr.sliceAt 355 (.pointer (some ⟨b,0,none⟩)) (some (.int .i64 (lo : Int))) none none) K = K (.slice (some ⟨b,lo,none⟩) (38 - lo) (38 - lo)) :=
 F9 (fun w=> by
  have h1 : ¬ ((38 : Int) < lo):=by omega
  have h2 : ¬ (38 = lo):=by omega
  simp [Instr.sliceAt,D4U,Instr.sliceBounds,Instr.sliceBound,asIntOf,h1,h2,ty5.run_size,Instr.sureAddr,c8]
  omega) K
def W5 (v : Int) : Nat:=if v = 4 then 4 else if v = 6 then 16 else 0
theorem C78 (w : World) (v : Int) : Fn PR B8 228 #[.int .i64 v] w (fun u w' => u = .int .i64 (W5 v : Nat) ∧ C7 [] w w'):=by
 have:=D1s w v
 have e : ((W5 v : Nat) : Int) = if v = 4 then 4 else if v = 6 then 16 else 0:=by (unfold W5; repeat' split) <;> rfl
 rw [e]; exact this
def T9 (k : KeyV) : Bool:=decide (W5 k.v ≠ 0 ∧ k.src.size = W5 k.v ∧ k.dst.size = W5 k.v ∧ (Z7 k.proto k.fr k.tp 0).2 = 0)
def A2W (k : KeyV) : ByteArray:=a7 (a7 (a7 z38 0 (F3 (k.v * 256 + k.proto) 2 ++ F3 k.fr 2 ++ F3 k.tp 2)) 6 k.src) 22 k.dst
def A0q (k : KeyV) : Value:=.tuple #[.string (if T9 k then A2W k else M6),.bool (T9 k)]
theorem B8U {n x y f : Int} (h : (Z7 n x y f).2 = 0) : (n = 6 ∨ n = 17) ∧ K6 x y = true:=by
 unfold Z7 at h
 split at h
 ·simp at h
 split at h
 ·simp at h
 ·rename_i h1 h2
  refine ⟨by omega,?_⟩
  cases hp : K6 x y with
  | true=> rfl
  | false=> exact absurd (Or.inl hp) h2
theorem C9f (w : World) (k : KeyV) : Fn PR B8 166 #[k.val] w (fun u w' => u = A0q k ∧ C7 [] w w'):=by
 refine Fn.pure (B6c (TW.go (κ:=false) (S := []) ?_))
 unfold A8e KeyV.val
 (repeat first|simp(disch:=solve|omega|assumption|repeat(first|exact A1|exact uH|apply A2|apply uT)|simp|(simp;omega)|fail)[]|with_reducible first|apply A3|refine A5 fun _=>?_|refine A4 fun _=>?_)
 refine B7 B66 (fun w' _=> C78 w' _) ?_
 (repeat first|simp(disch:=solve|omega|assumption|repeat(first|exact A1|exact uH|apply A2|apply uT)|simp|(simp;omega)|fail)[]|with_reducible first|apply A3|refine A5 fun _=>?_|refine A4 fun _=>?_)
 refine B7 A6J (fun w' _=> B1x w' _ _ _ _) ?_
 have bad : T9 k = false → A0q k = .tuple #[.string M6,.bool false]:=fun h=> by simp [A0q,h]
 by_cases c1 : W5 k.v = 0
 ·(repeat first|simp(disch:=solve|omega|assumption|repeat(first|exact A1|exact uH|apply A2|apply uT)|simp|(simp;omega)|fail)[c1]|with_reducible first|apply A3|refine A5 fun _=>?_|refine A4 fun _=>?_)
  exact A9 (bad (by simp [T9,c1])).symm
 have c1' : ¬ ((W5 k.v : Nat) : Int) = 0:=by omega
 by_cases c2 : k.src.size = W5 k.v
 case neg=>
  have c2' : ¬ ((k.src.size : Nat) : Int) = W5 k.v:=by omega
  (repeat first|simp(disch:=solve|omega|assumption|repeat(first|exact A1|exact uH|apply A2|apply uT)|simp|(simp;omega)|fail)[c1,c1', c2,c2']|with_reducible first|apply A3|refine A5 fun _=>?_|refine A4 fun _=>?_)
  exact A9 (bad (by simp [T9,c2])).symm
 by_cases c3 : k.dst.size = W5 k.v
 case neg=>
  have c3' : ¬ ((k.dst.size : Nat) : Int) = W5 k.v:=by omega
  (repeat first|simp(disch:=solve|omega|assumption|repeat(first|exact A1|exact uH|apply A2|apply uT)|simp|(simp;omega)|fail)[c1,c1', c2,c3,c3']|with_reducible first|apply A3|refine A5 fun _=>?_|refine A4 fun _=>?_)
  exact A9 (bad (by simp [T9,c3])).symm
 by_cases c4 : (Z7 k.proto k.fr k.tp 0).2 = 0
 case neg=>
  (repeat first|simp(disch:=solve|omega|assumption|repeat(first|exact A1|exact uH|apply A2|apply uT)|simp|(simp;omega)|fail)[c1,c1', c2,c3,c4]|with_reducible first|apply A3|refine A5 fun _=>?_|refine A4 fun _=>?_)
  exact A9 (bad (by simp [T9,c4])).symm
 (repeat first|simp(disch:=solve|omega|assumption|repeat(first|exact A1|exact uH|apply A2|apply uT)|simp|(simp;omega)|fail)[c1,c1', c2,c3,c4]|with_reducible first|apply A3|refine A5 fun _=>?_|refine A4 fun _=>?_)
 rename_i bk ba
 refine TW.eqH (H' := [.pt ba (.cells (G7 z38).toArray 355),.pt bk (.cells #[.int .i64 k.v,.string k.src,.string k.dst,.int .i64 k.fr,.int .i64 k.tp,.int .i64 k.proto] 45)]) (by rw [D1k]) ?_
 refine C5b B1b .here ?_
 obtain ⟨hp,hq⟩:=B8U c4
 simp only [K6,decide_eq_true_eq] at hq
 have hv : k.v = 4 ∨ k.v = 6:=by unfold W5 at c1; split at c1 <;> (try split at c1) <;> omega
 have hh : (F3 (k.v * 256 + k.proto) 2 ++ F3 k.fr 2 ++ F3 k.tp 2).size = 6:=by simp
 have h38:=B1b
 have s1 : (a7 z38 0 (F3 (k.v * 256 + k.proto) 2 ++ F3 k.fr 2 ++ F3 k.tp 2)).size = 38:=by rw [B3A (by omega),h38]
 have hl : W5 k.v ≤ 16:=by unfold W5; split <;> (try split) <;> omega
 have s2 : (a7 (a7 z38 0 (F3 (k.v * 256 + k.proto) 2 ++ F3 k.fr 2 ++ F3 k.tp 2)) 6 k.src).size = 38:=by rw [B3A (by omega),s1]
 have s3 : (A2W k).size = 38:=by unfold A2W; rw [B3A (by omega),s2]
 have i6:=fun K=> C6Y (lo:=6) ba (by omega) K
 have i22:=fun K=> C6Y (lo:=22) ba (by omega) K
 simp at i6 i22
 have ok : T9 k = true:=by simp [T9,c1,c2,c3,c4]
 have q1:=hq.1
 have q2:=hq.2.1
 have q3:=hq.2.2.1
 have q4:=hq.2.2.2
 have eor : IntKind.u64.wrap ((IntKind.u64.wrap (k.v * 2 ^ min 8 IntKind.u64.bits) % 2 ^ IntKind.u64.bits).toNat ||| (k.proto % 2 ^ IntKind.u64.bits).toNat : Nat) = k.v * 256 + k.proto:=by
  rcases hv with hv | hv <;> rcases hp with hp | hp <;> (rw [hv,hp]; decide)
 have ew1 : IntKind.u64.wrap k.fr = k.fr:=A07 (by omega) (by omega)
 have ew2 : IntKind.u64.wrap k.tp = k.tp:=A07 (by omega) (by omega)
 (repeat first|simp(disch:=solve|omega|assumption|repeat(first|exact A1|exact uH|apply A2|apply uT)|simp|(simp;omega)|fail)[]|with_reducible first|apply A3|refine A5 fun _=>?_|refine A4 fun _=>?_)
 rw [eor,ew1,ew2]
 refine B7 K8 (fun w' hw' => l2 w' _ _) ?_
 (repeat first|simp(disch:=solve|omega|assumption|repeat(first|exact A1|exact uH|apply A2|apply uT)|simp|(simp;omega)|fail)[]|with_reducible first|apply A3|refine A5 fun _=>?_|refine A4 fun _=>?_)
 refine B7 K8 (fun w' hw' => l2 w' _ _) ?_
 (repeat first|simp(disch:=solve|omega|assumption|repeat(first|exact A1|exact uH|apply A2|apply uT)|simp|(simp;omega)|fail)[S1]|with_reducible first|apply A3|refine A5 fun _=>?_|refine A4 fun _=>?_)
 refine B7 K8 (fun w' hw' => l2 w' _ _) ?_
 (repeat first|simp(disch:=solve|omega|assumption|repeat(first|exact A1|exact uH|apply A2|apply uT)|simp|(simp;omega)|fail)[S1]|with_reducible first|apply A3|refine A5 fun _=>?_|refine A4 fun _=>?_)
 refine B7c (o:=0) (s:=z38) (by (repeat constructor)) (by omega) (by omega) ?_
 (repeat first|simp(disch:=solve|omega|assumption|repeat(first|exact A1|exact uH|apply A2|apply uT)|simp|(simp;omega)|fail)[i6]|with_reducible first|apply A3|refine A5 fun _=>?_|refine A4 fun _=>?_)
 refine B7c (o:=6) (s:=a7 z38 0 (F3 (k.v * 256 + k.proto) 2 ++ F3 k.fr 2 ++ F3 k.tp 2)) (by (repeat constructor)) (by omega) (by omega) ?_
 (repeat first|simp(disch:=solve|omega|assumption|repeat(first|exact A1|exact uH|apply A2|apply uT)|simp|(simp;omega)|fail)[i22]|with_reducible first|apply A3|refine A5 fun _=>?_|refine A4 fun _=>?_)
 refine B7c (o:=22) (s:=a7 (a7 z38 0 (F3 (k.v * 256 + k.proto) 2 ++ F3 k.fr 2 ++ F3 k.tp 2)) 6 k.src) (by (repeat constructor)) (by omega) (by omega) ?_
 (repeat first|simp(disch:=solve|omega|assumption|repeat(first|exact A1|exact uH|apply A2|apply uT)|simp|(simp;omega)|fail)[]|with_reducible first|apply A3|refine A5 fun _=>?_|refine A4 fun _=>?_)
 rw [D2D (s:=A2W k) (by (repeat constructor)) _ _ s3.symm]
 exact A9 (by simp [A0q,ok])
@[simp] theorem D9Z {κ : Bool} {S : List Nat} {w0 : World} {H : List Res} {K : Value → WP} {t : TypeId} {z : Value} [h : TS t z] {b o : Nat} {c : Array Value} {T : TypeId} {f : Nat × Nat} (hm : Res.pt b (.cells c T f) ∈ H) :
  TW κ S w0 H (A6 PR (E1 [.c t (.pointer (some ⟨b,o,none⟩))]) K) = TW κ S w0 H (rdc c[o]? K (A6 PR (E1 [.c t (.pointer (some ⟨b,o,none⟩))]) K)):=by
 cases hc : c[o]? with
 | none=> rfl
 | some v=> rw [D22 hm hc]; rfl
abbrev F8:=Int × Int
def H5 (b : F8) : List Value := [.int .i64 b.1,.int .i64 b.2]
structure EnV where
 st : Int
 key : ByteArray
 bk : Int
 dl : Int
 deriving DecidableEq
def F1 (x : EnV) : List Value := [.int .i64 x.st,.string x.key,.int .i64 x.bk,.int .i64 x.dl]
theorem D29 {t u : TypeId} {n m : Nat} {z : Value} {a : Option Addr} {l c e : Nat} (h : TI PR t (.slice u) n m z) : EqV PR (e + 1) t (.slice a l c) (.slice none 0 0) a.isNone:=by
 intro w
 cases a with
 | none=> simp only [Op.equalIn,Sem.run_bind,h.run_und,Result.andThen_ok,Sem.run_pure,Option.isNone]
 | some a=> simp only [Op.equalIn,Sem.run_bind,h.run_und,Result.andThen_ok,Sem.run_pure]; rfl
theorem D3H {t u : TypeId} {n m : Nat} {z : Value} (h : TI PR t (.slice u) n m z) (x y : Operand) (a : Option Addr) (l c : Nat) (K : Value → WP) :
  A6 PR (H9 .eql t x y (.slice a l c) (.slice none 0 0)) K = K (.bool a.isNone):=by
 funext w
 refine V9 ?_ K
 have h1 : (eqGuard .eql t x y (.slice a l c) (.slice none 0 0)).run PR w = .ok () w:=by simp [eqGuard]
 have h2 : (Op.equalIn 10000 t (.slice a l c) (.slice none 0 0)).run PR w = .ok a.isNone w:=D29 (e:=9999) h w
 simp [H9,h1,binOp,Op.equal,Op.maxDepth,h2]
theorem D0V (x y : Operand) (a : Option Addr) (l c : Nat) (K : Value → WP) : A6 PR (H9 .eql 58 x y (.slice a l c) (.slice none 0 0)) K = K (.bool a.isNone):=D3H B5e x y a l c K
theorem D0W (x y : Operand) (a : Option Addr) (l c : Nat) (K : Value → WP) : A6 PR (H9 .eql 84 x y (.slice a l c) (.slice none 0 0)) K = K (.bool a.isNone):=D3H B1E x y a l c K
theorem C7S (w : World) (v : Value) (n : Nat) (xs : List Value) (hn : n ≤ 1000000) (hx : xs.length = n * 2) (hp : xs.all plain = true) (hv : F5 w v n xs) :
  Fn PR B8 123 #[v] w (Rn [] w (fun r u=> u = r) fun r=> [.own 155 2 r n xs]):=by
 obtain ⟨a,c,rfl,hr⟩:=hv.form
 refine A0J (TW.go (κ:=false) (S := []) ?_)
 unfold W8
 cases a with
 | none=>
  obtain rfl : n = 0:=by
   rcases Nat.eq_zero_or_pos n with h | h
   ·exact h
   ·obtain ⟨_,_,h,_⟩:=hr h; cases h
  obtain rfl : xs = []:=List.length_eq_zero_iff.1 (by omega)
  (repeat first|simp(disch:=solve|omega|assumption|repeat(first|exact A1|exact uH|apply A2|apply uT)|simp|(simp;omega)|fail)[D0V]|with_reducible first|apply A3|refine A5 fun _=>?_|refine A4 fun _=>?_)
  refine l7 155 2 ?_
  exact u7 (.slice none 0 0) rfl (by simp)
 | some a=>
  (have zz:=trivial;repeat((first|clear zz|with_reducible first|refine A3 ?_|refine A5 fun _=>?_|refine A4 fun _=>?_|refine D4 fun _=>?_|refine E0 (hK:=fun _=>?_)|refine D5 (hK:=fun _=>?_)|refine D9 (hK:=fun _=>?_)|refine D8 (hK:=fun _=>?_)|refine D6 (hK:=fun _=>?_));try simp(disch:=first|omega|assumption|((repeat(first|exact A1|exact uH|apply A2|apply uT));first|done|fail)|(simp;first|done|omega|fail))[D0V]))
  refine s0 (by (repeat constructor)) (M0.old0 hv) (by decide) hx hp (by simp only [maxLen]; omega) (by omega) fun a' c' => ?_
  simp only [Nat.zero_add,List.nil_append]
  exact B1 _ rfl (by (repeat' constructor))
theorem C6H (w : World) (v : Value) (n : Nat) (xs : List Value) (hn : n ≤ 1000000) (hx : xs.length = n * 4) (hp : xs.all plain = true) (hv : F5 w v n xs) :
  Fn PR B8 122 #[v] w (Rn [] w (fun r u=> u = r) fun r=> [.own 218 4 r n xs]):=by
 obtain ⟨a,c,rfl,hr⟩:=hv.form
 refine A05 (TW.go (κ:=false) (S := []) ?_)
 unfold Z9
 cases a with
 | none=>
  obtain rfl : n = 0:=by
   rcases Nat.eq_zero_or_pos n with h | h
   ·exact h
   ·obtain ⟨_,_,h,_⟩:=hr h; cases h
  obtain rfl : xs = []:=List.length_eq_zero_iff.1 (by omega)
  (repeat first|simp(disch:=solve|omega|assumption|repeat(first|exact A1|exact uH|apply A2|apply uT)|simp|(simp;omega)|fail)[D0W]|with_reducible first|apply A3|refine A5 fun _=>?_|refine A4 fun _=>?_)
  refine l7 218 4 ?_
  exact u7 (.slice none 0 0) rfl (by simp)
 | some a=>
  (have zz:=trivial;repeat((first|clear zz|with_reducible first|refine A3 ?_|refine A5 fun _=>?_|refine A4 fun _=>?_|refine D4 fun _=>?_|refine E0 (hK:=fun _=>?_)|refine D5 (hK:=fun _=>?_)|refine D9 (hK:=fun _=>?_)|refine D8 (hK:=fun _=>?_)|refine D6 (hK:=fun _=>?_));try simp(disch:=first|omega|assumption|((repeat(first|exact A1|exact uH|apply A2|apply uT));first|done|fail)|(simp;first|done|omega|fail))[D0W]))
  refine s0 (by (repeat constructor)) (M0.old0 hv) (by decide) hx hp (by simp only [maxLen]; omega) (by omega) fun a' c' => ?_
  simp only [Nat.zero_add,List.nil_append]
  exact B1 _ rfl (by (repeat' constructor))
theorem D26 {α : Type} {l m : List α} (hl : l.length = m.length) (h : ∀ j,j < l.length → l[j]? = m[j]?) : l = m:=List.ext_getElem? fun i=> by
 by_cases hi : i < l.length
 ·exact h i hi
 ·rw [List.getElem?_eq_none (by omega),List.getElem?_eq_none (by omega)]
def B1z {α : Type} (p : α → Bool) (l : List α) : Int:=match l.findIdx? p with | some i=> i | none=> -1
theorem A8E {α : Type} {p : α → Bool} {l : List α} {i : Nat} {x : α} (hx : l[i]? = some x) (hp : p x = true) (h : ∀ j y,j < i → l[j]? = some y → p y = false) : B1z p l = i:=by
 have : l.findIdx? p = some i:=by
  rw [List.findIdx?_eq_some_iff_getElem]
  obtain ⟨hi,e⟩:=List.getElem?_eq_some_iff.1 hx
  exact ⟨hi,by rw [e]; exact hp,fun j hj=> by rw [h j l[j] hj (List.getElem?_eq_getElem (by omega))]; simp⟩
 simp [B1z,this]
theorem B3P {α : Type} {p : α → Bool} {l : List α} (h : ∀ (j : Nat) y,l[j]? = some y → p y = false) : B1z p l = -1:=by
 have : l.findIdx? p = none:=by
  rw [List.findIdx?_eq_none_iff]; intro x hx; obtain ⟨i,hi,rfl⟩:=List.getElem_of_mem hx; exact h i _ (List.getElem?_eq_getElem hi)
 simp [B1z,this]
theorem B9p (w : World) (v : Value) (l : List F8) (p : F8 → Bool) (f : FuncId) (cap : List Value) (hn : l.length ≤ 1000000) (hv : F5 w v l.length (l.flatMap H5)) (he : B0 PR f)
  (hf : ∀ w', KS false [] w w' → ∀ x : F8,Fn PR B8 f (.agg #[.int .i64 x.1,.int .i64 x.2] :: cap).toArray w' (fun r w'' => r = .bool (p x) ∧ C7 [] w' w'')) :
  Fn PR B8 266 #[v,.func (.func f) #[] cap.toArray] w (fun r w' => r = .int .i64 (B1z p l) ∧ C7 [] w w'):=by
 refine Fn.pure (r8 (TW.go (κ:=false) (S := []) ?_))
 unfold U9
 obtain ⟨a,c,rfl,hr⟩:=hv.form
 (repeat first|simp(disch:=solve|omega|assumption|repeat(first|exact A1|exact uH|apply A2|apply uT)|simp|(simp;omega)|fail)[]|with_reducible first|apply A3|refine A5 fun _=>?_|refine A4 fun _=>?_)
 refine P5 (α:=Unit) l.length (fun _ _=> .int .i64 0) (fun _ _=> []) (fun i _=> ∀ j y,j < i → l[j]? = some y → p y = false) () (by intro j _ hj; omega) ?_
 rintro i _ hi hpre L hL
 by_cases hlt : i < l.length
 ·obtain ⟨b,o,rfl,hrow⟩:=hr (by omega)
  obtain ⟨x,hx⟩ : ∃ x,l[i]? = some x:=⟨_,List.getElem?_eq_getElem (by omega)⟩
  have h1:=hrow.at (f:=H5) (k:=2) (fun _=> rfl) hx
  rw [H5] at h1
  (repeat first|simp(disch:=solve|omega|assumption|repeat(first|exact A1|exact uH|apply A2|apply uT)|simp|(simp;omega)|fail)[hlt,h1]|with_reducible first|apply A3|refine A5 fun _=>?_|refine A4 fun _=>?_)
  refine B8D he (φ:=fun r=> r = .bool (p x)) (fun w' hw' => by simpa using hf w' hw'.ks x) ?_
  rintro _ rfl
  cases hb : p x with
  | true=>
   (repeat first|simp(disch:=solve|omega|assumption|repeat(first|exact A1|exact uH|apply A2|apply uT)|simp|(simp;omega)|fail)[]|with_reducible first|apply A3|refine A5 fun _=>?_|refine A4 fun _=>?_)
   exact A9 (by rw [A8E hx hb hpre])
  | false=>
   (repeat first|simp(disch:=solve|omega|assumption|repeat(first|exact A1|exact uH|apply A2|apply uT)|simp|(simp;omega)|fail)[]|with_reducible first|apply A3|refine A5 fun _=>?_|refine A4 fun _=>?_)
   refine Sels.tw .nil (hL hlt () ?_)
   intro j y hj hy
   by_cases hji : j = i
   ·subst hji; rw [hx] at hy; cases hy; exact hb
   ·exact hpre j y (by omega) hy
 ·obtain rfl : i = l.length:=by omega
  (repeat first|simp(disch:=solve|omega|assumption|repeat(first|exact A1|exact uH|apply A2|apply uT)|simp|(simp;omega)|fail)[]|with_reducible first|apply A3|refine A5 fun _=>?_|refine A4 fun _=>?_)
  exact A9 (by rw [B3P fun j y hy=> hpre j y (List.getElem?_eq_some_iff.1 hy).1 hy])
theorem B9M (w : World) (v : Value) (l : List (Int × Int)) (p : Int × Int → Bool) (f : FuncId) (cap : List Value) (hn : l.length ≤ 1000000) (hv : F5 w v l.length (l.flatMap H5)) (he : B0 PR f)
  (hf : ∀ w', KS false [] w w' → ∀ x : Int × Int,Fn PR B8 f (.agg #[.int .i64 x.1,.int .i64 x.2] :: cap).toArray w' (fun r w'' => r = .bool (p x) ∧ C7 [] w' w'')) :
  Fn PR B8 201 #[v,.func (.func f) #[] cap.toArray] w (fun r w' => r = .int .i64 (B1z p l) ∧ C7 [] w w'):=by
 refine Fn.pure (A3D (TW.go (κ:=false) (S := []) ?_))
 unfold l8
 obtain ⟨a,c,rfl,hr⟩:=hv.form
 (repeat first|simp(disch:=solve|omega|assumption|repeat(first|exact A1|exact uH|apply A2|apply uT)|simp|(simp;omega)|fail)[]|with_reducible first|apply A3|refine A5 fun _=>?_|refine A4 fun _=>?_)
 refine P5 (α:=Unit) l.length (fun _ _=> .int .i64 0) (fun _ _=> []) (fun i _=> ∀ j y,j < i → l[j]? = some y → p y = false) () (by intro j _ hj; omega) ?_
 rintro i _ hi hpre L hL
 by_cases hlt : i < l.length
 ·obtain ⟨b,o,rfl,hrow⟩:=hr (by omega)
  obtain ⟨x,hx⟩ : ∃ x,l[i]? = some x:=⟨_,List.getElem?_eq_getElem (by omega)⟩
  have h1:=hrow.at (f:=H5) (k:=2) (fun _=> rfl) hx
  rw [H5] at h1
  (repeat first|simp(disch:=solve|omega|assumption|repeat(first|exact A1|exact uH|apply A2|apply uT)|simp|(simp;omega)|fail)[hlt,h1]|with_reducible first|apply A3|refine A5 fun _=>?_|refine A4 fun _=>?_)
  refine B8D he (φ:=fun r=> r = .bool (p x)) (fun w' hw' => by simpa using hf w' hw'.ks x) ?_
  rintro _ rfl
  cases hb : p x with
  | true=>
   (repeat first|simp(disch:=solve|omega|assumption|repeat(first|exact A1|exact uH|apply A2|apply uT)|simp|(simp;omega)|fail)[]|with_reducible first|apply A3|refine A5 fun _=>?_|refine A4 fun _=>?_)
   exact A9 (by rw [A8E hx hb hpre])
  | false=>
   (repeat first|simp(disch:=solve|omega|assumption|repeat(first|exact A1|exact uH|apply A2|apply uT)|simp|(simp;omega)|fail)[]|with_reducible first|apply A3|refine A5 fun _=>?_|refine A4 fun _=>?_)
   refine Sels.tw .nil (hL hlt () ?_)
   intro j y hj hy
   by_cases hji : j = i
   ·subst hji; rw [hx] at hy; cases hy; exact hb
   ·exact hpre j y (by omega) hy
 ·obtain rfl : i = l.length:=by omega
  (repeat first|simp(disch:=solve|omega|assumption|repeat(first|exact A1|exact uH|apply A2|apply uT)|simp|(simp;omega)|fail)[]|with_reducible first|apply A3|refine A5 fun _=>?_|refine A4 fun _=>?_)
  exact A9 (by rw [B3P fun j y hy=> hpre j y (List.getElem?_eq_some_iff.1 hy).1 hy])
theorem C7v {α : Type} (p : α → Bool) (l : List α) : decide (0 ≤ B1z p l) = l.any p:=by
 unfold B1z
 cases h : l.findIdx? p with
 | none=>
  have:=List.findIdx?_eq_none_iff.1 h
  rw [Bool.eq_iff_iff]; simp [List.any_eq_true]; intro x hx; have:=this x hx; simp_all
 | some i=>
  obtain ⟨hi,h1,_⟩:=List.findIdx?_eq_some_iff_getElem.1 h
  rw [Bool.eq_iff_iff]; simp only [List.any_eq_true,decide_eq_true_eq]
  exact ⟨fun _=> ⟨_,List.getElem_mem hi,h1⟩,fun _=> by omega⟩
theorem B56 (w : World) (v : Value) (l : List (Int × Int)) (p : Int × Int → Bool) (f : FuncId) (cap : List Value) (hn : l.length ≤ 1000000) (hv : F5 w v l.length (l.flatMap H5)) (he : B0 PR f)
  (hf : ∀ w', KS false [] w w' → ∀ x : Int × Int,Fn PR B8 f (.agg #[.int .i64 x.1,.int .i64 x.2] :: cap).toArray w' (fun r w'' => r = .bool (p x) ∧ C7 [] w' w'')) :
  Fn PR B8 148 #[v,.func (.func f) #[] cap.toArray] w (fun r w' => r = .bool (l.any p) ∧ C7 [] w w'):=by
 refine Fn.pure (A1n (TW.go (κ:=false) (S := []) ?_))
 unfold d6
 refine B7 A2e (fun w' hw' => B9M w' v l p f cap hn (hv.ks hw'.ks (by simp)) he fun w2 h=> hf w2 (hw'.ks.trans h)) ?_
 (repeat first|simp(disch:=solve|omega|assumption|repeat(first|exact A1|exact uH|apply A2|apply uT)|simp|(simp;omega)|fail)[]|with_reducible first|apply A3|refine A5 fun _=>?_|refine A4 fun _=>?_)
 exact A9 (by rw [C7v])
theorem C7y {t e : TypeId} {len n m n' m' : Nat} {z z' : Value} {d' : TypeDesc} {parts : Array (Nat × Value)} {cs : Array Value} {K : Value → WP} (h : TI PR t (.array len e) n m z) (he : TI PR e d' n' m' z')
  (hf : Instr.fill (fun i=> some (i * n', n')) z.cells parts.toList = some cs) : A0 PR (Instr.build t parts) K = K (.agg cs) :=
 F9 (fun w=> by
  simp only [Instr.build,Sem.run_bind,h.run_zero,Result.andThen_ok,h.run_und,he.run_size,hf,Sem.run_pure]) K
theorem bd2 {k0 k1 : IntKind} {a b : Int} (K : Value → WP) : A0 PR (Instr.build 158 #[(0,.int k0 a),(1,.int k1 b)]) K = K (.agg #[.int k0 a,.int k1 b]) :=
 C7y B6Z H4 (by rw [show (#[(0,Value.int k0 a),(1,Value.int k1 b)] : Array (Nat × Value)).toList = [(0,Value.int k0 a),(1,Value.int k1 b)] from rfl,B6 rfl rfl (by simp),B6 rfl rfl (by simp [B9])]; rfl)
theorem C2N (w : World) (x : Int × Int) : Fn PR B8 149 #[.agg #[.int .i64 x.1,.int .i64 x.2]] w (fun r w' => r = .bool (decide (x.1 < 1 ∨ x.2 < x.1)) ∧ C7 [] w w'):=by
 refine Fn.pure (B4s (TW.go (κ:=false) (S := []) ?_))
 unfold A5l
 by_cases c1 : x.1 < 1
 ·(repeat first|simp(disch:=solve|omega|assumption|repeat(first|exact A1|exact uH|apply A2|apply uT)|simp|(simp;omega)|fail)[c1]|with_reducible first|apply A3|refine A5 fun _=>?_|refine A4 fun _=>?_)
  exact A9 (by simp [c1])
 ·(repeat first|simp(disch:=solve|omega|assumption|repeat(first|exact A1|exact uH|apply A2|apply uT)|simp|(simp;omega)|fail)[c1]|with_reducible first|apply A3|refine A5 fun _=>?_|refine A4 fun _=>?_)
  exact A9 (by simp [c1])
theorem C5z (w : World) (v : Value) (l : List (Int × Int)) (hn : l.length ≤ 1000000) (hv : F5 w v l.length (l.flatMap H5)) :
  Fn PR B8 89 #[v] w (fun r w' => r = .bool (!l.any fun x=> decide (x.1 < 1 ∨ x.2 < x.1)) ∧ C7 [] w w'):=by
 refine Fn.pure (B7q (TW.go (κ:=false) (S := []) ?_))
 unfold B0Z
 refine B7 A06 (fun w' hw' => B56 w' v l (fun x=> decide (x.1 < 1 ∨ x.2 < x.1)) 149 [] hn (hv.ks hw'.ks (by simp)) B4F fun w2 h x=> C2N w2 x) ?_
 (repeat first|simp(disch:=solve|omega|assumption|repeat(first|exact A1|exact uH|apply A2|apply uT)|simp|(simp;omega)|fail)[]|with_reducible first|apply A3|refine A5 fun _=>?_|refine A4 fun _=>?_)
 exact A9 rfl
theorem C4n (w : World) (x : F8) (id : Int) (b : Nat) (hb : w.cell? ⟨b,0,none⟩ = some (.int .i64 id)) : Fn PR B8 286 #[.agg #[.int .i64 x.1,.int .i64 x.2],.pointer (some ⟨b,0,none⟩)] w (fun r w' => r = .bool (decide (x.1 = id)) ∧ C7 [] w w'):=by
 refine Fn.pure (B5k (TW.go (κ:=false) (S := []) ?_))
 unfold A6T
 (repeat first|simp(disch:=solve|omega|assumption|repeat(first|exact A1|exact uH|apply A2|apply uT)|simp|(simp;omega)|fail)[hb]|with_reducible first|apply A3|refine A5 fun _=>?_|refine A4 fun _=>?_)
 exact A9 rfl
theorem C8D (w : World) (id : Int) : Fn PR B8 267 #[.int .i64 id] w (Rn [] w (fun b v=> v = .func (.func 286) #[] #[.pointer (some ⟨b,0,none⟩)]) fun b=> [.pt b (.cells #[.int .i64 id] 3)]):=by
 refine B9c (TW.go (κ:=false) (S := []) ?_)
 unfold B2M
 (repeat first|simp(disch:=solve|omega|assumption|repeat(first|exact A1|exact uH|apply A2|apply uT)|simp|(simp;omega)|fail)[]|with_reducible first|apply A3|refine A5 fun _=>?_|refine A4 fun _=>?_)
 exact u7 _ rfl (by simp)
def Q6 (l : List F8) (id : Int) : Int:=B1z (fun x=> decide (x.1 = id)) l
theorem C1y (w : World) (v : Value) (l : List F8) (id : Int) (hn : l.length ≤ 1000000) (hv : F5 w v l.length (l.flatMap H5)) :
  Fn PR B8 237 #[v,.int .i64 id] w (fun r w' => r = .int .i64 (Q6 l id) ∧ C7 [] w w'):=by
 refine Fn.pure (C0p (TW.go (κ:=false) (S := []) ?_))
 unfold B31
 refine H0 B7d (fun w' _=> C8D w' id) ?_
 rintro b _ rfl
 refine B7 q9 (fun w' hw' => B9p w' v l (fun x=> decide (x.1 = id)) 286 [.pointer (some ⟨b,0,none⟩)] hn (hv.ks hw'.ks (by simp)) B4x
  fun w2 h x=> C4n w2 x id b (h.cell (by simp) (hw'.cell1 (by (repeat constructor))))) ?_
 exact A9 rfl
def A3L (b : F8) : Bool:=decide (1 ≤ b.1 ∧ b.1 ≤ 65535 ∧ 1 ≤ b.2 ∧ b.2 ≤ 16)
def v7 : List F8 → Bool
 | []=> true
 | b :: l=> A3L b && !(l.any fun x=> decide (x.1 = b.1)) && v7 l
def Q3 (l : List F8) : Int:=if v7 l && decide (l.length ≤ 32) then 0 else 10
theorem A5u (l : List F8) : v7 l = true ↔ (∀ b ∈ l,A3L b = true) ∧ l.Pairwise fun a b=> a.1 ≠ b.1:=by
 induction l with
 | nil=> simp [v7]
 | cons b l ih=>
  simp only [v7,Bool.and_eq_true,ih,List.mem_cons,forall_eq_or_imp,List.pairwise_cons,Bool.not_eq_true', List.any_eq_false,decide_eq_true_eq]
  constructor
  ·rintro ⟨⟨h1,h2⟩,h3,h4⟩; exact ⟨⟨h1,h3⟩,fun a ha e=> h2 a ha e.symm,h4⟩
  ·rintro ⟨⟨h1,h3⟩,h2,h4⟩; exact ⟨⟨h1,fun a ha e=> h2 a ha e.symm⟩,h3,h4⟩
theorem C99 {α : Type} {R : α → α → Prop} {l : List α} (h : l.Pairwise R) {i j : Nat} {x y : α} (hij : i < j) (hx : l[i]? = some x) (hy : l[j]? = some y) : R x y:=by
 obtain ⟨h1,rfl⟩:=List.getElem?_eq_some_iff.1 hx
 obtain ⟨h2,rfl⟩:=List.getElem?_eq_some_iff.1 hy
 exact List.pairwise_iff_getElem.1 h i j h1 h2 hij
theorem D0w {α : Type} {R : α → α → Prop} {l : List α} {i : Nat} {x : α} (hx : l[i]? = some x) : (l.take (i + 1)).Pairwise R ↔ (l.take i).Pairwise R ∧ ∀ y ∈ l.take i,R y x:=by
 rw [List.take_add_one,hx]; simp [List.pairwise_append]
theorem C1l (w : World) (v : Value) (l : List F8) (hn : l.length ≤ 1000000) (hv : F5 w v l.length (l.flatMap H5)) :
  Fn PR B8 29 #[v] w (fun r w' => r = .int .i64 (Q3 l) ∧ C7 [] w w'):=by
 refine Fn.pure (B9g (TW.go (κ:=false) (S := []) ?_))
 unfold B2E
 obtain ⟨a,c,rfl,hr⟩:=hv.form
 refine C2x (Value.int .i64) fun r=> ?_
 (repeat first|simp(disch:=solve|omega|assumption|repeat(first|exact A1|exact uH|apply A2|apply uT)|simp|(simp;omega)|fail)[]|with_reducible first|apply A3|refine A5 fun _=>?_|refine A4 fun _=>?_)
 refine P5 (α:=List (Int × Value)) l.length (fun _ _=> .int .i64 0) (fun _ M=> [.pt r (A0U (Value.int .i64) M)]) (fun i M=> (∀ k,z8 k M = if (l.take i).any (fun x=> decide (x.1 = k)) then some (.bool true) else none) ∧ v7 (l.take i) = true) [] (by simp [z8,v7]) ?_
 rintro i M hi ⟨hM,hok⟩ L hL
 by_cases hlt : i < l.length
 ·obtain ⟨b,o,rfl,hrow⟩:=hr (by omega)
  obtain ⟨x,hx⟩ : ∃ x,l[i]? = some x:=⟨_,List.getElem?_eq_getElem (by omega)⟩
  have h1:=hrow.at (f:=H5) (k:=2) (fun _=> rfl) hx
  rw [H5] at h1
  have hxm : x ∈ l:=List.mem_of_getElem? hx
  (repeat first|simp(disch:=solve|omega|assumption|repeat(first|exact A1|exact uH|apply A2|apply uT)|simp|(simp;omega)|fail)[hlt,h1]|with_reducible first|apply A3|refine A5 fun _=>?_|refine A4 fun _=>?_)
  rw [B5v C93 ty4 (KeyT.int H4) (l:=M) (by (repeat constructor)),hM]
  cases hseen : (l.take i).any (fun y=> decide (y.1 = x.1)) with
  | true=>
   have hbad : Q3 l = 10:=by
    have : v7 l = false:=by
     rw [← Bool.not_eq_true,A5u]
     rintro ⟨_,h⟩
     obtain ⟨y,hy,he⟩:=List.any_eq_true.1 hseen
     obtain ⟨j,hj,rfl⟩:=List.getElem_of_mem hy
     simp only [List.length_take] at hj
     exact C99 (i:=j) (j:=i) h (by omega) (List.getElem?_eq_getElem (by omega)) hx (by simpa using he)
    simp [Q3,this]
   (repeat first|simp(disch:=solve|omega|assumption|repeat(first|exact A1|exact uH|apply A2|apply uT)|simp|(simp;omega)|fail)[]|with_reducible first|apply A3|refine A5 fun _=>?_|refine A4 fun _=>?_)
   exact A9 (by rw [hbad])
  | false=>
   simp only [Bool.false_eq_true,if_false,Option.getD_none]
   (have zz:=trivial;repeat((first|clear zz|with_reducible first|refine A3 ?_|refine A5 fun _=>?_|refine A4 fun _=>?_|refine D4 fun _=>?_|refine E0 (hK:=fun _=>?_)|refine D5 (hK:=fun _=>?_)|refine D9 (hK:=fun _=>?_)|refine D8 (hK:=fun _=>?_)|refine D6 (hK:=fun _=>?_));try simp(disch:=first|omega|assumption|((repeat(first|exact A1|exact uH|apply A2|apply uT));first|done|fail)|(simp;first|done|omega|fail))[bd2]))
   rename_i bs bx
   refine B7 (u:=.bool (A3L x)) B69 (fun w' hw' => ?_) ?_
   ·have:=C5z w' (.slice (some ⟨bx,0,none⟩) 2 2) [(x.1,65535),(x.2,16)] (by simp) (by simpa [H5] using M0.own (κ:=false) (S := []) (w0:=w) (e:=158) (k:=2) (q:=2) (v:=.slice (some ⟨bx,0,none⟩) 2 2) (by (repeat constructor)) w' hw')
    have e : (!([(x.1,65535),(x.2,16)] : List (Int × Int)).any fun x=> decide (x.1 < 1 ∨ x.2 < x.1)) = A3L x:=by
     rw [Bool.eq_iff_iff]; simp [A3L]; omega
    rw [e] at this
    exact this
   ·cases hbk : A3L x with
    | false=>
     have hbad : Q3 l = 10:=by
      have : v7 l = false:=by
       rw [← Bool.not_eq_true,A5u]
       rintro ⟨h,_⟩
       rw [h x hxm] at hbk; cases hbk
      simp [Q3,this]
     (repeat first|simp(disch:=solve|omega|assumption|repeat(first|exact A1|exact uH|apply A2|apply uT)|simp|(simp;omega)|fail)[]|with_reducible first|apply A3|refine A5 fun _=>?_|refine A4 fun _=>?_)
     exact A9 (by rw [hbad])
    | true=>
     (repeat first|simp(disch:=solve|omega|assumption|repeat(first|exact A1|exact uH|apply A2|apply uT)|simp|(simp;omega)|fail)[]|with_reducible first|apply A3|refine A5 fun _=>?_|refine A4 fun _=>?_)
     refine B5Z C93 (KeyT.int H4) (k:=x.1) (by (repeat constructor)) ?_
     (repeat first|simp(disch:=solve|omega|assumption|repeat(first|exact A1|exact uH|apply A2|apply uT)|simp|(simp;omega)|fail)[]|with_reducible first|apply A3|refine A5 fun _=>?_|refine A4 fun _=>?_)
     refine Sels.tw (by (repeat' constructor)) (hL hlt _ ⟨?_,?_⟩)
     ·intro k
      rw [C5q,hM,List.take_add_one,hx]
      by_cases hk : k = x.1
      ·subst hk; simp
      ·have hk' : ¬ x.1 = k:=fun e=> hk e.symm
       have hAB : (l.take i ++ (some x).toList).any (fun x=> decide (x.1 = k)) = (l.take i).any (fun x=> decide (x.1 = k)):=by
        rw [List.any_append]; simp only [Option.toList_some,List.any_cons,List.any_nil,decide_eq_false hk', Bool.or_false]
       rw [if_neg hk,hAB]
     ·rw [A5u] at hok ⊢
      refine ⟨fun y hy=> ?_,(D0w hx).2 ⟨hok.2,fun y hy e=> ?_⟩⟩
      ·rw [List.take_add_one,hx] at hy
       simp only [Option.toList_some,List.mem_append,List.mem_singleton] at hy
       rcases hy with hy | rfl
       ·exact hok.1 y hy
       ·exact hbk
      ·have:=List.any_eq_false.1 hseen y hy
       simp [e] at this
 ·obtain rfl : i = l.length:=by omega
  rw [List.take_length] at hok
  by_cases c1 : l.length ≤ 32
  ·have c1' : ¬ (32 : Int) < l.length:=by omega
   (repeat first|simp(disch:=solve|omega|assumption|repeat(first|exact A1|exact uH|apply A2|apply uT)|simp|(simp;omega)|fail)[c1']|with_reducible first|apply A3|refine A5 fun _=>?_|refine A4 fun _=>?_)
   exact A9 (by simp [Q3,hok,c1])
  ·have c1' : (32 : Int) < l.length:=by omega
   (repeat first|simp(disch:=solve|omega|assumption|repeat(first|exact A1|exact uH|apply A2|apply uT)|simp|(simp;omega)|fail)[c1']|with_reducible first|apply A3|refine A5 fun _=>?_|refine A4 fun _=>?_)
   exact A9 (by simp [Q3,c1])
structure CfgV where
 wk : Int
 sh : Int
 cp : Int
 idle : Int
 sl : Int
 deriving DecidableEq
def CfgV.val (c : CfgV) : Value:=.agg #[.int .i64 c.wk,.int .i64 c.sh,.int .i64 c.cp,.int .i64 c.idle,.int .i64 c.sl]
def j9 (n lo hi : Int) : Bool:=decide (lo ≤ n) && decide (n ≤ hi)
def Q8 (c : CfgV) : Bool:=j9 c.wk 1 64 && j9 c.sh 1 16 && j9 c.cp 1 64 && j9 c.idle 0 1000000 && j9 c.sl 2 8
structure AnsV where
 err : Int
 bk : Int
 made : Bool
 count : Int
 deriving DecidableEq
def AnsV.val (a : AnsV) : Value:=.agg #[.int .i64 a.err,.int .i64 a.bk,.bool a.made,.int .i64 a.count]
structure OpV where
 kind : Int
 packet : ByteArray
 pool : List F8
 shard : Int
def OpV.val (o : OpV) (v : Value) : Value:=.agg #[.int .i64 o.kind,.string o.packet,v,.int .i64 o.shard]
section
open Instr
variable {X : Nat → Prop} {t0 t1 t2 t3 t4 t5 t6 t7 : Value} {R : Value → WP} {w : World}
def B2L (X : Nat → Prop) (a b : Value) (R : Value → WP) : WP :=
 B5 PR X (box 9 b) fun c=>
 B5 PR X (alloc 3 true (.tuple #[])) fun d=>
 C1 PR X (storeAt 3 d (.int .i64 (-1))) <|
 jn (n:=0) (
 A6 PR (loadAt 3 d) fun e=>
 unw (R e)) fun J1=>
 A6 PR (loadAt 9 c) fun f=>
 B3 PR X 179 [a,f] fun g=>
 rng (N:=2) PR X (fun h k K2=>
 B5 PR (fun _=> False) (alloc 218 true (.tuple #[])) fun l=>
 C1 PR (fun _=> False) (storeAt 218 l k) <|
 bgn <|
 A0 PR (fieldAt 218 l 0) fun m=>
 A6 PR (loadAt 3 m) fun o=>
 A0 PR (binOp .eql 3 o (.int .i64 0)) fun p=>
 C0 p (
 K2 (some (.exit 0))) (
 A0 PR (fieldAt 218 l 0) fun q=>
 A6 PR (loadAt 3 q) fun r=>
 A0 PR (binOp .eql 3 r (.int .i64 1)) fun s=>
 gj s true (fun J=> A0 PR (fieldAt 218 l 1) J) fun t=>
 gj s true (fun J=> A6 PR (loadAt 9 t) J) fun u=>
 gj s true (fun J=> A6 PR (loadAt 9 c) J) fun v=>
 gj s true (fun J=> A0 PR (binOp .eql 9 u v) J) fun w=>
 A0 PR (do pure (if ← asBool s then w else (.bool false))) fun x=>
 C0 x (
 C1 PR (fun _=> False) (storeAt 3 d h) <|
 K2 (some (.exit 0))) (
 K2 none))) g (fun j=> match j with | none=> (J1) | some (.exit i)=> (match Nat.beq i 0 with | true=> (J1) | false=> (K9)) | some .ret=> (unw (R (.int .i64 0))) | some _=> K9)
theorem A03 : B0 PR 133:=A7 Tryz.func133 (by kernel_rfl) rfl
theorem B9a (h : B2L X t0 t1 R w) : Fn PR X 133 #[t0,t1] w R:=C4 (args := [t0,t1]) mixed Tryz.func133 (by kernel_rfl) h
def B3Q (X : Nat → Prop) (a b : Value) (R : Value → WP) : WP :=
 B5 PR X (box 84 a) fun c=>
 B5 PR X (box 9 b) fun d=>
 A0 PR (makeFunc (.func 235) #[] #[d,c]) fun e=>
 R e
theorem B13 : B0 PR 179:=A7 Tryz.func179 (by kernel_rfl) rfl
theorem C0F (h : B3Q X t0 t1 R w) : Fn PR X 179 #[t0,t1] w R:=C4 (args := [t0,t1]) mixed Tryz.func179 (by kernel_rfl) h
def B0P (X : Nat → Prop) (a b : Value) (R : Value → WP) : WP :=
 B5 PR X (box 3 b) fun c=>
 A0 PR (makeFunc (.func 241) #[] #[c]) fun d=>
 B3 PR X 240 [a,d] fun e=>
 R e
theorem B7C : B0 PR 186:=A7 Tryz.func186 (by kernel_rfl) rfl
theorem B7p (h : B0P X t0 t1 R w) : Fn PR X 186 #[t0,t1] w R:=C4 (args := [t0,t1]) mixed Tryz.func186 (by kernel_rfl) h
def A8A (X : Nat → Prop) (a b c : Value) (R : Value → WP) : WP :=
 A6 PR (loadAt 9 b) fun d=>
 A6 PR (loadAt 84 c) fun e=>
 A0 PR (A8 .len #[84] 0 [e]) fun f=>
 B3 PR X 236 [d,f] fun g=>
 A6 PR (loadAt 84 c) fun h=>
 A0 PR (A8 .len #[84] 0 [h]) fun i=>
 lp (n:=1) (fun L1 j=>
 A0 PR (binOp .lss 3 j i) fun k=>
 jn (n:=0) (
 jn (n:=0) (
 A0 PR (binOp .add 3 j (.int .i64 1)) fun l=>
 L1 l) fun J2=>
 A0 PR (binOp .add 3 g j) fun m=>
 A6 PR (loadAt 84 c) fun o=>
 A0 PR (A8 .len #[84] 0 [o]) fun p=>
 A0 PR (binOp .rem 3 m p) fun q=>
 A6 PR (loadAt 84 c) fun r=>
 A0 PR (indexAt 84 r q) fun s=>
 A6 PR (loadAt 218 s) fun t=>
 N7 PR X a [q,t] fun u=>
 A0 PR (Op.unary .not u) fun v=>
 C0 v (
 R (.tuple #[])) (
 J2)) fun J3=>
 C0 k (
 J3) (
 R (.tuple #[]))) (.int .i64 0)
theorem B6G : B0 PR 235:=A7 Tryz.func235 (by kernel_rfl) rfl
theorem B6g (h : A8A X t0 t1 t2 R w) : Fn PR X 235 #[t0,t1,t2] w R:=C4 (args := [t0,t1,t2]) mixed Tryz.func235 (by kernel_rfl) h
end
theorem B6r {X : Nat → Prop} {t0 t1 t2 : Value} {K : Value → WP} {w : World} (h : Fn PR X 235 #[t0,t1,t2] w K) : A4W PR X 235 [t0,t1,t2] K w:=⟨B6G,h⟩
section
open Instr
variable {X : Nat → Prop} {t0 t1 t2 t3 t4 t5 t6 t7 : Value} {R : Value → WP} {w : World}
def B2F (X : Nat → Prop) (a b : Value) (R : Value → WP) : WP :=
 jn (n:=1) (fun c=>
 B3 PR X 135 [a] fun d=>
 A0 PR (convert 3 89 b) fun e=>
 A0 PR (binOp .rem 89 d e) fun f=>
 A0 PR (convert 89 3 f) fun g=>
 R g) fun J1=>
 A0 PR (binOp .lss 3 b (.int .i64 1)) fun h=>
 C0 h (
 R (.int .i64 0)) (
 J1 (.int .i64 0))
theorem B8Y : B0 PR 236:=A7 Tryz.func236 (by kernel_rfl) rfl
theorem B9B (h : B2F X t0 t1 R w) : Fn PR X 236 #[t0,t1] w R:=C4 (args := [t0,t1]) mixed Tryz.func236 (by kernel_rfl) h
def A0x (X : Nat → Prop) (a b : Value) (R : Value → WP) : WP :=
 jn (n:=2) (fun c d=>
 R c) fun J1=>
 A0 PR (A8 .len #[84] 0 [a]) fun e=>
 lp (n:=2) (fun L2 f g=>
 A0 PR (binOp .lss 3 g e) fun h=>
 jn (n:=0) (
 jn (n:=1) (fun i=>
 A0 PR (binOp .add 3 g (.int .i64 1)) fun j=>
 L2 i j) fun J3=>
 A0 PR (indexAt 84 a g) fun k=>
 A6 PR (loadAt 218 k) fun l=>
 B5 PR X (alloc 218 true (.tuple #[])) fun m=>
 C1 PR X (storeAt 218 m l) <|
 A6 PR (loadAt 218 m) fun o=>
 N7 PR X b [o] fun p=>
 C0 p (
 A0 PR (binOp .add 3 f (.int .i64 1)) fun q=>
 J3 q) (
 J3 f)) fun J4=>
 C0 h (
 J4) (
 J1 f g)) (.int .i64 0) (.int .i64 0)
theorem A53 : B0 PR 240:=A7 Tryz.func240 (by kernel_rfl) rfl
theorem A6l (h : A0x X t0 t1 R w) : Fn PR X 240 #[t0,t1] w R:=C4 (args := [t0,t1]) mixed Tryz.func240 (by kernel_rfl) h
def A5Z (X : Nat → Prop) (a b : Value) (R : Value → WP) : WP :=
 B5 PR X (box 218 a) fun c=>
 A0 PR (fieldAt 218 c 0) fun d=>
 A6 PR (loadAt 3 d) fun e=>
 A6 PR (loadAt 3 b) fun f=>
 A0 PR (binOp .eql 3 e f) fun g=>
 R g
theorem B23 : B0 PR 241:=A7 Tryz.func241 (by kernel_rfl) rfl
theorem B40 (h : A5Z X t0 t1 R w) : Fn PR X 241 #[t0,t1] w R:=C4 (args := [t0,t1]) mixed Tryz.func241 (by kernel_rfl) h
def B2P (X : Nat → Prop) (a b : Value) (R : Value → WP) : WP :=
 B5 PR X (alloc 3 true (.tuple #[])) fun d=>
 jn (n:=0) (
 jn (n:=0) (
 C1 PR X (storeAt 3 d (.int .i64 (-1))) <|
 unw (A6 PR (E1 [.c 3 d]) R)) fun J1=>
 B3 PR X 179 [a,b] fun e=>
 rng (N:=2) PR X (fun f g K2=>
 B5 PR (fun _=> False) (alloc 218 true (.tuple #[])) fun h=>
 C1 PR (fun _=> False) (storeAt 218 h g) <|
 bgn <|
 A0 PR (fieldAt 218 h 0) fun k=>
 A6 PR (loadAt 3 k) fun l=>
 A0 PR (binOp .neq 3 l (.int .i64 1)) fun m=>
 C0 m (
 C1 PR (fun _=> False) (storeAt 3 d f) <|
 K2 (some .ret)) (
 K2 none)) e (fun j=> match j with | none=> (J1) | some (.exit i)=> (match Nat.beq i 0 with | true=> (J1) | false=> (K9)) | some .ret=> (unw (A6 PR (E1 [.c 3 d]) R)) | some _=> K9)) fun J3=>
 B3 PR X 133 [a,b] fun o=>
 A0 PR (binOp .geq 3 o (.int .i64 0)) fun p=>
 C0 p (
 C1 PR X (storeAt 3 d (.int .i64 (-1))) <|
 unw (A6 PR (E1 [.c 3 d]) R)) (
 J3)
theorem B7n : B0 PR 242:=A7 Tryz.func242 (by kernel_rfl) rfl
theorem B9E (h : B2P X t0 t1 R w) : Fn PR X 242 #[t0,t1] w R:=C4 (args := [t0,t1]) mixed Tryz.func242 (by kernel_rfl) h
def B6M (X : Nat → Prop) (a : Value) (R : Value → WP) : WP :=
 B3 PR X 183 [(.int .u64 14695981039346656037),a] fun b=>
 R b
theorem A4q : B0 PR 135:=A7 Tryz.func135 (by kernel_rfl) rfl
theorem C45 (h : B6M X t0 R w) : Fn PR X 135 #[t0] w R:=C4 (args := [t0]) mixed Tryz.func135 (by kernel_rfl) h
def B46 (X : Nat → Prop) (a b : Value) (R : Value → WP) : WP :=
 B5 PR X (alloc 368 true (.tuple #[])) fun c=>
 B5 PR X (alloc 370 true (.tuple #[])) fun d=>
 C1 PR X (storeAt 368 c (.func (.func 238) #[] #[])) <|
 C1 PR X (storeAt 370 d a) <|
 jn (n:=0) (
 A6 PR (loadAt 370 d) fun e=>
 unw (R e)) fun J1=>
 B3 PR X 239 [b] fun f=>
 rng (N:=1) PR X (fun g K2=>
 bgn <|
 A6 PR (loadAt 368 c) fun h=>
 A6 PR (loadAt 370 d) fun k=>
 N7 PR (fun _=> False) h [k,g] fun l=>
 C1 PR (fun _=> False) (storeAt 370 d l) <|
 K2 none) f (fun j=> match j with | none=> (J1) | some (.exit i)=> (match Nat.beq i 0 with | true=> (J1) | false=> (K9)) | some .ret=> (unw (R (.int .u64 0))) | some _=> K9)
theorem B3f : B0 PR 183:=A7 Tryz.func183 (by kernel_rfl) rfl
theorem C2e (h : B46 X t0 t1 R w) : Fn PR X 183 #[t0,t1] w R:=C4 (args := [t0,t1]) mixed Tryz.func183 (by kernel_rfl) h
def B0G (X : Nat → Prop) (a b : Value) (R : Value → WP) : WP :=
 A0 PR (convert 5 370 b) fun c=>
 A0 PR (binOp .xor 370 a c) fun d=>
 A0 PR (binOp .mul 370 d (.int .u64 1099511628211)) fun e=>
 R e
theorem B64 : B0 PR 238:=A7 Tryz.func238 (by kernel_rfl) rfl
theorem B8M (h : B0G X t0 t1 R w) : Fn PR X 238 #[t0,t1] w R:=C4 (args := [t0,t1]) mixed Tryz.func238 (by kernel_rfl) h
def B5F (X : Nat → Prop) (a : Value) (R : Value → WP) : WP :=
 B5 PR X (box 9 a) fun b=>
 A0 PR (makeFunc (.func 268) #[] #[b]) fun c=>
 R c
theorem C1E : B0 PR 239:=A7 Tryz.func239 (by kernel_rfl) rfl
theorem C1z (h : B5F X t0 R w) : Fn PR X 239 #[t0] w R:=C4 (args := [t0]) mixed Tryz.func239 (by kernel_rfl) h
def B0S (X : Nat → Prop) (a b : Value) (R : Value → WP) : WP :=
 A6 PR (loadAt 9 b) fun c=>
 A0 PR (A8 .len #[9] 0 [c]) fun d=>
 lp (n:=1) (fun L1 e=>
 A0 PR (binOp .lss 3 e d) fun f=>
 jn (n:=0) (
 jn (n:=0) (
 A0 PR (binOp .add 3 e (.int .i64 1)) fun g=>
 L1 g) fun J2=>
 A6 PR (loadAt 9 b) fun h=>
 A0 PR (index 9 h e) fun i=>
 N7 PR X a [i] fun j=>
 A0 PR (Op.unary .not j) fun k=>
 C0 k (
 R (.tuple #[])) (
 J2)) fun J3=>
 C0 f (
 J3) (
 R (.tuple #[]))) (.int .i64 0)
theorem B7M : B0 PR 268:=A7 Tryz.func268 (by kernel_rfl) rfl
theorem B8T (h : B0S X t0 t1 R w) : Fn PR X 268 #[t0,t1] w R:=C4 (args := [t0,t1]) mixed Tryz.func268 (by kernel_rfl) h
end
theorem B7x {X : Nat → Prop} {t0 t1 : Value} {K : Value → WP} {w : World} (h : Fn PR X 268 #[t0,t1] w K) : A4W PR X 268 [t0,t1] K w:=⟨B7M,h⟩
def A66 (h b : Nat) : Nat:=((h ^^^ b) * 1099511628211) % 18446744073709551616
def A1m (h : Nat) (s : ByteArray) : Nat → Nat
 | 0=> h
 | i + 1=> A66 (A1m h s i) (C9 s i)
def B1Q (h : Nat) (s : ByteArray) : Nat:=A1m h s s.size
def Q9 (s : ByteArray) : Nat:=B1Q 14695981039346656037 s
theorem D1G (h b : Nat) : A66 h b < 2 ^ 64:=by unfold A66; omega
theorem B7s {h : Nat} (hh : h < 2 ^ 64) (s : ByteArray) (i : Nat) : A1m h s i < 2 ^ 64:=by
 cases i with
 | zero=> exact hh
 | succ i=> exact D1G _ _
theorem D3m (w : World) (h b : Nat) (hh : h < 2 ^ 64) (hb : b < 256) : Fn PR B8 238 #[.int .u64 (h : Int),.int .u8 (b : Int)] w (fun v w' => v = .int .u64 (A66 h b : Nat) ∧ C7 [] w w'):=by
 refine Fn.pure (B8M (TW.go (κ:=false) (S := []) ?_))
 unfold B0G
 (repeat first|simp(disch:=solve|omega|assumption|repeat(first|exact A1|exact uH|apply A2|apply uT)|simp|(simp;omega)|fail)[]|with_reducible first|apply A3|refine A5 fun _=>?_|refine A4 fun _=>?_)
 have e1 : (h % 2 ^ IntKind.u64.bits ^^^ b % 2 ^ IntKind.u64.bits) = h ^^^ b:=by rw [show (2 : Nat) ^ IntKind.u64.bits = 2 ^ 64 from rfl,Nat.mod_eq_of_lt hh,Nat.mod_eq_of_lt (by omega)]
 have e2 : h ^^^ b < 2 ^ 64:=Nat.xor_lt_two_pow hh (by omega)
 rw [e1,A07 (n:=((h ^^^ b : Nat) : Int)) (by omega) (by omega)]
 refine A9 ?_
 have e3 : IntKind.u64.wrap (((h ^^^ b : Nat) : Int) * 1099511628211) = (A66 h b : Nat):=by
  simp only [IntKind.wrap,IntKind.bits,IntKind.signed,A66]
  simp
 rw [e3]
abbrev D0L (b : Nat) : Value:=.func (.func 268) #[] #[.pointer (some ⟨b,0,none⟩)]
theorem D1r (w : World) (s : ByteArray) : Fn PR B8 239 #[.string s] w (Rn [] w (fun b v=> v = D0L b) fun b=> [.pt b (.cells #[.string s] 9)]):=by
 refine C1z (TW.go (κ:=false) (S := []) ?_)
 unfold B5F
 (repeat first|simp(disch:=solve|omega|assumption|repeat(first|exact A1|exact uH|apply A2|apply uT)|simp|(simp;omega)|fail)[]|with_reducible first|apply A3|refine A5 fun _=>?_|refine A4 fun _=>?_)
 rename_i b
 exact u7 b rfl (by simp)
def B94 (s : ByteArray) (i : Nat) : List Value := [.int .u8 (C9 s i : Nat)]
theorem D1P (b : Nat) (s : ByteArray) (hs : s.size < 2 ^ 60) : B1J (D0L b) [.pt b (.cells #[.string s] 9)] (fun _ _=> True) ((List.range s.size).map (B94 s)):=by
 refine ⟨_,_,_,rfl,fun l J E hJ hE stJ stE hy w0 h0=> ?_⟩
 refine B7x (B8T (TW.at (κ:=true) ?_ (hJ _ _ _ h0).1))
 unfold B0S
 (repeat first|simp(disch:=solve|omega|assumption|repeat(first|exact A1|exact uH|apply A2|apply uT)|simp|(simp;omega)|fail)[]|with_reducible first|apply A3|refine A5 fun _=>?_|refine A4 fun _=>?_)
 refine B0D s.size (fun i=> i) (fun _=> _) hJ stJ h0 fun i a hi hJi _ L hL=> ?_
 by_cases hlt : i < s.size
 ·obtain ⟨by0,hb0,hb1⟩:=A0A (s:=s) (i:=i) hlt
  have hb0' : s[((i : Nat) : Int).toNat]? = some by0:=by rw [Int.toNat_natCast]; exact hb0
  (repeat first|simp(disch:=solve|omega|assumption|repeat(first|exact A1|exact uH|apply A2|apply uT)|simp|(simp;omega)|fail)[hlt,c9]|with_reducible first|apply A3|refine A5 fun _=>?_|refine A4 fun _=>?_)
  rw [hb1]
  refine B4P hJ hE stJ hy hJi (by simpa using hlt) (by simp [B94]) (fun w3 h=> ?_) (fun w3 h=> ?_)
  ·(repeat first|simp(disch:=solve|omega|assumption|repeat(first|exact A1|exact uH|apply A2|apply uT)|simp|(simp;omega)|fail)[]|with_reducible first|apply A3|refine A5 fun _=>?_|refine A4 fun _=>?_)
   exact fun w' hw' => hL hlt w' (stJ _ _ _ _ _ h hw')
  ·(repeat first|simp(disch:=solve|omega|assumption|repeat(first|exact A1|exact uH|apply A2|apply uT)|simp|(simp;omega)|fail)[]|with_reducible first|apply A3|refine A5 fun _=>?_|refine A4 fun _=>?_)
   exact A99 stE h
 ·obtain rfl : i = s.size:=by omega
  (repeat first|simp(disch:=solve|omega|assumption|repeat(first|exact A1|exact uH|apply A2|apply uT)|simp|(simp;omega)|fail)[]|with_reducible first|apply A3|refine A5 fun _=>?_|refine A4 fun _=>?_)
  exact B0T stJ (by simpa using hJi)
theorem C23 (w : World) (h : Nat) (s : ByteArray) (hh : h < 2 ^ 64) (hs : s.size < 2 ^ 60) : Fn PR B8 183 #[.int .u64 (h : Int),.string s] w (fun v w' => v = .int .u64 (B1Q h s : Nat) ∧ C7 [] w w'):=by
 refine Fn.pure (C2e (TW.go (κ:=false) (S := []) ?_))
 unfold B46
 (repeat first|simp(disch:=solve|omega|assumption|repeat(first|exact A1|exact uH|apply A2|apply uT)|simp|(simp;omega)|fail)[]|with_reducible first|apply A3|refine A5 fun _=>?_|refine A4 fun _=>?_)
 rename_i bf bx
 refine H0 C1E (fun w' _=> D1r w' s) ?_
 rintro b v rfl
 refine A8Q (D1P b s hs) (by simp [B94]) (fun _ (_ : Unit)=> True) (fun i _=> [.pt bx (.cells #[.int .u64 ((A1m h s i : Nat) : Int)] 370),.pt bf (.cells #[.func (.func 238) #[] #[]] 368)])
  (fun _ (_ : Unit)=> False) (fun _=> []) () trivial ?_ ?_ ?_ ?_ (by simp [A1m])
 ·intros; trivial
 ·rintro i hi _ F _ K' hK _
  simp only [List.getElem_map,List.getElem_range,B94,VF.app]
  (repeat first|simp(disch:=solve|omega|assumption|repeat(first|exact A1|exact uH|apply A2|apply uT)|simp|(simp;omega)|fail)[]|with_reducible first|apply A3|refine A5 fun _=>?_|refine A4 fun _=>?_)
  refine B7 B64 (fun w' _=> D3m w' _ _ (B7s hh s i) (P6 s i)) ?_
  (repeat first|simp(disch:=solve|omega|assumption|repeat(first|exact A1|exact uH|apply A2|apply uT)|simp|(simp;omega)|fail)[]|with_reducible first|apply A3|refine A5 fun _=>?_|refine A4 fun _=>?_)
  exact TW.eqH (by simp [A1m]) (hK () trivial)
 ·rintro _ _
  (repeat first|simp(disch:=solve|omega|assumption|repeat(first|exact A1|exact uH|apply A2|apply uT)|simp|(simp;omega)|fail)[]|with_reducible first|apply A3|refine A5 fun _=>?_|refine A4 fun _=>?_)
  exact A9 (by simp [B1Q])
 ·rintro _ _ h; exact h.elim
theorem A8Y (w : World) (s : ByteArray) (hs : s.size < 2 ^ 60) : Fn PR B8 135 #[.string s] w (fun v w' => v = .int .u64 (Q9 s : Nat) ∧ C7 [] w w'):=by
 refine Fn.pure (C45 (TW.go (κ:=false) (S := []) ?_))
 unfold B6M
 refine B7 B3f (fun w' _=> C23 w' 14695981039346656037 s (by omega) hs) ?_
 exact A9 rfl
def K3 (key : ByteArray) (n : Nat) : Nat:=Q9 key % n
theorem B0A (s : ByteArray) : Q9 s < 2 ^ 64:=B7s (by omega) s _
theorem D1d (w : World) (key : ByteArray) (n : Nat) (hk : key.size < 2 ^ 60) (hn : n ≤ 1000000) : Fn PR B8 236 #[.string key,.int .i64 (n : Int)] w (fun v w' => v = .int .i64 (if n = 0 then 0 else K3 key n : Nat) ∧ C7 [] w w'):=by
 refine Fn.pure (B9B (TW.go (κ:=false) (S := []) ?_))
 unfold B2F
 by_cases c1 : n = 0
 ·have c1' : (n : Int) < 1:=by omega
  (repeat first|simp(disch:=solve|omega|assumption|repeat(first|exact A1|exact uH|apply A2|apply uT)|simp|(simp;omega)|fail)[c1']|with_reducible first|apply A3|refine A5 fun _=>?_|refine A4 fun _=>?_)
  exact A9 (by simp [c1])
 have c1' : ¬ (n : Int) < 1:=by omega
 have c1'' : ¬ (n : Int) = 0:=by omega
 (repeat first|simp(disch:=solve|omega|assumption|repeat(first|exact A1|exact uH|apply A2|apply uT)|simp|(simp;omega)|fail)[c1']|with_reducible first|apply A3|refine A5 fun _=>?_|refine A4 fun _=>?_)
 refine B7 A4q (fun w' _=> A8Y w' key hk) ?_
 have hl:=B0A key
 have hm : K3 key n < n:=Nat.mod_lt _ (by omega)
 have e1 : ((Q9 key : Nat) : Int).tmod n = (K3 key n : Nat):=by unfold K3; rw [Int.tmod_eq_emod_of_nonneg (by omega)]; omega
 have e2 : ((Q9 key : Nat) : Int) % n = (K3 key n : Nat):=by unfold K3; omega
 (repeat first|simp(disch:=solve|omega|assumption|repeat(first|exact A1|exact uH|apply A2|apply uT)|simp|(simp;omega)|fail)[c1'', e1,U7]|with_reducible first|apply A3|refine A5 fun _=>?_|refine A4 fun _=>?_)
 exact A9 (by simp [c1])
def noE : EnV:=⟨0,M6,0,0⟩
def P7 (l : List EnV) (key : ByteArray) : List (Nat × EnV):=(List.range l.length).map fun i=> ((K3 key l.length + i) % l.length,l.getD ((K3 key l.length + i) % l.length) noE)
def B1y (p : Nat × EnV) : List Value := [.int .i64 (p.1 : Nat),.agg #[.int .i64 p.2.st,.string p.2.key,.int .i64 p.2.bk,.int .i64 p.2.dl]]
abbrev D2d (x : Nat × Nat) : Value:=.func (.func 235) #[] #[.pointer (some ⟨x.1,0,none⟩),.pointer (some ⟨x.2,0,none⟩)]
abbrev C1W (x : Nat × Nat) (v : Value) (key : ByteArray) : List Res := [.pt x.1 (.cells #[.string key] 9),.pt x.2 (.cells #[v] 84)]
theorem C6z (w : World) (v : Value) (key : ByteArray) (hv : ∃ a n c,v = .slice a n c) : Fn PR B8 179 #[v,.string key] w (Rn [] w (fun x u=> u = D2d x) fun x=> C1W x v key):=by
 obtain ⟨a,n,c,rfl⟩:=hv
 refine C0F (TW.go (κ:=false) (S := []) ?_)
 unfold B3Q
 (repeat first|simp(disch:=solve|omega|assumption|repeat(first|exact A1|exact uH|apply A2|apply uT)|simp|(simp;omega)|fail)[]|with_reducible first|apply A3|refine A5 fun _=>?_|refine A4 fun _=>?_)
 rename_i b1 b2
 exact B1 (b2,b1) rfl (by (repeat' constructor))
def RqS (v : Value) (n : Nat) (xs : List Value) (F : List Res) (w : World) : Prop := ∃ a c,v = .slice a n c ∧ (0 < n → ∃ b o,a = some ⟨b,o,none⟩ ∧ P3 w b o xs ∧ b ∉ C3 F)
theorem RqS.of {v : Value} {n : Nat} {xs : List Value} {w0 w : World} {A F : List Res} (h : F5 w0 v n xs) (hx : 0 < n → 0 < xs.length) (hw : LW false [] w0 (A ++ F) w) : RqS v n xs F w:=by
 obtain ⟨a,c,rfl,hr⟩:=h.form
 refine ⟨a,c,rfl,fun hn=> ?_⟩
 obtain ⟨b,o,rfl,hrow⟩:=hr hn
 refine ⟨b,o,rfl,hw.ks.row (by simp) hrow,hw.notin_old ?_ (by simp)⟩
 have h0:=hrow 0 (hx hn)
 rw [List.getElem?_eq_getElem (hx hn)] at h0
 obtain ⟨c', t', z', h1,h2⟩:=A0p h0
 exact M2 h1
theorem A6C (l : List EnV) : (l.flatMap F1).length = l.length * 4:=by
 induction l with
 | nil=> rfl
 | cons x l ih=> rw [List.flatMap_cons,List.length_append,ih]; simp [F1]; omega
theorem C69 (x : Nat × Nat) (v : Value) (l : List EnV) (key : ByteArray) (hk : key.size < 2 ^ 60) (hn : l.length ≤ 1000000) : B1J (D2d x) (C1W x v key) (RqS v l.length (l.flatMap F1)) ((P7 l key).map B1y):=by
 obtain ⟨bk,bt⟩:=x
 refine ⟨_,_,_,rfl,fun y J E hJ hE stJ stE hy w0 h0=> ?_⟩
 obtain ⟨a,c,hv,hr⟩:=(hJ _ _ _ h0).2
 subst hv
 refine B6r (B6g (TW.at (κ:=true) ?_ (hJ _ _ _ h0).1))
 unfold A8A
 simp only [C1W]
 (repeat first|simp(disch:=solve|omega|assumption|repeat(first|exact A1|exact uH|apply A2|apply uT)|simp|(simp;omega)|fail)[]|with_reducible first|apply A3|refine A5 fun _=>?_|refine A4 fun _=>?_)
 refine B7 B8Y (fun w' _=> D1d w' key l.length hk hn) ?_
 (repeat first|simp(disch:=solve|omega|assumption|repeat(first|exact A1|exact uH|apply A2|apply uT)|simp|(simp;omega)|fail)[]|with_reducible first|apply A3|refine A5 fun _=>?_|refine A4 fun _=>?_)
 refine B0D l.length (fun i=> i) (fun _=> _) hJ stJ h0 fun i a' hi hJi hRi L hL=> ?_
 by_cases hlt : i < l.length
 ·obtain ⟨_,_,hv,hr⟩:=hRi
  obtain ⟨b,o,hb,hrow,hnb⟩:=hr (by omega)
  cases hv
  have hh : K3 key l.length < l.length:=Nat.mod_lt _ (by omega)
  have e0 : (if l.length = 0 then 0 else K3 key l.length) = K3 key l.length:=if_neg (by omega)
  have hj : (K3 key l.length + i) % l.length < l.length:=Nat.mod_lt _ (by omega)
  have hx : l[(K3 key l.length + i) % l.length]? = some (l.getD ((K3 key l.length + i) % l.length) noE):=by
   rw [List.getD_eq_getElem?_getD,List.getElem?_eq_getElem hj]; rfl
  have h1:=hrow.at (f:=F1) (k:=4) (fun _=> rfl) hx
  have e1 : (((K3 key l.length : Nat) : Int) + (i : Nat)).tmod l.length = ((K3 key l.length + i) % l.length : Nat):=by rw [Int.tmod_eq_emod_of_nonneg (by omega),Int.natCast_emod,Int.natCast_add]
  have hwi : ∀ h,((P7 l key).map B1y)[i]'h = B1y ((K3 key l.length + i) % l.length,l.getD ((K3 key l.length + i) % l.length) noE):=by
   intro h; simp only [List.getElem_map,P7,List.getElem_range]
  generalize hjd : (K3 key l.length + i) % l.length = j at *
  generalize hxd : l.getD j noE = x at *
  rw [F1] at h1
  have hnz : ¬ (l.length : Int) = 0:=by omega
  subst hb
  rw [e0]
  (repeat first|simp(disch:=solve|omega|assumption|repeat(first|exact A1|exact uH|apply A2|apply uT)|simp|(simp;omega)|fail)[hlt,e1,h1,hnz,U7]|with_reducible first|apply A3|refine A5 fun _=>?_|refine A4 fun _=>?_)
  refine B4P hJ hE stJ hy hJi (by simpa [P7] using hlt) (hwi _) (fun w3 h=> ?_) (fun w3 h=> ?_)
  ·(repeat first|simp(disch:=solve|omega|assumption|repeat(first|exact A1|exact uH|apply A2|apply uT)|simp|(simp;omega)|fail)[]|with_reducible first|apply A3|refine A5 fun _=>?_|refine A4 fun _=>?_)
   exact fun w' hw' => hL hlt w' (stJ _ _ _ _ _ h hw')
  ·(repeat first|simp(disch:=solve|omega|assumption|repeat(first|exact A1|exact uH|apply A2|apply uT)|simp|(simp;omega)|fail)[]|with_reducible first|apply A3|refine A5 fun _=>?_|refine A4 fun _=>?_)
   exact A99 stE h
 ·obtain rfl : i = l.length:=by omega
  (repeat first|simp(disch:=solve|omega|assumption|repeat(first|exact A1|exact uH|apply A2|apply uT)|simp|(simp;omega)|fail)[]|with_reducible first|apply A3|refine A5 fun _=>?_|refine A4 fun _=>?_)
  exact B0T stJ (by simpa [P7] using hJi)
def M5 (key : ByteArray) : List (Nat × EnV) → Int
 | []=> -1
 | p :: r=> if p.2.st = 0 then -1 else if p.2.st = 1 ∧ p.2.key = key then p.1 else M5 key r
def E4 (l : List EnV) (key : ByteArray) : Int:=M5 key (P7 l key)
theorem C3W {α : Type} {l : List α} {i : Nat} (h : i < l.length) : l.drop i = l[i] :: l.drop (i + 1):=List.drop_eq_getElem_cons h
theorem B5u (L : List (Nat × EnV)) : ∀ x ∈ L.map B1y,x.length = 2:=by
 intro x hx; obtain ⟨p,_,rfl⟩:=List.mem_map.1 hx; rfl
theorem A3M (w : World) (v : Value) (l : List EnV) (key : ByteArray) (hk : key.size < 2 ^ 60) (hn : l.length ≤ 1000000) (hv : F5 w v l.length (l.flatMap F1)) :
  Fn PR B8 133 #[v,.string key] w (fun r w' => r = .int .i64 (E4 l key) ∧ C7 [] w w'):=by
 refine Fn.pure (B9a (TW.go (κ:=false) (S := []) ?_))
 unfold B2L
 (repeat first|simp(disch:=solve|omega|assumption|repeat(first|exact A1|exact uH|apply A2|apply uT)|simp|(simp;omega)|fail)[]|with_reducible first|apply A3|refine A5 fun _=>?_|refine A4 fun _=>?_)
 rename_i bk bf
 refine H0 B13 (fun w' _=> C6z w' v key (by obtain ⟨a,c,rfl,_⟩:=hv.form; exact ⟨a,_,c,rfl⟩)) ?_
 rintro x u rfl
 refine A8Q (C69 x v l key hk hn) (B5u _) (fun i (_ : Unit)=> M5 key ((P7 l key).drop i) = E4 l key) (fun _ _=> [.pt bf (.cells #[.int .i64 (-1)] 3),.pt bk (.cells #[.string key] 9)])
  (fun c (y : Unit)=> c = .exit 0) (fun y=> [.pt bf (.cells #[.int .i64 (E4 l key)] 3)]) () rfl ?_ ?_ ?_ ?_ (by simp [C1W])
 ·intro i _ F w1 _ hw
  exact RqS.of hv (fun h=> by rw [A6C]; omega) hw
 ·rintro i hi _ F hψ K' hK hE
  have hi' : i < (P7 l key).length:=by simpa using hi
  rw [C3W hi'] at hψ
  simp only [List.getElem_map]
  generalize (P7 l key)[i] = p at *
  simp only [B1y,VF.app]
  by_cases c0 : p.2.st = 0
  ·(repeat first|simp(disch:=solve|omega|assumption|repeat(first|exact A1|exact uH|apply A2|apply uT)|simp|(simp;omega)|fail)[c0]|with_reducible first|apply A3|refine A5 fun _=>?_|refine A4 fun _=>?_)
   refine TW.sub (hE (.exit 0) () rfl) ?_
   rw [← hψ]
   simp only [M5,c0,if_true]
   ((try simp only [List.cons_append,List.nil_append,List.append_assoc]); (repeat (first | exact List.Sublist.refl _ | exact List.nil_sublist _ | with_reducible apply List.Sublist.cons_cons | apply List.Sublist.cons)); first | done | fail)
  by_cases c1 : p.2.st = 1
  ·by_cases c2 : p.2.key = key
   ·(repeat first|simp(disch:=solve|omega|assumption|repeat(first|exact A1|exact uH|apply A2|apply uT)|simp|(simp;omega)|fail)[c0,c1,c2]|with_reducible first|apply A3|refine A5 fun _=>?_|refine A4 fun _=>?_)
    refine TW.sub (hE (.exit 0) () rfl) ?_
    rw [← hψ]
    simp [M5,c1,c2]
    ((try simp only [List.cons_append,List.nil_append,List.append_assoc]); (repeat (first | exact List.Sublist.refl _ | exact List.nil_sublist _ | with_reducible apply List.Sublist.cons_cons | apply List.Sublist.cons)); first | done | fail)
   ·(repeat first|simp(disch:=solve|omega|assumption|repeat(first|exact A1|exact uH|apply A2|apply uT)|simp|(simp;omega)|fail)[c0,c1,c2]|with_reducible first|apply A3|refine A5 fun _=>?_|refine A4 fun _=>?_)
    refine TW.sub (hK () ?_) (by ((try simp only [List.cons_append,List.nil_append,List.append_assoc]); (repeat (first | exact List.Sublist.refl _ | exact List.nil_sublist _ | with_reducible apply List.Sublist.cons_cons | apply List.Sublist.cons)); first | done | fail))
    rw [← hψ]
    simp [M5,c1,c2]
  ·(repeat first|simp(disch:=solve|omega|assumption|repeat(first|exact A1|exact uH|apply A2|apply uT)|simp|(simp;omega)|fail)[c0,c1]|with_reducible first|apply A3|refine A5 fun _=>?_|refine A4 fun _=>?_)
   refine TW.sub (hK () ?_) (by ((try simp only [List.cons_append,List.nil_append,List.append_assoc]); (repeat (first | exact List.Sublist.refl _ | exact List.nil_sublist _ | with_reducible apply List.Sublist.cons_cons | apply List.Sublist.cons)); first | done | fail))
   rw [← hψ]
   simp [M5,c0,c1]
 ·intro _ hψ
  (repeat first|simp(disch:=solve|omega|assumption|repeat(first|exact A1|exact uH|apply A2|apply uT)|simp|(simp;omega)|fail)[]|with_reducible first|apply A3|refine A5 fun _=>?_|refine A4 fun _=>?_)
  simp only [List.length_map,List.drop_length,M5] at hψ
  exact A9 (by rw [← hψ])
 ·rintro _ _ rfl
  (repeat first|simp(disch:=solve|omega|assumption|repeat(first|exact A1|exact uH|apply A2|apply uT)|simp|(simp;omega)|fail)[]|with_reducible first|apply A3|refine A5 fun _=>?_|refine A4 fun _=>?_)
  exact A9 rfl
def Q4 : List (Nat × EnV) → Int
 | []=> -1
 | p :: r=> if p.2.st = 1 then Q4 r else p.1
def V5 (l : List EnV) (key : ByteArray) : Int:=if 0 ≤ E4 l key then -1 else Q4 (P7 l key)
theorem C01 (w : World) (v : Value) (l : List EnV) (key : ByteArray) (hk : key.size < 2 ^ 60) (hn : l.length ≤ 1000000) (hv : F5 w v l.length (l.flatMap F1)) :
  Fn PR B8 242 #[v,.string key] w (fun r w' => r = .int .i64 (V5 l key) ∧ C7 [] w w'):=by
 refine Fn.pure (B9E (TW.go (κ:=false) (S := []) ?_))
 unfold B2P
 (repeat first|simp(disch:=solve|omega|assumption|repeat(first|exact A1|exact uH|apply A2|apply uT)|simp|(simp;omega)|fail)[]|with_reducible first|apply A3|refine A5 fun _=>?_|refine A4 fun _=>?_)
 rename_i bf
 refine B7 A03 (fun w' hw' => A3M w' v l key hk hn (hv.ks hw'.ks (by simp))) ?_
 by_cases c1 : 0 ≤ E4 l key
 ·(repeat first|simp(disch:=solve|omega|assumption|repeat(first|exact A1|exact uH|apply A2|apply uT)|simp|(simp;omega)|fail)[c1]|with_reducible first|apply A3|refine A5 fun _=>?_|refine A4 fun _=>?_)
  exact A9 (by simp [V5,c1])
 have e1 : V5 l key = Q4 (P7 l key):=if_neg c1
 (repeat first|simp(disch:=solve|omega|assumption|repeat(first|exact A1|exact uH|apply A2|apply uT)|simp|(simp;omega)|fail)[c1]|with_reducible first|apply A3|refine A5 fun _=>?_|refine A4 fun _=>?_)
 refine H0 B13 (fun w' _=> C6z w' v key (by obtain ⟨a,c,rfl,_⟩:=hv.form; exact ⟨a,_,c,rfl⟩)) ?_
 rintro x u rfl
 refine A8Q (C69 x v l key hk hn) (B5u _) (fun i (_ : Unit)=> Q4 ((P7 l key).drop i) = V5 l key) (fun _ _=> [.pt bf (.cells #[.int .i64 0] 3)])
  (fun c (y : Unit)=> c = .ret) (fun y=> [.pt bf (.cells #[.int .i64 (V5 l key)] 3)]) () (by rw [List.drop_zero,e1]) ?_ ?_ ?_ ?_ (by simp [C1W])
 ·intro i _ F w1 _ hw
  exact RqS.of hv (fun h=> by rw [A6C]; omega) hw
 ·rintro i hi _ F hψ K' hK hE
  have hi' : i < (P7 l key).length:=by simpa using hi
  rw [C3W hi'] at hψ
  simp only [List.getElem_map]
  generalize (P7 l key)[i] = p at *
  simp only [B1y,VF.app]
  by_cases c1 : p.2.st = 1
  ·(repeat first|simp(disch:=solve|omega|assumption|repeat(first|exact A1|exact uH|apply A2|apply uT)|simp|(simp;omega)|fail)[c1]|with_reducible first|apply A3|refine A5 fun _=>?_|refine A4 fun _=>?_)
   refine TW.sub (hK () ?_) (by ((try simp only [List.cons_append,List.nil_append,List.append_assoc]); (repeat (first | exact List.Sublist.refl _ | exact List.nil_sublist _ | with_reducible apply List.Sublist.cons_cons | apply List.Sublist.cons)); first | done | fail))
   rw [← hψ]
   simp [Q4,c1]
  ·(repeat first|simp(disch:=solve|omega|assumption|repeat(first|exact A1|exact uH|apply A2|apply uT)|simp|(simp;omega)|fail)[c1]|with_reducible first|apply A3|refine A5 fun _=>?_|refine A4 fun _=>?_)
   refine TW.sub (hE .ret () rfl) ?_
   rw [← hψ]
   simp only [Q4,c1,if_false]
   ((try simp only [List.cons_append,List.nil_append,List.append_assoc]); (repeat (first | exact List.Sublist.refl _ | exact List.nil_sublist _ | with_reducible apply List.Sublist.cons_cons | apply List.Sublist.cons)); first | done | fail)
 ·intro _ hψ
  (repeat first|simp(disch:=solve|omega|assumption|repeat(first|exact A1|exact uH|apply A2|apply uT)|simp|(simp;omega)|fail)[]|with_reducible first|apply A3|refine A5 fun _=>?_|refine A4 fun _=>?_)
  simp only [List.length_map,List.drop_length,Q4] at hψ
  exact A9 (by rw [← hψ])
 ·rintro _ _ rfl
  (repeat first|simp(disch:=solve|omega|assumption|repeat(first|exact A1|exact uH|apply A2|apply uT)|simp|(simp;omega)|fail)[]|with_reducible first|apply A3|refine A5 fun _=>?_|refine A4 fun _=>?_)
  exact A9 rfl
theorem C4A (w : World) (x : EnV) (st : Int) (b : Nat) (hb : w.cell? ⟨b,0,none⟩ = some (.int .i64 st)) : Fn PR B8 241 #[.agg #[.int .i64 x.st,.string x.key,.int .i64 x.bk,.int .i64 x.dl],.pointer (some ⟨b,0,none⟩)] w (fun r w' => r = .bool (decide (x.st = st)) ∧ C7 [] w w'):=by
 refine Fn.pure (B40 (TW.go (κ:=false) (S := []) ?_))
 unfold A5Z
 (repeat first|simp(disch:=solve|omega|assumption|repeat(first|exact A1|exact uH|apply A2|apply uT)|simp|(simp;omega)|fail)[hb]|with_reducible first|apply A3|refine A5 fun _=>?_|refine A4 fun _=>?_)
 exact A9 rfl
def S2 (l : List EnV) (st : Int) : Nat:=l.countP fun x=> decide (x.st = st)
theorem B5D {α : Type} {p : α → Bool} {l : List α} {i : Nat} {x : α} (hx : l[i]? = some x) : (l.take (i + 1)).countP p = (l.take i).countP p + if p x then 1 else 0:=by
 rw [List.take_add_one,hx,List.countP_append]; simp [List.countP_cons]
theorem C8m (w : World) (v : Value) (l : List EnV) (p : EnV → Bool) (f : FuncId) (cap : List Value) (hn : l.length ≤ 1000000) (hv : F5 w v l.length (l.flatMap F1)) (he : B0 PR f)
  (hf : ∀ w', KS false [] w w' → ∀ x : EnV,Fn PR B8 f (.agg #[.int .i64 x.st,.string x.key,.int .i64 x.bk,.int .i64 x.dl] :: cap).toArray w' (fun r w'' => r = .bool (p x) ∧ C7 [] w' w'')) :
  Fn PR B8 240 #[v,.func (.func f) #[] cap.toArray] w (fun r w' => r = .int .i64 (l.countP p : Nat) ∧ C7 [] w w'):=by
 refine Fn.pure (A6l (TW.go (κ:=false) (S := []) ?_))
 unfold A0x
 obtain ⟨a,c,rfl,hr⟩:=hv.form
 (repeat first|simp(disch:=solve|omega|assumption|repeat(first|exact A1|exact uH|apply A2|apply uT)|simp|(simp;omega)|fail)[]|with_reducible first|apply A3|refine A5 fun _=>?_|refine A4 fun _=>?_)
 refine P5 (α:=Unit) l.length (fun i _=> .int .i64 ((l.take i).countP p : Nat)) (fun _ _=> []) (fun i _=> True) () trivial ?_
 rintro i _ hi _ L hL
 by_cases hlt : i < l.length
 ·obtain ⟨b,o,rfl,hrow⟩:=hr (by omega)
  obtain ⟨x,hx⟩ : ∃ x,l[i]? = some x:=⟨_,List.getElem?_eq_getElem (by omega)⟩
  have h1:=hrow.at (f:=F1) (k:=4) (fun _=> rfl) hx
  rw [F1] at h1
  (repeat first|simp(disch:=solve|omega|assumption|repeat(first|exact A1|exact uH|apply A2|apply uT)|simp|(simp;omega)|fail)[hlt,h1]|with_reducible first|apply A3|refine A5 fun _=>?_|refine A4 fun _=>?_)
  refine B8D he (φ:=fun r=> r = .bool (p x)) (fun w' hw' => by simpa using hf w' hw'.ks x) ?_
  rintro _ rfl
  have hc:=B5D (p:=p) hx
  have hle : (l.take i).countP p ≤ i:=Nat.le_trans List.countP_le_length (by simp; omega)
  have hL' := hL hlt () trivial
  rw [hc] at hL'
  cases hb : p x with
  | true=>
   rw [hb] at hL'
   (repeat first|simp(disch:=solve|omega|assumption|repeat(first|exact A1|exact uH|apply A2|apply uT)|simp|(simp;omega)|fail)[]|with_reducible first|apply A3|refine A5 fun _=>?_|refine A4 fun _=>?_)
   exact Sels.tw .nil (by simpa using hL')
  | false=>
   rw [hb] at hL'
   (repeat first|simp(disch:=solve|omega|assumption|repeat(first|exact A1|exact uH|apply A2|apply uT)|simp|(simp;omega)|fail)[]|with_reducible first|apply A3|refine A5 fun _=>?_|refine A4 fun _=>?_)
   exact Sels.tw .nil (by simpa using hL')
 ·obtain rfl : i = l.length:=by omega
  (repeat first|simp(disch:=solve|omega|assumption|repeat(first|exact A1|exact uH|apply A2|apply uT)|simp|(simp;omega)|fail)[]|with_reducible first|apply A3|refine A5 fun _=>?_|refine A4 fun _=>?_)
  exact A9 rfl
theorem C8F (w : World) (v : Value) (l : List EnV) (st : Int) (hn : l.length ≤ 1000000) (hv : F5 w v l.length (l.flatMap F1)) :
  Fn PR B8 186 #[v,.int .i64 st] w (fun r w' => r = .int .i64 (S2 l st : Nat) ∧ C7 [] w w'):=by
 refine Fn.pure (B7p (TW.go (κ:=false) (S := []) ?_))
 unfold B0P
 (repeat first|simp(disch:=solve|omega|assumption|repeat(first|exact A1|exact uH|apply A2|apply uT)|simp|(simp;omega)|fail)[]|with_reducible first|apply A3|refine A5 fun _=>?_|refine A4 fun _=>?_)
 rename_i b
 refine B7 A53 (fun w' hw' => C8m w' v l (fun x=> decide (x.st = st)) 241 [.pointer (some ⟨b,0,none⟩)] hn (hv.ks hw'.ks (by simp)) B23
  fun w2 h x=> C4A w2 x st b (h.cell (by simp) (hw'.cell1 (by (repeat constructor))))) ?_
 exact A9 rfl
end Go.Proofs.YtjobgnabneddjaaGreat
