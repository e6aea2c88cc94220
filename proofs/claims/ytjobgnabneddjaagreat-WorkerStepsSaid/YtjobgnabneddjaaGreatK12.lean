/- The proof of a given statement, a part of it. No condition but what each lemma says. -/
import Derived.Lib.SlBytesRow
import Derived.Test.YtjobgnabneddjaaGreatK11
set_option maxHeartbeats 4000000
set_option linter.unusedVariables false
set_option linter.unusedSimpArgs false
namespace Go.Proofs.YtjobgnabneddjaaGreat
open Go
structure KeyV where
 v:Int
 src:ByteArray
 dst:ByteArray
 fr:Int
 tp:Int
 proto:Int
 deriving DecidableEq
def KeyV.cs (k:KeyV):List Value := [.int .i64 k.v,.string k.src,.string k.dst,.int .i64 k.fr,.int .i64 k.tp,.int .i64 k.proto]
def KeyV.val (k:KeyV):Value:=.agg #[.int .i64 k.v,.string k.src,.string k.dst,.int .i64 k.fr,.int .i64 k.tp,.int .i64 k.proto]
def noK:KeyV:=⟨0,M6,M6,0,0,0⟩
def P1 (s:ByteArray):KeyV × ByteArray × Nat :=
 if s.size = 0 then (noK,M6,2) else if C9 s 0 / 16 = 4 then (⟨4,(S2 s).src,(S2 s).dst,0,0,(S2 s).proto⟩,(S2 s).rest,(S2 s).e)
 else if C9 s 0 / 16 = 6 then (⟨6,(T3 s).src,(T3 s).dst,0,0,(T3 s).proto⟩,(T3 s).rest,(T3 s).e) else (noK,M6,3)
def keyed.val (x:KeyV × ByteArray × Nat):Value:=.tuple #[x.1.val,.string x.2.1,.int .i64 x.2.2]
theorem C44 (w:World) (src dst:ByteArray) (p:Int):Fn PR B8 140 #[.agg #[.string src,.string dst,.int .i64 p]] w (fun v w' => v = KeyV.val ⟨4,src,dst,0,0,p⟩ ∧ C7 [] w w'):=by
 refine Fn.pure (B33 (TW.go (κ:=false) (S := []) ?_))
 unfold A49
 (have z:=trivial;repeat((first|clear z|with_reducible first|apply A3|refine A4 fun _=>?_|refine A5 fun _=>?_);try simp(disch:=solve|omega|assumption|repeat(first|exact A1|exact uH|apply A2|apply uT)|(simp;try omega)|fail)[]))
 exact A9 rfl
theorem C3q (w:World) (src dst:ByteArray) (p:Int):Fn PR B8 143 #[.agg #[.string src,.string dst,.int .i64 p]] w (fun v w' => v = KeyV.val ⟨6,src,dst,0,0,p⟩ ∧ C7 [] w w'):=by
 refine Fn.pure (B3e (TW.go (κ:=false) (S := []) ?_))
 unfold A5K
 (have z:=trivial;repeat((first|clear z|with_reducible first|apply A3|refine A4 fun _=>?_|refine A5 fun _=>?_);try simp(disch:=solve|omega|assumption|repeat(first|exact A1|exact uH|apply A2|apply uT)|(simp;try omega)|fail)[]))
 exact A9 rfl
theorem C8q (w:World) (s:ByteArray) (hs:s.size < 2 ^ 63):Fn PR B8 138 #[.string s,.func (.func 139) #[] #[],.func (.func 140) #[] #[]] w
  (fun v w' => v = keyed.val (⟨4,(S2 s).src,(S2 s).dst,0,0,(S2 s).proto⟩,(S2 s).rest,(S2 s).e) ∧ C7 [] w w'):=by
 refine Fn.pure (A7N (TW.go (κ:=false) (S := []) ?_))
 unfold A1T
 (have z:=trivial;repeat((first|clear z|with_reducible first|apply A3|refine A4 fun _=>?_|refine A5 fun _=>?_);try simp(disch:=solve|omega|assumption|repeat(first|exact A1|exact uH|apply A2|apply uT)|(simp;try omega)|fail)[]))
 refine B7 B9n (fun w' _=> C2e w' s hs) ?_
 (have z:=trivial;repeat((first|clear z|with_reducible first|apply A3|refine A4 fun _=>?_|refine A5 fun _=>?_);try simp(disch:=solve|omega|assumption|repeat(first|exact A1|exact uH|apply A2|apply uT)|(simp;try omega)|fail)[HeadV.val]))
 refine B7 B2k (fun w' _=> C44 w' _ _ _) ?_
 (have z:=trivial;repeat((first|clear z|with_reducible first|apply A3|refine A4 fun _=>?_|refine A5 fun _=>?_);try simp(disch:=solve|omega|assumption|repeat(first|exact A1|exact uH|apply A2|apply uT)|(simp;try omega)|fail)[KeyV.val]))
 exact A9 (by simp [keyed.val,KeyV.val])
theorem C9T (w:World) (s:ByteArray) (hs:s.size < 2 ^ 63):Fn PR B8 141 #[.string s,.func (.func 142) #[] #[],.func (.func 143) #[] #[]] w
  (fun v w' => v = keyed.val (⟨6,(T3 s).src,(T3 s).dst,0,0,(T3 s).proto⟩,(T3 s).rest,(T3 s).e) ∧ C7 [] w w'):=by
 refine Fn.pure (A7T (TW.go (κ:=false) (S := []) ?_))
 unfold A1G
 (have z:=trivial;repeat((first|clear z|with_reducible first|apply A3|refine A4 fun _=>?_|refine A5 fun _=>?_);try simp(disch:=solve|omega|assumption|repeat(first|exact A1|exact uH|apply A2|apply uT)|(simp;try omega)|fail)[]))
 refine B7 B9Z (fun w' _=> C2B w' s hs) ?_
 (have z:=trivial;repeat((first|clear z|with_reducible first|apply A3|refine A4 fun _=>?_|refine A5 fun _=>?_);try simp(disch:=solve|omega|assumption|repeat(first|exact A1|exact uH|apply A2|apply uT)|(simp;try omega)|fail)[HeadV.val]))
 refine B7 B2j (fun w' _=> C3q w' _ _ _) ?_
 (have z:=trivial;repeat((first|clear z|with_reducible first|apply A3|refine A4 fun _=>?_|refine A5 fun _=>?_);try simp(disch:=solve|omega|assumption|repeat(first|exact A1|exact uH|apply A2|apply uT)|(simp;try omega)|fail)[KeyV.val]))
 exact A9 (by simp [keyed.val,KeyV.val])
theorem D1K (w:World) (v:Int):Fn PR B8 228 #[.int .i64 v] w (fun u w' => u = .int .i64 (if v = 4 then 4 else if v = 6 then 16 else 0) ∧ C7 [] w w'):=by
 refine Fn.pure (B7s (TW.go (κ:=false) (S := []) ?_))
 unfold B0H
 by_cases c1:v = 4
 ·(have z:=trivial;repeat((first|clear z|with_reducible first|apply A3|refine A4 fun _=>?_|refine A5 fun _=>?_);try simp(disch:=solve|omega|assumption|repeat(first|exact A1|exact uH|apply A2|apply uT)|(simp;try omega)|fail)[c1])); exact A9 (by simp)
 by_cases c2:v = 6
 ·(have z:=trivial;repeat((first|clear z|with_reducible first|apply A3|refine A4 fun _=>?_|refine A5 fun _=>?_);try simp(disch:=solve|omega|assumption|repeat(first|exact A1|exact uH|apply A2|apply uT)|(simp;try omega)|fail)[c1,c2])); exact A9 (by simp)
 ·(have z:=trivial;repeat((first|clear z|with_reducible first|apply A3|refine A4 fun _=>?_|refine A5 fun _=>?_);try simp(disch:=solve|omega|assumption|repeat(first|exact A1|exact uH|apply A2|apply uT)|(simp;try omega)|fail)[c1,c2])); exact A9 (by simp)
theorem C83 (w:World) (s:ByteArray) (hs:s.size < 2 ^ 63):Fn PR B8 86 #[.string s] w (fun u w' => u = keyed.val (P1 s) ∧ C7 [] w w'):=by
 refine Fn.pure (B7G (TW.go (κ:=false) (S := []) ?_))
 unfold A8f
 by_cases c0:s.size = 0
 ·have e:s = ByteArray.mk #[]:=by
   apply ByteArray.ext; exact Array.eq_empty_of_size_eq_zero c0
  (have z:=trivial;repeat((first|clear z|with_reducible first|apply A3|refine A4 fun _=>?_|refine A5 fun _=>?_);try simp(disch:=solve|omega|assumption|repeat(first|exact A1|exact uH|apply A2|apply uT)|(simp;try omega)|fail)[e]))
  exact A9 (by simp [P1,keyed.val,noK,KeyV.val])
 have c0':¬ s = ByteArray.mk #[]:=fun e=> c0 (by rw [e]; rfl)
 obtain ⟨by0,hb0,hb1⟩:=x9 (s:=s) (i:=0) (by omega)
 have hb0':s[(0:Int).toNat]? = some by0:=hb0
 have hl0:=P6 s 0
 have e1:((by0.toNat:Nat):Int).fdiv (2 ^ min 4 IntKind.u8.bits) = (C9 s 0 / 16:Nat):=by rw [show (2:Int) ^ min 4 IntKind.u8.bits = 16 from rfl,Int.fdiv_eq_ediv_of_nonneg _ (by omega),hb1]; omega
 by_cases c1:C9 s 0 / 16 = 4
 ·have c1':((C9 s 0:Nat):Int) / 16 = 4:=by omega
  (have z:=trivial;repeat((first|clear z|with_reducible first|apply A3|refine A4 fun _=>?_|refine A5 fun _=>?_);try simp(disch:=solve|omega|assumption|repeat(first|exact A1|exact uH|apply A2|apply uT)|(simp;try omega)|fail)[c0',c8]))
  rw [e1]
  (have z:=trivial;repeat((first|clear z|with_reducible first|apply A3|refine A4 fun _=>?_|refine A5 fun _=>?_);try simp(disch:=solve|omega|assumption|repeat(first|exact A1|exact uH|apply A2|apply uT)|(simp;try omega)|fail)[c1',c1]))
  refine B7 A6V (fun w' _=> C8q w' s hs) ?_
  (have z:=trivial;repeat((first|clear z|with_reducible first|apply A3|refine A4 fun _=>?_|refine A5 fun _=>?_);try simp(disch:=solve|omega|assumption|repeat(first|exact A1|exact uH|apply A2|apply uT)|(simp;try omega)|fail)[keyed.val,KeyV.val]))
  exact A9 (by simp [P1,keyed.val,KeyV.val,c0,c1])
 have c1':¬ ((C9 s 0:Nat):Int) / 16 = 4:=by omega
 by_cases c2:C9 s 0 / 16 = 6
 ·have c2':((C9 s 0:Nat):Int) / 16 = 6:=by omega
  (have z:=trivial;repeat((first|clear z|with_reducible first|apply A3|refine A4 fun _=>?_|refine A5 fun _=>?_);try simp(disch:=solve|omega|assumption|repeat(first|exact A1|exact uH|apply A2|apply uT)|(simp;try omega)|fail)[c0',c8]))
  rw [e1]
  (have z:=trivial;repeat((first|clear z|with_reducible first|apply A3|refine A4 fun _=>?_|refine A5 fun _=>?_);try simp(disch:=solve|omega|assumption|repeat(first|exact A1|exact uH|apply A2|apply uT)|(simp;try omega)|fail)[c1',c1,c2',c2,c8]))
  refine B7 A6W (fun w' _=> C9T w' s hs) ?_
  (have z:=trivial;repeat((first|clear z|with_reducible first|apply A3|refine A4 fun _=>?_|refine A5 fun _=>?_);try simp(disch:=solve|omega|assumption|repeat(first|exact A1|exact uH|apply A2|apply uT)|(simp;try omega)|fail)[keyed.val,KeyV.val]))
  exact A9 (by simp [P1,keyed.val,KeyV.val,c0,c1,c2])
 have c2':¬ ((C9 s 0:Nat):Int) / 16 = 6:=by omega
 (have z:=trivial;repeat((first|clear z|with_reducible first|apply A3|refine A4 fun _=>?_|refine A5 fun _=>?_);try simp(disch:=solve|omega|assumption|repeat(first|exact A1|exact uH|apply A2|apply uT)|(simp;try omega)|fail)[c0',c8]))
 rw [e1]
 (have z:=trivial;repeat((first|clear z|with_reducible first|apply A3|refine A4 fun _=>?_|refine A5 fun _=>?_);try simp(disch:=solve|omega|assumption|repeat(first|exact A1|exact uH|apply A2|apply uT)|(simp;try omega)|fail)[c1',c1,c2',c2,c8]))
 exact A9 (by simp [P1,keyed.val,KeyV.val,c0,c1,c2,noK])
def D1 (s:ByteArray):KeyV × Nat × Nat :=
 let x:=P1 s
 if x.2.2 ≠ 0 then (noK,0,x.2.2) else let y:=M7 x.1.proto x.2.1; if y.2.2.2 ≠ 0 then (noK,0,y.2.2.2) else ({ x.1 with fr:=y.1,tp:=y.2.1 },y.2.2.1,0)
def T9 (k:KeyV) (f:Int):Value:=.agg #[.int .i64 k.v,.string k.src,.string k.dst,.int .i64 k.fr,.int .i64 k.tp,.int .i64 k.proto,.int .i64 f]
def packet.val (x:KeyV × Nat × Nat):Value:=.tuple #[T9 x.1 x.2.1,.int .i64 x.2.2]
theorem C6U (s:ByteArray):(S2 s).rest.size ≤ s.size:=by
 unfold S2; split
 ·simp only [ByteArray.size_extract]; omega
 ·simp [HeadV.err]
theorem C6M (s:ByteArray):(T3 s).rest.size ≤ s.size:=by
 unfold T3; split
 ·simp only [ByteArray.size_extract]; omega
 ·simp [HeadV.err]
theorem C2m (s:ByteArray):(P1 s).2.1.size ≤ s.size:=by
 unfold P1
 split
 ·simp
 split
 ·exact C6U s
 split
 ·exact C6M s
 ·simp
theorem C3j (s:ByteArray):(P1 s).2.1.size ≤ 65535:=by
 have h1:(S2 s).rest.size ≤ 65535:=by
  have:=l4 s 2
  unfold S2; split
  ·simp only [ByteArray.size_extract]; omega
  ·simp [HeadV.err]
 have h2:(T3 s).rest.size ≤ 65535:=by
  have:=l4 s 4
  unfold T3; split
  ·simp only [ByteArray.size_extract]; omega
  ·simp [HeadV.err]
 unfold P1
 split
 ·simp
 split
 ·exact h1
 split
 ·exact h2
 ·simp
theorem B7K (w:World) (s:ByteArray) (hs:s.size < 2 ^ 63):Fn PR B8 21 #[.string s] w (fun u w' => u = packet.val (D1 s) ∧ C7 [] w w'):=by
 refine Fn.pure (B7L (TW.go (κ:=false) (S := []) ?_))
 unfold A79
 (have z:=trivial;repeat((first|clear z|with_reducible first|apply A3|refine A4 fun _=>?_|refine A5 fun _=>?_);try simp(disch:=solve|omega|assumption|repeat(first|exact A1|exact uH|apply A2|apply uT)|(simp;try omega)|fail)[]))
 refine B7 B5j (fun w' _=> C83 w' s hs) ?_
 have hr:=C3j s
 by_cases c1:(P1 s).2.2 = 0
 ·(have z:=trivial;repeat((first|clear z|with_reducible first|apply A3|refine A4 fun _=>?_|refine A5 fun _=>?_);try simp(disch:=solve|omega|assumption|repeat(first|exact A1|exact uH|apply A2|apply uT)|(simp;try omega)|fail)[keyed.val,KeyV.val,c1]))
  refine B7 B8N (fun w' _=> C1a w' _ (by omega) _) ?_
  by_cases c2:(M7 (P1 s).1.proto (P1 s).2.1).2.2.2 = 0
  ·(have z:=trivial;repeat((first|clear z|with_reducible first|apply A3|refine A4 fun _=>?_|refine A5 fun _=>?_);try simp(disch:=solve|omega|assumption|repeat(first|exact A1|exact uH|apply A2|apply uT)|(simp;try omega)|fail)[M7.val,c2]))
   exact A9 (by simp [D1,packet.val,T9,KeyV.val,c1,c2])
  ·(have z:=trivial;repeat((first|clear z|with_reducible first|apply A3|refine A4 fun _=>?_|refine A5 fun _=>?_);try simp(disch:=solve|omega|assumption|repeat(first|exact A1|exact uH|apply A2|apply uT)|(simp;try omega)|fail)[M7.val,c2]))
   exact A9 (by simp [D1,packet.val,T9,KeyV.val,c1,c2,noK])
 ·(have z:=trivial;repeat((first|clear z|with_reducible first|apply A3|refine A4 fun _=>?_|refine A5 fun _=>?_);try simp(disch:=solve|omega|assumption|repeat(first|exact A1|exact uH|apply A2|apply uT)|(simp;try omega)|fail)[keyed.val,KeyV.val,c1]))
  exact A9 (by simp [D1,packet.val,T9,KeyV.val,c1,noK])
theorem B8P (w:World) (s:ByteArray) (hs:s.size < 2 ^ 40):Fn PR B8 21 #[.string s] w (fun u w' => u = packet.val (D1 s) ∧ C7 [] w w'):=B7K w s (by omega)
def A0N (k:KeyV) (f:Int):ByteArray × Nat :=
 if k.v ≠ 4 ∧ k.v ≠ 6 then (M6,3) else let s:=Z5 k.proto k.fr k.tp f; if s.2 ≠ 0 then (M6,s.2) else if k.v = 6 then B1A k.src k.dst s.1 k.proto else B1l k.src k.dst s.1 k.proto
theorem C4M (number x y f:Int):(Z5 number x y f).1.size ≤ 1000:=by
 have h6:=V4 6
 have h8:=V4 8
 unfold Z5 A44 A6z A88
 repeat' split
 all_goals simp [h6,h8]
theorem C1C (w:World) (k:KeyV) (f:Int):Fn PR B8 64 #[T9 k f] w (fun u w' => u = .tuple #[.string (A0N k f).1,.int .i64 (A0N k f).2] ∧ C7 [] w w'):=by
 refine Fn.pure (B9Q (TW.go (κ:=false) (S := []) ?_))
 unfold B13
 have hz:=C4M k.proto k.fr k.tp f
 by_cases c0:k.v = 4
 ·(have z:=trivial;repeat((first|clear z|with_reducible first|apply A3|refine A4 fun _=>?_|refine A5 fun _=>?_);try simp(disch:=solve|omega|assumption|repeat(first|exact A1|exact uH|apply A2|apply uT)|(simp;try omega)|fail)[T9,KeyV.val,c0]))
  refine B7 A6Y (fun w' _=> B01 w' _ _ _ _) ?_
  by_cases c1:(Z5 k.proto k.fr k.tp f).2 = 0
  ·(have z:=trivial;repeat((first|clear z|with_reducible first|apply A3|refine A4 fun _=>?_|refine A5 fun _=>?_);try simp(disch:=solve|omega|assumption|repeat(first|exact A1|exact uH|apply A2|apply uT)|(simp;try omega)|fail)[c1,c0]))
   refine B7 C2b (fun w' _=> C5a w' _ _ _ _ (by omega)) ?_
   (have z:=trivial;repeat((first|clear z|with_reducible first|apply A3|refine A4 fun _=>?_|refine A5 fun _=>?_);try simp(disch:=solve|omega|assumption|repeat(first|exact A1|exact uH|apply A2|apply uT)|(simp;try omega)|fail)[]))
   exact A9 (by simp [A0N,c0,c1])
  ·(have z:=trivial;repeat((first|clear z|with_reducible first|apply A3|refine A4 fun _=>?_|refine A5 fun _=>?_);try simp(disch:=solve|omega|assumption|repeat(first|exact A1|exact uH|apply A2|apply uT)|(simp;try omega)|fail)[c1,c0]))
   exact A9 (by simp [A0N,c0,c1])
 by_cases c6:k.v = 6
 ·(have z:=trivial;repeat((first|clear z|with_reducible first|apply A3|refine A4 fun _=>?_|refine A5 fun _=>?_);try simp(disch:=solve|omega|assumption|repeat(first|exact A1|exact uH|apply A2|apply uT)|(simp;try omega)|fail)[T9,KeyV.val,c6]))
  refine B7 A6Y (fun w' _=> B01 w' _ _ _ _) ?_
  by_cases c1:(Z5 k.proto k.fr k.tp f).2 = 0
  ·(have z:=trivial;repeat((first|clear z|with_reducible first|apply A3|refine A4 fun _=>?_|refine A5 fun _=>?_);try simp(disch:=solve|omega|assumption|repeat(first|exact A1|exact uH|apply A2|apply uT)|(simp;try omega)|fail)[c1,c6]))
   refine B7 C2a (fun w' _=> C52 w' _ _ _ _ (by omega)) ?_
   (have z:=trivial;repeat((first|clear z|with_reducible first|apply A3|refine A4 fun _=>?_|refine A5 fun _=>?_);try simp(disch:=solve|omega|assumption|repeat(first|exact A1|exact uH|apply A2|apply uT)|(simp;try omega)|fail)[]))
   exact A9 (by simp [A0N,c6,c1])
  ·(have z:=trivial;repeat((first|clear z|with_reducible first|apply A3|refine A4 fun _=>?_|refine A5 fun _=>?_);try simp(disch:=solve|omega|assumption|repeat(first|exact A1|exact uH|apply A2|apply uT)|(simp;try omega)|fail)[c1,c6]))
   exact A9 (by simp [A0N,c6,c1])
 ·(have z:=trivial;repeat((first|clear z|with_reducible first|apply A3|refine A4 fun _=>?_|refine A5 fun _=>?_);try simp(disch:=solve|omega|assumption|repeat(first|exact A1|exact uH|apply A2|apply uT)|(simp;try omega)|fail)[T9,KeyV.val,c0,c6]))
  exact A9 (by simp [A0N,c0,c6])
def x8 (k:KeyV) (f:Int):Bool:=decide (k.proto = 6) && !decide (IntKind.i64.wrap ((f % 2 ^ IntKind.i64.bits).toNat &&& 5 % 2 ^ IntKind.i64.bits:Nat) = 0)
theorem C4V (w:World) (k:KeyV) (f:Int):Fn PR B8 58 #[T9 k f] w (fun u w' => u = .bool (x8 k f) ∧ C7 [] w w'):=by
 refine Fn.pure (B4y (TW.go (κ:=false) (S := []) ?_))
 unfold A5g
 by_cases c0:k.proto = 6
 ·(have z:=trivial;repeat((first|clear z|with_reducible first|apply A3|refine A4 fun _=>?_|refine A5 fun _=>?_);try simp(disch:=solve|omega|assumption|repeat(first|exact A1|exact uH|apply A2|apply uT)|(simp;try omega)|fail)[T9,KeyV.val,c0]))
  exact A9 (by simp [x8,c0])
 ·(have z:=trivial;repeat((first|clear z|with_reducible first|apply A3|refine A4 fun _=>?_|refine A5 fun _=>?_);try simp(disch:=solve|omega|assumption|repeat(first|exact A1|exact uH|apply A2|apply uT)|(simp;try omega)|fail)[T9,KeyV.val,c0]))
  exact A9 (by simp [x8,c0])
section
variable {κ:Bool} {X:Nat → Prop} {S:List Nat} {w0:World} {H H':List Res} {K:Value → WP}
theorem C7Y {P:Program} {g:Sem Value} {u:Value} {b:Nat} {c c':Array Value} {T:TypeId} (hrun:∀ w,bl w b = some (.cells c T (0,0)) → g.run P w = .ok u (World.putb w b (.cells c' T (0,0))))
  (hu:Up (.pt b (.cells c T (0,0))) (.pt b (.cells c' T (0,0))) H H') (hK:TW κ S w0 H' (K u)):TW κ S w0 H (B5 P X g K):=fun w hw=> by
 have hm:Res.pt b (.cells c T (0,0)) ∈ H:=by obtain ⟨A,B,rfl,_⟩:=hu.parts; simp
 have hb:=hw.pt hm
 rw [d6 (hrun w hb) (Sk.putb X hb)]
 refine hK _ (hw.up hu ⟨KS.putb hb (by simp [Res.foot]),?_,?_,by simp⟩)
 ·simp only [List.mem_singleton,forall_eq,Res.holds]; exact ⟨W4 (M2 hb),rfl⟩
 ·simp only [List.mem_singleton,forall_eq,Res.foot]; exact ⟨Or.inl (by simp),by have:=M2 hb; simpa using this⟩
theorem C21 (w:World):(underlying 301).run PR w = .ok (.slice 5) w:=A5s.run_und
theorem D3w (w:World):(underlying 355).run PR w = .ok (.array 38 5) w:=C4W.run_und
def a7 (s:ByteArray) (o:Nat) (t:ByteArray):ByteArray:=s.extract 0 o ++ t ++ s.extract (o + t.size) s.size
theorem B3x {s t:ByteArray} {o:Nat} (h:o + t.size ≤ s.size):(a7 s o t).size = s.size:=by simp [a7]; omega
theorem B8q (s t:ByteArray) (o:Nat) (h:o + t.size ≤ s.size):E7 (G8 s).toArray o (G8 t) = (G8 (a7 s o t)).toArray:=by
 apply Array.toList_inj.1
 rw [A3p _ _ _ (by simpa using h)]
 simp [G8,a7,List.map_take,List.map_drop]
 rw [List.take_of_length_le (by simp)]
theorem B7w {b o n c:Nat} {s t:ByteArray} {T:TypeId} (hu:Up (.pt b (.cells (G8 s).toArray T)) (.pt b (.cells (G8 (a7 s o t)).toArray T)) H H') (hn:t.size ≤ n) (hs:o + t.size ≤ s.size)
  (hK:TW κ S w0 H' (K (.int .i64 t.size))):TW κ S w0 H (B5 PR X (A8 .copy #[301,9] 3 [.slice (some ⟨b,o,none⟩) n c,.string t]) K):=by
 refine C7Y (u:=.int .i64 t.size) (fun w hb=> ?_) hu hK
 have hst:=w7 (P:=PR) (o0:=o) (G8 t) 0 w (G8 s).toArray hb (by simpa using hs) (A9j t)
 rw [Nat.add_zero,B8q s t o hs] at hst
 have hl:Nat.min t.size n = t.size:=Nat.min_eq_left hn
 have htk:List.take t.size (List.map (fun b:UInt8=> Value.int IntKind.u8 (b.toNat:Int)) t.data.toList) = G8 t:=by
  rw [List.take_of_length_le (by simp)]; rfl
 show (Builtin.copy_ #[301,9] 3 #[.slice (some ⟨b,o,none⟩) n c,.string t]).run PR w = _
 simp [Builtin.copy_,C21,ty5.run_size,Builtin.lenOf,Builtin.firstCells,hl]
 rw [htk,hst]
 simp [goInt,Result.andThen]
def z38:ByteArray:=T1 z1 38
theorem B1G:z38.size = 38:=V4 38
theorem C5k:(Builtin.zeroCells (Value.int .u8 0).cells 38).toList = G8 z38:=by kernel_rfl
theorem D1W:(G8 z38).toArray = #[.int .u8 0,.int .u8 0,.int .u8 0,.int .u8 0,.int .u8 0,.int .u8 0,.int .u8 0,.int .u8 0,.int .u8 0,.int .u8 0,.int .u8 0,.int .u8 0,.int .u8 0,.int .u8 0,.int .u8 0,.int .u8 0,.int .u8 0,.int .u8 0,.int .u8 0,.int .u8 0,.int .u8 0,.int .u8 0,.int .u8 0,.int .u8 0,.int .u8 0,.int .u8 0,.int .u8 0,.int .u8 0,.int .u8 0,.int .u8 0,.int .u8 0,.int .u8 0,.int .u8 0,.int .u8 0,.int .u8 0,.int .u8 0,.int .u8 0,.int .u8 0]:=by kernel_rfl
theorem C7M {b:Nat} {s:ByteArray} {T:TypeId} (hs:s.size = 38) (hu:Up (.pt b (.cells (G8 s).toArray T)) (.pt b (.cells (G8 z38).toArray T)) H H')
  (hK:TW κ S w0 H' (K (.tuple #[]))):TW κ S w0 H (B5 PR X (A8 .clear #[301] 0 [.slice (some ⟨b,0,none⟩) 38 38]) K):=by
 refine C7Y (u:=.tuple #[]) (fun w hb=> ?_) hu hK
 have h38:=B1G
 have hst:=w7 (P:=PR) (o0:=0) (G8 z38) 0 w (G8 s).toArray hb (by simp [hs,h38]) (A9j _)
 rw [Nat.add_zero,B8q s z38 0 (by omega)] at hst
 have e:a7 s 0 z38 = z38:=by
  apply ByteArray.ext
  simp [a7,h38,hs]
 rw [e] at hst
 show (Builtin.clear_ #[301] 0 #[.slice (some ⟨b,0,none⟩) 38 38]).run PR w = _
 simp only [Builtin.clear_,List.getElem?_toArray,List.getElem?_cons_zero,Sem.run_bind,C21,Result.andThen_ok,ty5.run_zero,C5k,hst,Sem.run_pure]
theorem D2F {b:Nat} {s:ByteArray} {T:TypeId} (hm:Res.pt b (.cells (G8 s).toArray T) ∈ H) (c n:Nat) (hn:n = s.size) :
  TW κ S w0 H (A6 PR (convert 301 9 (.slice (some ⟨b,0,none⟩) n c)) K) = TW κ S w0 H (K (.string s)):=TW.congr fun w hw=> by
 refine V8 ?_ K
 subst hn
 have hb:=hw.pt hm
 have hB:Lib.Bytes w b 0 s:=fun i hi=> by
  rw [E8 hb]; simp [G8,hi]; rfl
 exact Lib.run_convert_whole w _ _ _ A5s.und ty5.und k8.und b 0 s hB c
end
theorem C7b {lo:Nat} (b:Nat) (h:lo < 38) (K:Value → WP):A0 PR (Instr.sliceAt 355 (.pointer (some ⟨b,0,none⟩)) (some (.int .i64 (lo:Int))) none none) K = K (.slice (some ⟨b,lo,none⟩) (38 - lo) (38 - lo)) :=
 F9 (fun w=> by
  have h1:¬ ((38:Int) < lo):=by omega
  have h2:¬ (38 = lo):=by omega
  simp [Instr.sliceAt,D3w,Instr.sliceBounds,Instr.sliceBound,asIntOf,h1,h2,ty5.run_size,Instr.sureAddr,c9]
  omega) K
def W6 (v:Int):Nat:=if v = 4 then 4 else if v = 6 then 16 else 0
theorem C9g (w:World) (v:Int):Fn PR B8 228 #[.int .i64 v] w (fun u w' => u = .int .i64 (W6 v:Nat) ∧ C7 [] w w'):=by
 have:=D1K w v
 have e:((W6 v:Nat):Int) = if v = 4 then 4 else if v = 6 then 16 else 0:=by (unfold W6; repeat' split) <;> rfl
 rw [e]; exact this
def U1 (k:KeyV):Bool:=decide (W6 k.v ≠ 0 ∧ k.src.size = W6 k.v ∧ k.dst.size = W6 k.v ∧ (Z5 k.proto k.fr k.tp 0).2 = 0)
def A2K (k:KeyV):ByteArray:=a7 (a7 (a7 z38 0 (F3 (k.v * 256 + k.proto) 2 ++ F3 k.fr 2 ++ F3 k.tp 2)) 6 k.src) 22 k.dst
def A0z (k:KeyV):Value:=.tuple #[.string (if U1 k then A2K k else M6),.bool (U1 k)]
theorem B7p {n x y f:Int} (h:(Z5 n x y f).2 = 0):(n = 6 ∨ n = 17) ∧ K7 x y = true:=by
 unfold Z5 at h
 split at h
 ·simp at h
 split at h
 ·simp at h
 ·rename_i h1 h2
  refine ⟨by omega,?_⟩
  cases hp:K7 x y with
  | true=> rfl
  | false=> exact absurd (Or.inl hp) h2
theorem C8g (w:World) (k:KeyV):Fn PR B8 166 #[k.val] w (fun u w' => u = A0z k ∧ C7 [] w w'):=by
 refine Fn.pure (B69 (TW.go (κ:=false) (S := []) ?_))
 unfold A8Q KeyV.val
 (have z:=trivial;repeat((first|clear z|with_reducible first|apply A3|refine A4 fun _=>?_|refine A5 fun _=>?_);try simp(disch:=solve|omega|assumption|repeat(first|exact A1|exact uH|apply A2|apply uT)|(simp;try omega)|fail)[]))
 refine B7 B6l (fun w' _=> C9g w' _) ?_
 (have z:=trivial;repeat((first|clear z|with_reducible first|apply A3|refine A4 fun _=>?_|refine A5 fun _=>?_);try simp(disch:=solve|omega|assumption|repeat(first|exact A1|exact uH|apply A2|apply uT)|(simp;try omega)|fail)[]))
 refine B7 A6Y (fun w' _=> B01 w' _ _ _ _) ?_
 have bad:U1 k = false → A0z k = .tuple #[.string M6,.bool false]:=fun h=> by simp [A0z,h]
 by_cases c1:W6 k.v = 0
 ·(have z:=trivial;repeat((first|clear z|with_reducible first|apply A3|refine A4 fun _=>?_|refine A5 fun _=>?_);try simp(disch:=solve|omega|assumption|repeat(first|exact A1|exact uH|apply A2|apply uT)|(simp;try omega)|fail)[c1]))
  exact A9 (bad (by simp [U1,c1])).symm
 have c1':¬ ((W6 k.v:Nat):Int) = 0:=by omega
 by_cases c2:k.src.size = W6 k.v
 case neg=>
  have c2':¬ ((k.src.size:Nat):Int) = W6 k.v:=by omega
  (have z:=trivial;repeat((first|clear z|with_reducible first|apply A3|refine A4 fun _=>?_|refine A5 fun _=>?_);try simp(disch:=solve|omega|assumption|repeat(first|exact A1|exact uH|apply A2|apply uT)|(simp;try omega)|fail)[c1,c1',c2,c2']))
  exact A9 (bad (by simp [U1,c2])).symm
 by_cases c3:k.dst.size = W6 k.v
 case neg=>
  have c3':¬ ((k.dst.size:Nat):Int) = W6 k.v:=by omega
  (have z:=trivial;repeat((first|clear z|with_reducible first|apply A3|refine A4 fun _=>?_|refine A5 fun _=>?_);try simp(disch:=solve|omega|assumption|repeat(first|exact A1|exact uH|apply A2|apply uT)|(simp;try omega)|fail)[c1,c1',c2,c3,c3']))
  exact A9 (bad (by simp [U1,c3])).symm
 by_cases c4:(Z5 k.proto k.fr k.tp 0).2 = 0
 case neg=>
  (have z:=trivial;repeat((first|clear z|with_reducible first|apply A3|refine A4 fun _=>?_|refine A5 fun _=>?_);try simp(disch:=solve|omega|assumption|repeat(first|exact A1|exact uH|apply A2|apply uT)|(simp;try omega)|fail)[c1,c1',c2,c3,c4]))
  exact A9 (bad (by simp [U1,c4])).symm
 (have z:=trivial;repeat((first|clear z|with_reducible first|apply A3|refine A4 fun _=>?_|refine A5 fun _=>?_);try simp(disch:=solve|omega|assumption|repeat(first|exact A1|exact uH|apply A2|apply uT)|(simp;try omega)|fail)[c1,c1',c2,c3,c4]))
 rename_i bk ba
 refine TW.eqH (H' := [.pt ba (.cells (G8 z38).toArray 355),.pt bk (.cells #[.int .i64 k.v,.string k.src,.string k.dst,.int .i64 k.fr,.int .i64 k.tp,.int .i64 k.proto] 45)]) (by rw [D1W]) ?_
 refine C7M B1G .here ?_
 obtain ⟨hp,hq⟩:=B7p c4
 simp only [K7,decide_eq_true_eq] at hq
 have hv:k.v = 4 ∨ k.v = 6:=by unfold W6 at c1; split at c1 <;> (try split at c1) <;> omega
 have hh:(F3 (k.v * 256 + k.proto) 2 ++ F3 k.fr 2 ++ F3 k.tp 2).size = 6:=by simp
 have h38:=B1G
 have s1:(a7 z38 0 (F3 (k.v * 256 + k.proto) 2 ++ F3 k.fr 2 ++ F3 k.tp 2)).size = 38:=by rw [B3x (by omega),h38]
 have hl:W6 k.v ≤ 16:=by unfold W6; split <;> (try split) <;> omega
 have s2:(a7 (a7 z38 0 (F3 (k.v * 256 + k.proto) 2 ++ F3 k.fr 2 ++ F3 k.tp 2)) 6 k.src).size = 38:=by rw [B3x (by omega),s1]
 have s3:(A2K k).size = 38:=by unfold A2K; rw [B3x (by omega),s2]
 have i6:=fun K=> C7b (lo:=6) ba (by omega) K
 have i22:=fun K=> C7b (lo:=22) ba (by omega) K
 simp at i6 i22
 have ok:U1 k = true:=by simp [U1,c1,c2,c3,c4]
 have q1:=hq.1
 have q2:=hq.2.1
 have q3:=hq.2.2.1
 have q4:=hq.2.2.2
 have eor:IntKind.u64.wrap ((IntKind.u64.wrap (k.v * 2 ^ min 8 IntKind.u64.bits) % 2 ^ IntKind.u64.bits).toNat ||| (k.proto % 2 ^ IntKind.u64.bits).toNat:Nat) = k.v * 256 + k.proto:=by
  rcases hv with hv | hv <;> rcases hp with hp | hp <;> (rw [hv,hp]; decide)
 have ew1:IntKind.u64.wrap k.fr = k.fr:=A09 (by omega) (by omega)
 have ew2:IntKind.u64.wrap k.tp = k.tp:=A09 (by omega) (by omega)
 (have z:=trivial;repeat((first|clear z|with_reducible first|apply A3|refine A4 fun _=>?_|refine A5 fun _=>?_);try simp(disch:=solve|omega|assumption|repeat(first|exact A1|exact uH|apply A2|apply uT)|(simp;try omega)|fail)[]))
 rw [eor,ew1,ew2]
 refine B7 K9 (fun w' hw' => j9 w' _ _) ?_
 (have z:=trivial;repeat((first|clear z|with_reducible first|apply A3|refine A4 fun _=>?_|refine A5 fun _=>?_);try simp(disch:=solve|omega|assumption|repeat(first|exact A1|exact uH|apply A2|apply uT)|(simp;try omega)|fail)[]))
 refine B7 K9 (fun w' hw' => j9 w' _ _) ?_
 (have z:=trivial;repeat((first|clear z|with_reducible first|apply A3|refine A4 fun _=>?_|refine A5 fun _=>?_);try simp(disch:=solve|omega|assumption|repeat(first|exact A1|exact uH|apply A2|apply uT)|(simp;try omega)|fail)[S1]))
 refine B7 K9 (fun w' hw' => j9 w' _ _) ?_
 (have z:=trivial;repeat((first|clear z|with_reducible first|apply A3|refine A4 fun _=>?_|refine A5 fun _=>?_);try simp(disch:=solve|omega|assumption|repeat(first|exact A1|exact uH|apply A2|apply uT)|(simp;try omega)|fail)[S1]))
 refine B7w (o:=0) (s:=z38) (by (repeat constructor)) (by omega) (by omega) ?_
 (have z:=trivial;repeat((first|clear z|with_reducible first|apply A3|refine A4 fun _=>?_|refine A5 fun _=>?_);try simp(disch:=solve|omega|assumption|repeat(first|exact A1|exact uH|apply A2|apply uT)|(simp;try omega)|fail)[i6]))
 refine B7w (o:=6) (s:=a7 z38 0 (F3 (k.v * 256 + k.proto) 2 ++ F3 k.fr 2 ++ F3 k.tp 2)) (by (repeat constructor)) (by omega) (by omega) ?_
 (have z:=trivial;repeat((first|clear z|with_reducible first|apply A3|refine A4 fun _=>?_|refine A5 fun _=>?_);try simp(disch:=solve|omega|assumption|repeat(first|exact A1|exact uH|apply A2|apply uT)|(simp;try omega)|fail)[i22]))
 refine B7w (o:=22) (s:=a7 (a7 z38 0 (F3 (k.v * 256 + k.proto) 2 ++ F3 k.fr 2 ++ F3 k.tp 2)) 6 k.src) (by (repeat constructor)) (by omega) (by omega) ?_
 (have z:=trivial;repeat((first|clear z|with_reducible first|apply A3|refine A4 fun _=>?_|refine A5 fun _=>?_);try simp(disch:=solve|omega|assumption|repeat(first|exact A1|exact uH|apply A2|apply uT)|(simp;try omega)|fail)[]))
 rw [D2F (s:=A2K k) (by (repeat constructor)) _ _ s3.symm]
 exact A9 (by simp [A0z,ok])
@[simp] theorem D9j {κ:Bool} {S:List Nat} {w0:World} {H:List Res} {K:Value → WP} {t:TypeId} {z:Value} [h:TS t z] {b o:Nat} {c:Array Value} {T:TypeId} {f:Nat × Nat} (hm:Res.pt b (.cells c T f) ∈ H) :
  TW κ S w0 H (A6 PR (E1 [.c t (.pointer (some ⟨b,o,none⟩))]) K) = TW κ S w0 H (rdc c[o]? K (A6 PR (E1 [.c t (.pointer (some ⟨b,o,none⟩))]) K)):=by
 cases hc:c[o]? with
 | none=> rfl
 | some v=> rw [D3H hm hc]; rfl
abbrev F8:=Int × Int
def H5 (b:F8):List Value := [.int .i64 b.1,.int .i64 b.2]
structure EnV where
 st:Int
 key:ByteArray
 bk:Int
 dl:Int
 deriving DecidableEq
def F1 (x:EnV):List Value := [.int .i64 x.st,.string x.key,.int .i64 x.bk,.int .i64 x.dl]
theorem D2v {t u:TypeId} {n m:Nat} {z:Value} {a:Option Addr} {l c e:Nat} (h:TI PR t (.slice u) n m z):EqV PR (e + 1) t (.slice a l c) (.slice none 0 0) a.isNone:=by
 intro w
 cases a with
 | none=> simp only [Op.equalIn,Sem.run_bind,h.run_und,Result.andThen_ok,Sem.run_pure,Option.isNone]
 | some a=> simp only [Op.equalIn,Sem.run_bind,h.run_und,Result.andThen_ok,Sem.run_pure]; rfl
theorem D3B {t u:TypeId} {n m:Nat} {z:Value} (h:TI PR t (.slice u) n m z) (x y:Operand) (a:Option Addr) (l c:Nat) (K:Value → WP) :
  A6 PR (H9 .eql t x y (.slice a l c) (.slice none 0 0)) K = K (.bool a.isNone):=by
 funext w
 refine V8 ?_ K
 have h1:(eqGuard .eql t x y (.slice a l c) (.slice none 0 0)).run PR w = .ok () w:=by simp [eqGuard]
 have h2:(Op.equalIn 10000 t (.slice a l c) (.slice none 0 0)).run PR w = .ok a.isNone w:=D2v (e:=9999) h w
 simp [H9,h1,binOp,Op.equal,Op.maxDepth,h2]
theorem D0K (x y:Operand) (a:Option Addr) (l c:Nat) (K:Value → WP):A6 PR (H9 .eql 58 x y (.slice a l c) (.slice none 0 0)) K = K (.bool a.isNone):=D3B B5d x y a l c K
theorem C99 (x y:Operand) (a:Option Addr) (l c:Nat) (K:Value → WP):A6 PR (H9 .eql 84 x y (.slice a l c) (.slice none 0 0)) K = K (.bool a.isNone):=D3B B05 x y a l c K
theorem C7l (w:World) (v:Value) (n:Nat) (xs:List Value) (hn:n ≤ 1000000) (hx:xs.length = n * 2) (hp:xs.all plain = true) (hv:F5 w v n xs) :
  Fn PR B8 123 #[v] w (Rn [] w (fun r u=> u = r) fun r=> [.own 155 2 r n xs]):=by
 obtain ⟨a,c,rfl,hr⟩:=hv.form
 refine A0E (TW.go (κ:=false) (S := []) ?_)
 unfold Y0
 cases a with
 | none=>
  obtain rfl:n = 0:=by
   rcases Nat.eq_zero_or_pos n with h | h
   ·exact h
   ·obtain ⟨_,_,h,_⟩:=hr h; cases h
  obtain rfl:xs = []:=List.length_eq_zero_iff.1 (by omega)
  (have z:=trivial;repeat((first|clear z|with_reducible first|apply A3|refine A4 fun _=>?_|refine A5 fun _=>?_);try simp(disch:=solve|omega|assumption|repeat(first|exact A1|exact uH|apply A2|apply uT)|(simp;try omega)|fail)[D0K]))
  refine l7 155 2 ?_
  exact u7 (.slice none 0 0) rfl (by simp)
 | some a=>
  (have zz:=trivial;repeat((first|clear zz|with_reducible first|refine A3 ?_|refine A4 fun _=>?_|refine A5 fun _=>?_|refine D5 fun _=>?_|refine E0 (hK:=fun _=>?_)|refine D6 (hK:=fun _=>?_)|refine D4 (hK:=fun _=>?_)|refine D9 (hK:=fun _=>?_)|refine D7 (hK:=fun _=>?_));try simp(disch:=first|omega|assumption|((repeat(first|exact A1|exact uH|apply A2|apply uT));first|done|fail)|(simp;first|done|omega|fail))[D0K]))
  refine r9 (by (repeat constructor)) (M0.old0 hv) (by decide) hx hp (by simp only [maxLen]; omega) (by omega) fun a' c' => ?_
  simp only [Nat.zero_add,List.nil_append]
  exact B1 _ rfl (by (repeat' constructor))
theorem C56 (w:World) (v:Value) (n:Nat) (xs:List Value) (hn:n ≤ 1000000) (hx:xs.length = n * 4) (hp:xs.all plain = true) (hv:F5 w v n xs) :
  Fn PR B8 122 #[v] w (Rn [] w (fun r u=> u = r) fun r=> [.own 218 4 r n xs]):=by
 obtain ⟨a,c,rfl,hr⟩:=hv.form
 refine A1E (TW.go (κ:=false) (S := []) ?_)
 unfold Z8
 cases a with
 | none=>
  obtain rfl:n = 0:=by
   rcases Nat.eq_zero_or_pos n with h | h
   ·exact h
   ·obtain ⟨_,_,h,_⟩:=hr h; cases h
  obtain rfl:xs = []:=List.length_eq_zero_iff.1 (by omega)
  (have z:=trivial;repeat((first|clear z|with_reducible first|apply A3|refine A4 fun _=>?_|refine A5 fun _=>?_);try simp(disch:=solve|omega|assumption|repeat(first|exact A1|exact uH|apply A2|apply uT)|(simp;try omega)|fail)[C99]))
  refine l7 218 4 ?_
  exact u7 (.slice none 0 0) rfl (by simp)
 | some a=>
  (have zz:=trivial;repeat((first|clear zz|with_reducible first|refine A3 ?_|refine A4 fun _=>?_|refine A5 fun _=>?_|refine D5 fun _=>?_|refine E0 (hK:=fun _=>?_)|refine D6 (hK:=fun _=>?_)|refine D4 (hK:=fun _=>?_)|refine D9 (hK:=fun _=>?_)|refine D7 (hK:=fun _=>?_));try simp(disch:=first|omega|assumption|((repeat(first|exact A1|exact uH|apply A2|apply uT));first|done|fail)|(simp;first|done|omega|fail))[C99]))
  refine r9 (by (repeat constructor)) (M0.old0 hv) (by decide) hx hp (by simp only [maxLen]; omega) (by omega) fun a' c' => ?_
  simp only [Nat.zero_add,List.nil_append]
  exact B1 _ rfl (by (repeat' constructor))
theorem D3M {α:Type} {l m:List α} (hl:l.length = m.length) (h:∀ j,j < l.length → l[j]? = m[j]?):l = m:=List.ext_getElem? fun i=> by
 by_cases hi:i < l.length
 ·exact h i hi
 ·rw [List.getElem?_eq_none (by omega),List.getElem?_eq_none (by omega)]
def B1F {α:Type} (p:α → Bool) (l:List α):Int:=match l.findIdx? p with | some i=> i | none=> -1
theorem A71 {α:Type} {p:α → Bool} {l:List α} {i:Nat} {x:α} (hx:l[i]? = some x) (hp:p x = true) (h:∀ j y,j < i → l[j]? = some y → p y = false):B1F p l = i:=by
 have:l.findIdx? p = some i:=by
  rw [List.findIdx?_eq_some_iff_getElem]
  obtain ⟨hi,e⟩:=List.getElem?_eq_some_iff.1 hx
  exact ⟨hi,by rw [e]; exact hp,fun j hj=> by rw [h j l[j] hj (List.getElem?_eq_getElem (by omega))]; simp⟩
 simp [B1F,this]
theorem B4D {α:Type} {p:α → Bool} {l:List α} (h:∀ (j:Nat) y,l[j]? = some y → p y = false):B1F p l = -1:=by
 have:l.findIdx? p = none:=by
  rw [List.findIdx?_eq_none_iff]; intro x hx; obtain ⟨i,hi,rfl⟩:=List.getElem_of_mem hx; exact h i _ (List.getElem?_eq_getElem hi)
 simp [B1F,this]
theorem B9l (w:World) (v:Value) (l:List F8) (p:F8 → Bool) (f:FuncId) (cap:List Value) (hn:l.length ≤ 1000000) (hv:F5 w v l.length (l.flatMap H5)) (he:B0 PR f)
  (hf:∀ w',KS false [] w w' → ∀ x:F8,Fn PR B8 f (.agg #[.int .i64 x.1,.int .i64 x.2] :: cap).toArray w' (fun r w'' => r = .bool (p x) ∧ C7 [] w' w'')) :
  Fn PR B8 266 #[v,.func (.func f) #[] cap.toArray] w (fun r w' => r = .int .i64 (B1F p l) ∧ C7 [] w w'):=by
 refine Fn.pure (r8 (TW.go (κ:=false) (S := []) ?_))
 unfold U9
 obtain ⟨a,c,rfl,hr⟩:=hv.form
 (have z:=trivial;repeat((first|clear z|with_reducible first|apply A3|refine A4 fun _=>?_|refine A5 fun _=>?_);try simp(disch:=solve|omega|assumption|repeat(first|exact A1|exact uH|apply A2|apply uT)|(simp;try omega)|fail)[]))
 refine P5 (α:=Unit) l.length (fun _ _=> .int .i64 0) (fun _ _=> []) (fun i _=> ∀ j y,j < i → l[j]? = some y → p y = false) () (by intro j _ hj; omega) ?_
 rintro i _ hi hpre L hL
 by_cases hlt:i < l.length
 ·obtain ⟨b,o,rfl,hrow⟩:=hr (by omega)
  obtain ⟨x,hx⟩:∃ x,l[i]? = some x:=⟨_,List.getElem?_eq_getElem (by omega)⟩
  have h1:=hrow.at (f:=H5) (k:=2) (fun _=> rfl) hx
  rw [H5] at h1
  (have z:=trivial;repeat((first|clear z|with_reducible first|apply A3|refine A4 fun _=>?_|refine A5 fun _=>?_);try simp(disch:=solve|omega|assumption|repeat(first|exact A1|exact uH|apply A2|apply uT)|(simp;try omega)|fail)[hlt,h1]))
  refine B8J he (φ:=fun r=> r = .bool (p x)) (fun w' hw' => by simpa using hf w' hw'.ks x) ?_
  rintro _ rfl
  cases hb:p x with
  | true=>
   (have z:=trivial;repeat((first|clear z|with_reducible first|apply A3|refine A4 fun _=>?_|refine A5 fun _=>?_);try simp(disch:=solve|omega|assumption|repeat(first|exact A1|exact uH|apply A2|apply uT)|(simp;try omega)|fail)[]))
   exact A9 (by rw [A71 hx hb hpre])
  | false=>
   (have z:=trivial;repeat((first|clear z|with_reducible first|apply A3|refine A4 fun _=>?_|refine A5 fun _=>?_);try simp(disch:=solve|omega|assumption|repeat(first|exact A1|exact uH|apply A2|apply uT)|(simp;try omega)|fail)[]))
   refine Sels.tw .nil (hL hlt () ?_)
   intro j y hj hy
   by_cases hji:j = i
   ·subst hji; rw [hx] at hy; cases hy; exact hb
   ·exact hpre j y (by omega) hy
 ·obtain rfl:i = l.length:=by omega
  (have z:=trivial;repeat((first|clear z|with_reducible first|apply A3|refine A4 fun _=>?_|refine A5 fun _=>?_);try simp(disch:=solve|omega|assumption|repeat(first|exact A1|exact uH|apply A2|apply uT)|(simp;try omega)|fail)[]))
  exact A9 (by rw [B4D fun j y hy=> hpre j y (List.getElem?_eq_some_iff.1 hy).1 hy])
theorem B9m (w:World) (v:Value) (l:List (Int × Int)) (p:Int × Int → Bool) (f:FuncId) (cap:List Value) (hn:l.length ≤ 1000000) (hv:F5 w v l.length (l.flatMap H5)) (he:B0 PR f)
  (hf:∀ w',KS false [] w w' → ∀ x:Int × Int,Fn PR B8 f (.agg #[.int .i64 x.1,.int .i64 x.2] :: cap).toArray w' (fun r w'' => r = .bool (p x) ∧ C7 [] w' w'')) :
  Fn PR B8 201 #[v,.func (.func f) #[] cap.toArray] w (fun r w' => r = .int .i64 (B1F p l) ∧ C7 [] w w'):=by
 refine Fn.pure (A3E (TW.go (κ:=false) (S := []) ?_))
 unfold l8
 obtain ⟨a,c,rfl,hr⟩:=hv.form
 (have z:=trivial;repeat((first|clear z|with_reducible first|apply A3|refine A4 fun _=>?_|refine A5 fun _=>?_);try simp(disch:=solve|omega|assumption|repeat(first|exact A1|exact uH|apply A2|apply uT)|(simp;try omega)|fail)[]))
 refine P5 (α:=Unit) l.length (fun _ _=> .int .i64 0) (fun _ _=> []) (fun i _=> ∀ j y,j < i → l[j]? = some y → p y = false) () (by intro j _ hj; omega) ?_
 rintro i _ hi hpre L hL
 by_cases hlt:i < l.length
 ·obtain ⟨b,o,rfl,hrow⟩:=hr (by omega)
  obtain ⟨x,hx⟩:∃ x,l[i]? = some x:=⟨_,List.getElem?_eq_getElem (by omega)⟩
  have h1:=hrow.at (f:=H5) (k:=2) (fun _=> rfl) hx
  rw [H5] at h1
  (have z:=trivial;repeat((first|clear z|with_reducible first|apply A3|refine A4 fun _=>?_|refine A5 fun _=>?_);try simp(disch:=solve|omega|assumption|repeat(first|exact A1|exact uH|apply A2|apply uT)|(simp;try omega)|fail)[hlt,h1]))
  refine B8J he (φ:=fun r=> r = .bool (p x)) (fun w' hw' => by simpa using hf w' hw'.ks x) ?_
  rintro _ rfl
  cases hb:p x with
  | true=>
   (have z:=trivial;repeat((first|clear z|with_reducible first|apply A3|refine A4 fun _=>?_|refine A5 fun _=>?_);try simp(disch:=solve|omega|assumption|repeat(first|exact A1|exact uH|apply A2|apply uT)|(simp;try omega)|fail)[]))
   exact A9 (by rw [A71 hx hb hpre])
  | false=>
   (have z:=trivial;repeat((first|clear z|with_reducible first|apply A3|refine A4 fun _=>?_|refine A5 fun _=>?_);try simp(disch:=solve|omega|assumption|repeat(first|exact A1|exact uH|apply A2|apply uT)|(simp;try omega)|fail)[]))
   refine Sels.tw .nil (hL hlt () ?_)
   intro j y hj hy
   by_cases hji:j = i
   ·subst hji; rw [hx] at hy; cases hy; exact hb
   ·exact hpre j y (by omega) hy
 ·obtain rfl:i = l.length:=by omega
  (have z:=trivial;repeat((first|clear z|with_reducible first|apply A3|refine A4 fun _=>?_|refine A5 fun _=>?_);try simp(disch:=solve|omega|assumption|repeat(first|exact A1|exact uH|apply A2|apply uT)|(simp;try omega)|fail)[]))
  exact A9 (by rw [B4D fun j y hy=> hpre j y (List.getElem?_eq_some_iff.1 hy).1 hy])
theorem C8Q {α:Type} (p:α → Bool) (l:List α):decide (0 ≤ B1F p l) = l.any p:=by
 unfold B1F
 cases h:l.findIdx? p with
 | none=>
  have:=List.findIdx?_eq_none_iff.1 h
  rw [Bool.eq_iff_iff]; simp [List.any_eq_true]; intro x hx; have:=this x hx; simp_all
 | some i=>
  obtain ⟨hi,h1,_⟩:=List.findIdx?_eq_some_iff_getElem.1 h
  rw [Bool.eq_iff_iff]; simp only [List.any_eq_true,decide_eq_true_eq]
  exact ⟨fun _=> ⟨_,List.getElem_mem hi,h1⟩,fun _=> by omega⟩
theorem B5g (w:World) (v:Value) (l:List (Int × Int)) (p:Int × Int → Bool) (f:FuncId) (cap:List Value) (hn:l.length ≤ 1000000) (hv:F5 w v l.length (l.flatMap H5)) (he:B0 PR f)
  (hf:∀ w',KS false [] w w' → ∀ x:Int × Int,Fn PR B8 f (.agg #[.int .i64 x.1,.int .i64 x.2] :: cap).toArray w' (fun r w'' => r = .bool (p x) ∧ C7 [] w' w'')) :
  Fn PR B8 148 #[v,.func (.func f) #[] cap.toArray] w (fun r w' => r = .bool (l.any p) ∧ C7 [] w w'):=by
 refine Fn.pure (A1r (TW.go (κ:=false) (S := []) ?_))
 unfold b9
 refine B7 A2k (fun w' hw' => B9m w' v l p f cap hn (hv.ks hw'.ks (by simp)) he fun w2 h=> hf w2 (hw'.ks.trans h)) ?_
 (have z:=trivial;repeat((first|clear z|with_reducible first|apply A3|refine A4 fun _=>?_|refine A5 fun _=>?_);try simp(disch:=solve|omega|assumption|repeat(first|exact A1|exact uH|apply A2|apply uT)|(simp;try omega)|fail)[]))
 exact A9 (by rw [C8Q])
theorem C8T {t e:TypeId} {len n m n' m':Nat} {z z':Value} {d':TypeDesc} {parts:Array (Nat × Value)} {cs:Array Value} {K:Value → WP} (h:TI PR t (.array len e) n m z) (he:TI PR e d' n' m' z')
  (hf:Instr.fill (fun i=> some (i * n',n')) z.cells parts.toList = some cs):A0 PR (Instr.build t parts) K = K (.agg cs) :=
 F9 (fun w=> by
  simp only [Instr.build,Sem.run_bind,h.run_zero,Result.andThen_ok,h.run_und,he.run_size,hf,Sem.run_pure]) K
theorem bd2 {k0 k1:IntKind} {a b:Int} (K:Value → WP):A0 PR (Instr.build 158 #[(0,.int k0 a),(1,.int k1 b)]) K = K (.agg #[.int k0 a,.int k1 b]) :=
 C8T B6s H4 (by rw [show (#[(0,Value.int k0 a),(1,Value.int k1 b)]:Array (Nat × Value)).toList = [(0,Value.int k0 a),(1,Value.int k1 b)] from rfl,B6 rfl rfl (by simp),B6 rfl rfl (by simp [B9])]; rfl)
theorem C2C (w:World) (x:Int × Int):Fn PR B8 149 #[.agg #[.int .i64 x.1,.int .i64 x.2]] w (fun r w' => r = .bool (decide (x.1 < 1 ∨ x.2 < x.1)) ∧ C7 [] w w'):=by
 refine Fn.pure (B4s (TW.go (κ:=false) (S := []) ?_))
 unfold A5Z
 by_cases c1:x.1 < 1
 ·(have z:=trivial;repeat((first|clear z|with_reducible first|apply A3|refine A4 fun _=>?_|refine A5 fun _=>?_);try simp(disch:=solve|omega|assumption|repeat(first|exact A1|exact uH|apply A2|apply uT)|(simp;try omega)|fail)[c1]))
  exact A9 (by simp [c1])
 ·(have z:=trivial;repeat((first|clear z|with_reducible first|apply A3|refine A4 fun _=>?_|refine A5 fun _=>?_);try simp(disch:=solve|omega|assumption|repeat(first|exact A1|exact uH|apply A2|apply uT)|(simp;try omega)|fail)[c1]))
  exact A9 (by simp [c1])
theorem C5T (w:World) (v:Value) (l:List (Int × Int)) (hn:l.length ≤ 1000000) (hv:F5 w v l.length (l.flatMap H5)) :
  Fn PR B8 89 #[v] w (fun r w' => r = .bool (!l.any fun x=> decide (x.1 < 1 ∨ x.2 < x.1)) ∧ C7 [] w w'):=by
 refine Fn.pure (B7u (TW.go (κ:=false) (S := []) ?_))
 unfold A9p
 refine B7 A1C (fun w' hw' => B5g w' v l (fun x=> decide (x.1 < 1 ∨ x.2 < x.1)) 149 [] hn (hv.ks hw'.ks (by simp)) B3P fun w2 h x=> C2C w2 x) ?_
 (have z:=trivial;repeat((first|clear z|with_reducible first|apply A3|refine A4 fun _=>?_|refine A5 fun _=>?_);try simp(disch:=solve|omega|assumption|repeat(first|exact A1|exact uH|apply A2|apply uT)|(simp;try omega)|fail)[]))
 exact A9 rfl
theorem C4D (w:World) (x:F8) (id:Int) (b:Nat) (hb:w.cell? ⟨b,0,none⟩ = some (.int .i64 id)):Fn PR B8 286 #[.agg #[.int .i64 x.1,.int .i64 x.2],.pointer (some ⟨b,0,none⟩)] w (fun r w' => r = .bool (decide (x.1 = id)) ∧ C7 [] w w'):=by
 refine Fn.pure (B5k (TW.go (κ:=false) (S := []) ?_))
 unfold A66
 (have z:=trivial;repeat((first|clear z|with_reducible first|apply A3|refine A4 fun _=>?_|refine A5 fun _=>?_);try simp(disch:=solve|omega|assumption|repeat(first|exact A1|exact uH|apply A2|apply uT)|(simp;try omega)|fail)[hb]))
 exact A9 rfl
theorem C8y (w:World) (id:Int):Fn PR B8 267 #[.int .i64 id] w (Rn [] w (fun b v=> v = .func (.func 286) #[] #[.pointer (some ⟨b,0,none⟩)]) fun b=> [.pt b (.cells #[.int .i64 id] 3)]):=by
 refine B9P (TW.go (κ:=false) (S := []) ?_)
 unfold B17
 (have z:=trivial;repeat((first|clear z|with_reducible first|apply A3|refine A4 fun _=>?_|refine A5 fun _=>?_);try simp(disch:=solve|omega|assumption|repeat(first|exact A1|exact uH|apply A2|apply uT)|(simp;try omega)|fail)[]))
 exact u7 _ rfl (by simp)
def Q5 (l:List F8) (id:Int):Int:=B1F (fun x=> decide (x.1 = id)) l
theorem C2n (w:World) (v:Value) (l:List F8) (id:Int) (hn:l.length ≤ 1000000) (hv:F5 w v l.length (l.flatMap H5)) :
  Fn PR B8 237 #[v,.int .i64 id] w (fun r w' => r = .int .i64 (Q5 l id) ∧ C7 [] w w'):=by
 refine Fn.pure (C1r (TW.go (κ:=false) (S := []) ?_))
 unfold B29
 refine H3 B8M (fun w' _=> C8y w' id) ?_
 rintro b _ rfl
 refine B7 r4 (fun w' hw' => B9l w' v l (fun x=> decide (x.1 = id)) 286 [.pointer (some ⟨b,0,none⟩)] hn (hv.ks hw'.ks (by simp)) B4v
  fun w2 h x=> C4D w2 x id b (h.cell (by simp) (hw'.cell1 (by (repeat constructor))))) ?_
 exact A9 rfl
def A3W (b:F8):Bool:=decide (1 ≤ b.1 ∧ b.1 ≤ 65535 ∧ 1 ≤ b.2 ∧ b.2 ≤ 16)
def u4:List F8 → Bool
 | []=> true
 | b :: l=> A3W b && !(l.any fun x=> decide (x.1 = b.1)) && u4 l
def Q3 (l:List F8):Int:=if u4 l && decide (l.length ≤ 32) then 0 else 10
theorem A5y (l:List F8):u4 l = true ↔ (∀ b ∈ l,A3W b = true) ∧ l.Pairwise fun a b=> a.1 ≠ b.1:=by
 induction l with
 | nil=> simp [u4]
 | cons b l ih=>
  simp only [u4,Bool.and_eq_true,ih,List.mem_cons,forall_eq_or_imp,List.pairwise_cons,Bool.not_eq_true',List.any_eq_false,decide_eq_true_eq]
  constructor
  ·rintro ⟨⟨h1,h2⟩,h3,h4⟩; exact ⟨⟨h1,h3⟩,fun a ha e=> h2 a ha e.symm,h4⟩
  ·rintro ⟨⟨h1,h3⟩,h2,h4⟩; exact ⟨⟨h1,fun a ha e=> h2 a ha e.symm⟩,h3,h4⟩
theorem D0b {α:Type} {R:α → α → Prop} {l:List α} (h:l.Pairwise R) {i j:Nat} {x y:α} (hij:i < j) (hx:l[i]? = some x) (hy:l[j]? = some y):R x y:=by
 obtain ⟨h1,rfl⟩:=List.getElem?_eq_some_iff.1 hx
 obtain ⟨h2,rfl⟩:=List.getElem?_eq_some_iff.1 hy
 exact List.pairwise_iff_getElem.1 h i j h1 h2 hij
theorem D0y {α:Type} {R:α → α → Prop} {l:List α} {i:Nat} {x:α} (hx:l[i]? = some x):(l.take (i + 1)).Pairwise R ↔ (l.take i).Pairwise R ∧ ∀ y ∈ l.take i,R y x:=by
 rw [List.take_add_one,hx]; simp [List.pairwise_append]
theorem C1g (w:World) (v:Value) (l:List F8) (hn:l.length ≤ 1000000) (hv:F5 w v l.length (l.flatMap H5)) :
  Fn PR B8 29 #[v] w (fun r w' => r = .int .i64 (Q3 l) ∧ C7 [] w w'):=by
 refine Fn.pure (B9a (TW.go (κ:=false) (S := []) ?_))
 unfold B2E
 obtain ⟨a,c,rfl,hr⟩:=hv.form
 refine C2u (Value.int .i64) fun r=> ?_
 (have z:=trivial;repeat((first|clear z|with_reducible first|apply A3|refine A4 fun _=>?_|refine A5 fun _=>?_);try simp(disch:=solve|omega|assumption|repeat(first|exact A1|exact uH|apply A2|apply uT)|(simp;try omega)|fail)[]))
 refine P5 (α:=List (Int × Value)) l.length (fun _ _=> .int .i64 0) (fun _ M=> [.pt r (A0Y (Value.int .i64) M)]) (fun i M=> (∀ k,y6 k M = if (l.take i).any (fun x=> decide (x.1 = k)) then some (.bool true) else none) ∧ u4 (l.take i) = true) [] (by simp [y6,u4]) ?_
 rintro i M hi ⟨hM,hok⟩ L hL
 by_cases hlt:i < l.length
 ·obtain ⟨b,o,rfl,hrow⟩:=hr (by omega)
  obtain ⟨x,hx⟩:∃ x,l[i]? = some x:=⟨_,List.getElem?_eq_getElem (by omega)⟩
  have h1:=hrow.at (f:=H5) (k:=2) (fun _=> rfl) hx
  rw [H5] at h1
  have hxm:x ∈ l:=List.mem_of_getElem? hx
  (have z:=trivial;repeat((first|clear z|with_reducible first|apply A3|refine A4 fun _=>?_|refine A5 fun _=>?_);try simp(disch:=solve|omega|assumption|repeat(first|exact A1|exact uH|apply A2|apply uT)|(simp;try omega)|fail)[hlt,h1]))
  rw [B51 C92 ty4 (KeyT.int H4) (l:=M) (by (repeat constructor)),hM]
  cases hseen:(l.take i).any (fun y=> decide (y.1 = x.1)) with
  | true=>
   have hbad:Q3 l = 10:=by
    have:u4 l = false:=by
     rw [← Bool.not_eq_true,A5y]
     rintro ⟨_,h⟩
     obtain ⟨y,hy,he⟩:=List.any_eq_true.1 hseen
     obtain ⟨j,hj,rfl⟩:=List.getElem_of_mem hy
     simp only [List.length_take] at hj
     exact D0b (i:=j) (j:=i) h (by omega) (List.getElem?_eq_getElem (by omega)) hx (by simpa using he)
    simp [Q3,this]
   (have z:=trivial;repeat((first|clear z|with_reducible first|apply A3|refine A4 fun _=>?_|refine A5 fun _=>?_);try simp(disch:=solve|omega|assumption|repeat(first|exact A1|exact uH|apply A2|apply uT)|(simp;try omega)|fail)[]))
   exact A9 (by rw [hbad])
  | false=>
   simp only [Bool.false_eq_true,if_false,Option.getD_none]
   (have zz:=trivial;repeat((first|clear zz|with_reducible first|refine A3 ?_|refine A4 fun _=>?_|refine A5 fun _=>?_|refine D5 fun _=>?_|refine E0 (hK:=fun _=>?_)|refine D6 (hK:=fun _=>?_)|refine D4 (hK:=fun _=>?_)|refine D9 (hK:=fun _=>?_)|refine D7 (hK:=fun _=>?_));try simp(disch:=first|omega|assumption|((repeat(first|exact A1|exact uH|apply A2|apply uT));first|done|fail)|(simp;first|done|omega|fail))[bd2]))
   rename_i bs bx
   refine B7 (u:=.bool (A3W x)) B7V (fun w' hw' => ?_) ?_
   ·have:=C5T w' (.slice (some ⟨bx,0,none⟩) 2 2) [(x.1,65535),(x.2,16)] (by simp) (by simpa [H5] using M0.own (κ:=false) (S := []) (w0:=w) (e:=158) (k:=2) (q:=2) (v:=.slice (some ⟨bx,0,none⟩) 2 2) (by (repeat constructor)) w' hw')
    have e:(!([(x.1,65535),(x.2,16)]:List (Int × Int)).any fun x=> decide (x.1 < 1 ∨ x.2 < x.1)) = A3W x:=by
     rw [Bool.eq_iff_iff]; simp [A3W]; omega
    rw [e] at this
    exact this
   ·cases hbk:A3W x with
    | false=>
     have hbad:Q3 l = 10:=by
      have:u4 l = false:=by
       rw [← Bool.not_eq_true,A5y]
       rintro ⟨h,_⟩
       rw [h x hxm] at hbk; cases hbk
      simp [Q3,this]
     (have z:=trivial;repeat((first|clear z|with_reducible first|apply A3|refine A4 fun _=>?_|refine A5 fun _=>?_);try simp(disch:=solve|omega|assumption|repeat(first|exact A1|exact uH|apply A2|apply uT)|(simp;try omega)|fail)[]))
     exact A9 (by rw [hbad])
    | true=>
     (have z:=trivial;repeat((first|clear z|with_reducible first|apply A3|refine A4 fun _=>?_|refine A5 fun _=>?_);try simp(disch:=solve|omega|assumption|repeat(first|exact A1|exact uH|apply A2|apply uT)|(simp;try omega)|fail)[]))
     refine B55 C92 (KeyT.int H4) (k:=x.1) (by (repeat constructor)) ?_
     (have z:=trivial;repeat((first|clear z|with_reducible first|apply A3|refine A4 fun _=>?_|refine A5 fun _=>?_);try simp(disch:=solve|omega|assumption|repeat(first|exact A1|exact uH|apply A2|apply uT)|(simp;try omega)|fail)[]))
     refine Sels.tw (by (repeat' constructor)) (hL hlt _ ⟨?_,?_⟩)
     ·intro k
      rw [C6c,hM,List.take_add_one,hx]
      by_cases hk:k = x.1
      ·subst hk; simp
      ·have hk':¬ x.1 = k:=fun e=> hk e.symm
       have hAB:(l.take i ++ (some x).toList).any (fun x=> decide (x.1 = k)) = (l.take i).any (fun x=> decide (x.1 = k)):=by
        rw [List.any_append]; simp only [Option.toList_some,List.any_cons,List.any_nil,decide_eq_false hk',Bool.or_false]
       rw [if_neg hk,hAB]
     ·rw [A5y] at hok ⊢
      refine ⟨fun y hy=> ?_,(D0y hx).2 ⟨hok.2,fun y hy e=> ?_⟩⟩
      ·rw [List.take_add_one,hx] at hy
       simp only [Option.toList_some,List.mem_append,List.mem_singleton] at hy
       rcases hy with hy | rfl
       ·exact hok.1 y hy
       ·exact hbk
      ·have:=List.any_eq_false.1 hseen y hy
       simp [e] at this
 ·obtain rfl:i = l.length:=by omega
  rw [List.take_length] at hok
  by_cases c1:l.length ≤ 32
  ·have c1':¬ (32:Int) < l.length:=by omega
   (have z:=trivial;repeat((first|clear z|with_reducible first|apply A3|refine A4 fun _=>?_|refine A5 fun _=>?_);try simp(disch:=solve|omega|assumption|repeat(first|exact A1|exact uH|apply A2|apply uT)|(simp;try omega)|fail)[c1']))
   exact A9 (by simp [Q3,hok,c1])
  ·have c1':(32:Int) < l.length:=by omega
   (have z:=trivial;repeat((first|clear z|with_reducible first|apply A3|refine A4 fun _=>?_|refine A5 fun _=>?_);try simp(disch:=solve|omega|assumption|repeat(first|exact A1|exact uH|apply A2|apply uT)|(simp;try omega)|fail)[c1']))
   exact A9 (by simp [Q3,c1])
structure CfgV where
 wk:Int
 sh:Int
 cp:Int
 idle:Int
 sl:Int
 deriving DecidableEq
def CfgV.val (c:CfgV):Value:=.agg #[.int .i64 c.wk,.int .i64 c.sh,.int .i64 c.cp,.int .i64 c.idle,.int .i64 c.sl]
def k9 (n lo hi:Int):Bool:=decide (lo ≤ n) && decide (n ≤ hi)
def Q8 (c:CfgV):Bool:=k9 c.wk 1 64 && k9 c.sh 1 16 && k9 c.cp 1 64 && k9 c.idle 0 1000000 && k9 c.sl 2 8
structure AnsV where
 err:Int
 bk:Int
 made:Bool
 count:Int
 deriving DecidableEq
def AnsV.val (a:AnsV):Value:=.agg #[.int .i64 a.err,.int .i64 a.bk,.bool a.made,.int .i64 a.count]
structure OpV where
 kind:Int
 packet:ByteArray
 pool:List F8
 shard:Int
def OpV.val (o:OpV) (v:Value):Value:=.agg #[.int .i64 o.kind,.string o.packet,v,.int .i64 o.shard]
section
open Instr
variable {X:Nat → Prop} {t0 t1 t2 t3 t4 t5 t6 t7:Value} {R:Value → WP} {w:World}
def B10 (X:Nat → Prop) (a b:Value) (R:Value → WP):WP :=
 B5 PR X (box 9 b) fun c=>
 B5 PR X (alloc 3 true (.tuple #[])) fun d=>
 C1 PR X (storeAt 3 d (.int .i64 (-1))) <|
 jn (n:=0) (
 A6 PR (loadAt 3 d) fun e=>
 unw (R e)) fun J1=>
 A6 PR (loadAt 9 c) fun f=>
 B3 PR X 179 [a,f] fun g=>
 rng (N:=2) PR X (fun h k K2=>
 B5 PR (fun _=> False) (alloc 218 true (.tuple #[])) fun l=>
 C1 PR (fun _=> False) (storeAt 218 l k) <|
 bgn <|
 A0 PR (fieldAt 218 l 0) fun m=>
 A6 PR (loadAt 3 m) fun o=>
 A0 PR (binOp .eql 3 o (.int .i64 0)) fun p=>
 C0 p (
 K2 (some (.exit 0))) (
 A0 PR (fieldAt 218 l 0) fun q=>
 A6 PR (loadAt 3 q) fun r=>
 A0 PR (binOp .eql 3 r (.int .i64 1)) fun s=>
 gj s true (fun J=> A0 PR (fieldAt 218 l 1) J) fun t=>
 gj s true (fun J=> A6 PR (loadAt 9 t) J) fun u=>
 gj s true (fun J=> A6 PR (loadAt 9 c) J) fun v=>
 gj s true (fun J=> A0 PR (binOp .eql 9 u v) J) fun w=>
 A0 PR (do pure (if ← asBool s then w else (.bool false))) fun x=>
 C0 x (
 C1 PR (fun _=> False) (storeAt 3 d h) <|
 K2 (some (.exit 0))) (
 K2 none))) g (fun j=> match j with | none=> (J1) | some (.exit i)=> (match Nat.beq i 0 with | true=> (J1) | false=> (K8)) | some .ret=> (unw (R (.int .i64 0))) | some _=> K8)
theorem A07:B0 PR 133:=A7 Tryz.func133 (by kernel_rfl) rfl
theorem B89 (h:B10 X t0 t1 R w):Fn PR X 133 #[t0,t1] w R:=C4 (args := [t0,t1]) mixed Tryz.func133 (by kernel_rfl) h
def B4C (X:Nat → Prop) (a b:Value) (R:Value → WP):WP :=
 B5 PR X (box 84 a) fun c=>
 B5 PR X (box 9 b) fun d=>
 A0 PR (makeFunc (.func 235) #[] #[d,c]) fun e=>
 R e
theorem B2H:B0 PR 179:=A7 Tryz.func179 (by kernel_rfl) rfl
theorem C1v (h:B4C X t0 t1 R w):Fn PR X 179 #[t0,t1] w R:=C4 (args := [t0,t1]) mixed Tryz.func179 (by kernel_rfl) h
def B0L (X:Nat → Prop) (a b:Value) (R:Value → WP):WP :=
 B5 PR X (box 3 b) fun c=>
 A0 PR (makeFunc (.func 241) #[] #[c]) fun d=>
 B3 PR X 240 [a,d] fun e=>
 R e
theorem B7W:B0 PR 186:=A7 Tryz.func186 (by kernel_rfl) rfl
theorem B7m (h:B0L X t0 t1 R w):Fn PR X 186 #[t0,t1] w R:=C4 (args := [t0,t1]) mixed Tryz.func186 (by kernel_rfl) h
def A8J (X:Nat → Prop) (a b c:Value) (R:Value → WP):WP :=
 A6 PR (loadAt 9 b) fun d=>
 A6 PR (loadAt 84 c) fun e=>
 A0 PR (A8 .len #[84] 0 [e]) fun f=>
 B3 PR X 236 [d,f] fun g=>
 A6 PR (loadAt 84 c) fun h=>
 A0 PR (A8 .len #[84] 0 [h]) fun i=>
 lp (n:=1) (fun L1 j=>
 A0 PR (binOp .lss 3 j i) fun k=>
 jn (n:=0) (
 jn (n:=0) (
 A0 PR (binOp .add 3 j (.int .i64 1)) fun l=>
 L1 l) fun J2=>
 A0 PR (binOp .add 3 g j) fun m=>
 A6 PR (loadAt 84 c) fun o=>
 A0 PR (A8 .len #[84] 0 [o]) fun p=>
 A0 PR (binOp .rem 3 m p) fun q=>
 A6 PR (loadAt 84 c) fun r=>
 A0 PR (indexAt 84 r q) fun s=>
 A6 PR (loadAt 218 s) fun t=>
 N7 PR X a [q,t] fun u=>
 A0 PR (Op.unary .not u) fun v=>
 C0 v (
 R (.tuple #[])) (
 J2)) fun J3=>
 C0 k (
 J3) (
 R (.tuple #[]))) (.int .i64 0)
theorem B5n:B0 PR 235:=A7 Tryz.func235 (by kernel_rfl) rfl
theorem B6w (h:A8J X t0 t1 t2 R w):Fn PR X 235 #[t0,t1,t2] w R:=C4 (args := [t0,t1,t2]) mixed Tryz.func235 (by kernel_rfl) h
end
theorem B6r {X:Nat → Prop} {t0 t1 t2:Value} {K:Value → WP} {w:World} (h:Fn PR X 235 #[t0,t1,t2] w K):A4b PR X 235 [t0,t1,t2] K w:=⟨B5n,h⟩
section
open Instr
variable {X:Nat → Prop} {t0 t1 t2 t3 t4 t5 t6 t7:Value} {R:Value → WP} {w:World}
def B12 (X:Nat → Prop) (a b:Value) (R:Value → WP):WP :=
 jn (n:=1) (fun c=>
 B3 PR X 135 [a] fun d=>
 A0 PR (convert 3 89 b) fun e=>
 A0 PR (binOp .rem 89 d e) fun f=>
 A0 PR (convert 89 3 f) fun g=>
 R g) fun J1=>
 A0 PR (binOp .lss 3 b (.int .i64 1)) fun h=>
 C0 h (
 R (.int .i64 0)) (
 J1 (.int .i64 0))
theorem B7j:B0 PR 236:=A7 Tryz.func236 (by kernel_rfl) rfl
theorem B9S (h:B12 X t0 t1 R w):Fn PR X 236 #[t0,t1] w R:=C4 (args := [t0,t1]) mixed Tryz.func236 (by kernel_rfl) h
def A01 (X:Nat → Prop) (a b:Value) (R:Value → WP):WP :=
 jn (n:=2) (fun c d=>
 R c) fun J1=>
 A0 PR (A8 .len #[84] 0 [a]) fun e=>
 lp (n:=2) (fun L2 f g=>
 A0 PR (binOp .lss 3 g e) fun h=>
 jn (n:=0) (
 jn (n:=1) (fun i=>
 A0 PR (binOp .add 3 g (.int .i64 1)) fun j=>
 L2 i j) fun J3=>
 A0 PR (indexAt 84 a g) fun k=>
 A6 PR (loadAt 218 k) fun l=>
 B5 PR X (alloc 218 true (.tuple #[])) fun m=>
 C1 PR X (storeAt 218 m l) <|
 A6 PR (loadAt 218 m) fun o=>
 N7 PR X b [o] fun p=>
 C0 p (
 A0 PR (binOp .add 3 f (.int .i64 1)) fun q=>
 J3 q) (
 J3 f)) fun J4=>
 C0 h (
 J4) (
 J1 f g)) (.int .i64 0) (.int .i64 0)
theorem A50:B0 PR 240:=A7 Tryz.func240 (by kernel_rfl) rfl
theorem A60 (h:A01 X t0 t1 R w):Fn PR X 240 #[t0,t1] w R:=C4 (args := [t0,t1]) mixed Tryz.func240 (by kernel_rfl) h
def A5k (X:Nat → Prop) (a b:Value) (R:Value → WP):WP :=
 B5 PR X (box 218 a) fun c=>
 A0 PR (fieldAt 218 c 0) fun d=>
 A6 PR (loadAt 3 d) fun e=>
 A6 PR (loadAt 3 b) fun f=>
 A0 PR (binOp .eql 3 e f) fun g=>
 R g
theorem B3s:B0 PR 241:=A7 Tryz.func241 (by kernel_rfl) rfl
theorem B41 (h:A5k X t0 t1 R w):Fn PR X 241 #[t0,t1] w R:=C4 (args := [t0,t1]) mixed Tryz.func241 (by kernel_rfl) h
def B2K (X:Nat → Prop) (a b:Value) (R:Value → WP):WP :=
 B5 PR X (alloc 3 true (.tuple #[])) fun d=>
 jn (n:=0) (
 jn (n:=0) (
 C1 PR X (storeAt 3 d (.int .i64 (-1))) <|
 unw (A6 PR (E1 [.c 3 d]) R)) fun J1=>
 B3 PR X 179 [a,b] fun e=>
 rng (N:=2) PR X (fun f g K2=>
 B5 PR (fun _=> False) (alloc 218 true (.tuple #[])) fun h=>
 C1 PR (fun _=> False) (storeAt 218 h g) <|
 bgn <|
 A0 PR (fieldAt 218 h 0) fun k=>
 A6 PR (loadAt 3 k) fun l=>
 A0 PR (binOp .neq 3 l (.int .i64 1)) fun m=>
 C0 m (
 C1 PR (fun _=> False) (storeAt 3 d f) <|
 K2 (some .ret)) (
 K2 none)) e (fun j=> match j with | none=> (J1) | some (.exit i)=> (match Nat.beq i 0 with | true=> (J1) | false=> (K8)) | some .ret=> (unw (A6 PR (E1 [.c 3 d]) R)) | some _=> K8)) fun J3=>
 B3 PR X 133 [a,b] fun o=>
 A0 PR (binOp .geq 3 o (.int .i64 0)) fun p=>
 C0 p (
 C1 PR X (storeAt 3 d (.int .i64 (-1))) <|
 unw (A6 PR (E1 [.c 3 d]) R)) (
 J3)
theorem B72:B0 PR 242:=A7 Tryz.func242 (by kernel_rfl) rfl
theorem B9c (h:B2K X t0 t1 R w):Fn PR X 242 #[t0,t1] w R:=C4 (args := [t0,t1]) mixed Tryz.func242 (by kernel_rfl) h
def B6c (X:Nat → Prop) (a:Value) (R:Value → WP):WP :=
 B3 PR X 183 [(.int .u64 14695981039346656037),a] fun b=>
 R b
theorem A4q:B0 PR 135:=A7 Tryz.func135 (by kernel_rfl) rfl
theorem C4r (h:B6c X t0 R w):Fn PR X 135 #[t0] w R:=C4 (args := [t0]) mixed Tryz.func135 (by kernel_rfl) h
def B5L (X:Nat → Prop) (a b:Value) (R:Value → WP):WP :=
 B5 PR X (alloc 368 true (.tuple #[])) fun c=>
 B5 PR X (alloc 370 true (.tuple #[])) fun d=>
 C1 PR X (storeAt 368 c (.func (.func 238) #[] #[])) <|
 C1 PR X (storeAt 370 d a) <|
 jn (n:=0) (
 A6 PR (loadAt 370 d) fun e=>
 unw (R e)) fun J1=>
 B3 PR X 239 [b] fun f=>
 rng (N:=1) PR X (fun g K2=>
 bgn <|
 A6 PR (loadAt 368 c) fun h=>
 A6 PR (loadAt 370 d) fun k=>
 N7 PR (fun _=> False) h [k,g] fun l=>
 C1 PR (fun _=> False) (storeAt 370 d l) <|
 K2 none) f (fun j=> match j with | none=> (J1) | some (.exit i)=> (match Nat.beq i 0 with | true=> (J1) | false=> (K8)) | some .ret=> (unw (R (.int .u64 0))) | some _=> K8)
theorem B3l:B0 PR 183:=A7 Tryz.func183 (by kernel_rfl) rfl
theorem C2F (h:B5L X t0 t1 R w):Fn PR X 183 #[t0,t1] w R:=C4 (args := [t0,t1]) mixed Tryz.func183 (by kernel_rfl) h
def B0W (X:Nat → Prop) (a b:Value) (R:Value → WP):WP :=
 A0 PR (convert 5 370 b) fun c=>
 A0 PR (binOp .xor 370 a c) fun d=>
 A0 PR (binOp .mul 370 d (.int .u64 1099511628211)) fun e=>
 R e
theorem B7U:B0 PR 238:=A7 Tryz.func238 (by kernel_rfl) rfl
theorem B8V (h:B0W X t0 t1 R w):Fn PR X 238 #[t0,t1] w R:=C4 (args := [t0,t1]) mixed Tryz.func238 (by kernel_rfl) h
def B5E (X:Nat → Prop) (a:Value) (R:Value → WP):WP :=
 B5 PR X (box 9 a) fun b=>
 A0 PR (makeFunc (.func 268) #[] #[b]) fun c=>
 R c
theorem C1L:B0 PR 239:=A7 Tryz.func239 (by kernel_rfl) rfl
theorem C2U (h:B5E X t0 R w):Fn PR X 239 #[t0] w R:=C4 (args := [t0]) mixed Tryz.func239 (by kernel_rfl) h
def A9w (X:Nat → Prop) (a b:Value) (R:Value → WP):WP :=
 A6 PR (loadAt 9 b) fun c=>
 A0 PR (A8 .len #[9] 0 [c]) fun d=>
 lp (n:=1) (fun L1 e=>
 A0 PR (binOp .lss 3 e d) fun f=>
 jn (n:=0) (
 jn (n:=0) (
 A0 PR (binOp .add 3 e (.int .i64 1)) fun g=>
 L1 g) fun J2=>
 A6 PR (loadAt 9 b) fun h=>
 A0 PR (index 9 h e) fun i=>
 N7 PR X a [i] fun j=>
 A0 PR (Op.unary .not j) fun k=>
 C0 k (
 R (.tuple #[])) (
 J2)) fun J3=>
 C0 f (
 J3) (
 R (.tuple #[]))) (.int .i64 0)
theorem B6L:B0 PR 268:=A7 Tryz.func268 (by kernel_rfl) rfl
theorem B7v (h:A9w X t0 t1 R w):Fn PR X 268 #[t0,t1] w R:=C4 (args := [t0,t1]) mixed Tryz.func268 (by kernel_rfl) h
end
theorem B8A {X:Nat → Prop} {t0 t1:Value} {K:Value → WP} {w:World} (h:Fn PR X 268 #[t0,t1] w K):A4b PR X 268 [t0,t1] K w:=⟨B6L,h⟩
def A6E (h b:Nat):Nat:=((h ^^^ b) * 1099511628211) % 18446744073709551616
def A1n (h:Nat) (s:ByteArray):Nat → Nat
 | 0=> h
 | i + 1=> A6E (A1n h s i) (C9 s i)
def B1C (h:Nat) (s:ByteArray):Nat:=A1n h s s.size
def S5 (s:ByteArray):Nat:=B1C 14695981039346656037 s
theorem D1M (h b:Nat):A6E h b < 2 ^ 64:=by unfold A6E; omega
theorem B7n {h:Nat} (hh:h < 2 ^ 64) (s:ByteArray) (i:Nat):A1n h s i < 2 ^ 64:=by
 cases i with
 | zero=> exact hh
 | succ i=> exact D1M _ _
theorem D5y (w:World) (h b:Nat) (hh:h < 2 ^ 64) (hb:b < 256):Fn PR B8 238 #[.int .u64 (h:Int),.int .u8 (b:Int)] w (fun v w' => v = .int .u64 (A6E h b:Nat) ∧ C7 [] w w'):=by
 refine Fn.pure (B8V (TW.go (κ:=false) (S := []) ?_))
 unfold B0W
 (have z:=trivial;repeat((first|clear z|with_reducible first|apply A3|refine A4 fun _=>?_|refine A5 fun _=>?_);try simp(disch:=solve|omega|assumption|repeat(first|exact A1|exact uH|apply A2|apply uT)|(simp;try omega)|fail)[]))
 have e1:(h % 2 ^ IntKind.u64.bits ^^^ b % 2 ^ IntKind.u64.bits) = h ^^^ b:=by rw [show (2:Nat) ^ IntKind.u64.bits = 2 ^ 64 from rfl,Nat.mod_eq_of_lt hh,Nat.mod_eq_of_lt (by omega)]
 have e2:h ^^^ b < 2 ^ 64:=Nat.xor_lt_two_pow hh (by omega)
 rw [e1,A09 (n:=((h ^^^ b:Nat):Int)) (by omega) (by omega)]
 refine A9 ?_
 have e3:IntKind.u64.wrap (((h ^^^ b:Nat):Int) * 1099511628211) = (A6E h b:Nat):=by
  simp only [IntKind.wrap,IntKind.bits,IntKind.signed,A6E]
  simp
 rw [e3]
abbrev D0M (b:Nat):Value:=.func (.func 268) #[] #[.pointer (some ⟨b,0,none⟩)]
theorem D1d (w:World) (s:ByteArray):Fn PR B8 239 #[.string s] w (Rn [] w (fun b v=> v = D0M b) fun b=> [.pt b (.cells #[.string s] 9)]):=by
 refine C2U (TW.go (κ:=false) (S := []) ?_)
 unfold B5E
 (have z:=trivial;repeat((first|clear z|with_reducible first|apply A3|refine A4 fun _=>?_|refine A5 fun _=>?_);try simp(disch:=solve|omega|assumption|repeat(first|exact A1|exact uH|apply A2|apply uT)|(simp;try omega)|fail)[]))
 rename_i b
 exact u7 b rfl (by simp)
def B9w (s:ByteArray) (i:Nat):List Value := [.int .u8 (C9 s i:Nat)]
theorem D1l (b:Nat) (s:ByteArray) (hs:s.size < 2 ^ 60):B00 (D0M b) [.pt b (.cells #[.string s] 9)] (fun _ _=> True) ((List.range s.size).map (B9w s)):=by
 refine ⟨_,_,_,rfl,fun l J E hJ hE stJ stE hy w0 h0=> ?_⟩
 refine B8A (B7v (TW.at (κ:=true) ?_ (hJ _ _ _ h0).1))
 unfold A9w
 (have z:=trivial;repeat((first|clear z|with_reducible first|apply A3|refine A4 fun _=>?_|refine A5 fun _=>?_);try simp(disch:=solve|omega|assumption|repeat(first|exact A1|exact uH|apply A2|apply uT)|(simp;try omega)|fail)[]))
 refine B0G s.size (fun i=> i) (fun _=> _) hJ stJ h0 fun i a hi hJi _ L hL=> ?_
 by_cases hlt:i < s.size
 ·obtain ⟨by0,hb0,hb1⟩:=x9 (s:=s) (i:=i) hlt
  have hb0':s[((i:Nat):Int).toNat]? = some by0:=by rw [Int.toNat_natCast]; exact hb0
  (have z:=trivial;repeat((first|clear z|with_reducible first|apply A3|refine A4 fun _=>?_|refine A5 fun _=>?_);try simp(disch:=solve|omega|assumption|repeat(first|exact A1|exact uH|apply A2|apply uT)|(simp;try omega)|fail)[hlt,c8]))
  rw [hb1]
  refine B4L hJ hE stJ hy hJi (by simpa using hlt) (by simp [B9w]) (fun w3 h=> ?_) (fun w3 h=> ?_)
  ·(have z:=trivial;repeat((first|clear z|with_reducible first|apply A3|refine A4 fun _=>?_|refine A5 fun _=>?_);try simp(disch:=solve|omega|assumption|repeat(first|exact A1|exact uH|apply A2|apply uT)|(simp;try omega)|fail)[]))
   exact fun w' hw' => hL hlt w' (stJ _ _ _ _ _ h hw')
  ·(have z:=trivial;repeat((first|clear z|with_reducible first|apply A3|refine A4 fun _=>?_|refine A5 fun _=>?_);try simp(disch:=solve|omega|assumption|repeat(first|exact A1|exact uH|apply A2|apply uT)|(simp;try omega)|fail)[]))
   exact A91 stE h
 ·obtain rfl:i = s.size:=by omega
  (have z:=trivial;repeat((first|clear z|with_reducible first|apply A3|refine A4 fun _=>?_|refine A5 fun _=>?_);try simp(disch:=solve|omega|assumption|repeat(first|exact A1|exact uH|apply A2|apply uT)|(simp;try omega)|fail)[]))
  exact B0C stJ (by simpa using hJi)
theorem C3L (w:World) (h:Nat) (s:ByteArray) (hh:h < 2 ^ 64) (hs:s.size < 2 ^ 60):Fn PR B8 183 #[.int .u64 (h:Int),.string s] w (fun v w' => v = .int .u64 (B1C h s:Nat) ∧ C7 [] w w'):=by
 refine Fn.pure (C2F (TW.go (κ:=false) (S := []) ?_))
 unfold B5L
 (have z:=trivial;repeat((first|clear z|with_reducible first|apply A3|refine A4 fun _=>?_|refine A5 fun _=>?_);try simp(disch:=solve|omega|assumption|repeat(first|exact A1|exact uH|apply A2|apply uT)|(simp;try omega)|fail)[]))
 rename_i bf bx
 refine H3 C1L (fun w' _=> D1d w' s) ?_
 rintro b v rfl
 refine A8j (D1l b s hs) (by simp [B9w]) (fun _ (_:Unit)=> True) (fun i _=> [.pt bx (.cells #[.int .u64 ((A1n h s i:Nat):Int)] 370),.pt bf (.cells #[.func (.func 238) #[] #[]] 368)])
  (fun _ (_:Unit)=> False) (fun _=> []) () trivial ?_ ?_ ?_ ?_ (by simp [A1n])
 ·intros; trivial
 ·rintro i hi _ F _ K' hK _
  simp only [List.getElem_map,List.getElem_range,B9w,VF.app]
  (have z:=trivial;repeat((first|clear z|with_reducible first|apply A3|refine A4 fun _=>?_|refine A5 fun _=>?_);try simp(disch:=solve|omega|assumption|repeat(first|exact A1|exact uH|apply A2|apply uT)|(simp;try omega)|fail)[]))
  refine B7 B7U (fun w' _=> D5y w' _ _ (B7n hh s i) (P6 s i)) ?_
  (have z:=trivial;repeat((first|clear z|with_reducible first|apply A3|refine A4 fun _=>?_|refine A5 fun _=>?_);try simp(disch:=solve|omega|assumption|repeat(first|exact A1|exact uH|apply A2|apply uT)|(simp;try omega)|fail)[]))
  exact TW.eqH (by simp [A1n]) (hK () trivial)
 ·rintro _ _
  (have z:=trivial;repeat((first|clear z|with_reducible first|apply A3|refine A4 fun _=>?_|refine A5 fun _=>?_);try simp(disch:=solve|omega|assumption|repeat(first|exact A1|exact uH|apply A2|apply uT)|(simp;try omega)|fail)[]))
  exact A9 (by simp [B1C])
 ·rintro _ _ h; exact h.elim
theorem A8G (w:World) (s:ByteArray) (hs:s.size < 2 ^ 60):Fn PR B8 135 #[.string s] w (fun v w' => v = .int .u64 (S5 s:Nat) ∧ C7 [] w w'):=by
 refine Fn.pure (C4r (TW.go (κ:=false) (S := []) ?_))
 unfold B6c
 refine B7 B3l (fun w' _=> C3L w' 14695981039346656037 s (by omega) hs) ?_
 exact A9 rfl
def K1 (key:ByteArray) (n:Nat):Nat:=S5 key % n
theorem B0Q (s:ByteArray):S5 s < 2 ^ 64:=B7n (by omega) s _
theorem D1V (w:World) (key:ByteArray) (n:Nat) (hk:key.size < 2 ^ 60) (hn:n ≤ 1000000):Fn PR B8 236 #[.string key,.int .i64 (n:Int)] w (fun v w' => v = .int .i64 (if n = 0 then 0 else K1 key n:Nat) ∧ C7 [] w w'):=by
 refine Fn.pure (B9S (TW.go (κ:=false) (S := []) ?_))
 unfold B12
 by_cases c1:n = 0
 ·have c1':(n:Int) < 1:=by omega
  (have z:=trivial;repeat((first|clear z|with_reducible first|apply A3|refine A4 fun _=>?_|refine A5 fun _=>?_);try simp(disch:=solve|omega|assumption|repeat(first|exact A1|exact uH|apply A2|apply uT)|(simp;try omega)|fail)[c1']))
  exact A9 (by simp [c1])
 have c1':¬ (n:Int) < 1:=by omega
 have c1'':¬ (n:Int) = 0:=by omega
 (have z:=trivial;repeat((first|clear z|with_reducible first|apply A3|refine A4 fun _=>?_|refine A5 fun _=>?_);try simp(disch:=solve|omega|assumption|repeat(first|exact A1|exact uH|apply A2|apply uT)|(simp;try omega)|fail)[c1']))
 refine B7 A4q (fun w' _=> A8G w' key hk) ?_
 have hl:=B0Q key
 have hm:K1 key n < n:=Nat.mod_lt _ (by omega)
 have e1:((S5 key:Nat):Int).tmod n = (K1 key n:Nat):=by unfold K1; rw [Int.tmod_eq_emod_of_nonneg (by omega)]; omega
 have e2:((S5 key:Nat):Int) % n = (K1 key n:Nat):=by unfold K1; omega
 (have z:=trivial;repeat((first|clear z|with_reducible first|apply A3|refine A4 fun _=>?_|refine A5 fun _=>?_);try simp(disch:=solve|omega|assumption|repeat(first|exact A1|exact uH|apply A2|apply uT)|(simp;try omega)|fail)[c1'',e1,U7]))
 exact A9 (by simp [c1])
def noE:EnV:=⟨0,M6,0,0⟩
def P7 (l:List EnV) (key:ByteArray):List (Nat × EnV):=(List.range l.length).map fun i=> ((K1 key l.length + i) % l.length,l.getD ((K1 key l.length + i) % l.length) noE)
def B1V (p:Nat × EnV):List Value := [.int .i64 (p.1:Nat),.agg #[.int .i64 p.2.st,.string p.2.key,.int .i64 p.2.bk,.int .i64 p.2.dl]]
abbrev D2U (x:Nat × Nat):Value:=.func (.func 235) #[] #[.pointer (some ⟨x.1,0,none⟩),.pointer (some ⟨x.2,0,none⟩)]
abbrev C00 (x:Nat × Nat) (v:Value) (key:ByteArray):List Res := [.pt x.1 (.cells #[.string key] 9),.pt x.2 (.cells #[v] 84)]
theorem C5r (w:World) (v:Value) (key:ByteArray) (hv:∃ a n c,v = .slice a n c):Fn PR B8 179 #[v,.string key] w (Rn [] w (fun x u=> u = D2U x) fun x=> C00 x v key):=by
 obtain ⟨a,n,c,rfl⟩:=hv
 refine C1v (TW.go (κ:=false) (S := []) ?_)
 unfold B4C
 (have z:=trivial;repeat((first|clear z|with_reducible first|apply A3|refine A4 fun _=>?_|refine A5 fun _=>?_);try simp(disch:=solve|omega|assumption|repeat(first|exact A1|exact uH|apply A2|apply uT)|(simp;try omega)|fail)[]))
 rename_i b1 b2
 exact B1 (b2,b1) rfl (by (repeat' constructor))
def RqS (v:Value) (n:Nat) (xs:List Value) (F:List Res) (w:World):Prop := ∃ a c,v = .slice a n c ∧ (0 < n → ∃ b o,a = some ⟨b,o,none⟩ ∧ P3 w b o xs ∧ b ∉ C3 F)
theorem RqS.of {v:Value} {n:Nat} {xs:List Value} {w0 w:World} {A F:List Res} (h:F5 w0 v n xs) (hx:0 < n → 0 < xs.length) (hw:LW false [] w0 (A ++ F) w):RqS v n xs F w:=by
 obtain ⟨a,c,rfl,hr⟩:=h.form
 refine ⟨a,c,rfl,fun hn=> ?_⟩
 obtain ⟨b,o,rfl,hrow⟩:=hr hn
 refine ⟨b,o,rfl,hw.ks.row (by simp) hrow,hw.notin_old ?_ (by simp)⟩
 have h0:=hrow 0 (hx hn)
 rw [List.getElem?_eq_getElem (hx hn)] at h0
 obtain ⟨c',t',z',h1,h2⟩:=A0k h0
 exact M2 h1
theorem A6A (l:List EnV):(l.flatMap F1).length = l.length * 4:=by
 induction l with
 | nil=> rfl
 | cons x l ih=> rw [List.flatMap_cons,List.length_append,ih]; simp [F1]; omega
theorem C5b (x:Nat × Nat) (v:Value) (l:List EnV) (key:ByteArray) (hk:key.size < 2 ^ 60) (hn:l.length ≤ 1000000):B00 (D2U x) (C00 x v key) (RqS v l.length (l.flatMap F1)) ((P7 l key).map B1V):=by
 obtain ⟨bk,bt⟩:=x
 refine ⟨_,_,_,rfl,fun y J E hJ hE stJ stE hy w0 h0=> ?_⟩
 obtain ⟨a,c,hv,hr⟩:=(hJ _ _ _ h0).2
 subst hv
 refine B6r (B6w (TW.at (κ:=true) ?_ (hJ _ _ _ h0).1))
 unfold A8J
 simp only [C00]
 (have z:=trivial;repeat((first|clear z|with_reducible first|apply A3|refine A4 fun _=>?_|refine A5 fun _=>?_);try simp(disch:=solve|omega|assumption|repeat(first|exact A1|exact uH|apply A2|apply uT)|(simp;try omega)|fail)[]))
 refine B7 B7j (fun w' _=> D1V w' key l.length hk hn) ?_
 (have z:=trivial;repeat((first|clear z|with_reducible first|apply A3|refine A4 fun _=>?_|refine A5 fun _=>?_);try simp(disch:=solve|omega|assumption|repeat(first|exact A1|exact uH|apply A2|apply uT)|(simp;try omega)|fail)[]))
 refine B0G l.length (fun i=> i) (fun _=> _) hJ stJ h0 fun i a' hi hJi hRi L hL=> ?_
 by_cases hlt:i < l.length
 ·obtain ⟨_,_,hv,hr⟩:=hRi
  obtain ⟨b,o,hb,hrow,hnb⟩:=hr (by omega)
  cases hv
  have hh:K1 key l.length < l.length:=Nat.mod_lt _ (by omega)
  have e0:(if l.length = 0 then 0 else K1 key l.length) = K1 key l.length:=if_neg (by omega)
  have hj:(K1 key l.length + i) % l.length < l.length:=Nat.mod_lt _ (by omega)
  have hx:l[(K1 key l.length + i) % l.length]? = some (l.getD ((K1 key l.length + i) % l.length) noE):=by
   rw [List.getD_eq_getElem?_getD,List.getElem?_eq_getElem hj]; rfl
  have h1:=hrow.at (f:=F1) (k:=4) (fun _=> rfl) hx
  have e1:(((K1 key l.length:Nat):Int) + (i:Nat)).tmod l.length = ((K1 key l.length + i) % l.length:Nat):=by rw [Int.tmod_eq_emod_of_nonneg (by omega),Int.natCast_emod,Int.natCast_add]
  have hwi:∀ h,((P7 l key).map B1V)[i]'h = B1V ((K1 key l.length + i) % l.length,l.getD ((K1 key l.length + i) % l.length) noE):=by
   intro h; simp only [List.getElem_map,P7,List.getElem_range]
  generalize hjd:(K1 key l.length + i) % l.length = j at *
  generalize hxd:l.getD j noE = x at *
  rw [F1] at h1
  have hnz:¬ (l.length:Int) = 0:=by omega
  subst hb
  rw [e0]
  (have z:=trivial;repeat((first|clear z|with_reducible first|apply A3|refine A4 fun _=>?_|refine A5 fun _=>?_);try simp(disch:=solve|omega|assumption|repeat(first|exact A1|exact uH|apply A2|apply uT)|(simp;try omega)|fail)[hlt,e1,h1,hnz,U7]))
  refine B4L hJ hE stJ hy hJi (by simpa [P7] using hlt) (hwi _) (fun w3 h=> ?_) (fun w3 h=> ?_)
  ·(have z:=trivial;repeat((first|clear z|with_reducible first|apply A3|refine A4 fun _=>?_|refine A5 fun _=>?_);try simp(disch:=solve|omega|assumption|repeat(first|exact A1|exact uH|apply A2|apply uT)|(simp;try omega)|fail)[]))
   exact fun w' hw' => hL hlt w' (stJ _ _ _ _ _ h hw')
  ·(have z:=trivial;repeat((first|clear z|with_reducible first|apply A3|refine A4 fun _=>?_|refine A5 fun _=>?_);try simp(disch:=solve|omega|assumption|repeat(first|exact A1|exact uH|apply A2|apply uT)|(simp;try omega)|fail)[]))
   exact A91 stE h
 ·obtain rfl:i = l.length:=by omega
  (have z:=trivial;repeat((first|clear z|with_reducible first|apply A3|refine A4 fun _=>?_|refine A5 fun _=>?_);try simp(disch:=solve|omega|assumption|repeat(first|exact A1|exact uH|apply A2|apply uT)|(simp;try omega)|fail)[]))
  exact B0C stJ (by simpa [P7] using hJi)
def M5 (key:ByteArray):List (Nat × EnV) → Int
 | []=> -1
 | p :: r=> if p.2.st = 0 then -1 else if p.2.st = 1 ∧ p.2.key = key then p.1 else M5 key r
def E4 (l:List EnV) (key:ByteArray):Int:=M5 key (P7 l key)
theorem C2x {α:Type} {l:List α} {i:Nat} (h:i < l.length):l.drop i = l[i] :: l.drop (i + 1):=List.drop_eq_getElem_cons h
theorem B5Y (L:List (Nat × EnV)):∀ x ∈ L.map B1V,x.length = 2:=by
 intro x hx; obtain ⟨p,_,rfl⟩:=List.mem_map.1 hx; rfl
theorem A3Y (w:World) (v:Value) (l:List EnV) (key:ByteArray) (hk:key.size < 2 ^ 60) (hn:l.length ≤ 1000000) (hv:F5 w v l.length (l.flatMap F1)) :
  Fn PR B8 133 #[v,.string key] w (fun r w' => r = .int .i64 (E4 l key) ∧ C7 [] w w'):=by
 refine Fn.pure (B89 (TW.go (κ:=false) (S := []) ?_))
 unfold B10
 (have z:=trivial;repeat((first|clear z|with_reducible first|apply A3|refine A4 fun _=>?_|refine A5 fun _=>?_);try simp(disch:=solve|omega|assumption|repeat(first|exact A1|exact uH|apply A2|apply uT)|(simp;try omega)|fail)[]))
 rename_i bk bf
 refine H3 B2H (fun w' _=> C5r w' v key (by obtain ⟨a,c,rfl,_⟩:=hv.form; exact ⟨a,_,c,rfl⟩)) ?_
 rintro x u rfl
 refine A8j (C5b x v l key hk hn) (B5Y _) (fun i (_:Unit)=> M5 key ((P7 l key).drop i) = E4 l key) (fun _ _=> [.pt bf (.cells #[.int .i64 (-1)] 3),.pt bk (.cells #[.string key] 9)])
  (fun c (y:Unit)=> c = .exit 0) (fun y=> [.pt bf (.cells #[.int .i64 (E4 l key)] 3)]) () rfl ?_ ?_ ?_ ?_ (by simp [C00])
 ·intro i _ F w1 _ hw
  exact RqS.of hv (fun h=> by rw [A6A]; omega) hw
 ·rintro i hi _ F hψ K' hK hE
  have hi':i < (P7 l key).length:=by simpa using hi
  rw [C2x hi'] at hψ
  simp only [List.getElem_map]
  generalize (P7 l key)[i] = p at *
  simp only [B1V,VF.app]
  by_cases c0:p.2.st = 0
  ·(have z:=trivial;repeat((first|clear z|with_reducible first|apply A3|refine A4 fun _=>?_|refine A5 fun _=>?_);try simp(disch:=solve|omega|assumption|repeat(first|exact A1|exact uH|apply A2|apply uT)|(simp;try omega)|fail)[c0]))
   refine TW.sub (hE (.exit 0) () rfl) ?_
   rw [← hψ]
   simp only [M5,c0,if_true]
   ((try simp only [List.cons_append,List.nil_append,List.append_assoc]); (repeat (first | exact List.Sublist.refl _ | exact List.nil_sublist _ | with_reducible apply List.Sublist.cons_cons | apply List.Sublist.cons)); first | done | fail)
  by_cases c1:p.2.st = 1
  ·by_cases c2:p.2.key = key
   ·(have z:=trivial;repeat((first|clear z|with_reducible first|apply A3|refine A4 fun _=>?_|refine A5 fun _=>?_);try simp(disch:=solve|omega|assumption|repeat(first|exact A1|exact uH|apply A2|apply uT)|(simp;try omega)|fail)[c0,c1,c2]))
    refine TW.sub (hE (.exit 0) () rfl) ?_
    rw [← hψ]
    simp [M5,c1,c2]
    ((try simp only [List.cons_append,List.nil_append,List.append_assoc]); (repeat (first | exact List.Sublist.refl _ | exact List.nil_sublist _ | with_reducible apply List.Sublist.cons_cons | apply List.Sublist.cons)); first | done | fail)
   ·(have z:=trivial;repeat((first|clear z|with_reducible first|apply A3|refine A4 fun _=>?_|refine A5 fun _=>?_);try simp(disch:=solve|omega|assumption|repeat(first|exact A1|exact uH|apply A2|apply uT)|(simp;try omega)|fail)[c0,c1,c2]))
    refine TW.sub (hK () ?_) (by ((try simp only [List.cons_append,List.nil_append,List.append_assoc]); (repeat (first | exact List.Sublist.refl _ | exact List.nil_sublist _ | with_reducible apply List.Sublist.cons_cons | apply List.Sublist.cons)); first | done | fail))
    rw [← hψ]
    simp [M5,c1,c2]
  ·(have z:=trivial;repeat((first|clear z|with_reducible first|apply A3|refine A4 fun _=>?_|refine A5 fun _=>?_);try simp(disch:=solve|omega|assumption|repeat(first|exact A1|exact uH|apply A2|apply uT)|(simp;try omega)|fail)[c0,c1]))
   refine TW.sub (hK () ?_) (by ((try simp only [List.cons_append,List.nil_append,List.append_assoc]); (repeat (first | exact List.Sublist.refl _ | exact List.nil_sublist _ | with_reducible apply List.Sublist.cons_cons | apply List.Sublist.cons)); first | done | fail))
   rw [← hψ]
   simp [M5,c0,c1]
 ·intro _ hψ
  (have z:=trivial;repeat((first|clear z|with_reducible first|apply A3|refine A4 fun _=>?_|refine A5 fun _=>?_);try simp(disch:=solve|omega|assumption|repeat(first|exact A1|exact uH|apply A2|apply uT)|(simp;try omega)|fail)[]))
  simp only [List.length_map,List.drop_length,M5] at hψ
  exact A9 (by rw [← hψ])
 ·rintro _ _ rfl
  (have z:=trivial;repeat((first|clear z|with_reducible first|apply A3|refine A4 fun _=>?_|refine A5 fun _=>?_);try simp(disch:=solve|omega|assumption|repeat(first|exact A1|exact uH|apply A2|apply uT)|(simp;try omega)|fail)[]))
  exact A9 rfl
def Q4:List (Nat × EnV) → Int
 | []=> -1
 | p :: r=> if p.2.st = 1 then Q4 r else p.1
def V7 (l:List EnV) (key:ByteArray):Int:=if 0 ≤ E4 l key then -1 else Q4 (P7 l key)
theorem C0q (w:World) (v:Value) (l:List EnV) (key:ByteArray) (hk:key.size < 2 ^ 60) (hn:l.length ≤ 1000000) (hv:F5 w v l.length (l.flatMap F1)) :
  Fn PR B8 242 #[v,.string key] w (fun r w' => r = .int .i64 (V7 l key) ∧ C7 [] w w'):=by
 refine Fn.pure (B9c (TW.go (κ:=false) (S := []) ?_))
 unfold B2K
 (have z:=trivial;repeat((first|clear z|with_reducible first|apply A3|refine A4 fun _=>?_|refine A5 fun _=>?_);try simp(disch:=solve|omega|assumption|repeat(first|exact A1|exact uH|apply A2|apply uT)|(simp;try omega)|fail)[]))
 rename_i bf
 refine B7 A07 (fun w' hw' => A3Y w' v l key hk hn (hv.ks hw'.ks (by simp))) ?_
 by_cases c1:0 ≤ E4 l key
 ·(have z:=trivial;repeat((first|clear z|with_reducible first|apply A3|refine A4 fun _=>?_|refine A5 fun _=>?_);try simp(disch:=solve|omega|assumption|repeat(first|exact A1|exact uH|apply A2|apply uT)|(simp;try omega)|fail)[c1]))
  exact A9 (by simp [V7,c1])
 have e1:V7 l key = Q4 (P7 l key):=if_neg c1
 (have z:=trivial;repeat((first|clear z|with_reducible first|apply A3|refine A4 fun _=>?_|refine A5 fun _=>?_);try simp(disch:=solve|omega|assumption|repeat(first|exact A1|exact uH|apply A2|apply uT)|(simp;try omega)|fail)[c1]))
 refine H3 B2H (fun w' _=> C5r w' v key (by obtain ⟨a,c,rfl,_⟩:=hv.form; exact ⟨a,_,c,rfl⟩)) ?_
 rintro x u rfl
 refine A8j (C5b x v l key hk hn) (B5Y _) (fun i (_:Unit)=> Q4 ((P7 l key).drop i) = V7 l key) (fun _ _=> [.pt bf (.cells #[.int .i64 0] 3)])
  (fun c (y:Unit)=> c = .ret) (fun y=> [.pt bf (.cells #[.int .i64 (V7 l key)] 3)]) () (by rw [List.drop_zero,e1]) ?_ ?_ ?_ ?_ (by simp [C00])
 ·intro i _ F w1 _ hw
  exact RqS.of hv (fun h=> by rw [A6A]; omega) hw
 ·rintro i hi _ F hψ K' hK hE
  have hi':i < (P7 l key).length:=by simpa using hi
  rw [C2x hi'] at hψ
  simp only [List.getElem_map]
  generalize (P7 l key)[i] = p at *
  simp only [B1V,VF.app]
  by_cases c1:p.2.st = 1
  ·(have z:=trivial;repeat((first|clear z|with_reducible first|apply A3|refine A4 fun _=>?_|refine A5 fun _=>?_);try simp(disch:=solve|omega|assumption|repeat(first|exact A1|exact uH|apply A2|apply uT)|(simp;try omega)|fail)[c1]))
   refine TW.sub (hK () ?_) (by ((try simp only [List.cons_append,List.nil_append,List.append_assoc]); (repeat (first | exact List.Sublist.refl _ | exact List.nil_sublist _ | with_reducible apply List.Sublist.cons_cons | apply List.Sublist.cons)); first | done | fail))
   rw [← hψ]
   simp [Q4,c1]
  ·(have z:=trivial;repeat((first|clear z|with_reducible first|apply A3|refine A4 fun _=>?_|refine A5 fun _=>?_);try simp(disch:=solve|omega|assumption|repeat(first|exact A1|exact uH|apply A2|apply uT)|(simp;try omega)|fail)[c1]))
   refine TW.sub (hE .ret () rfl) ?_
   rw [← hψ]
   simp only [Q4,c1,if_false]
   ((try simp only [List.cons_append,List.nil_append,List.append_assoc]); (repeat (first | exact List.Sublist.refl _ | exact List.nil_sublist _ | with_reducible apply List.Sublist.cons_cons | apply List.Sublist.cons)); first | done | fail)
 ·intro _ hψ
  (have z:=trivial;repeat((first|clear z|with_reducible first|apply A3|refine A4 fun _=>?_|refine A5 fun _=>?_);try simp(disch:=solve|omega|assumption|repeat(first|exact A1|exact uH|apply A2|apply uT)|(simp;try omega)|fail)[]))
  simp only [List.length_map,List.drop_length,Q4] at hψ
  exact A9 (by rw [← hψ])
 ·rintro _ _ rfl
  (have z:=trivial;repeat((first|clear z|with_reducible first|apply A3|refine A4 fun _=>?_|refine A5 fun _=>?_);try simp(disch:=solve|omega|assumption|repeat(first|exact A1|exact uH|apply A2|apply uT)|(simp;try omega)|fail)[]))
  exact A9 rfl
theorem C39 (w:World) (x:EnV) (st:Int) (b:Nat) (hb:w.cell? ⟨b,0,none⟩ = some (.int .i64 st)):Fn PR B8 241 #[.agg #[.int .i64 x.st,.string x.key,.int .i64 x.bk,.int .i64 x.dl],.pointer (some ⟨b,0,none⟩)] w (fun r w' => r = .bool (decide (x.st = st)) ∧ C7 [] w w'):=by
 refine Fn.pure (B41 (TW.go (κ:=false) (S := []) ?_))
 unfold A5k
 (have z:=trivial;repeat((first|clear z|with_reducible first|apply A3|refine A4 fun _=>?_|refine A5 fun _=>?_);try simp(disch:=solve|omega|assumption|repeat(first|exact A1|exact uH|apply A2|apply uT)|(simp;try omega)|fail)[hb]))
 exact A9 rfl
def S4 (l:List EnV) (st:Int):Nat:=l.countP fun x=> decide (x.st = st)
theorem B47 {α:Type} {p:α → Bool} {l:List α} {i:Nat} {x:α} (hx:l[i]? = some x):(l.take (i + 1)).countP p = (l.take i).countP p + if p x then 1 else 0:=by
 rw [List.take_add_one,hx,List.countP_append]; simp [List.countP_cons]
theorem C8H (w:World) (v:Value) (l:List EnV) (p:EnV → Bool) (f:FuncId) (cap:List Value) (hn:l.length ≤ 1000000) (hv:F5 w v l.length (l.flatMap F1)) (he:B0 PR f)
  (hf:∀ w',KS false [] w w' → ∀ x:EnV,Fn PR B8 f (.agg #[.int .i64 x.st,.string x.key,.int .i64 x.bk,.int .i64 x.dl] :: cap).toArray w' (fun r w'' => r = .bool (p x) ∧ C7 [] w' w'')) :
  Fn PR B8 240 #[v,.func (.func f) #[] cap.toArray] w (fun r w' => r = .int .i64 (l.countP p:Nat) ∧ C7 [] w w'):=by
 refine Fn.pure (A60 (TW.go (κ:=false) (S := []) ?_))
 unfold A01
 obtain ⟨a,c,rfl,hr⟩:=hv.form
 (have z:=trivial;repeat((first|clear z|with_reducible first|apply A3|refine A4 fun _=>?_|refine A5 fun _=>?_);try simp(disch:=solve|omega|assumption|repeat(first|exact A1|exact uH|apply A2|apply uT)|(simp;try omega)|fail)[]))
 refine P5 (α:=Unit) l.length (fun i _=> .int .i64 ((l.take i).countP p:Nat)) (fun _ _=> []) (fun i _=> True) () trivial ?_
 rintro i _ hi _ L hL
 by_cases hlt:i < l.length
 ·obtain ⟨b,o,rfl,hrow⟩:=hr (by omega)
  obtain ⟨x,hx⟩:∃ x,l[i]? = some x:=⟨_,List.getElem?_eq_getElem (by omega)⟩
  have h1:=hrow.at (f:=F1) (k:=4) (fun _=> rfl) hx
  rw [F1] at h1
  (have z:=trivial;repeat((first|clear z|with_reducible first|apply A3|refine A4 fun _=>?_|refine A5 fun _=>?_);try simp(disch:=solve|omega|assumption|repeat(first|exact A1|exact uH|apply A2|apply uT)|(simp;try omega)|fail)[hlt,h1]))
  refine B8J he (φ:=fun r=> r = .bool (p x)) (fun w' hw' => by simpa using hf w' hw'.ks x) ?_
  rintro _ rfl
  have hc:=B47 (p:=p) hx
  have hle:(l.take i).countP p ≤ i:=Nat.le_trans List.countP_le_length (by simp; omega)
  have hL':=hL hlt () trivial
  rw [hc] at hL'
  cases hb:p x with
  | true=>
   rw [hb] at hL'
   (have z:=trivial;repeat((first|clear z|with_reducible first|apply A3|refine A4 fun _=>?_|refine A5 fun _=>?_);try simp(disch:=solve|omega|assumption|repeat(first|exact A1|exact uH|apply A2|apply uT)|(simp;try omega)|fail)[]))
   exact Sels.tw .nil (by simpa using hL')
  | false=>
   rw [hb] at hL'
   (have z:=trivial;repeat((first|clear z|with_reducible first|apply A3|refine A4 fun _=>?_|refine A5 fun _=>?_);try simp(disch:=solve|omega|assumption|repeat(first|exact A1|exact uH|apply A2|apply uT)|(simp;try omega)|fail)[]))
   exact Sels.tw .nil (by simpa using hL')
 ·obtain rfl:i = l.length:=by omega
  (have z:=trivial;repeat((first|clear z|with_reducible first|apply A3|refine A4 fun _=>?_|refine A5 fun _=>?_);try simp(disch:=solve|omega|assumption|repeat(first|exact A1|exact uH|apply A2|apply uT)|(simp;try omega)|fail)[]))
  exact A9 rfl
theorem C9q (w:World) (v:Value) (l:List EnV) (st:Int) (hn:l.length ≤ 1000000) (hv:F5 w v l.length (l.flatMap F1)) :
  Fn PR B8 186 #[v,.int .i64 st] w (fun r w' => r = .int .i64 (S4 l st:Nat) ∧ C7 [] w w'):=by
 refine Fn.pure (B7m (TW.go (κ:=false) (S := []) ?_))
 unfold B0L
 (have z:=trivial;repeat((first|clear z|with_reducible first|apply A3|refine A4 fun _=>?_|refine A5 fun _=>?_);try simp(disch:=solve|omega|assumption|repeat(first|exact A1|exact uH|apply A2|apply uT)|(simp;try omega)|fail)[]))
 rename_i b
 refine B7 A50 (fun w' hw' => C8H w' v l (fun x=> decide (x.st = st)) 241 [.pointer (some ⟨b,0,none⟩)] hn (hv.ks hw'.ks (by simp)) B3s
  fun w2 h x=> C39 w2 x st b (h.cell (by simp) (hw'.cell1 (by (repeat constructor))))) ?_
 exact A9 rfl
end Go.Proofs.YtjobgnabneddjaaGreat
