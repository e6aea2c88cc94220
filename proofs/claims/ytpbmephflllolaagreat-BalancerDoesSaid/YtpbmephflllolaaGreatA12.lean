/- The proof of a given statement, a part of it (Packet Bytes Sl Pool Vals ShProbe ShFnv Fnv Probe). No condition but what each lemma says. -/
import Derived.Lib.SlBytesRow
import Derived.Test.YtpbmephflllolaaGreatA11
set_option linter.unusedVariables false
set_option linter.unusedSimpArgs false
namespace Go.Proofs.YtpbmephflllolaaGreat
open Go
structure KeyV where
 v : Int
 src : ByteArray
 dst : ByteArray
 fr : Int
 tp : Int
 proto : Int
 deriving DecidableEq
def KeyV.cs (k : KeyV) : List Value := [.int .i64 k.v, .string k.src, .string k.dst, .int .i64 k.fr, .int .i64 k.tp, .int .i64 k.proto]
def KeyV.val (k : KeyV) : Value := .agg #[.int .i64 k.v, .string k.src, .string k.dst, .int .i64 k.fr, .int .i64 k.tp, .int .i64 k.proto]
def noK : KeyV := ⟨0, Q8, Q8, 0, 0, 0⟩
def M1 (s : ByteArray) : KeyV × ByteArray × Nat :=
 if s.size = 0 then (noK, Q8, 2) else if C3 s 0 / 16 = 4 then (⟨4, (P5 s).src, (P5 s).dst, 0, 0, (P5 s).proto⟩, (P5 s).rest, (P5 s).e)
 else if C3 s 0 / 16 = 6 then (⟨6, (Q4 s).src, (Q4 s).dst, 0, 0, (Q4 s).proto⟩, (Q4 s).rest, (Q4 s).e) else (noK, Q8, 3)
def keyed.val (x : KeyV × ByteArray × Nat) : Value := .tuple #[x.1.val, .string x.2.1, .int .i64 x.2.2]
theorem B9f (w : World) (src dst : ByteArray) (p : Int) : Fn PR B3 144 #[.agg #[.string src, .string dst, .int .i64 p]] w (fun v w' => v = KeyV.val ⟨4, src, dst, 0, 0, p⟩ ∧ C1 [] w w') := by
 refine Fn.pure (B0S (TW.go (κ := false) (S := []) ?_))
 unfold A3E
 (have zz:=trivial;repeat((first|clear zz|with_reducible first|refine A3 ?_|refine A4 fun _=>?_|refine A5 fun _=>?_);try simp(disch:=first|omega|assumption|((repeat(first|exact A1|exact uH|apply A2|apply uT));first|done|fail)|(simp;first|done|omega|fail))[]))
 exact A9 rfl
theorem C0P (w : World) (src dst : ByteArray) (p : Int) : Fn PR B3 147 #[.agg #[.string src, .string dst, .int .i64 p]] w (fun v w' => v = KeyV.val ⟨6, src, dst, 0, 0, p⟩ ∧ C1 [] w w') := by
 refine Fn.pure (A9j (TW.go (κ := false) (S := []) ?_))
 unfold A3M
 (have zz:=trivial;repeat((first|clear zz|with_reducible first|refine A3 ?_|refine A4 fun _=>?_|refine A5 fun _=>?_);try simp(disch:=first|omega|assumption|((repeat(first|exact A1|exact uH|apply A2|apply uT));first|done|fail)|(simp;first|done|omega|fail))[]))
 exact A9 rfl
theorem C3s (w : World) (s : ByteArray) (hs : s.size < 2 ^ 63) : Fn PR B3 142 #[.string s, .func (.func 143) #[] #[], .func (.func 144) #[] #[]] w
  (fun v w' => v = keyed.val (⟨4, (P5 s).src, (P5 s).dst, 0, 0, (P5 s).proto⟩, (P5 s).rest, (P5 s).e) ∧ C1 [] w w') := by
 refine Fn.pure (A5q (TW.go (κ := false) (S := []) ?_))
 unfold A0S
 (have zz:=trivial;repeat((first|clear zz|with_reducible first|refine A3 ?_|refine A4 fun _=>?_|refine A5 fun _=>?_);try simp(disch:=first|omega|assumption|((repeat(first|exact A1|exact uH|apply A2|apply uT));first|done|fail)|(simp;first|done|omega|fail))[]))
 refine B8 B5K (fun w' _ => B8a w' s hs) ?_
 (have zz:=trivial;repeat((first|clear zz|with_reducible first|refine A3 ?_|refine A4 fun _=>?_|refine A5 fun _=>?_);try simp(disch:=first|omega|assumption|((repeat(first|exact A1|exact uH|apply A2|apply uT));first|done|fail)|(simp;first|done|omega|fail))[HeadV.val]))
 refine B8 A9M (fun w' _ => B9f w' _ _ _) ?_
 (have zz:=trivial;repeat((first|clear zz|with_reducible first|refine A3 ?_|refine A4 fun _=>?_|refine A5 fun _=>?_);try simp(disch:=first|omega|assumption|((repeat(first|exact A1|exact uH|apply A2|apply uT));first|done|fail)|(simp;first|done|omega|fail))[KeyV.val]))
 exact A9 (by simp [keyed.val, KeyV.val])
theorem C4L (w : World) (s : ByteArray) (hs : s.size < 2 ^ 63) : Fn PR B3 145 #[.string s, .func (.func 146) #[] #[], .func (.func 147) #[] #[]] w
  (fun v w' => v = keyed.val (⟨6, (Q4 s).src, (Q4 s).dst, 0, 0, (Q4 s).proto⟩, (Q4 s).rest, (Q4 s).e) ∧ C1 [] w w') := by
 refine Fn.pure (A5F (TW.go (κ := false) (S := []) ?_))
 unfold A0f
 (have zz:=trivial;repeat((first|clear zz|with_reducible first|refine A3 ?_|refine A4 fun _=>?_|refine A5 fun _=>?_);try simp(disch:=first|omega|assumption|((repeat(first|exact A1|exact uH|apply A2|apply uT));first|done|fail)|(simp;first|done|omega|fail))[]))
 refine B8 B5W (fun w' _ => B79 w' s hs) ?_
 (have zz:=trivial;repeat((first|clear zz|with_reducible first|refine A3 ?_|refine A4 fun _=>?_|refine A5 fun _=>?_);try simp(disch:=first|omega|assumption|((repeat(first|exact A1|exact uH|apply A2|apply uT));first|done|fail)|(simp;first|done|omega|fail))[HeadV.val]))
 refine B8 A9N (fun w' _ => C0P w' _ _ _) ?_
 (have zz:=trivial;repeat((first|clear zz|with_reducible first|refine A3 ?_|refine A4 fun _=>?_|refine A5 fun _=>?_);try simp(disch:=first|omega|assumption|((repeat(first|exact A1|exact uH|apply A2|apply uT));first|done|fail)|(simp;first|done|omega|fail))[KeyV.val]))
 exact A9 (by simp [keyed.val, KeyV.val])
theorem C6E (w : World) (v : Int) : Fn PR B3 54 #[.int .i64 v] w (fun u w' => u = .int .i64 (if v = 4 then 4 else if v = 6 then 16 else 0) ∧ C1 [] w w') := by
 refine Fn.pure (B4a (TW.go (κ := false) (S := []) ?_))
 unfold A8A
 by_cases c1 : v = 4
 ·(have zz:=trivial;repeat((first|clear zz|with_reducible first|refine A3 ?_|refine A4 fun _=>?_|refine A5 fun _=>?_);try simp(disch:=first|omega|assumption|((repeat(first|exact A1|exact uH|apply A2|apply uT));first|done|fail)|(simp;first|done|omega|fail))[c1])); exact A9 (by simp)
 by_cases c2 : v = 6
 ·(have zz:=trivial;repeat((first|clear zz|with_reducible first|refine A3 ?_|refine A4 fun _=>?_|refine A5 fun _=>?_);try simp(disch:=first|omega|assumption|((repeat(first|exact A1|exact uH|apply A2|apply uT));first|done|fail)|(simp;first|done|omega|fail))[c1, c2])); exact A9 (by simp)
 ·(have zz:=trivial;repeat((first|clear zz|with_reducible first|refine A3 ?_|refine A4 fun _=>?_|refine A5 fun _=>?_);try simp(disch:=first|omega|assumption|((repeat(first|exact A1|exact uH|apply A2|apply uT));first|done|fail)|(simp;first|done|omega|fail))[c1, c2])); exact A9 (by simp)
theorem C4U (w : World) (s : ByteArray) (hs : s.size < 2 ^ 63) : Fn PR B3 100 #[.string s] w (fun u w' => u = keyed.val (M1 s) ∧ C1 [] w w') := by
 refine Fn.pure (B3E (TW.go (κ := false) (S := []) ?_))
 unfold A51
 by_cases c0 : s.size = 0
 ·have e : s = ByteArray.mk #[] := by
   apply ByteArray.ext; exact Array.eq_empty_of_size_eq_zero c0
  (have zz:=trivial;repeat((first|clear zz|with_reducible first|refine A3 ?_|refine A4 fun _=>?_|refine A5 fun _=>?_);try simp(disch:=first|omega|assumption|((repeat(first|exact A1|exact uH|apply A2|apply uT));first|done|fail)|(simp;first|done|omega|fail))[e]))
  exact A9 (by simp [M1, keyed.val, noK, KeyV.val])
 have c0' : ¬ s = ByteArray.mk #[] := fun e => c0 (by rw [e]; rfl)
 obtain ⟨by0, hb0, hb1⟩ := r9 (s := s) (i := 0) (by omega)
 have hb0' : s[(0 : Int).toNat]? = some by0 := hb0
 have hl0 := M7 s 0
 have e1 : ((by0.toNat : Nat) : Int).fdiv (2 ^ min 4 IntKind.u8.bits) = (C3 s 0 / 16 : Nat) := by rw [show (2 : Int) ^ min 4 IntKind.u8.bits = 16 from rfl, Int.fdiv_eq_ediv_of_nonneg _ (by omega), hb1]; omega
 by_cases c1 : C3 s 0 / 16 = 4
 ·have c1' : ((C3 s 0 : Nat) : Int) / 16 = 4 := by omega
  (have zz:=trivial;repeat((first|clear zz|with_reducible first|refine A3 ?_|refine A4 fun _=>?_|refine A5 fun _=>?_);try simp(disch:=first|omega|assumption|((repeat(first|exact A1|exact uH|apply A2|apply uT));first|done|fail)|(simp;first|done|omega|fail))[c0', Z4]))
  rw [e1]
  (have zz:=trivial;repeat((first|clear zz|with_reducible first|refine A3 ?_|refine A4 fun _=>?_|refine A5 fun _=>?_);try simp(disch:=first|omega|assumption|((repeat(first|exact A1|exact uH|apply A2|apply uT));first|done|fail)|(simp;first|done|omega|fail))[c1', c1]))
  refine B8 A4q (fun w' _ => C3s w' s hs) ?_
  (have zz:=trivial;repeat((first|clear zz|with_reducible first|refine A3 ?_|refine A4 fun _=>?_|refine A5 fun _=>?_);try simp(disch:=first|omega|assumption|((repeat(first|exact A1|exact uH|apply A2|apply uT));first|done|fail)|(simp;first|done|omega|fail))[keyed.val, KeyV.val]))
  exact A9 (by simp [M1, keyed.val, KeyV.val, c0, c1])
 have c1' : ¬ ((C3 s 0 : Nat) : Int) / 16 = 4 := by omega
 by_cases c2 : C3 s 0 / 16 = 6
 ·have c2' : ((C3 s 0 : Nat) : Int) / 16 = 6 := by omega
  (have zz:=trivial;repeat((first|clear zz|with_reducible first|refine A3 ?_|refine A4 fun _=>?_|refine A5 fun _=>?_);try simp(disch:=first|omega|assumption|((repeat(first|exact A1|exact uH|apply A2|apply uT));first|done|fail)|(simp;first|done|omega|fail))[c0', Z4]))
  rw [e1]
  (have zz:=trivial;repeat((first|clear zz|with_reducible first|refine A3 ?_|refine A4 fun _=>?_|refine A5 fun _=>?_);try simp(disch:=first|omega|assumption|((repeat(first|exact A1|exact uH|apply A2|apply uT));first|done|fail)|(simp;first|done|omega|fail))[c1', c1, c2', c2, Z4]))
  refine B8 A4x (fun w' _ => C4L w' s hs) ?_
  (have zz:=trivial;repeat((first|clear zz|with_reducible first|refine A3 ?_|refine A4 fun _=>?_|refine A5 fun _=>?_);try simp(disch:=first|omega|assumption|((repeat(first|exact A1|exact uH|apply A2|apply uT));first|done|fail)|(simp;first|done|omega|fail))[keyed.val, KeyV.val]))
  exact A9 (by simp [M1, keyed.val, KeyV.val, c0, c1, c2])
 have c2' : ¬ ((C3 s 0 : Nat) : Int) / 16 = 6 := by omega
 (have zz:=trivial;repeat((first|clear zz|with_reducible first|refine A3 ?_|refine A4 fun _=>?_|refine A5 fun _=>?_);try simp(disch:=first|omega|assumption|((repeat(first|exact A1|exact uH|apply A2|apply uT));first|done|fail)|(simp;first|done|omega|fail))[c0', Z4]))
 rw [e1]
 (have zz:=trivial;repeat((first|clear zz|with_reducible first|refine A3 ?_|refine A4 fun _=>?_|refine A5 fun _=>?_);try simp(disch:=first|omega|assumption|((repeat(first|exact A1|exact uH|apply A2|apply uT));first|done|fail)|(simp;first|done|omega|fail))[c1', c1, c2', c2, Z4]))
 exact A9 (by simp [M1, keyed.val, KeyV.val, c0, c1, c2, noK])
def D8 (s : ByteArray) : KeyV × Nat × Nat :=
 let x := M1 s
 if x.2.2 ≠ 0 then (noK, 0, x.2.2) else let y := L5 x.1.proto x.2.1; if y.2.2.2 ≠ 0 then (noK, 0, y.2.2.2) else ({ x.1 with fr := y.1, tp := y.2.1 }, y.2.2.1, 0)
def S3 (k : KeyV) (f : Int) : Value := .agg #[.int .i64 k.v, .string k.src, .string k.dst, .int .i64 k.fr, .int .i64 k.tp, .int .i64 k.proto, .int .i64 f]
def packet.val (x : KeyV × Nat × Nat) : Value := .tuple #[S3 x.1 x.2.1, .int .i64 x.2.2]
theorem C2y (s : ByteArray) : (P5 s).rest.size ≤ s.size := by
 unfold P5; split
 ·simp only [ByteArray.size_extract]; omega
 ·simp [HeadV.err]
theorem C2c (s : ByteArray) : (Q4 s).rest.size ≤ s.size := by
 unfold Q4; split
 ·simp only [ByteArray.size_extract]; omega
 ·simp [HeadV.err]
theorem B70 (s : ByteArray) : (M1 s).2.1.size ≤ s.size := by
 unfold M1
 split
 ·simp
 split
 ·exact C2y s
 split
 ·exact C2c s
 ·simp
theorem C0y (s : ByteArray) : (M1 s).2.1.size ≤ 65535 := by
 have h1 : (P5 s).rest.size ≤ 65535 := by
  have := f8 s 2
  unfold P5; split
  ·simp only [ByteArray.size_extract]; omega
  ·simp [HeadV.err]
 have h2 : (Q4 s).rest.size ≤ 65535 := by
  have := f8 s 4
  unfold Q4; split
  ·simp only [ByteArray.size_extract]; omega
  ·simp [HeadV.err]
 unfold M1
 split
 ·simp
 split
 ·exact h1
 split
 ·exact h2
 ·simp
theorem B3D (w : World) (s : ByteArray) (hs : s.size < 2 ^ 63) : Fn PR B3 56 #[.string s] w (fun u w' => u = packet.val (D8 s) ∧ C1 [] w w') := by
 refine Fn.pure (B3W (TW.go (κ := false) (S := []) ?_))
 unfold A6H
 (have zz:=trivial;repeat((first|clear zz|with_reducible first|refine A3 ?_|refine A4 fun _=>?_|refine A5 fun _=>?_);try simp(disch:=first|omega|assumption|((repeat(first|exact A1|exact uH|apply A2|apply uT));first|done|fail)|(simp;first|done|omega|fail))[]))
 refine B8 B1w (fun w' _ => C4U w' s hs) ?_
 have hr := C0y s
 by_cases c1 : (M1 s).2.2 = 0
 ·(have zz:=trivial;repeat((first|clear zz|with_reducible first|refine A3 ?_|refine A4 fun _=>?_|refine A5 fun _=>?_);try simp(disch:=first|omega|assumption|((repeat(first|exact A1|exact uH|apply A2|apply uT));first|done|fail)|(simp;first|done|omega|fail))[keyed.val, KeyV.val, c1]))
  refine B8 B3j (fun w' _ => B6v w' _ (by omega) _) ?_
  by_cases c2 : (L5 (M1 s).1.proto (M1 s).2.1).2.2.2 = 0
  ·(have zz:=trivial;repeat((first|clear zz|with_reducible first|refine A3 ?_|refine A4 fun _=>?_|refine A5 fun _=>?_);try simp(disch:=first|omega|assumption|((repeat(first|exact A1|exact uH|apply A2|apply uT));first|done|fail)|(simp;first|done|omega|fail))[L5.val, c2]))
   exact A9 (by simp [D8, packet.val, S3, KeyV.val, c1, c2])
  ·(have zz:=trivial;repeat((first|clear zz|with_reducible first|refine A3 ?_|refine A4 fun _=>?_|refine A5 fun _=>?_);try simp(disch:=first|omega|assumption|((repeat(first|exact A1|exact uH|apply A2|apply uT));first|done|fail)|(simp;first|done|omega|fail))[L5.val, c2]))
   exact A9 (by simp [D8, packet.val, S3, KeyV.val, c1, c2, noK])
 ·(have zz:=trivial;repeat((first|clear zz|with_reducible first|refine A3 ?_|refine A4 fun _=>?_|refine A5 fun _=>?_);try simp(disch:=first|omega|assumption|((repeat(first|exact A1|exact uH|apply A2|apply uT));first|done|fail)|(simp;first|done|omega|fail))[keyed.val, KeyV.val, c1]))
  exact A9 (by simp [D8, packet.val, S3, KeyV.val, c1, noK])
theorem B3u (w : World) (s : ByteArray) (hs : s.size < 2 ^ 40) : Fn PR B3 56 #[.string s] w (fun u w' => u = packet.val (D8 s) ∧ C1 [] w w') := B3D w s (by omega)
def W6 (k : KeyV) (f : Int) : ByteArray × Nat :=
 if k.v ≠ 4 ∧ k.v ≠ 6 then (Q8, 3) else let s := Y4 k.proto k.fr k.tp f; if s.2 ≠ 0 then (Q8, s.2) else if k.v = 6 then A8M k.src k.dst s.1 k.proto else A8u k.src k.dst s.1 k.proto
theorem B9n (number x y f : Int) : (Y4 number x y f).1.size ≤ 1000 := by
 have h6 := T0 6
 have h8 := T0 8
 unfold Y4 A28 A4H A6e
 repeat' split
 all_goals simp [h6, h8]
theorem B7e (w : World) (k : KeyV) (f : Int) : Fn PR B3 21 #[S3 k f] w (fun u w' => u = .tuple #[.string (W6 k f).1, .int .i64 (W6 k f).2] ∧ C1 [] w w') := by
 refine Fn.pure (B5b (TW.go (κ := false) (S := []) ?_))
 unfold A87
 have hz := B9n k.proto k.fr k.tp f
 by_cases c0 : k.v = 4
 ·(have zz:=trivial;repeat((first|clear zz|with_reducible first|refine A3 ?_|refine A4 fun _=>?_|refine A5 fun _=>?_);try simp(disch:=first|omega|assumption|((repeat(first|exact A1|exact uH|apply A2|apply uT));first|done|fail)|(simp;first|done|omega|fail))[S3, KeyV.val, c0]))
  refine B8 A4N (fun w' _ => A8q w' _ _ _ _) ?_
  by_cases c1 : (Y4 k.proto k.fr k.tp f).2 = 0
  ·(have zz:=trivial;repeat((first|clear zz|with_reducible first|refine A3 ?_|refine A4 fun _=>?_|refine A5 fun _=>?_);try simp(disch:=first|omega|assumption|((repeat(first|exact A1|exact uH|apply A2|apply uT));first|done|fail)|(simp;first|done|omega|fail))[c1, c0]))
   refine B8 B8J (fun w' _ => C2U w' _ _ _ _ (by omega)) ?_
   (have zz:=trivial;repeat((first|clear zz|with_reducible first|refine A3 ?_|refine A4 fun _=>?_|refine A5 fun _=>?_);try simp(disch:=first|omega|assumption|((repeat(first|exact A1|exact uH|apply A2|apply uT));first|done|fail)|(simp;first|done|omega|fail))[]))
   exact A9 (by simp [W6, c0, c1])
  ·(have zz:=trivial;repeat((first|clear zz|with_reducible first|refine A3 ?_|refine A4 fun _=>?_|refine A5 fun _=>?_);try simp(disch:=first|omega|assumption|((repeat(first|exact A1|exact uH|apply A2|apply uT));first|done|fail)|(simp;first|done|omega|fail))[c1, c0]))
   exact A9 (by simp [W6, c0, c1])
 by_cases c6 : k.v = 6
 ·(have zz:=trivial;repeat((first|clear zz|with_reducible first|refine A3 ?_|refine A4 fun _=>?_|refine A5 fun _=>?_);try simp(disch:=first|omega|assumption|((repeat(first|exact A1|exact uH|apply A2|apply uT));first|done|fail)|(simp;first|done|omega|fail))[S3, KeyV.val, c6]))
  refine B8 A4N (fun w' _ => A8q w' _ _ _ _) ?_
  by_cases c1 : (Y4 k.proto k.fr k.tp f).2 = 0
  ·(have zz:=trivial;repeat((first|clear zz|with_reducible first|refine A3 ?_|refine A4 fun _=>?_|refine A5 fun _=>?_);try simp(disch:=first|omega|assumption|((repeat(first|exact A1|exact uH|apply A2|apply uT));first|done|fail)|(simp;first|done|omega|fail))[c1, c6]))
   refine B8 B8p (fun w' _ => C1J w' _ _ _ _ (by omega)) ?_
   (have zz:=trivial;repeat((first|clear zz|with_reducible first|refine A3 ?_|refine A4 fun _=>?_|refine A5 fun _=>?_);try simp(disch:=first|omega|assumption|((repeat(first|exact A1|exact uH|apply A2|apply uT));first|done|fail)|(simp;first|done|omega|fail))[]))
   exact A9 (by simp [W6, c6, c1])
  ·(have zz:=trivial;repeat((first|clear zz|with_reducible first|refine A3 ?_|refine A4 fun _=>?_|refine A5 fun _=>?_);try simp(disch:=first|omega|assumption|((repeat(first|exact A1|exact uH|apply A2|apply uT));first|done|fail)|(simp;first|done|omega|fail))[c1, c6]))
   exact A9 (by simp [W6, c6, c1])
 ·(have zz:=trivial;repeat((first|clear zz|with_reducible first|refine A3 ?_|refine A4 fun _=>?_|refine A5 fun _=>?_);try simp(disch:=first|omega|assumption|((repeat(first|exact A1|exact uH|apply A2|apply uT));first|done|fail)|(simp;first|done|omega|fail))[S3, KeyV.val, c0, c6]))
  exact A9 (by simp [W6, c0, c6])
def S9 (k : KeyV) (f : Int) : Bool := decide (k.proto = 6) && !decide (IntKind.i64.wrap ((f % 2 ^ IntKind.i64.bits).toNat &&& 5 % 2 ^ IntKind.i64.bits : Nat) = 0)
theorem C0w (w : World) (k : KeyV) (f : Int) : Fn PR B3 22 #[S3 k f] w (fun u w' => u = .bool (S9 k f) ∧ C1 [] w w') := by
 refine Fn.pure (B1E (TW.go (κ := false) (S := []) ?_))
 unfold A3r
 by_cases c0 : k.proto = 6
 ·(have zz:=trivial;repeat((first|clear zz|with_reducible first|refine A3 ?_|refine A4 fun _=>?_|refine A5 fun _=>?_);try simp(disch:=first|omega|assumption|((repeat(first|exact A1|exact uH|apply A2|apply uT));first|done|fail)|(simp;first|done|omega|fail))[S3, KeyV.val, c0]))
  exact A9 (by simp [S9, c0])
 ·(have zz:=trivial;repeat((first|clear zz|with_reducible first|refine A3 ?_|refine A4 fun _=>?_|refine A5 fun _=>?_);try simp(disch:=first|omega|assumption|((repeat(first|exact A1|exact uH|apply A2|apply uT));first|done|fail)|(simp;first|done|omega|fail))[S3, KeyV.val, c0]))
  exact A9 (by simp [S9, c0])
end Go.Proofs.YtpbmephflllolaaGreat
namespace Go.Proofs.YtpbmephflllolaaGreat
open Go
section
variable {κ : Bool} {X : Nat → Prop} {S : List Nat} {w0 : World} {H H' : List Res} {K : Value → WP}
theorem C2J {P : Program} {g : Sem Value} {u : Value} {b : Nat} {c c' : Array Value} {T : TypeId} (hrun : ∀ w, bl w b = some (.cells c T (0, 0)) → g.run P w = .ok u (World.putb w b (.cells c' T (0, 0))))
  (hu : Up (.pt b (.cells c T (0, 0))) (.pt b (.cells c' T (0, 0))) H H') (hK : TW κ S w0 H' (K u)) : TW κ S w0 H (B2 P X g K) := fun w hw => by
 have hm : Res.pt b (.cells c T (0, 0)) ∈ H := by obtain ⟨A, B, rfl, _⟩ := hu.parts; simp
 have hb := hw.pt hm
 rw [Z1 (hrun w hb) (Sk.putb X hb)]
 refine hK _ (hw.up hu ⟨KS.putb hb (by simp [Res.foot]), ?_, ?_, by simp⟩)
 ·simp only [List.mem_singleton, forall_eq, Res.holds]; exact ⟨T6 (H9 hb), rfl⟩
 ·simp only [List.mem_singleton, forall_eq, Res.foot]; exact ⟨Or.inl (by simp), by have := H9 hb; simpa using this⟩
theorem B9T (w : World) : (underlying 127).run PR w = .ok (.slice 5) w := A3z.run_und
theorem C8Y (w : World) : (underlying 126).run PR w = .ok (.array 38 5) w := C0N.run_und
def Y9 (s : ByteArray) (o : Nat) (t : ByteArray) : ByteArray := s.extract 0 o ++ t ++ s.extract (o + t.size) s.size
theorem B0Q {s t : ByteArray} {o : Nat} (h : o + t.size ≤ s.size) : (Y9 s o t).size = s.size := by simp [Y9]; omega
theorem B4k (s t : ByteArray) (o : Nat) (h : o + t.size ≤ s.size) : E8 (F8 s).toArray o (F8 t) = (F8 (Y9 s o t)).toArray := by
 apply Array.toList_inj.1
 rw [A2F _ _ _ (by simpa using h)]
 simp [F8, Y9, List.map_take, List.map_drop]
 rw [List.take_of_length_le (by simp)]
theorem B3f {b o n c : Nat} {s t : ByteArray} {T : TypeId} (hu : Up (.pt b (.cells (F8 s).toArray T)) (.pt b (.cells (F8 (Y9 s o t)).toArray T)) H H') (hn : t.size ≤ n) (hs : o + t.size ≤ s.size)
  (hK : TW κ S w0 H' (K (.int .i64 t.size))) : TW κ S w0 H (B2 PR X (A7 .copy #[127, 9] 3 [.slice (some ⟨b, o, none⟩) n c, .string t]) K) := by
 refine C2J (u := .int .i64 t.size) (fun w hb => ?_) hu hK
 have hst := n7 (P := PR) (o0 := o) (F8 t) 0 w (F8 s).toArray hb (by simpa using hs) (A6b t)
 rw [Nat.add_zero, B4k s t o hs] at hst
 have hl : Nat.min t.size n = t.size := Nat.min_eq_left hn
 have htk : List.take t.size (List.map (fun b : UInt8 => Value.int IntKind.u8 (b.toNat : Int)) t.data.toList) = F8 t := by
  rw [List.take_of_length_le (by simp)]; rfl
 show (Builtin.copy_ #[127, 9] 3 #[.slice (some ⟨b, o, none⟩) n c, .string t]).run PR w = _
 simp [Builtin.copy_, B9T, ty5.run_size, Builtin.lenOf, Builtin.firstCells, hl]
 rw [htk, hst]
 simp [goInt, Result.andThen]
def z38 : ByteArray := Q6 z1 38
theorem A8K : z38.size = 38 := T0 38
theorem C27 : (Builtin.zeroCells (Value.int .u8 0).cells 38).toList = F8 z38 := by kernel_rfl
theorem C6M : (F8 z38).toArray = #[.int .u8 0, .int .u8 0, .int .u8 0, .int .u8 0, .int .u8 0, .int .u8 0, .int .u8 0, .int .u8 0, .int .u8 0, .int .u8 0, .int .u8 0, .int .u8 0, .int .u8 0, .int .u8 0, .int .u8 0, .int .u8 0, .int .u8 0, .int .u8 0, .int .u8 0, .int .u8 0, .int .u8 0, .int .u8 0, .int .u8 0, .int .u8 0, .int .u8 0, .int .u8 0, .int .u8 0, .int .u8 0, .int .u8 0, .int .u8 0, .int .u8 0, .int .u8 0, .int .u8 0, .int .u8 0, .int .u8 0, .int .u8 0, .int .u8 0, .int .u8 0] := by kernel_rfl
theorem C1n {b : Nat} {s : ByteArray} {T : TypeId} (hs : s.size = 38) (hu : Up (.pt b (.cells (F8 s).toArray T)) (.pt b (.cells (F8 z38).toArray T)) H H')
  (hK : TW κ S w0 H' (K (.tuple #[]))) : TW κ S w0 H (B2 PR X (A7 .clear #[127] 0 [.slice (some ⟨b, 0, none⟩) 38 38]) K) := by
 refine C2J (u := .tuple #[]) (fun w hb => ?_) hu hK
 have h38 := A8K
 have hst := n7 (P := PR) (o0 := 0) (F8 z38) 0 w (F8 s).toArray hb (by simp [hs, h38]) (A6b _)
 rw [Nat.add_zero, B4k s z38 0 (by omega)] at hst
 have e : Y9 s 0 z38 = z38 := by
  apply ByteArray.ext
  simp [Y9, h38, hs]
 rw [e] at hst
 show (Builtin.clear_ #[127] 0 #[.slice (some ⟨b, 0, none⟩) 38 38]).run PR w = _
 simp only [Builtin.clear_, List.getElem?_toArray, List.getElem?_cons_zero, Sem.run_bind, B9T, Result.andThen_ok, ty5.run_zero, C27, hst, Sem.run_pure]
theorem C7j {b : Nat} {s : ByteArray} {T : TypeId} (hm : Res.pt b (.cells (F8 s).toArray T) ∈ H) (c n : Nat) (hn : n = s.size) :
  TW κ S w0 H (A6 PR (convert 127 9 (.slice (some ⟨b, 0, none⟩) n c)) K) = TW κ S w0 H (K (.string s)) := TW.congr fun w hw => by
 refine T3 ?_ K
 subst hn
 have hb := hw.pt hm
 have hB : Lib.Bytes w b 0 s := fun i hi => by
  rw [L6 hb]; simp [F8, hi]; rfl
 exact Lib.run_convert_whole w _ _ _ A3z.und ty5.und p6.und b 0 s hB c
end
theorem C1d {lo : Nat} (b : Nat) (h : lo < 38) (K : Value → WP) : A0 PR (Instr.sliceAt 126 (.pointer (some ⟨b, 0, none⟩)) (some (.int .i64 (lo : Int))) none none) K = K (.slice (some ⟨b, lo, none⟩) (38 - lo) (38 - lo)) :=
 F4 (fun w => by
  have h1 : ¬ ((38 : Int) < lo) := by omega
  have h2 : ¬ (38 = lo) := by omega
  simp [Instr.sliceAt, C8Y, Instr.sliceBounds, Instr.sliceBound, asIntOf, h1, h2, ty5.run_size, Instr.sureAddr, Z6]
  omega) K
def U0 (v : Int) : Nat := if v = 4 then 4 else if v = 6 then 16 else 0
theorem C4m (w : World) (v : Int) : Fn PR B3 54 #[.int .i64 v] w (fun u w' => u = .int .i64 (U0 v : Nat) ∧ C1 [] w w') := by
 have := C6E w v
 have e : ((U0 v : Nat) : Int) = if v = 4 then 4 else if v = 6 then 16 else 0 := by (unfold U0; repeat' split) <;> rfl
 rw [e]; exact this
def S2 (k : KeyV) : Bool := decide (U0 k.v ≠ 0 ∧ k.src.size = U0 k.v ∧ k.dst.size = U0 k.v ∧ (Y4 k.proto k.fr k.tp 0).2 = 0)
def A1C (k : KeyV) : ByteArray := Y9 (Y9 (Y9 z38 0 (E4 (k.v * 256 + k.proto) 2 ++ E4 k.fr 2 ++ E4 k.tp 2)) 6 k.src) 22 k.dst
def y0 (k : KeyV) : Value := .tuple #[.string (if S2 k then A1C k else Q8), .bool (S2 k)]
theorem B4T {n x y f : Int} (h : (Y4 n x y f).2 = 0) : (n = 6 ∨ n = 17) ∧ G5 x y = true := by
 unfold Y4 at h
 split at h
 ·simp at h
 split at h
 ·simp at h
 ·rename_i h1 h2
  refine ⟨by omega, ?_⟩
  cases hp : G5 x y with
  | true => rfl
  | false => exact absurd (Or.inl hp) h2
theorem C3b (w : World) (k : KeyV) : Fn PR B3 23 #[k.val] w (fun u w' => u = y0 k ∧ C1 [] w w') := by
 refine Fn.pure (B3T (TW.go (κ := false) (S := []) ?_))
 unfold A6A KeyV.val
 (have zz:=trivial;repeat((first|clear zz|with_reducible first|refine A3 ?_|refine A4 fun _=>?_|refine A5 fun _=>?_);try simp(disch:=first|omega|assumption|((repeat(first|exact A1|exact uH|apply A2|apply uT));first|done|fail)|(simp;first|done|omega|fail))[]))
 refine B8 B29 (fun w' _ => C4m w' _) ?_
 (have zz:=trivial;repeat((first|clear zz|with_reducible first|refine A3 ?_|refine A4 fun _=>?_|refine A5 fun _=>?_);try simp(disch:=first|omega|assumption|((repeat(first|exact A1|exact uH|apply A2|apply uT));first|done|fail)|(simp;first|done|omega|fail))[]))
 refine B8 A4N (fun w' _ => A8q w' _ _ _ _) ?_
 have bad : S2 k = false → y0 k = .tuple #[.string Q8, .bool false] := fun h => by simp [y0, h]
 by_cases c1 : U0 k.v = 0
 ·(have zz:=trivial;repeat((first|clear zz|with_reducible first|refine A3 ?_|refine A4 fun _=>?_|refine A5 fun _=>?_);try simp(disch:=first|omega|assumption|((repeat(first|exact A1|exact uH|apply A2|apply uT));first|done|fail)|(simp;first|done|omega|fail))[c1]))
  exact A9 (bad (by simp [S2, c1])).symm
 have c1' : ¬ ((U0 k.v : Nat) : Int) = 0 := by omega
 by_cases c2 : k.src.size = U0 k.v
 case neg =>
  have c2' : ¬ ((k.src.size : Nat) : Int) = U0 k.v := by omega
  (have zz:=trivial;repeat((first|clear zz|with_reducible first|refine A3 ?_|refine A4 fun _=>?_|refine A5 fun _=>?_);try simp(disch:=first|omega|assumption|((repeat(first|exact A1|exact uH|apply A2|apply uT));first|done|fail)|(simp;first|done|omega|fail))[c1, c1', c2, c2']))
  exact A9 (bad (by simp [S2, c2])).symm
 by_cases c3 : k.dst.size = U0 k.v
 case neg =>
  have c3' : ¬ ((k.dst.size : Nat) : Int) = U0 k.v := by omega
  (have zz:=trivial;repeat((first|clear zz|with_reducible first|refine A3 ?_|refine A4 fun _=>?_|refine A5 fun _=>?_);try simp(disch:=first|omega|assumption|((repeat(first|exact A1|exact uH|apply A2|apply uT));first|done|fail)|(simp;first|done|omega|fail))[c1, c1', c2, c3, c3']))
  exact A9 (bad (by simp [S2, c3])).symm
 by_cases c4 : (Y4 k.proto k.fr k.tp 0).2 = 0
 case neg =>
  (have zz:=trivial;repeat((first|clear zz|with_reducible first|refine A3 ?_|refine A4 fun _=>?_|refine A5 fun _=>?_);try simp(disch:=first|omega|assumption|((repeat(first|exact A1|exact uH|apply A2|apply uT));first|done|fail)|(simp;first|done|omega|fail))[c1, c1', c2, c3, c4]))
  exact A9 (bad (by simp [S2, c4])).symm
 (have zz:=trivial;repeat((first|clear zz|with_reducible first|refine A3 ?_|refine A4 fun _=>?_|refine A5 fun _=>?_);try simp(disch:=first|omega|assumption|((repeat(first|exact A1|exact uH|apply A2|apply uT));first|done|fail)|(simp;first|done|omega|fail))[c1, c1', c2, c3, c4]))
 rename_i bk ba
 refine TW.eqH (H' := [.pt ba (.cells (F8 z38).toArray 126), .pt bk (.cells #[.int .i64 k.v, .string k.src, .string k.dst, .int .i64 k.fr, .int .i64 k.tp, .int .i64 k.proto] 56)]) (by rw [C6M]) ?_
 refine C1n A8K .here ?_
 obtain ⟨hp, hq⟩ := B4T c4
 simp only [G5, decide_eq_true_eq] at hq
 have hv : k.v = 4 ∨ k.v = 6 := by unfold U0 at c1; split at c1 <;> (try split at c1) <;> omega
 have hh : (E4 (k.v * 256 + k.proto) 2 ++ E4 k.fr 2 ++ E4 k.tp 2).size = 6 := by simp
 have h38 := A8K
 have s1 : (Y9 z38 0 (E4 (k.v * 256 + k.proto) 2 ++ E4 k.fr 2 ++ E4 k.tp 2)).size = 38 := by rw [B0Q (by omega), h38]
 have hl : U0 k.v ≤ 16 := by unfold U0; split <;> (try split) <;> omega
 have s2 : (Y9 (Y9 z38 0 (E4 (k.v * 256 + k.proto) 2 ++ E4 k.fr 2 ++ E4 k.tp 2)) 6 k.src).size = 38 := by rw [B0Q (by omega), s1]
 have s3 : (A1C k).size = 38 := by unfold A1C; rw [B0Q (by omega), s2]
 have i6 := fun K => C1d (lo := 6) ba (by omega) K
 have i22 := fun K => C1d (lo := 22) ba (by omega) K
 simp at i6 i22
 have ok : S2 k = true := by simp [S2, c1, c2, c3, c4]
 have q1 := hq.1
 have q2 := hq.2.1
 have q3 := hq.2.2.1
 have q4 := hq.2.2.2
 have eor : IntKind.u64.wrap ((IntKind.u64.wrap (k.v * 2 ^ min 8 IntKind.u64.bits) % 2 ^ IntKind.u64.bits).toNat ||| (k.proto % 2 ^ IntKind.u64.bits).toNat : Nat) = k.v * 256 + k.proto := by
  rcases hv with hv | hv <;> rcases hp with hp | hp <;> (rw [hv, hp]; decide)
 have ew1 : IntKind.u64.wrap k.fr = k.fr := A0P (by omega) (by omega)
 have ew2 : IntKind.u64.wrap k.tp = k.tp := A0P (by omega) (by omega)
 (have zz:=trivial;repeat((first|clear zz|with_reducible first|refine A3 ?_|refine A4 fun _=>?_|refine A5 fun _=>?_);try simp(disch:=first|omega|assumption|((repeat(first|exact A1|exact uH|apply A2|apply uT));first|done|fail)|(simp;first|done|omega|fail))[]))
 rw [eor, ew1, ew2]
 refine B8 G8 (fun w' hw' => d9 w' _ _) ?_
 (have zz:=trivial;repeat((first|clear zz|with_reducible first|refine A3 ?_|refine A4 fun _=>?_|refine A5 fun _=>?_);try simp(disch:=first|omega|assumption|((repeat(first|exact A1|exact uH|apply A2|apply uT));first|done|fail)|(simp;first|done|omega|fail))[]))
 refine B8 G8 (fun w' hw' => d9 w' _ _) ?_
 (have zz:=trivial;repeat((first|clear zz|with_reducible first|refine A3 ?_|refine A4 fun _=>?_|refine A5 fun _=>?_);try simp(disch:=first|omega|assumption|((repeat(first|exact A1|exact uH|apply A2|apply uT));first|done|fail)|(simp;first|done|omega|fail))[P0]))
 refine B8 G8 (fun w' hw' => d9 w' _ _) ?_
 (have zz:=trivial;repeat((first|clear zz|with_reducible first|refine A3 ?_|refine A4 fun _=>?_|refine A5 fun _=>?_);try simp(disch:=first|omega|assumption|((repeat(first|exact A1|exact uH|apply A2|apply uT));first|done|fail)|(simp;first|done|omega|fail))[P0]))
 refine B3f (o := 0) (s := z38) (by (repeat constructor)) (by omega) (by omega) ?_
 (have zz:=trivial;repeat((first|clear zz|with_reducible first|refine A3 ?_|refine A4 fun _=>?_|refine A5 fun _=>?_);try simp(disch:=first|omega|assumption|((repeat(first|exact A1|exact uH|apply A2|apply uT));first|done|fail)|(simp;first|done|omega|fail))[i6]))
 refine B3f (o := 6) (s := Y9 z38 0 (E4 (k.v * 256 + k.proto) 2 ++ E4 k.fr 2 ++ E4 k.tp 2)) (by (repeat constructor)) (by omega) (by omega) ?_
 (have zz:=trivial;repeat((first|clear zz|with_reducible first|refine A3 ?_|refine A4 fun _=>?_|refine A5 fun _=>?_);try simp(disch:=first|omega|assumption|((repeat(first|exact A1|exact uH|apply A2|apply uT));first|done|fail)|(simp;first|done|omega|fail))[i22]))
 refine B3f (o := 22) (s := Y9 (Y9 z38 0 (E4 (k.v * 256 + k.proto) 2 ++ E4 k.fr 2 ++ E4 k.tp 2)) 6 k.src) (by (repeat constructor)) (by omega) (by omega) ?_
 (have zz:=trivial;repeat((first|clear zz|with_reducible first|refine A3 ?_|refine A4 fun _=>?_|refine A5 fun _=>?_);try simp(disch:=first|omega|assumption|((repeat(first|exact A1|exact uH|apply A2|apply uT));first|done|fail)|(simp;first|done|omega|fail))[]))
 rw [C7j (s := A1C k) (by (repeat constructor)) _ _ s3.symm]
 exact A9 (by simp [y0, ok])
end Go.Proofs.YtpbmephflllolaaGreat
namespace Go.Proofs.YtpbmephflllolaaGreat
open Go
@[simp] theorem D3H {κ : Bool} {S : List Nat} {w0 : World} {H : List Res} {K : Value → WP} {t : TypeId} {z : Value} [h : TS t z] {b o : Nat} {c : Array Value} {T : TypeId} {f : Nat × Nat} (hm : Res.pt b (.cells c T f) ∈ H) :
  TW κ S w0 H (A6 PR (D5 [.c t (.pointer (some ⟨b, o, none⟩))]) K) = TW κ S w0 H (rdc c[o]? K (A6 PR (D5 [.c t (.pointer (some ⟨b, o, none⟩))]) K)) := by
 cases hc : c[o]? with
 | none => rfl
 | some v => rw [C75 hm hc]; rfl
abbrev G0 := Int × Int
def E7 (b : G0) : List Value := [.int .i64 b.1, .int .i64 b.2]
structure EnV where
 st : Int
 key : ByteArray
 bk : Int
 dl : Int
 deriving DecidableEq
def D9 (x : EnV) : List Value := [.int .i64 x.st, .string x.key, .int .i64 x.bk, .int .i64 x.dl]
theorem C72 {t u : TypeId} {n m : Nat} {z : Value} {a : Option Addr} {l c e : Nat} (h : TI PR t (.slice u) n m z) : EqV PR (e + 1) t (.slice a l c) (.slice none 0 0) a.isNone := by
 intro w
 cases a with
 | none => simp only [Op.equalIn, Sem.run_bind, h.run_und, Result.andThen_ok, Sem.run_pure, Option.isNone]
 | some a => simp only [Op.equalIn, Sem.run_bind, h.run_und, Result.andThen_ok, Sem.run_pure]; rfl
theorem C7B {t u : TypeId} {n m : Nat} {z : Value} (h : TI PR t (.slice u) n m z) (x y : Operand) (a : Option Addr) (l c : Nat) (K : Value → WP) :
  A6 PR (N1 .eql t x y (.slice a l c) (.slice none 0 0)) K = K (.bool a.isNone) := by
 funext w
 refine T3 ?_ K
 have h1 : (eqGuard .eql t x y (.slice a l c) (.slice none 0 0)).run PR w = .ok () w := by simp [eqGuard]
 have h2 : (Op.equalIn 10000 t (.slice a l c) (.slice none 0 0)).run PR w = .ok a.isNone w := C72 (e := 9999) h w
 simp [N1, h1, binOp, Op.equal, Op.maxDepth, h2]
theorem C5c (x y : Operand) (a : Option Addr) (l c : Nat) (K : Value → WP) : A6 PR (N1 .eql 32 x y (.slice a l c) (.slice none 0 0)) K = K (.bool a.isNone) := C7B A9n x y a l c K
theorem C5J (x y : Operand) (a : Option Addr) (l c : Nat) (K : Value → WP) : A6 PR (N1 .eql 94 x y (.slice a l c) (.slice none 0 0)) K = K (.bool a.isNone) := C7B B0L x y a l c K
theorem B4g (w : World) (v : Value) (n : Nat) (xs : List Value) (hn : n ≤ 1000000) (hx : xs.length = n * 2) (hp : xs.all plain = true) (hv : E3 w v n xs) :
  Fn PR B3 49 #[v] w (Rn [] w (fun r u => u = r) fun r => [.own 75 2 r n xs]) := by
 obtain ⟨a, c, rfl, hr⟩ := hv.form
 refine s6 (TW.go (κ := false) (S := []) ?_)
 unfold U3
 cases a with
 | none =>
  obtain rfl : n = 0 := by
   rcases Nat.eq_zero_or_pos n with h | h
   ·exact h
   ·obtain ⟨_, _, h, _⟩ := hr h; cases h
  obtain rfl : xs = [] := List.length_eq_zero_iff.1 (by omega)
  (have zz:=trivial;repeat((first|clear zz|with_reducible first|refine A3 ?_|refine A4 fun _=>?_|refine A5 fun _=>?_);try simp(disch:=first|omega|assumption|((repeat(first|exact A1|exact uH|apply A2|apply uT));first|done|fail)|(simp;first|done|omega|fail))[C5c]))
  refine Z9 75 2 ?_
  exact k7 (.slice none 0 0) rfl (by simp)
 | some a =>
  (have zz:=trivial;repeat((first|clear zz|with_reducible first|refine A3 ?_|refine A4 fun _=>?_|refine A5 fun _=>?_|refine D1 fun _=>?_|refine D0 (hK:=fun _=>?_)|refine D3 (hK:=fun _=>?_)|refine D2 (hK:=fun _=>?_)|refine D4 (hK:=fun _=>?_)|refine C9 (hK:=fun _=>?_));try simp(disch:=first|omega|assumption|((repeat(first|exact A1|exact uH|apply A2|apply uT));first|done|fail)|(simp;first|done|omega|fail))[C5c]))
  refine Y5 (by (repeat constructor)) (K3.old0 hv) (by decide) hx hp (by simp only [maxLen]; omega) (by omega) fun a' c' => ?_
  simp only [Nat.zero_add, List.nil_append]
  exact C0 _ rfl (by (repeat' constructor))
theorem B4x (w : World) (v : Value) (n : Nat) (xs : List Value) (hn : n ≤ 1000000) (hx : xs.length = n * 4) (hp : xs.all plain = true) (hv : E3 w v n xs) :
  Fn PR B3 111 #[v] w (Rn [] w (fun r u => u = r) fun r => [.own 160 4 r n xs]) := by
 obtain ⟨a, c, rfl, hr⟩ := hv.form
 refine A0H (TW.go (κ := false) (S := []) ?_)
 unfold W9
 cases a with
 | none =>
  obtain rfl : n = 0 := by
   rcases Nat.eq_zero_or_pos n with h | h
   ·exact h
   ·obtain ⟨_, _, h, _⟩ := hr h; cases h
  obtain rfl : xs = [] := List.length_eq_zero_iff.1 (by omega)
  (have zz:=trivial;repeat((first|clear zz|with_reducible first|refine A3 ?_|refine A4 fun _=>?_|refine A5 fun _=>?_);try simp(disch:=first|omega|assumption|((repeat(first|exact A1|exact uH|apply A2|apply uT));first|done|fail)|(simp;first|done|omega|fail))[C5J]))
  refine Z9 160 4 ?_
  exact k7 (.slice none 0 0) rfl (by simp)
 | some a =>
  (have zz:=trivial;repeat((first|clear zz|with_reducible first|refine A3 ?_|refine A4 fun _=>?_|refine A5 fun _=>?_|refine D1 fun _=>?_|refine D0 (hK:=fun _=>?_)|refine D3 (hK:=fun _=>?_)|refine D2 (hK:=fun _=>?_)|refine D4 (hK:=fun _=>?_)|refine C9 (hK:=fun _=>?_));try simp(disch:=first|omega|assumption|((repeat(first|exact A1|exact uH|apply A2|apply uT));first|done|fail)|(simp;first|done|omega|fail))[C5J]))
  refine Y5 (by (repeat constructor)) (K3.old0 hv) (by decide) hx hp (by simp only [maxLen]; omega) (by omega) fun a' c' => ?_
  simp only [Nat.zero_add, List.nil_append]
  exact C0 _ rfl (by (repeat' constructor))
theorem C7u {α : Type} {l m : List α} (hl : l.length = m.length) (h : ∀ j, j < l.length → l[j]? = m[j]?) : l = m := List.ext_getElem? fun i => by
 by_cases hi : i < l.length
 ·exact h i hi
 ·rw [List.getElem?_eq_none (by omega), List.getElem?_eq_none (by omega)]
def A8H {α : Type} (p : α → Bool) (l : List α) : Int := match l.findIdx? p with | some i => i | none => -1
theorem A6N {α : Type} {p : α → Bool} {l : List α} {i : Nat} {x : α} (hx : l[i]? = some x) (hp : p x = true) (h : ∀ j y, j < i → l[j]? = some y → p y = false) : A8H p l = i := by
 have : l.findIdx? p = some i := by
  rw [List.findIdx?_eq_some_iff_getElem]
  obtain ⟨hi, e⟩ := List.getElem?_eq_some_iff.1 hx
  exact ⟨hi, by rw [e]; exact hp, fun j hj => by rw [h j l[j] hj (List.getElem?_eq_getElem (by omega))]; simp⟩
 simp [A8H, this]
theorem A9z {α : Type} {p : α → Bool} {l : List α} (h : ∀ (j : Nat) y, l[j]? = some y → p y = false) : A8H p l = -1 := by
 have : l.findIdx? p = none := by
  rw [List.findIdx?_eq_none_iff]; intro x hx; obtain ⟨i, hi, rfl⟩ := List.getElem_of_mem hx; exact h i _ (List.getElem?_eq_getElem hi)
 simp [A8H, this]
theorem B5U (w : World) (v : Value) (l : List G0) (p : G0 → Bool) (f : FuncId) (cap : List Value) (hn : l.length ≤ 1000000) (hv : E3 w v l.length (l.flatMap E7)) (he : B0 PR f)
  (hf : ∀ w', KS false [] w w' → ∀ x : G0, Fn PR B3 f (.agg #[.int .i64 x.1, .int .i64 x.2] :: cap).toArray w' (fun r w'' => r = .bool (p x) ∧ C1 [] w' w'')) :
  Fn PR B3 222 #[v, .func (.func f) #[] cap.toArray] w (fun r w' => r = .int .i64 (A8H p l) ∧ C1 [] w w') := by
 refine Fn.pure (m6 (TW.go (κ := false) (S := []) ?_))
 unfold S8
 obtain ⟨a, c, rfl, hr⟩ := hv.form
 (have zz:=trivial;repeat((first|clear zz|with_reducible first|refine A3 ?_|refine A4 fun _=>?_|refine A5 fun _=>?_);try simp(disch:=first|omega|assumption|((repeat(first|exact A1|exact uH|apply A2|apply uT));first|done|fail)|(simp;first|done|omega|fail))[]))
 refine K8 (α := Unit) l.length (fun _ _ => .int .i64 0) (fun _ _ => []) (fun i _ => ∀ j y, j < i → l[j]? = some y → p y = false) () (by intro j _ hj; omega) ?_
 rintro i _ hi hpre L hL
 by_cases hlt : i < l.length
 ·obtain ⟨b, o, rfl, hrow⟩ := hr (by omega)
  obtain ⟨x, hx⟩ : ∃ x, l[i]? = some x := ⟨_, List.getElem?_eq_getElem (by omega)⟩
  have h1 := hrow.at (f := E7) (k := 2) (fun _ => rfl) hx
  rw [E7] at h1
  (have zz:=trivial;repeat((first|clear zz|with_reducible first|refine A3 ?_|refine A4 fun _=>?_|refine A5 fun _=>?_);try simp(disch:=first|omega|assumption|((repeat(first|exact A1|exact uH|apply A2|apply uT));first|done|fail)|(simp;first|done|omega|fail))[hlt, h1]))
  refine B37 he (φ := fun r => r = .bool (p x)) (fun w' hw' => by simpa using hf w' hw'.ks x) ?_
  rintro _ rfl
  cases hb : p x with
  | true =>
   (have zz:=trivial;repeat((first|clear zz|with_reducible first|refine A3 ?_|refine A4 fun _=>?_|refine A5 fun _=>?_);try simp(disch:=first|omega|assumption|((repeat(first|exact A1|exact uH|apply A2|apply uT));first|done|fail)|(simp;first|done|omega|fail))[]))
   exact A9 (by rw [A6N hx hb hpre])
  | false =>
   (have zz:=trivial;repeat((first|clear zz|with_reducible first|refine A3 ?_|refine A4 fun _=>?_|refine A5 fun _=>?_);try simp(disch:=first|omega|assumption|((repeat(first|exact A1|exact uH|apply A2|apply uT));first|done|fail)|(simp;first|done|omega|fail))[]))
   refine Sels.tw .nil (hL hlt () ?_)
   intro j y hj hy
   by_cases hji : j = i
   ·subst hji; rw [hx] at hy; cases hy; exact hb
   ·exact hpre j y (by omega) hy
 ·obtain rfl : i = l.length := by omega
  (have zz:=trivial;repeat((first|clear zz|with_reducible first|refine A3 ?_|refine A4 fun _=>?_|refine A5 fun _=>?_);try simp(disch:=first|omega|assumption|((repeat(first|exact A1|exact uH|apply A2|apply uT));first|done|fail)|(simp;first|done|omega|fail))[]))
  exact A9 (by rw [A9z fun j y hy => hpre j y (List.getElem?_eq_some_iff.1 hy).1 hy])
theorem B5Z (w : World) (v : Value) (l : List (Int × Int)) (p : Int × Int → Bool) (f : FuncId) (cap : List Value) (hn : l.length ≤ 1000000) (hv : E3 w v l.length (l.flatMap E7)) (he : B0 PR f)
  (hf : ∀ w', KS false [] w w' → ∀ x : Int × Int, Fn PR B3 f (.agg #[.int .i64 x.1, .int .i64 x.2] :: cap).toArray w' (fun r w'' => r = .bool (p x) ∧ C1 [] w' w'')) :
  Fn PR B3 170 #[v, .func (.func f) #[] cap.toArray] w (fun r w' => r = .int .i64 (A8H p l) ∧ C1 [] w w') := by
 refine Fn.pure (A14 (TW.go (κ := false) (S := []) ?_))
 unfold g7
 obtain ⟨a, c, rfl, hr⟩ := hv.form
 (have zz:=trivial;repeat((first|clear zz|with_reducible first|refine A3 ?_|refine A4 fun _=>?_|refine A5 fun _=>?_);try simp(disch:=first|omega|assumption|((repeat(first|exact A1|exact uH|apply A2|apply uT));first|done|fail)|(simp;first|done|omega|fail))[]))
 refine K8 (α := Unit) l.length (fun _ _ => .int .i64 0) (fun _ _ => []) (fun i _ => ∀ j y, j < i → l[j]? = some y → p y = false) () (by intro j _ hj; omega) ?_
 rintro i _ hi hpre L hL
 by_cases hlt : i < l.length
 ·obtain ⟨b, o, rfl, hrow⟩ := hr (by omega)
  obtain ⟨x, hx⟩ : ∃ x, l[i]? = some x := ⟨_, List.getElem?_eq_getElem (by omega)⟩
  have h1 := hrow.at (f := E7) (k := 2) (fun _ => rfl) hx
  rw [E7] at h1
  (have zz:=trivial;repeat((first|clear zz|with_reducible first|refine A3 ?_|refine A4 fun _=>?_|refine A5 fun _=>?_);try simp(disch:=first|omega|assumption|((repeat(first|exact A1|exact uH|apply A2|apply uT));first|done|fail)|(simp;first|done|omega|fail))[hlt, h1]))
  refine B37 he (φ := fun r => r = .bool (p x)) (fun w' hw' => by simpa using hf w' hw'.ks x) ?_
  rintro _ rfl
  cases hb : p x with
  | true =>
   (have zz:=trivial;repeat((first|clear zz|with_reducible first|refine A3 ?_|refine A4 fun _=>?_|refine A5 fun _=>?_);try simp(disch:=first|omega|assumption|((repeat(first|exact A1|exact uH|apply A2|apply uT));first|done|fail)|(simp;first|done|omega|fail))[]))
   exact A9 (by rw [A6N hx hb hpre])
  | false =>
   (have zz:=trivial;repeat((first|clear zz|with_reducible first|refine A3 ?_|refine A4 fun _=>?_|refine A5 fun _=>?_);try simp(disch:=first|omega|assumption|((repeat(first|exact A1|exact uH|apply A2|apply uT));first|done|fail)|(simp;first|done|omega|fail))[]))
   refine Sels.tw .nil (hL hlt () ?_)
   intro j y hj hy
   by_cases hji : j = i
   ·subst hji; rw [hx] at hy; cases hy; exact hb
   ·exact hpre j y (by omega) hy
 ·obtain rfl : i = l.length := by omega
  (have zz:=trivial;repeat((first|clear zz|with_reducible first|refine A3 ?_|refine A4 fun _=>?_|refine A5 fun _=>?_);try simp(disch:=first|omega|assumption|((repeat(first|exact A1|exact uH|apply A2|apply uT));first|done|fail)|(simp;first|done|omega|fail))[]))
  exact A9 (by rw [A9z fun j y hy => hpre j y (List.getElem?_eq_some_iff.1 hy).1 hy])
theorem C49 {α : Type} (p : α → Bool) (l : List α) : decide (0 ≤ A8H p l) = l.any p := by
 unfold A8H
 cases h : l.findIdx? p with
 | none =>
  have := List.findIdx?_eq_none_iff.1 h
  rw [Bool.eq_iff_iff]; simp [List.any_eq_true]; intro x hx; have := this x hx; simp_all
 | some i =>
  obtain ⟨hi, h1, _⟩ := List.findIdx?_eq_some_iff_getElem.1 h
  rw [Bool.eq_iff_iff]; simp only [List.any_eq_true, decide_eq_true_eq]
  exact ⟨fun _ => ⟨_, List.getElem_mem hi, h1⟩, fun _ => by omega⟩
theorem B2J (w : World) (v : Value) (l : List (Int × Int)) (p : Int × Int → Bool) (f : FuncId) (cap : List Value) (hn : l.length ≤ 1000000) (hv : E3 w v l.length (l.flatMap E7)) (he : B0 PR f)
  (hf : ∀ w', KS false [] w w' → ∀ x : Int × Int, Fn PR B3 f (.agg #[.int .i64 x.1, .int .i64 x.2] :: cap).toArray w' (fun r w'' => r = .bool (p x) ∧ C1 [] w' w'')) :
  Fn PR B3 121 #[v, .func (.func f) #[] cap.toArray] w (fun r w' => r = .bool (l.any p) ∧ C1 [] w w') := by
 refine Fn.pure (A0x (TW.go (κ := false) (S := []) ?_))
 unfold Z2
 refine B8 A1j (fun w' hw' => B5Z w' v l p f cap hn (hv.ks hw'.ks (by simp)) he fun w2 h => hf w2 (hw'.ks.trans h)) ?_
 (have zz:=trivial;repeat((first|clear zz|with_reducible first|refine A3 ?_|refine A4 fun _=>?_|refine A5 fun _=>?_);try simp(disch:=first|omega|assumption|((repeat(first|exact A1|exact uH|apply A2|apply uT));first|done|fail)|(simp;first|done|omega|fail))[]))
 exact A9 (by rw [C49])
end Go.Proofs.YtpbmephflllolaaGreat
namespace Go.Proofs.YtpbmephflllolaaGreat
open Go
theorem C4z {t e : TypeId} {len n m n' m' : Nat} {z z' : Value} {d' : TypeDesc} {parts : Array (Nat × Value)} {cs : Array Value} {K : Value → WP} (h : TI PR t (.array len e) n m z) (he : TI PR e d' n' m' z')
  (hf : Instr.fill (fun i => some (i * n', n')) z.cells parts.toList = some cs) : A0 PR (Instr.build t parts) K = K (.agg cs) :=
 F4 (fun w => by
  simp only [Instr.build, Sem.run_bind, h.run_zero, Result.andThen_ok, h.run_und, he.run_size, hf, Sem.run_pure]) K
theorem bd2 {k0 k1 : IntKind} {a b : Int} (K : Value → WP) : A0 PR (Instr.build 153 #[(0, .int k0 a), (1, .int k1 b)]) K = K (.agg #[.int k0 a, .int k1 b]) :=
 C4z B27 H5 (by rw [show (#[(0, Value.int k0 a), (1, Value.int k1 b)] : Array (Nat × Value)).toList = [(0, Value.int k0 a), (1, Value.int k1 b)] from rfl, B7 rfl rfl (by simp), B7 rfl rfl (by simp [B9])]; rfl)
theorem B7w (w : World) (x : Int × Int) : Fn PR B3 122 #[.agg #[.int .i64 x.1, .int .i64 x.2]] w (fun r w' => r = .bool (decide (x.1 < 1 ∨ x.2 < x.1)) ∧ C1 [] w w') := by
 refine Fn.pure (B04 (TW.go (κ := false) (S := []) ?_))
 unfold A3p
 by_cases c1 : x.1 < 1
 ·(have zz:=trivial;repeat((first|clear zz|with_reducible first|refine A3 ?_|refine A4 fun _=>?_|refine A5 fun _=>?_);try simp(disch:=first|omega|assumption|((repeat(first|exact A1|exact uH|apply A2|apply uT));first|done|fail)|(simp;first|done|omega|fail))[c1]))
  exact A9 (by simp [c1])
 ·(have zz:=trivial;repeat((first|clear zz|with_reducible first|refine A3 ?_|refine A4 fun _=>?_|refine A5 fun _=>?_);try simp(disch:=first|omega|assumption|((repeat(first|exact A1|exact uH|apply A2|apply uT));first|done|fail)|(simp;first|done|omega|fail))[c1]))
  exact A9 (by simp [c1])
theorem C1v (w : World) (v : Value) (l : List (Int × Int)) (hn : l.length ≤ 1000000) (hv : E3 w v l.length (l.flatMap E7)) :
  Fn PR B3 70 #[v] w (fun r w' => r = .bool (!l.any fun x => decide (x.1 < 1 ∨ x.2 < x.1)) ∧ C1 [] w w') := by
 refine Fn.pure (B3n (TW.go (κ := false) (S := []) ?_))
 unfold A7v
 refine B8 A0M (fun w' hw' => B2J w' v l (fun x => decide (x.1 < 1 ∨ x.2 < x.1)) 122 [] hn (hv.ks hw'.ks (by simp)) A9l fun w2 h x => B7w w2 x) ?_
 (have zz:=trivial;repeat((first|clear zz|with_reducible first|refine A3 ?_|refine A4 fun _=>?_|refine A5 fun _=>?_);try simp(disch:=first|omega|assumption|((repeat(first|exact A1|exact uH|apply A2|apply uT));first|done|fail)|(simp;first|done|omega|fail))[]))
 exact A9 rfl
theorem B96 (w : World) (x : G0) (id : Int) (b : Nat) (hb : w.cell? ⟨b, 0, none⟩ = some (.int .i64 id)) : Fn PR B3 239 #[.agg #[.int .i64 x.1, .int .i64 x.2], .pointer (some ⟨b, 0, none⟩)] w (fun r w' => r = .bool (decide (x.1 = id)) ∧ C1 [] w w') := by
 refine Fn.pure (B2H (TW.go (κ := false) (S := []) ?_))
 unfold A4v
 (have zz:=trivial;repeat((first|clear zz|with_reducible first|refine A3 ?_|refine A4 fun _=>?_|refine A5 fun _=>?_);try simp(disch:=first|omega|assumption|((repeat(first|exact A1|exact uH|apply A2|apply uT));first|done|fail)|(simp;first|done|omega|fail))[hb]))
 exact A9 rfl
theorem C3c (w : World) (id : Int) : Fn PR B3 223 #[.int .i64 id] w (Rn [] w (fun b v => v = .func (.func 239) #[] #[.pointer (some ⟨b, 0, none⟩)]) fun b => [.pt b (.cells #[.int .i64 id] 3)]) := by
 refine B5j (TW.go (κ := false) (S := []) ?_)
 unfold A85
 (have zz:=trivial;repeat((first|clear zz|with_reducible first|refine A3 ?_|refine A4 fun _=>?_|refine A5 fun _=>?_);try simp(disch:=first|omega|assumption|((repeat(first|exact A1|exact uH|apply A2|apply uT));first|done|fail)|(simp;first|done|omega|fail))[]))
 exact k7 _ rfl (by simp)
def V0 (l : List G0) (id : Int) : Int := A8H (fun x => decide (x.1 = id)) l
theorem B8e (w : World) (v : Value) (l : List G0) (id : Int) (hn : l.length ≤ 1000000) (hv : E3 w v l.length (l.flatMap E7)) :
  Fn PR B3 199 #[v, .int .i64 id] w (fun r w' => r = .int .i64 (V0 l id) ∧ C1 [] w w') := by
 refine Fn.pure (B7V (TW.go (κ := false) (S := []) ?_))
 unfold A9g
 refine G3 B4E (fun w' _ => C3c w' id) ?_
 rintro b _ rfl
 refine B8 l4 (fun w' hw' => B5U w' v l (fun x => decide (x.1 = id)) 239 [.pointer (some ⟨b, 0, none⟩)] hn (hv.ks hw'.ks (by simp)) B07
  fun w2 h x => B96 w2 x id b (h.cell (by simp) (hw'.cell1 (by (repeat constructor))))) ?_
 exact A9 rfl
def A2J (b : G0) : Bool := decide (1 ≤ b.1 ∧ b.1 ≤ 65535 ∧ 1 ≤ b.2 ∧ b.2 ≤ 16)
def u4 : List G0 → Bool
 | [] => true
 | b :: l => A2J b && !(l.any fun x => decide (x.1 = b.1)) && u4 l
def N8 (l : List G0) : Int := if u4 l && decide (l.length ≤ 32) then 0 else 10
theorem A3x (l : List G0) : u4 l = true ↔ (∀ b ∈ l, A2J b = true) ∧ l.Pairwise fun a b => a.1 ≠ b.1 := by
 induction l with
 | nil => simp [u4]
 | cons b l ih =>
  simp only [u4, Bool.and_eq_true, ih, List.mem_cons, forall_eq_or_imp, List.pairwise_cons, Bool.not_eq_true', List.any_eq_false, decide_eq_true_eq]
  constructor
  ·rintro ⟨⟨h1, h2⟩, h3, h4⟩; exact ⟨⟨h1, h3⟩, fun a ha e => h2 a ha e.symm, h4⟩
  ·rintro ⟨⟨h1, h3⟩, h2, h4⟩; exact ⟨⟨h1, fun a ha e => h2 a ha e.symm⟩, h3, h4⟩
theorem C5L {α : Type} {R : α → α → Prop} {l : List α} (h : l.Pairwise R) {i j : Nat} {x y : α} (hij : i < j) (hx : l[i]? = some x) (hy : l[j]? = some y) : R x y := by
 obtain ⟨h1, rfl⟩ := List.getElem?_eq_some_iff.1 hx
 obtain ⟨h2, rfl⟩ := List.getElem?_eq_some_iff.1 hy
 exact List.pairwise_iff_getElem.1 h i j h1 h2 hij
theorem C6C {α : Type} {R : α → α → Prop} {l : List α} {i : Nat} {x : α} (hx : l[i]? = some x) : (l.take (i + 1)).Pairwise R ↔ (l.take i).Pairwise R ∧ ∀ y ∈ l.take i, R y x := by
 rw [List.take_add_one, hx]; simp [List.pairwise_append]
theorem B6x (w : World) (v : Value) (l : List G0) (hn : l.length ≤ 1000000) (hv : E3 w v l.length (l.flatMap E7)) :
  Fn PR B3 32 #[v] w (fun r w' => r = .int .i64 (N8 l) ∧ C1 [] w w') := by
 refine Fn.pure (B5e (TW.go (κ := false) (S := []) ?_))
 unfold A9C
 obtain ⟨a, c, rfl, hr⟩ := hv.form
 refine B81 (Value.int .i64) fun r => ?_
 (have zz:=trivial;repeat((first|clear zz|with_reducible first|refine A3 ?_|refine A4 fun _=>?_|refine A5 fun _=>?_);try simp(disch:=first|omega|assumption|((repeat(first|exact A1|exact uH|apply A2|apply uT));first|done|fail)|(simp;first|done|omega|fail))[]))
 refine K8 (α := List (Int × Value)) l.length (fun _ _ => .int .i64 0) (fun _ M => [.pt r (w7 (Value.int .i64) M)]) (fun i M => (∀ k, r7 k M = if (l.take i).any (fun x => decide (x.1 = k)) then some (.bool true) else none) ∧ u4 (l.take i) = true) [] (by simp [r7, u4]) ?_
 rintro i M hi ⟨hM, hok⟩ L hL
 by_cases hlt : i < l.length
 ·obtain ⟨b, o, rfl, hrow⟩ := hr (by omega)
  obtain ⟨x, hx⟩ : ∃ x, l[i]? = some x := ⟨_, List.getElem?_eq_getElem (by omega)⟩
  have h1 := hrow.at (f := E7) (k := 2) (fun _ => rfl) hx
  rw [E7] at h1
  have hxm : x ∈ l := List.mem_of_getElem? hx
  (have zz:=trivial;repeat((first|clear zz|with_reducible first|refine A3 ?_|refine A4 fun _=>?_|refine A5 fun _=>?_);try simp(disch:=first|omega|assumption|((repeat(first|exact A1|exact uH|apply A2|apply uT));first|done|fail)|(simp;first|done|omega|fail))[hlt, h1]))
  rw [B1u C5S ty4 (KeyT.int H5) (l := M) (by (repeat constructor)), hM]
  cases hseen : (l.take i).any (fun y => decide (y.1 = x.1)) with
  | true =>
   have hbad : N8 l = 10 := by
    have : u4 l = false := by
     rw [← Bool.not_eq_true, A3x]
     rintro ⟨_, h⟩
     obtain ⟨y, hy, he⟩ := List.any_eq_true.1 hseen
     obtain ⟨j, hj, rfl⟩ := List.getElem_of_mem hy
     simp only [List.length_take] at hj
     exact C5L (i := j) (j := i) h (by omega) (List.getElem?_eq_getElem (by omega)) hx (by simpa using he)
    simp [N8, this]
   (have zz:=trivial;repeat((first|clear zz|with_reducible first|refine A3 ?_|refine A4 fun _=>?_|refine A5 fun _=>?_);try simp(disch:=first|omega|assumption|((repeat(first|exact A1|exact uH|apply A2|apply uT));first|done|fail)|(simp;first|done|omega|fail))[]))
   exact A9 (by rw [hbad])
  | false =>
   simp only [Bool.false_eq_true, if_false, Option.getD_none]
   (have zz:=trivial;repeat((first|clear zz|with_reducible first|refine A3 ?_|refine A4 fun _=>?_|refine A5 fun _=>?_|refine D1 fun _=>?_|refine D0 (hK:=fun _=>?_)|refine D3 (hK:=fun _=>?_)|refine D2 (hK:=fun _=>?_)|refine D4 (hK:=fun _=>?_)|refine C9 (hK:=fun _=>?_));try simp(disch:=first|omega|assumption|((repeat(first|exact A1|exact uH|apply A2|apply uT));first|done|fail)|(simp;first|done|omega|fail))[bd2]))
   rename_i bs bx
   refine B8 (u := .bool (A2J x)) B3Z (fun w' hw' => ?_) ?_
   ·have := C1v w' (.slice (some ⟨bx, 0, none⟩) 2 2) [(x.1, 65535), (x.2, 16)] (by simp) (by simpa [E7] using K3.own (κ := false) (S := []) (w0 := w) (e := 153) (k := 2) (q := 2) (v := .slice (some ⟨bx, 0, none⟩) 2 2) (by (repeat constructor)) w' hw')
    have e : (!([(x.1, 65535), (x.2, 16)] : List (Int × Int)).any fun x => decide (x.1 < 1 ∨ x.2 < x.1)) = A2J x := by
     rw [Bool.eq_iff_iff]; simp [A2J]; omega
    rw [e] at this
    exact this
   ·cases hbk : A2J x with
    | false =>
     have hbad : N8 l = 10 := by
      have : u4 l = false := by
       rw [← Bool.not_eq_true, A3x]
       rintro ⟨h, _⟩
       rw [h x hxm] at hbk; cases hbk
      simp [N8, this]
     (have zz:=trivial;repeat((first|clear zz|with_reducible first|refine A3 ?_|refine A4 fun _=>?_|refine A5 fun _=>?_);try simp(disch:=first|omega|assumption|((repeat(first|exact A1|exact uH|apply A2|apply uT));first|done|fail)|(simp;first|done|omega|fail))[]))
     exact A9 (by rw [hbad])
    | true =>
     (have zz:=trivial;repeat((first|clear zz|with_reducible first|refine A3 ?_|refine A4 fun _=>?_|refine A5 fun _=>?_);try simp(disch:=first|omega|assumption|((repeat(first|exact A1|exact uH|apply A2|apply uT));first|done|fail)|(simp;first|done|omega|fail))[]))
     refine B19 C5S (KeyT.int H5) (k := x.1) (by (repeat constructor)) ?_
     (have zz:=trivial;repeat((first|clear zz|with_reducible first|refine A3 ?_|refine A4 fun _=>?_|refine A5 fun _=>?_);try simp(disch:=first|omega|assumption|((repeat(first|exact A1|exact uH|apply A2|apply uT));first|done|fail)|(simp;first|done|omega|fail))[]))
     refine Sels.tw (by (repeat' constructor)) (hL hlt _ ⟨?_, ?_⟩)
     ·intro k
      rw [C2K, hM, List.take_add_one, hx]
      by_cases hk : k = x.1
      ·subst hk; simp
      ·have hk' : ¬ x.1 = k := fun e => hk e.symm
       have hAB : (l.take i ++ (some x).toList).any (fun x => decide (x.1 = k)) = (l.take i).any (fun x => decide (x.1 = k)) := by
        rw [List.any_append]; simp only [Option.toList_some, List.any_cons, List.any_nil, decide_eq_false hk', Bool.or_false]
       rw [if_neg hk, hAB]
     ·rw [A3x] at hok ⊢
      refine ⟨fun y hy => ?_, (C6C hx).2 ⟨hok.2, fun y hy e => ?_⟩⟩
      ·rw [List.take_add_one, hx] at hy
       simp only [Option.toList_some, List.mem_append, List.mem_singleton] at hy
       rcases hy with hy | rfl
       ·exact hok.1 y hy
       ·exact hbk
      ·have := List.any_eq_false.1 hseen y hy
       simp [e] at this
 ·obtain rfl : i = l.length := by omega
  rw [List.take_length] at hok
  by_cases c1 : l.length ≤ 32
  ·have c1' : ¬ (32 : Int) < l.length := by omega
   (have zz:=trivial;repeat((first|clear zz|with_reducible first|refine A3 ?_|refine A4 fun _=>?_|refine A5 fun _=>?_);try simp(disch:=first|omega|assumption|((repeat(first|exact A1|exact uH|apply A2|apply uT));first|done|fail)|(simp;first|done|omega|fail))[c1']))
   exact A9 (by simp [N8, hok, c1])
  ·have c1' : (32 : Int) < l.length := by omega
   (have zz:=trivial;repeat((first|clear zz|with_reducible first|refine A3 ?_|refine A4 fun _=>?_|refine A5 fun _=>?_);try simp(disch:=first|omega|assumption|((repeat(first|exact A1|exact uH|apply A2|apply uT));first|done|fail)|(simp;first|done|omega|fail))[c1']))
   exact A9 (by simp [N8, c1])
end Go.Proofs.YtpbmephflllolaaGreat
namespace Go.Proofs.YtpbmephflllolaaGreat
open Go
structure CfgV where
 wk : Int
 sh : Int
 cp : Int
 idle : Int
 sl : Int
 deriving DecidableEq
def CfgV.val (c : CfgV) : Value := .agg #[.int .i64 c.wk, .int .i64 c.sh, .int .i64 c.cp, .int .i64 c.idle, .int .i64 c.sl]
def Y1 (n lo hi : Int) : Bool := decide (lo ≤ n) && decide (n ≤ hi)
def Y2 (c : CfgV) : Bool := Y1 c.wk 1 64 && Y1 c.sh 1 16 && Y1 c.cp 1 64 && Y1 c.idle 0 1000000 && Y1 c.sl 2 8
structure AnsV where
 err : Int
 bk : Int
 made : Bool
 count : Int
 deriving DecidableEq
def AnsV.val (a : AnsV) : Value := .agg #[.int .i64 a.err, .int .i64 a.bk, .bool a.made, .int .i64 a.count]
structure OpV where
 kind : Int
 packet : ByteArray
 pool : List G0
 shard : Int
def OpV.val (o : OpV) (v : Value) : Value := .agg #[.int .i64 o.kind, .string o.packet, v, .int .i64 o.shard]
end Go.Proofs.YtpbmephflllolaaGreat
namespace Go.Proofs.YtpbmephflllolaaGreat
open Go
def A77 (X : Nat → Prop) (t0 t1 : Value) (R : Value → WP) : WP :=
 B2 PR X (Instr.box 3 t1) fun t3 =>
 A0 PR (Instr.makeFunc (.func 165) #[] #[t3]) fun t6 =>
 B1 PR X 164 [t0, t6] fun t7 =>
 R t7
theorem A6E : B0 PR 113 := A8 Tryz.func113 (by kernel_rfl) rfl
theorem B4H {X : Nat → Prop} {t0 t1 : Value} {R : Value → WP} {w : World} (h : A77 X t0 t1 R w) : Fn PR X 113 #[t0, t1] w R := C6 (args := [t0, t1]) mixed Tryz.func113 (by kernel_rfl) h
def A9D (X : Nat → Prop) (t0 t1 : Value) (R : Value → WP) : WP :=
 B2 PR X (Instr.box 9 t1) fun t3 =>
 B2 PR X (Instr.alloc 3 true (.tuple #[])) fun t5 =>
 B6 PR X (Instr.storeAt 3 t5 (.int .i64 (-1))) <|
 jn (n := 0) (
 A6 PR (Instr.loadAt 3 t5) fun t28 =>
 f7 (R t28)) fun J1 =>
 A6 PR (Instr.loadAt 9 t3) fun t9 =>
 B1 PR X 198 [t0, t9] fun t10 =>
 rng (N := 2) PR X (fun t11 t12 K2 =>
 B2 PR (fun _ => False) (Instr.alloc 160 true (.tuple #[])) fun t7 =>
 B6 PR (fun _ => False) (Instr.storeAt 160 t7 t12) <|
 bgn <|
 A0 PR (Instr.fieldAt 160 t7 0) fun t14 =>
 A6 PR (Instr.loadAt 3 t14) fun t15 =>
 A0 PR (binOp .eql 3 t15 (.int .i64 0)) fun t16 =>
 B5 t16 (
 K2 (some (.exit 0))) (
 A0 PR (Instr.fieldAt 160 t7 0) fun t18 =>
 A6 PR (Instr.loadAt 3 t18) fun t19 =>
 A0 PR (binOp .eql 3 t19 (.int .i64 1)) fun t20 =>
 gj t20 true (fun J => A0 PR (Instr.fieldAt 160 t7 1) J) fun t22 =>
 gj t20 true (fun J => A6 PR (Instr.loadAt 9 t22) J) fun t23 =>
 gj t20 true (fun J => A6 PR (Instr.loadAt 9 t3) J) fun t24 =>
 gj t20 true (fun J => A0 PR (binOp .eql 9 t23 t24) J) fun t25 =>
 A0 PR (do pure (if ← asBool t20 then t25 else (.bool false))) fun t26 =>
 B5 t26 (
 B6 PR (fun _ => False) (Instr.storeAt 3 t5 t11) <|
 K2 (some (.exit 0))) (
 K2 none))) t10 (fun j => match j with | none => (J1) | some (.exit i) => (match Nat.beq i 0 with | true => (J1) | false => (F7)) | some .ret => (f7 (R (.int .i64 0))) | some _ => F7)
theorem A0J : B0 PR 150 := A8 Tryz.func150 (by kernel_rfl) rfl
theorem B5Y {X : Nat → Prop} {t0 t1 : Value} {R : Value → WP} {w : World} (h : A9D X t0 t1 R w) : Fn PR X 150 #[t0, t1] w R := C6 (args := [t0, t1]) mixed Tryz.func150 (by kernel_rfl) h
def y7 (X : Nat → Prop) (t0 t1 : Value) (R : Value → WP) : WP :=
 jn (n := 2) (fun t5 t10 =>
 R t5) fun J1 =>
 A0 PR (A7 .len #[94] 0 [t0]) fun t9 =>
 lp (n := 2) (fun L2 t5_1 t10_1 =>
 A0 PR (binOp .lss 3 t10_1 t9) fun t11 =>
 jn (n := 0) (
 jn (n := 1) (fun t5_2 =>
 A0 PR (binOp .add 3 t10_1 (.int .i64 1)) fun t19 =>
 L2 t5_2 t19) fun J3 =>
 A0 PR (Instr.indexAt 94 t0 t10_1) fun t12 =>
 A6 PR (Instr.loadAt 160 t12) fun t13 =>
 B2 PR X (Instr.alloc 160 true (.tuple #[])) fun t7 =>
 B6 PR X (Instr.storeAt 160 t7 t13) <|
 A6 PR (Instr.loadAt 160 t7) fun t15 =>
 M4 PR X t1 [t15] fun t16 =>
 B5 t16 (
 A0 PR (binOp .add 3 t5_1 (.int .i64 1)) fun t18 =>
 J3 t18) (
 J3 t5_1)) fun J4 =>
 B5 t11 (
 J4) (
 J1 t5_1 t10_1)) (.int .i64 0) (.int .i64 0)
theorem A3y : B0 PR 164 := A8 Tryz.func164 (by kernel_rfl) rfl
theorem A5D {X : Nat → Prop} {t0 t1 : Value} {R : Value → WP} {w : World} (h : y7 X t0 t1 R w) : Fn PR X 164 #[t0, t1] w R := C6 (args := [t0, t1]) mixed Tryz.func164 (by kernel_rfl) h
def A3w (X : Nat → Prop) (t0 t1 : Value) (R : Value → WP) : WP :=
 B2 PR X (Instr.box 160 t0) fun t2 =>
 A0 PR (Instr.fieldAt 160 t2 0) fun t4 =>
 A6 PR (Instr.loadAt 3 t4) fun t5 =>
 A6 PR (Instr.loadAt 3 t1) fun t6 =>
 A0 PR (binOp .eql 3 t5 t6) fun t7 =>
 R t7
theorem A9Y : B0 PR 165 := A8 Tryz.func165 (by kernel_rfl) rfl
theorem B06 {X : Nat → Prop} {t0 t1 : Value} {R : Value → WP} {w : World} (h : A3w X t0 t1 R w) : Fn PR X 165 #[t0, t1] w R := C6 (args := [t0, t1]) mixed Tryz.func165 (by kernel_rfl) h
def A9v (X : Nat → Prop) (t0 t1 : Value) (R : Value → WP) : WP :=
 B2 PR X (Instr.box 94 t0) fun t2 =>
 B2 PR X (Instr.box 9 t1) fun t3 =>
 A0 PR (Instr.makeFunc (.func 220) #[] #[t3, t2]) fun t5 =>
 R t5
theorem A9F : B0 PR 198 := A8 Tryz.func198 (by kernel_rfl) rfl
theorem B7j {X : Nat → Prop} {t0 t1 : Value} {R : Value → WP} {w : World} (h : A9v X t0 t1 R w) : Fn PR X 198 #[t0, t1] w R := C6 (args := [t0, t1]) mixed Tryz.func198 (by kernel_rfl) h
def A8z (X : Nat → Prop) (t0 t1 : Value) (R : Value → WP) : WP :=
 B2 PR X (Instr.alloc 3 true (.tuple #[])) fun t4 =>
 jn (n := 0) (
 jn (n := 0) (
 B6 PR X (Instr.storeAt 3 t4 (.int .i64 (-1))) <|
 f7 (A6 PR (D5 [.c 3 t4]) R)) fun J1 =>
 B1 PR X 198 [t0, t1] fun t13 =>
 rng (N := 2) PR X (fun t14 t15 K2 =>
 B2 PR (fun _ => False) (Instr.alloc 160 true (.tuple #[])) fun t6 =>
 B6 PR (fun _ => False) (Instr.storeAt 160 t6 t15) <|
 bgn <|
 A0 PR (Instr.fieldAt 160 t6 0) fun t16 =>
 A6 PR (Instr.loadAt 3 t16) fun t17 =>
 A0 PR (binOp .neq 3 t17 (.int .i64 1)) fun t18 =>
 B5 t18 (
 B6 PR (fun _ => False) (Instr.storeAt 3 t4 t14) <|
 K2 (some .ret)) (
 K2 none)) t13 (fun j => match j with | none => (J1) | some (.exit i) => (match Nat.beq i 0 with | true => (J1) | false => (F7)) | some .ret => (f7 (A6 PR (D5 [.c 3 t4]) R)) | some _ => F7)) fun J3 =>
 B1 PR X 150 [t0, t1] fun t9 =>
 A0 PR (binOp .geq 3 t9 (.int .i64 0)) fun t10 =>
 B5 t10 (
 B6 PR X (Instr.storeAt 3 t4 (.int .i64 (-1))) <|
 f7 (A6 PR (D5 [.c 3 t4]) R)) (
 J3)
theorem B3v : B0 PR 201 := A8 Tryz.func201 (by kernel_rfl) rfl
theorem B5L {X : Nat → Prop} {t0 t1 : Value} {R : Value → WP} {w : World} (h : A8z X t0 t1 R w) : Fn PR X 201 #[t0, t1] w R := C6 (args := [t0, t1]) mixed Tryz.func201 (by kernel_rfl) h
def A6U (X : Nat → Prop) (t0 t1 t2 : Value) (R : Value → WP) : WP :=
 A6 PR (Instr.loadAt 9 t1) fun t7 =>
 A6 PR (Instr.loadAt 94 t2) fun t8 =>
 A0 PR (A7 .len #[94] 0 [t8]) fun t9 =>
 B1 PR X 221 [t7, t9] fun t10 =>
 A6 PR (Instr.loadAt 94 t2) fun t11 =>
 A0 PR (A7 .len #[94] 0 [t11]) fun t12 =>
 lp (n := 1) (fun L1 t13 =>
 A0 PR (binOp .lss 3 t13 t12) fun t14 =>
 jn (n := 0) (
 jn (n := 0) (
 A0 PR (binOp .add 3 t13 (.int .i64 1)) fun t30 =>
 L1 t30) fun J2 =>
 A0 PR (binOp .add 3 t10 t13) fun t18 =>
 A6 PR (Instr.loadAt 94 t2) fun t19 =>
 A0 PR (A7 .len #[94] 0 [t19]) fun t20 =>
 A0 PR (binOp .rem 3 t18 t20) fun t21 =>
 A6 PR (Instr.loadAt 94 t2) fun t24 =>
 A0 PR (Instr.indexAt 94 t24 t21) fun t26 =>
 A6 PR (Instr.loadAt 160 t26) fun t27 =>
 M4 PR X t0 [t21, t27] fun t28 =>
 A0 PR (Op.unary .not t28) fun t29 =>
 B5 t29 (
 R (.tuple #[])) (
 J2)) fun J3 =>
 B5 t14 (
 J3) (
 R (.tuple #[]))) (.int .i64 0)
theorem B1z : B0 PR 220 := A8 Tryz.func220 (by kernel_rfl) rfl
theorem B2Y {X : Nat → Prop} {t0 t1 t2 : Value} {R : Value → WP} {w : World} (h : A6U X t0 t1 t2 R w) : Fn PR X 220 #[t0, t1, t2] w R := C6 (args := [t0, t1, t2]) mixed Tryz.func220 (by kernel_rfl) h
theorem B3Y {X : Nat → Prop} {t0 t1 t2 : Value} {K : Value → WP} {w : World} (h : Fn PR X 220 #[t0, t1, t2] w K) : A1f PR X 220 [t0, t1, t2] K w := ⟨B1z, h⟩
def A82 (X : Nat → Prop) (t0 t1 : Value) (R : Value → WP) : WP :=
 jn (n := 1) (fun t4 =>
 B1 PR X 102 [t0] fun t8 =>
 A0 PR (convert 3 129 t1) fun t10 =>
 A0 PR (binOp .rem 129 t8 t10) fun t11 =>
 A0 PR (convert 129 3 t11) fun t12 =>
 R t12) fun J1 =>
 A0 PR (binOp .lss 3 t1 (.int .i64 1)) fun t6 =>
 B5 t6 (
 R (.int .i64 0)) (
 J1 (.int .i64 0))
theorem B4F : B0 PR 221 := A8 Tryz.func221 (by kernel_rfl) rfl
theorem B5w {X : Nat → Prop} {t0 t1 : Value} {R : Value → WP} {w : World} (h : A82 X t0 t1 R w) : Fn PR X 221 #[t0, t1] w R := C6 (args := [t0, t1]) mixed Tryz.func221 (by kernel_rfl) h
end Go.Proofs.YtpbmephflllolaaGreat
namespace Go.Proofs.YtpbmephflllolaaGreat
open Go
def B23 (X : Nat → Prop) (t0 : Value) (R : Value → WP) : WP :=
 B1 PR X 149 [(.int .u64 14695981039346656037), t0] fun t4 =>
 R t4
theorem A22 : B0 PR 102 := A8 Tryz.func102 (by kernel_rfl) rfl
theorem B9k {X : Nat → Prop} {t0 : Value} {R : Value → WP} {w : World} (h : B23 X t0 R w) : Fn PR X 102 #[t0] w R := C6 (args := [t0]) mixed Tryz.func102 (by kernel_rfl) h
def B1S (X : Nat → Prop) (t0 t1 : Value) (R : Value → WP) : WP :=
 B2 PR X (Instr.alloc 300 true (.tuple #[])) fun t5 =>
 B2 PR X (Instr.alloc 302 true (.tuple #[])) fun t6 =>
 B6 PR X (Instr.storeAt 300 t5 (.func (.func 196) #[] #[])) <|
 B6 PR X (Instr.storeAt 302 t6 t0) <|
 jn (n := 0) (
 A6 PR (Instr.loadAt 302 t6) fun t16 =>
 f7 (R t16)) fun J1 =>
 B1 PR X 197 [t1] fun t10 =>
 rng (N := 1) PR X (fun t11 K2 =>
 bgn <|
 A6 PR (Instr.loadAt 300 t5) fun t12 =>
 A6 PR (Instr.loadAt 302 t6) fun t13 =>
 M4 PR (fun _ => False) t12 [t13, t11] fun t15 =>
 B6 PR (fun _ => False) (Instr.storeAt 302 t6 t15) <|
 K2 none) t10 (fun j => match j with | none => (J1) | some (.exit i) => (match Nat.beq i 0 with | true => (J1) | false => (F7)) | some .ret => (f7 (R (.int .u64 0))) | some _ => F7)
theorem A9W : B0 PR 149 := A8 Tryz.func149 (by kernel_rfl) rfl
theorem B8Y {X : Nat → Prop} {t0 t1 : Value} {R : Value → WP} {w : World} (h : B1S X t0 t1 R w) : Fn PR X 149 #[t0, t1] w R := C6 (args := [t0, t1]) mixed Tryz.func149 (by kernel_rfl) h
def A7c (X : Nat → Prop) (t0 t1 : Value) (R : Value → WP) : WP :=
 A0 PR (convert 5 302 t1) fun t7 =>
 A0 PR (binOp .xor 302 t0 t7) fun t8 =>
 A0 PR (binOp .mul 302 t8 (.int .u64 1099511628211)) fun t9 =>
 R t9
theorem B2j : B0 PR 196 := A8 Tryz.func196 (by kernel_rfl) rfl
theorem B4D {X : Nat → Prop} {t0 t1 : Value} {R : Value → WP} {w : World} (h : A7c X t0 t1 R w) : Fn PR X 196 #[t0, t1] w R := C6 (args := [t0, t1]) mixed Tryz.func196 (by kernel_rfl) h
def B1N (X : Nat → Prop) (t0 : Value) (R : Value → WP) : WP :=
 B2 PR X (Instr.box 9 t0) fun t1 =>
 A0 PR (Instr.makeFunc (.func 219) #[] #[t1]) fun t3 =>
 R t3
theorem B7B : B0 PR 197 := A8 Tryz.func197 (by kernel_rfl) rfl
theorem B74 {X : Nat → Prop} {t0 : Value} {R : Value → WP} {w : World} (h : B1N X t0 R w) : Fn PR X 197 #[t0] w R := C6 (args := [t0]) mixed Tryz.func197 (by kernel_rfl) h
def A7q (X : Nat → Prop) (t0 t1 : Value) (R : Value → WP) : WP :=
 A6 PR (Instr.loadAt 9 t1) fun t4 =>
 A0 PR (A7 .len #[9] 0 [t4]) fun t5 =>
 lp (n := 1) (fun L1 t6 =>
 A0 PR (binOp .lss 3 t6 t5) fun t7 =>
 jn (n := 0) (
 jn (n := 0) (
 A0 PR (binOp .add 3 t6 (.int .i64 1)) fun t15 =>
 L1 t15) fun J2 =>
 A6 PR (Instr.loadAt 9 t1) fun t10 =>
 A0 PR (Instr.index 9 t10 t6) fun t12 =>
 M4 PR X t0 [t12] fun t13 =>
 A0 PR (Op.unary .not t13) fun t14 =>
 B5 t14 (
 R (.tuple #[])) (
 J2)) fun J3 =>
 B5 t7 (
 J3) (
 R (.tuple #[]))) (.int .i64 0)
theorem B3L : B0 PR 219 := A8 Tryz.func219 (by kernel_rfl) rfl
theorem B4J {X : Nat → Prop} {t0 t1 : Value} {R : Value → WP} {w : World} (h : A7q X t0 t1 R w) : Fn PR X 219 #[t0, t1] w R := C6 (args := [t0, t1]) mixed Tryz.func219 (by kernel_rfl) h
theorem B4U {X : Nat → Prop} {t0 t1 : Value} {K : Value → WP} {w : World} (h : Fn PR X 219 #[t0, t1] w K) : A1f PR X 219 [t0, t1] K w := ⟨B3L, h⟩
end Go.Proofs.YtpbmephflllolaaGreat
namespace Go.Proofs.YtpbmephflllolaaGreat
open Go
def A4T (h b : Nat) : Nat := ((h ^^^ b) * 1099511628211) % 18446744073709551616
def A0w (h : Nat) (s : ByteArray) : Nat → Nat
 | 0 => h
 | i + 1 => A4T (A0w h s i) (C3 s i)
def A8N (h : Nat) (s : ByteArray) : Nat := A0w h s s.size
def P8 (s : ByteArray) : Nat := A8N 14695981039346656037 s
theorem C6v (h b : Nat) : A4T h b < 2 ^ 64 := by unfold A4T; omega
theorem B4W {h : Nat} (hh : h < 2 ^ 64) (s : ByteArray) (i : Nat) : A0w h s i < 2 ^ 64 := by
 cases i with
 | zero => exact hh
 | succ i => exact C6v _ _
theorem C8c (w : World) (h b : Nat) (hh : h < 2 ^ 64) (hb : b < 256) : Fn PR B3 196 #[.int .u64 (h : Int), .int .u8 (b : Int)] w (fun v w' => v = .int .u64 (A4T h b : Nat) ∧ C1 [] w w') := by
 refine Fn.pure (B4D (TW.go (κ := false) (S := []) ?_))
 unfold A7c
 (have zz:=trivial;repeat((first|clear zz|with_reducible first|refine A3 ?_|refine A4 fun _=>?_|refine A5 fun _=>?_);try simp(disch:=first|omega|assumption|((repeat(first|exact A1|exact uH|apply A2|apply uT));first|done|fail)|(simp;first|done|omega|fail))[]))
 have e1 : (h % 2 ^ IntKind.u64.bits ^^^ b % 2 ^ IntKind.u64.bits) = h ^^^ b := by rw [show (2 : Nat) ^ IntKind.u64.bits = 2 ^ 64 from rfl, Nat.mod_eq_of_lt hh, Nat.mod_eq_of_lt (by omega)]
 have e2 : h ^^^ b < 2 ^ 64 := Nat.xor_lt_two_pow hh (by omega)
 rw [e1, A0P (n := ((h ^^^ b : Nat) : Int)) (by omega) (by omega)]
 refine A9 ?_
 have e3 : IntKind.u64.wrap (((h ^^^ b : Nat) : Int) * 1099511628211) = (A4T h b : Nat) := by
  simp only [IntKind.wrap, IntKind.bits, IntKind.signed, A4T]
  simp
 rw [e3]
abbrev C5p (b : Nat) : Value := .func (.func 219) #[] #[.pointer (some ⟨b, 0, none⟩)]
theorem C6Z (w : World) (s : ByteArray) : Fn PR B3 197 #[.string s] w (Rn [] w (fun b v => v = C5p b) fun b => [.pt b (.cells #[.string s] 9)]) := by
 refine B74 (TW.go (κ := false) (S := []) ?_)
 unfold B1N
 (have zz:=trivial;repeat((first|clear zz|with_reducible first|refine A3 ?_|refine A4 fun _=>?_|refine A5 fun _=>?_);try simp(disch:=first|omega|assumption|((repeat(first|exact A1|exact uH|apply A2|apply uT));first|done|fail)|(simp;first|done|omega|fail))[]))
 rename_i b
 exact k7 b rfl (by simp)
def B51 (s : ByteArray) (i : Nat) : List Value := [.int .u8 (C3 s i : Nat)]
theorem C5u (b : Nat) (s : ByteArray) (hs : s.size < 2 ^ 60) : A36 (C5p b) [.pt b (.cells #[.string s] 9)] (fun _ _ => True) ((List.range s.size).map (B51 s)) := by
 refine ⟨_, _, _, rfl, fun l J E hJ hE stJ stE hy w0 h0 => ?_⟩
 refine B4U (B4J (TW.at (κ := true) ?_ (hJ _ _ _ h0).1))
 unfold A7q
 (have zz:=trivial;repeat((first|clear zz|with_reducible first|refine A3 ?_|refine A4 fun _=>?_|refine A5 fun _=>?_);try simp(disch:=first|omega|assumption|((repeat(first|exact A1|exact uH|apply A2|apply uT));first|done|fail)|(simp;first|done|omega|fail))[]))
 refine A42 s.size (fun i => i) (fun _ => _) hJ stJ h0 fun i a hi hJi _ L hL => ?_
 by_cases hlt : i < s.size
 ·obtain ⟨by0, hb0, hb1⟩ := r9 (s := s) (i := i) hlt
  have hb0' : s[((i : Nat) : Int).toNat]? = some by0 := by rw [Int.toNat_natCast]; exact hb0
  (have zz:=trivial;repeat((first|clear zz|with_reducible first|refine A3 ?_|refine A4 fun _=>?_|refine A5 fun _=>?_);try simp(disch:=first|omega|assumption|((repeat(first|exact A1|exact uH|apply A2|apply uT));first|done|fail)|(simp;first|done|omega|fail))[hlt, Z4]))
  rw [hb1]
  refine A54 hJ hE stJ hy hJi (by simpa using hlt) (by simp [B51]) (fun w3 h => ?_) (fun w3 h => ?_)
  ·(have zz:=trivial;repeat((first|clear zz|with_reducible first|refine A3 ?_|refine A4 fun _=>?_|refine A5 fun _=>?_);try simp(disch:=first|omega|assumption|((repeat(first|exact A1|exact uH|apply A2|apply uT));first|done|fail)|(simp;first|done|omega|fail))[]))
   exact fun w' hw' => hL hlt w' (stJ _ _ _ _ _ h hw')
  ·(have zz:=trivial;repeat((first|clear zz|with_reducible first|refine A3 ?_|refine A4 fun _=>?_|refine A5 fun _=>?_);try simp(disch:=first|omega|assumption|((repeat(first|exact A1|exact uH|apply A2|apply uT));first|done|fail)|(simp;first|done|omega|fail))[]))
   exact A3Y stE h
 ·obtain rfl : i = s.size := by omega
  (have zz:=trivial;repeat((first|clear zz|with_reducible first|refine A3 ?_|refine A4 fun _=>?_|refine A5 fun _=>?_);try simp(disch:=first|omega|assumption|((repeat(first|exact A1|exact uH|apply A2|apply uT));first|done|fail)|(simp;first|done|omega|fail))[]))
  exact A29 stJ (by simpa using hJi)
theorem B82 (w : World) (h : Nat) (s : ByteArray) (hh : h < 2 ^ 64) (hs : s.size < 2 ^ 60) : Fn PR B3 149 #[.int .u64 (h : Int), .string s] w (fun v w' => v = .int .u64 (A8N h s : Nat) ∧ C1 [] w w') := by
 refine Fn.pure (B8Y (TW.go (κ := false) (S := []) ?_))
 unfold B1S
 (have zz:=trivial;repeat((first|clear zz|with_reducible first|refine A3 ?_|refine A4 fun _=>?_|refine A5 fun _=>?_);try simp(disch:=first|omega|assumption|((repeat(first|exact A1|exact uH|apply A2|apply uT));first|done|fail)|(simp;first|done|omega|fail))[]))
 rename_i bf bx
 refine G3 B7B (fun w' _ => C6Z w' s) ?_
 rintro b v rfl
 refine A2a (C5u b s hs) (by simp [B51]) (fun _ (_ : Unit) => True) (fun i _ => [.pt bx (.cells #[.int .u64 ((A0w h s i : Nat) : Int)] 302), .pt bf (.cells #[.func (.func 196) #[] #[]] 300)])
  (fun _ (_ : Unit) => False) (fun _ => []) () trivial ?_ ?_ ?_ ?_ (by simp [A0w])
 ·intros; trivial
 ·rintro i hi _ F _ K' hK _
  simp only [List.getElem_map, List.getElem_range, B51, VF.app]
  (have zz:=trivial;repeat((first|clear zz|with_reducible first|refine A3 ?_|refine A4 fun _=>?_|refine A5 fun _=>?_);try simp(disch:=first|omega|assumption|((repeat(first|exact A1|exact uH|apply A2|apply uT));first|done|fail)|(simp;first|done|omega|fail))[]))
  refine B8 B2j (fun w' _ => C8c w' _ _ (B4W hh s i) (M7 s i)) ?_
  (have zz:=trivial;repeat((first|clear zz|with_reducible first|refine A3 ?_|refine A4 fun _=>?_|refine A5 fun _=>?_);try simp(disch:=first|omega|assumption|((repeat(first|exact A1|exact uH|apply A2|apply uT));first|done|fail)|(simp;first|done|omega|fail))[]))
  exact TW.eqH (by simp [A0w]) (hK () trivial)
 ·rintro _ _
  (have zz:=trivial;repeat((first|clear zz|with_reducible first|refine A3 ?_|refine A4 fun _=>?_|refine A5 fun _=>?_);try simp(disch:=first|omega|assumption|((repeat(first|exact A1|exact uH|apply A2|apply uT));first|done|fail)|(simp;first|done|omega|fail))[]))
  exact A9 (by simp [A8N])
 ·rintro _ _ h; exact h.elim
theorem A5w (w : World) (s : ByteArray) (hs : s.size < 2 ^ 60) : Fn PR B3 102 #[.string s] w (fun v w' => v = .int .u64 (P8 s : Nat) ∧ C1 [] w w') := by
 refine Fn.pure (B9k (TW.go (κ := false) (S := []) ?_))
 unfold B23
 refine B8 A9W (fun w' _ => B82 w' 14695981039346656037 s (by omega) hs) ?_
 exact A9 rfl
end Go.Proofs.YtpbmephflllolaaGreat
namespace Go.Proofs.YtpbmephflllolaaGreat
open Go
def G4 (key : ByteArray) (n : Nat) : Nat := P8 key % n
theorem A7z (s : ByteArray) : P8 s < 2 ^ 64 := B4W (by omega) s _
theorem C59 (w : World) (key : ByteArray) (n : Nat) (hk : key.size < 2 ^ 60) (hn : n ≤ 1000000) : Fn PR B3 221 #[.string key, .int .i64 (n : Int)] w (fun v w' => v = .int .i64 (if n = 0 then 0 else G4 key n : Nat) ∧ C1 [] w w') := by
 refine Fn.pure (B5w (TW.go (κ := false) (S := []) ?_))
 unfold A82
 by_cases c1 : n = 0
 ·have c1' : (n : Int) < 1 := by omega
  (have zz:=trivial;repeat((first|clear zz|with_reducible first|refine A3 ?_|refine A4 fun _=>?_|refine A5 fun _=>?_);try simp(disch:=first|omega|assumption|((repeat(first|exact A1|exact uH|apply A2|apply uT));first|done|fail)|(simp;first|done|omega|fail))[c1']))
  exact A9 (by simp [c1])
 have c1' : ¬ (n : Int) < 1 := by omega
 have c1'' : ¬ (n : Int) = 0 := by omega
 (have zz:=trivial;repeat((first|clear zz|with_reducible first|refine A3 ?_|refine A4 fun _=>?_|refine A5 fun _=>?_);try simp(disch:=first|omega|assumption|((repeat(first|exact A1|exact uH|apply A2|apply uT));first|done|fail)|(simp;first|done|omega|fail))[c1']))
 refine B8 A22 (fun w' _ => A5w w' key hk) ?_
 have hl := A7z key
 have hm : G4 key n < n := Nat.mod_lt _ (by omega)
 have e1 : ((P8 key : Nat) : Int).tmod n = (G4 key n : Nat) := by unfold G4; rw [Int.tmod_eq_emod_of_nonneg (by omega)]; omega
 have e2 : ((P8 key : Nat) : Int) % n = (G4 key n : Nat) := by unfold G4; omega
 (have zz:=trivial;repeat((first|clear zz|with_reducible first|refine A3 ?_|refine A4 fun _=>?_|refine A5 fun _=>?_);try simp(disch:=first|omega|assumption|((repeat(first|exact A1|exact uH|apply A2|apply uT));first|done|fail)|(simp;first|done|omega|fail))[c1'', e1, N7]))
 exact A9 (by simp [c1])
def Z3 : EnV := ⟨0, Q8, 0, 0⟩
def M5 (l : List EnV) (key : ByteArray) : List (Nat × EnV) := (List.range l.length).map fun i => ((G4 key l.length + i) % l.length, l.getD ((G4 key l.length + i) % l.length) Z3)
def A7B (p : Nat × EnV) : List Value := [.int .i64 (p.1 : Nat), .agg #[.int .i64 p.2.st, .string p.2.key, .int .i64 p.2.bk, .int .i64 p.2.dl]]
abbrev C7Q (x : Nat × Nat) : Value := .func (.func 220) #[] #[.pointer (some ⟨x.1, 0, none⟩), .pointer (some ⟨x.2, 0, none⟩)]
abbrev B7F (x : Nat × Nat) (v : Value) (key : ByteArray) : List Res := [.pt x.1 (.cells #[.string key] 9), .pt x.2 (.cells #[v] 94)]
theorem C2E (w : World) (v : Value) (key : ByteArray) (hv : ∃ a n c, v = .slice a n c) : Fn PR B3 198 #[v, .string key] w (Rn [] w (fun x u => u = C7Q x) fun x => B7F x v key) := by
 obtain ⟨a, n, c, rfl⟩ := hv
 refine B7j (TW.go (κ := false) (S := []) ?_)
 unfold A9v
 (have zz:=trivial;repeat((first|clear zz|with_reducible first|refine A3 ?_|refine A4 fun _=>?_|refine A5 fun _=>?_);try simp(disch:=first|omega|assumption|((repeat(first|exact A1|exact uH|apply A2|apply uT));first|done|fail)|(simp;first|done|omega|fail))[]))
 rename_i b1 b2
 exact C0 (b2, b1) rfl (by (repeat' constructor))
def RqS (v : Value) (n : Nat) (xs : List Value) (F : List Res) (w : World) : Prop := ∃ a c, v = .slice a n c ∧ (0 < n → ∃ b o, a = some ⟨b, o, none⟩ ∧ L9 w b o xs ∧ b ∉ C7 F)
theorem RqS.of {v : Value} {n : Nat} {xs : List Value} {w0 w : World} {A F : List Res} (h : E3 w0 v n xs) (hx : 0 < n → 0 < xs.length) (hw : LW false [] w0 (A ++ F) w) : RqS v n xs F w := by
 obtain ⟨a, c, rfl, hr⟩ := h.form
 refine ⟨a, c, rfl, fun hn => ?_⟩
 obtain ⟨b, o, rfl, hrow⟩ := hr hn
 refine ⟨b, o, rfl, hw.ks.row (by simp) hrow, hw.notin_old ?_ (by simp)⟩
 have h0 := hrow 0 (hx hn)
 rw [List.getElem?_eq_getElem (hx hn)] at h0
 obtain ⟨c', t', z', h1, h2⟩ := q5 h0
 exact H9 h1
theorem A0G (l : List EnV) : (l.flatMap D9).length = l.length * 4 := by
 induction l with
 | nil => rfl
 | cons x l ih => rw [List.flatMap_cons, List.length_append, ih]; simp [D9]; omega
theorem C2H (x : Nat × Nat) (v : Value) (l : List EnV) (key : ByteArray) (hk : key.size < 2 ^ 60) (hn : l.length ≤ 1000000) : A36 (C7Q x) (B7F x v key) (RqS v l.length (l.flatMap D9)) ((M5 l key).map A7B) := by
 obtain ⟨bk, bt⟩ := x
 refine ⟨_, _, _, rfl, fun y J E hJ hE stJ stE hy w0 h0 => ?_⟩
 obtain ⟨a, c, hv, hr⟩ := (hJ _ _ _ h0).2
 subst hv
 refine B3Y (B2Y (TW.at (κ := true) ?_ (hJ _ _ _ h0).1))
 unfold A6U
 simp only [B7F]
 (have zz:=trivial;repeat((first|clear zz|with_reducible first|refine A3 ?_|refine A4 fun _=>?_|refine A5 fun _=>?_);try simp(disch:=first|omega|assumption|((repeat(first|exact A1|exact uH|apply A2|apply uT));first|done|fail)|(simp;first|done|omega|fail))[]))
 refine B8 B4F (fun w' _ => C59 w' key l.length hk hn) ?_
 (have zz:=trivial;repeat((first|clear zz|with_reducible first|refine A3 ?_|refine A4 fun _=>?_|refine A5 fun _=>?_);try simp(disch:=first|omega|assumption|((repeat(first|exact A1|exact uH|apply A2|apply uT));first|done|fail)|(simp;first|done|omega|fail))[]))
 refine A42 l.length (fun i => i) (fun _ => _) hJ stJ h0 fun i a' hi hJi hRi L hL => ?_
 by_cases hlt : i < l.length
 ·obtain ⟨_, _, hv, hr⟩ := hRi
  obtain ⟨b, o, hb, hrow, hnb⟩ := hr (by omega)
  cases hv
  have hh : G4 key l.length < l.length := Nat.mod_lt _ (by omega)
  have e0 : (if l.length = 0 then 0 else G4 key l.length) = G4 key l.length := if_neg (by omega)
  have hj : (G4 key l.length + i) % l.length < l.length := Nat.mod_lt _ (by omega)
  have hx : l[(G4 key l.length + i) % l.length]? = some (l.getD ((G4 key l.length + i) % l.length) Z3) := by
   rw [List.getD_eq_getElem?_getD, List.getElem?_eq_getElem hj]; rfl
  have h1 := hrow.at (f := D9) (k := 4) (fun _ => rfl) hx
  have e1 : (((G4 key l.length : Nat) : Int) + (i : Nat)).tmod l.length = ((G4 key l.length + i) % l.length : Nat) := by rw [Int.tmod_eq_emod_of_nonneg (by omega), Int.natCast_emod, Int.natCast_add]
  have hwi : ∀ h, ((M5 l key).map A7B)[i]'h = A7B ((G4 key l.length + i) % l.length, l.getD ((G4 key l.length + i) % l.length) Z3) := by
   intro h; simp only [List.getElem_map, M5, List.getElem_range]
  generalize hjd : (G4 key l.length + i) % l.length = j at *
  generalize hxd : l.getD j Z3 = x at *
  rw [D9] at h1
  have hnz : ¬ (l.length : Int) = 0 := by omega
  subst hb
  rw [e0]
  (have zz:=trivial;repeat((first|clear zz|with_reducible first|refine A3 ?_|refine A4 fun _=>?_|refine A5 fun _=>?_);try simp(disch:=first|omega|assumption|((repeat(first|exact A1|exact uH|apply A2|apply uT));first|done|fail)|(simp;first|done|omega|fail))[hlt, e1, h1, hnz, N7]))
  refine A54 hJ hE stJ hy hJi (by simpa [M5] using hlt) (hwi _) (fun w3 h => ?_) (fun w3 h => ?_)
  ·(have zz:=trivial;repeat((first|clear zz|with_reducible first|refine A3 ?_|refine A4 fun _=>?_|refine A5 fun _=>?_);try simp(disch:=first|omega|assumption|((repeat(first|exact A1|exact uH|apply A2|apply uT));first|done|fail)|(simp;first|done|omega|fail))[]))
   exact fun w' hw' => hL hlt w' (stJ _ _ _ _ _ h hw')
  ·(have zz:=trivial;repeat((first|clear zz|with_reducible first|refine A3 ?_|refine A4 fun _=>?_|refine A5 fun _=>?_);try simp(disch:=first|omega|assumption|((repeat(first|exact A1|exact uH|apply A2|apply uT));first|done|fail)|(simp;first|done|omega|fail))[]))
   exact A3Y stE h
 ·obtain rfl : i = l.length := by omega
  (have zz:=trivial;repeat((first|clear zz|with_reducible first|refine A3 ?_|refine A4 fun _=>?_|refine A5 fun _=>?_);try simp(disch:=first|omega|assumption|((repeat(first|exact A1|exact uH|apply A2|apply uT));first|done|fail)|(simp;first|done|omega|fail))[]))
  exact A29 stJ (by simpa [M5] using hJi)
def K9 (key : ByteArray) : List (Nat × EnV) → Int
 | [] => -1
 | p :: r => if p.2.st = 0 then -1 else if p.2.st = 1 ∧ p.2.key = key then p.1 else K9 key r
def D7 (l : List EnV) (key : ByteArray) : Int := K9 key (M5 l key)
theorem B9D {α : Type} {l : List α} {i : Nat} (h : i < l.length) : l.drop i = l[i] :: l.drop (i + 1) := List.drop_eq_getElem_cons h
theorem A8G (L : List (Nat × EnV)) : ∀ x ∈ L.map A7B, x.length = 2 := by
 intro x hx; obtain ⟨p, _, rfl⟩ := List.mem_map.1 hx; rfl
theorem A16 (w : World) (v : Value) (l : List EnV) (key : ByteArray) (hk : key.size < 2 ^ 60) (hn : l.length ≤ 1000000) (hv : E3 w v l.length (l.flatMap D9)) :
  Fn PR B3 150 #[v, .string key] w (fun r w' => r = .int .i64 (D7 l key) ∧ C1 [] w w') := by
 refine Fn.pure (B5Y (TW.go (κ := false) (S := []) ?_))
 unfold A9D
 (have zz:=trivial;repeat((first|clear zz|with_reducible first|refine A3 ?_|refine A4 fun _=>?_|refine A5 fun _=>?_);try simp(disch:=first|omega|assumption|((repeat(first|exact A1|exact uH|apply A2|apply uT));first|done|fail)|(simp;first|done|omega|fail))[]))
 rename_i bk bf
 refine G3 A9F (fun w' _ => C2E w' v key (by obtain ⟨a, c, rfl, _⟩ := hv.form; exact ⟨a, _, c, rfl⟩)) ?_
 rintro x u rfl
 refine A2a (C2H x v l key hk hn) (A8G _) (fun i (_ : Unit) => K9 key ((M5 l key).drop i) = D7 l key) (fun _ _ => [.pt bf (.cells #[.int .i64 (-1)] 3), .pt bk (.cells #[.string key] 9)])
  (fun c (y : Unit) => c = .exit 0) (fun y => [.pt bf (.cells #[.int .i64 (D7 l key)] 3)]) () rfl ?_ ?_ ?_ ?_ (by simp [B7F])
 ·intro i _ F w1 _ hw
  exact RqS.of hv (fun h => by rw [A0G]; omega) hw
 ·rintro i hi _ F hψ K' hK hE
  have hi' : i < (M5 l key).length := by simpa using hi
  rw [B9D hi'] at hψ
  simp only [List.getElem_map]
  generalize (M5 l key)[i] = p at *
  simp only [A7B, VF.app]
  by_cases c0 : p.2.st = 0
  ·(have zz:=trivial;repeat((first|clear zz|with_reducible first|refine A3 ?_|refine A4 fun _=>?_|refine A5 fun _=>?_);try simp(disch:=first|omega|assumption|((repeat(first|exact A1|exact uH|apply A2|apply uT));first|done|fail)|(simp;first|done|omega|fail))[c0]))
   refine TW.sub (hE (.exit 0) () rfl) ?_
   rw [← hψ]
   simp only [K9, c0, if_true]
   ((try simp only [List.cons_append, List.nil_append, List.append_assoc]); (repeat (first | exact List.Sublist.refl _ | exact List.nil_sublist _ | with_reducible apply List.Sublist.cons_cons | apply List.Sublist.cons)); first | done | fail)
  by_cases c1 : p.2.st = 1
  ·by_cases c2 : p.2.key = key
   ·(have zz:=trivial;repeat((first|clear zz|with_reducible first|refine A3 ?_|refine A4 fun _=>?_|refine A5 fun _=>?_);try simp(disch:=first|omega|assumption|((repeat(first|exact A1|exact uH|apply A2|apply uT));first|done|fail)|(simp;first|done|omega|fail))[c0, c1, c2]))
    refine TW.sub (hE (.exit 0) () rfl) ?_
    rw [← hψ]
    simp [K9, c1, c2]
    ((try simp only [List.cons_append, List.nil_append, List.append_assoc]); (repeat (first | exact List.Sublist.refl _ | exact List.nil_sublist _ | with_reducible apply List.Sublist.cons_cons | apply List.Sublist.cons)); first | done | fail)
   ·(have zz:=trivial;repeat((first|clear zz|with_reducible first|refine A3 ?_|refine A4 fun _=>?_|refine A5 fun _=>?_);try simp(disch:=first|omega|assumption|((repeat(first|exact A1|exact uH|apply A2|apply uT));first|done|fail)|(simp;first|done|omega|fail))[c0, c1, c2]))
    refine TW.sub (hK () ?_) (by ((try simp only [List.cons_append, List.nil_append, List.append_assoc]); (repeat (first | exact List.Sublist.refl _ | exact List.nil_sublist _ | with_reducible apply List.Sublist.cons_cons | apply List.Sublist.cons)); first | done | fail))
    rw [← hψ]
    simp [K9, c1, c2]
  ·(have zz:=trivial;repeat((first|clear zz|with_reducible first|refine A3 ?_|refine A4 fun _=>?_|refine A5 fun _=>?_);try simp(disch:=first|omega|assumption|((repeat(first|exact A1|exact uH|apply A2|apply uT));first|done|fail)|(simp;first|done|omega|fail))[c0, c1]))
   refine TW.sub (hK () ?_) (by ((try simp only [List.cons_append, List.nil_append, List.append_assoc]); (repeat (first | exact List.Sublist.refl _ | exact List.nil_sublist _ | with_reducible apply List.Sublist.cons_cons | apply List.Sublist.cons)); first | done | fail))
   rw [← hψ]
   simp [K9, c0, c1]
 ·intro _ hψ
  (have zz:=trivial;repeat((first|clear zz|with_reducible first|refine A3 ?_|refine A4 fun _=>?_|refine A5 fun _=>?_);try simp(disch:=first|omega|assumption|((repeat(first|exact A1|exact uH|apply A2|apply uT));first|done|fail)|(simp;first|done|omega|fail))[]))
  simp only [List.length_map, List.drop_length, K9] at hψ
  exact A9 (by rw [← hψ])
 ·rintro _ _ rfl
  (have zz:=trivial;repeat((first|clear zz|with_reducible first|refine A3 ?_|refine A4 fun _=>?_|refine A5 fun _=>?_);try simp(disch:=first|omega|assumption|((repeat(first|exact A1|exact uH|apply A2|apply uT));first|done|fail)|(simp;first|done|omega|fail))[]))
  exact A9 rfl
def N3 : List (Nat × EnV) → Int
 | [] => -1
 | p :: r => if p.2.st = 1 then N3 r else p.1
def S7 (l : List EnV) (key : ByteArray) : Int := if 0 ≤ D7 l key then -1 else N3 (M5 l key)
theorem B7q (w : World) (v : Value) (l : List EnV) (key : ByteArray) (hk : key.size < 2 ^ 60) (hn : l.length ≤ 1000000) (hv : E3 w v l.length (l.flatMap D9)) :
  Fn PR B3 201 #[v, .string key] w (fun r w' => r = .int .i64 (S7 l key) ∧ C1 [] w w') := by
 refine Fn.pure (B5L (TW.go (κ := false) (S := []) ?_))
 unfold A8z
 (have zz:=trivial;repeat((first|clear zz|with_reducible first|refine A3 ?_|refine A4 fun _=>?_|refine A5 fun _=>?_);try simp(disch:=first|omega|assumption|((repeat(first|exact A1|exact uH|apply A2|apply uT));first|done|fail)|(simp;first|done|omega|fail))[]))
 rename_i bf
 refine B8 A0J (fun w' hw' => A16 w' v l key hk hn (hv.ks hw'.ks (by simp))) ?_
 by_cases c1 : 0 ≤ D7 l key
 ·(have zz:=trivial;repeat((first|clear zz|with_reducible first|refine A3 ?_|refine A4 fun _=>?_|refine A5 fun _=>?_);try simp(disch:=first|omega|assumption|((repeat(first|exact A1|exact uH|apply A2|apply uT));first|done|fail)|(simp;first|done|omega|fail))[c1]))
  exact A9 (by simp [S7, c1])
 have e1 : S7 l key = N3 (M5 l key) := if_neg c1
 (have zz:=trivial;repeat((first|clear zz|with_reducible first|refine A3 ?_|refine A4 fun _=>?_|refine A5 fun _=>?_);try simp(disch:=first|omega|assumption|((repeat(first|exact A1|exact uH|apply A2|apply uT));first|done|fail)|(simp;first|done|omega|fail))[c1]))
 refine G3 A9F (fun w' _ => C2E w' v key (by obtain ⟨a, c, rfl, _⟩ := hv.form; exact ⟨a, _, c, rfl⟩)) ?_
 rintro x u rfl
 refine A2a (C2H x v l key hk hn) (A8G _) (fun i (_ : Unit) => N3 ((M5 l key).drop i) = S7 l key) (fun _ _ => [.pt bf (.cells #[.int .i64 0] 3)])
  (fun c (y : Unit) => c = .ret) (fun y => [.pt bf (.cells #[.int .i64 (S7 l key)] 3)]) () (by rw [List.drop_zero, e1]) ?_ ?_ ?_ ?_ (by simp [B7F])
 ·intro i _ F w1 _ hw
  exact RqS.of hv (fun h => by rw [A0G]; omega) hw
 ·rintro i hi _ F hψ K' hK hE
  have hi' : i < (M5 l key).length := by simpa using hi
  rw [B9D hi'] at hψ
  simp only [List.getElem_map]
  generalize (M5 l key)[i] = p at *
  simp only [A7B, VF.app]
  by_cases c1 : p.2.st = 1
  ·(have zz:=trivial;repeat((first|clear zz|with_reducible first|refine A3 ?_|refine A4 fun _=>?_|refine A5 fun _=>?_);try simp(disch:=first|omega|assumption|((repeat(first|exact A1|exact uH|apply A2|apply uT));first|done|fail)|(simp;first|done|omega|fail))[c1]))
   refine TW.sub (hK () ?_) (by ((try simp only [List.cons_append, List.nil_append, List.append_assoc]); (repeat (first | exact List.Sublist.refl _ | exact List.nil_sublist _ | with_reducible apply List.Sublist.cons_cons | apply List.Sublist.cons)); first | done | fail))
   rw [← hψ]
   simp [N3, c1]
  ·(have zz:=trivial;repeat((first|clear zz|with_reducible first|refine A3 ?_|refine A4 fun _=>?_|refine A5 fun _=>?_);try simp(disch:=first|omega|assumption|((repeat(first|exact A1|exact uH|apply A2|apply uT));first|done|fail)|(simp;first|done|omega|fail))[c1]))
   refine TW.sub (hE .ret () rfl) ?_
   rw [← hψ]
   simp only [N3, c1, if_false]
   ((try simp only [List.cons_append, List.nil_append, List.append_assoc]); (repeat (first | exact List.Sublist.refl _ | exact List.nil_sublist _ | with_reducible apply List.Sublist.cons_cons | apply List.Sublist.cons)); first | done | fail)
 ·intro _ hψ
  (have zz:=trivial;repeat((first|clear zz|with_reducible first|refine A3 ?_|refine A4 fun _=>?_|refine A5 fun _=>?_);try simp(disch:=first|omega|assumption|((repeat(first|exact A1|exact uH|apply A2|apply uT));first|done|fail)|(simp;first|done|omega|fail))[]))
  simp only [List.length_map, List.drop_length, N3] at hψ
  exact A9 (by rw [← hψ])
 ·rintro _ _ rfl
  (have zz:=trivial;repeat((first|clear zz|with_reducible first|refine A3 ?_|refine A4 fun _=>?_|refine A5 fun _=>?_);try simp(disch:=first|omega|assumption|((repeat(first|exact A1|exact uH|apply A2|apply uT));first|done|fail)|(simp;first|done|omega|fail))[]))
  exact A9 rfl
theorem C0r (w : World) (x : EnV) (st : Int) (b : Nat) (hb : w.cell? ⟨b, 0, none⟩ = some (.int .i64 st)) : Fn PR B3 165 #[.agg #[.int .i64 x.st, .string x.key, .int .i64 x.bk, .int .i64 x.dl], .pointer (some ⟨b, 0, none⟩)] w (fun r w' => r = .bool (decide (x.st = st)) ∧ C1 [] w w') := by
 refine Fn.pure (B06 (TW.go (κ := false) (S := []) ?_))
 unfold A3w
 (have zz:=trivial;repeat((first|clear zz|with_reducible first|refine A3 ?_|refine A4 fun _=>?_|refine A5 fun _=>?_);try simp(disch:=first|omega|assumption|((repeat(first|exact A1|exact uH|apply A2|apply uT));first|done|fail)|(simp;first|done|omega|fail))[hb]))
 exact A9 rfl
def F3 (l : List EnV) (st : Int) : Nat := l.countP fun x => decide (x.st = st)
theorem B1K {α : Type} {p : α → Bool} {l : List α} {i : Nat} {x : α} (hx : l[i]? = some x) : (l.take (i + 1)).countP p = (l.take i).countP p + if p x then 1 else 0 := by
 rw [List.take_add_one, hx, List.countP_append]; simp [List.countP_cons]
theorem C4s (w : World) (v : Value) (l : List EnV) (p : EnV → Bool) (f : FuncId) (cap : List Value) (hn : l.length ≤ 1000000) (hv : E3 w v l.length (l.flatMap D9)) (he : B0 PR f)
  (hf : ∀ w', KS false [] w w' → ∀ x : EnV, Fn PR B3 f (.agg #[.int .i64 x.st, .string x.key, .int .i64 x.bk, .int .i64 x.dl] :: cap).toArray w' (fun r w'' => r = .bool (p x) ∧ C1 [] w' w'')) :
  Fn PR B3 164 #[v, .func (.func f) #[] cap.toArray] w (fun r w' => r = .int .i64 (l.countP p : Nat) ∧ C1 [] w w') := by
 refine Fn.pure (A5D (TW.go (κ := false) (S := []) ?_))
 unfold y7
 obtain ⟨a, c, rfl, hr⟩ := hv.form
 (have zz:=trivial;repeat((first|clear zz|with_reducible first|refine A3 ?_|refine A4 fun _=>?_|refine A5 fun _=>?_);try simp(disch:=first|omega|assumption|((repeat(first|exact A1|exact uH|apply A2|apply uT));first|done|fail)|(simp;first|done|omega|fail))[]))
 refine K8 (α := Unit) l.length (fun i _ => .int .i64 ((l.take i).countP p : Nat)) (fun _ _ => []) (fun i _ => True) () trivial ?_
 rintro i _ hi _ L hL
 by_cases hlt : i < l.length
 ·obtain ⟨b, o, rfl, hrow⟩ := hr (by omega)
  obtain ⟨x, hx⟩ : ∃ x, l[i]? = some x := ⟨_, List.getElem?_eq_getElem (by omega)⟩
  have h1 := hrow.at (f := D9) (k := 4) (fun _ => rfl) hx
  rw [D9] at h1
  (have zz:=trivial;repeat((first|clear zz|with_reducible first|refine A3 ?_|refine A4 fun _=>?_|refine A5 fun _=>?_);try simp(disch:=first|omega|assumption|((repeat(first|exact A1|exact uH|apply A2|apply uT));first|done|fail)|(simp;first|done|omega|fail))[hlt, h1]))
  refine B37 he (φ := fun r => r = .bool (p x)) (fun w' hw' => by simpa using hf w' hw'.ks x) ?_
  rintro _ rfl
  have hc := B1K (p := p) hx
  have hle : (l.take i).countP p ≤ i := Nat.le_trans List.countP_le_length (by simp; omega)
  have hL' := hL hlt () trivial
  rw [hc] at hL'
  cases hb : p x with
  | true =>
   rw [hb] at hL'
   (have zz:=trivial;repeat((first|clear zz|with_reducible first|refine A3 ?_|refine A4 fun _=>?_|refine A5 fun _=>?_);try simp(disch:=first|omega|assumption|((repeat(first|exact A1|exact uH|apply A2|apply uT));first|done|fail)|(simp;first|done|omega|fail))[]))
   exact Sels.tw .nil (by simpa using hL')
  | false =>
   rw [hb] at hL'
   (have zz:=trivial;repeat((first|clear zz|with_reducible first|refine A3 ?_|refine A4 fun _=>?_|refine A5 fun _=>?_);try simp(disch:=first|omega|assumption|((repeat(first|exact A1|exact uH|apply A2|apply uT));first|done|fail)|(simp;first|done|omega|fail))[]))
   exact Sels.tw .nil (by simpa using hL')
 ·obtain rfl : i = l.length := by omega
  (have zz:=trivial;repeat((first|clear zz|with_reducible first|refine A3 ?_|refine A4 fun _=>?_|refine A5 fun _=>?_);try simp(disch:=first|omega|assumption|((repeat(first|exact A1|exact uH|apply A2|apply uT));first|done|fail)|(simp;first|done|omega|fail))[]))
  exact A9 rfl
theorem B7g (w : World) (v : Value) (l : List EnV) (st : Int) (hn : l.length ≤ 1000000) (hv : E3 w v l.length (l.flatMap D9)) :
  Fn PR B3 113 #[v, .int .i64 st] w (fun r w' => r = .int .i64 (F3 l st : Nat) ∧ C1 [] w w') := by
 refine Fn.pure (B4H (TW.go (κ := false) (S := []) ?_))
 unfold A77
 (have zz:=trivial;repeat((first|clear zz|with_reducible first|refine A3 ?_|refine A4 fun _=>?_|refine A5 fun _=>?_);try simp(disch:=first|omega|assumption|((repeat(first|exact A1|exact uH|apply A2|apply uT));first|done|fail)|(simp;first|done|omega|fail))[]))
 rename_i b
 refine B8 A3y (fun w' hw' => C4s w' v l (fun x => decide (x.st = st)) 165 [.pointer (some ⟨b, 0, none⟩)] hn (hv.ks hw'.ks (by simp)) A9Y
  fun w2 h x => C0r w2 x st b (h.cell (by simp) (hw'.cell1 (by (repeat constructor))))) ?_
 exact A9 rfl
end Go.Proofs.YtpbmephflllolaaGreat
