/- The proof of a given statement, a part of it (Packet Bytes Sl Pool Vals ShProbe ShFnv Fnv Probe). No condition but what each lemma says. -/
import Derived.Lib.SlBytesRow
import Derived.Test.YtjobgnabneddjaaGreatT11
set_option linter.unusedVariables false
set_option linter.unusedSimpArgs false
namespace Go.Proofs.YtjobgnabneddjaaGreat
open Go
structure KeyV where
 v : Int
 src : ByteArray
 dst : ByteArray
 fr : Int
 tp : Int
 proto : Int
 deriving DecidableEq
def KeyV.cs (k : KeyV) : List Value := [.int .i64 k.v, .string k.src, .string k.dst, .int .i64 k.fr, .int .i64 k.tp, .int .i64 k.proto]
def KeyV.val (k : KeyV) : Value := .agg #[.int .i64 k.v, .string k.src, .string k.dst, .int .i64 k.fr, .int .i64 k.tp, .int .i64 k.proto]
def noK : KeyV := ⟨0, H0, H0, 0, 0, 0⟩
def Y6 (s : ByteArray) : KeyV × ByteArray × Nat :=
 if s.size = 0 then (noK, H0, 2) else if E6 s 0 / 16 = 4 then (⟨4, (l2 s).src, (l2 s).dst, 0, 0, (l2 s).proto⟩, (l2 s).rest, (l2 s).e)
 else if E6 s 0 / 16 = 6 then (⟨6, (Y8 s).src, (Y8 s).dst, 0, 0, (Y8 s).proto⟩, (Y8 s).rest, (Y8 s).e) else (noK, H0, 3)
def keyed.val (x : KeyV × ByteArray × Nat) : Value := .tuple #[x.1.val, .string x.2.1, .int .i64 x.2.2]
theorem B4r (w : World) (src dst : ByteArray) (p : Int) : Fn PR B7 140 #[.agg #[.string src, .string dst, .int .i64 p]] w (fun v w' => v = KeyV.val ⟨4, src, dst, 0, 0, p⟩ ∧ C3 [] w w') := by
 refine Fn.pure (A5g (TW.go (κ := false) (S := []) ?_))
 unfold A0Z
 (have zz:=trivial;repeat((first|clear zz|with_reducible first|refine A3 ?_|refine A5 fun _=>?_|refine A4 fun _=>?_);try simp(disch:=first|omega|assumption|((repeat(first|exact A1|exact uH|apply A2|apply uT));first|done|fail)|(simp;first|done|omega|fail))[]))
 exact A9 rfl
theorem B35 (w : World) (src dst : ByteArray) (p : Int) : Fn PR B7 143 #[.agg #[.string src, .string dst, .int .i64 p]] w (fun v w' => v = KeyV.val ⟨6, src, dst, 0, 0, p⟩ ∧ C3 [] w w') := by
 refine Fn.pure (A6G (TW.go (κ := false) (S := []) ?_))
 unfold A0W
 (have zz:=trivial;repeat((first|clear zz|with_reducible first|refine A3 ?_|refine A5 fun _=>?_|refine A4 fun _=>?_);try simp(disch:=first|omega|assumption|((repeat(first|exact A1|exact uH|apply A2|apply uT));first|done|fail)|(simp;first|done|omega|fail))[]))
 exact A9 rfl
theorem B7Z (w : World) (s : ByteArray) (hs : s.size < 2 ^ 40) : Fn PR B7 138 #[.string s, .func (.func 139) #[] #[], .func (.func 140) #[] #[]] w
  (fun v w' => v = keyed.val (⟨4, (l2 s).src, (l2 s).dst, 0, 0, (l2 s).proto⟩, (l2 s).rest, (l2 s).e) ∧ C3 [] w w') := by
 refine Fn.pure (A1j (TW.go (κ := false) (S := []) ?_))
 unfold d5
 (have zz:=trivial;repeat((first|clear zz|with_reducible first|refine A3 ?_|refine A5 fun _=>?_|refine A4 fun _=>?_);try simp(disch:=first|omega|assumption|((repeat(first|exact A1|exact uH|apply A2|apply uT));first|done|fail)|(simp;first|done|omega|fail))[]))
 refine B9 B0N (fun w' _ => B2m w' s hs) ?_
 (have zz:=trivial;repeat((first|clear zz|with_reducible first|refine A3 ?_|refine A5 fun _=>?_|refine A4 fun _=>?_);try simp(disch:=first|omega|assumption|((repeat(first|exact A1|exact uH|apply A2|apply uT));first|done|fail)|(simp;first|done|omega|fail))[HeadV.val]))
 refine B9 A5N (fun w' _ => B4r w' _ _ _) ?_
 (have zz:=trivial;repeat((first|clear zz|with_reducible first|refine A3 ?_|refine A5 fun _=>?_|refine A4 fun _=>?_);try simp(disch:=first|omega|assumption|((repeat(first|exact A1|exact uH|apply A2|apply uT));first|done|fail)|(simp;first|done|omega|fail))[KeyV.val]))
 exact A9 (by simp [keyed.val, KeyV.val])
theorem B7E (w : World) (s : ByteArray) (hs : s.size < 2 ^ 40) : Fn PR B7 141 #[.string s, .func (.func 142) #[] #[], .func (.func 143) #[] #[]] w
  (fun v w' => v = keyed.val (⟨6, (Y8 s).src, (Y8 s).dst, 0, 0, (Y8 s).proto⟩, (Y8 s).rest, (Y8 s).e) ∧ C3 [] w w') := by
 refine Fn.pure (A1p (TW.go (κ := false) (S := []) ?_))
 unfold c9
 (have zz:=trivial;repeat((first|clear zz|with_reducible first|refine A3 ?_|refine A5 fun _=>?_|refine A4 fun _=>?_);try simp(disch:=first|omega|assumption|((repeat(first|exact A1|exact uH|apply A2|apply uT));first|done|fail)|(simp;first|done|omega|fail))[]))
 refine B9 B0b (fun w' _ => B2u w' s hs) ?_
 (have zz:=trivial;repeat((first|clear zz|with_reducible first|refine A3 ?_|refine A5 fun _=>?_|refine A4 fun _=>?_);try simp(disch:=first|omega|assumption|((repeat(first|exact A1|exact uH|apply A2|apply uT));first|done|fail)|(simp;first|done|omega|fail))[HeadV.val]))
 refine B9 A42 (fun w' _ => B35 w' _ _ _) ?_
 (have zz:=trivial;repeat((first|clear zz|with_reducible first|refine A3 ?_|refine A5 fun _=>?_|refine A4 fun _=>?_);try simp(disch:=first|omega|assumption|((repeat(first|exact A1|exact uH|apply A2|apply uT));first|done|fail)|(simp;first|done|omega|fail))[KeyV.val]))
 exact A9 (by simp [keyed.val, KeyV.val])
theorem B9Z (w : World) (v : Int) : Fn PR B7 228 #[.int .i64 v] w (fun u w' => u = .int .i64 (if v = 4 then 4 else if v = 6 then 16 else 0) ∧ C3 [] w w') := by
 refine Fn.pure (A9a (TW.go (κ := false) (S := []) ?_))
 unfold A3E
 by_cases c1 : v = 4
 ·(have zz:=trivial;repeat((first|clear zz|with_reducible first|refine A3 ?_|refine A5 fun _=>?_|refine A4 fun _=>?_);try simp(disch:=first|omega|assumption|((repeat(first|exact A1|exact uH|apply A2|apply uT));first|done|fail)|(simp;first|done|omega|fail))[c1])); exact A9 (by simp)
 by_cases c2 : v = 6
 ·(have zz:=trivial;repeat((first|clear zz|with_reducible first|refine A3 ?_|refine A5 fun _=>?_|refine A4 fun _=>?_);try simp(disch:=first|omega|assumption|((repeat(first|exact A1|exact uH|apply A2|apply uT));first|done|fail)|(simp;first|done|omega|fail))[c1, c2])); exact A9 (by simp)
 ·(have zz:=trivial;repeat((first|clear zz|with_reducible first|refine A3 ?_|refine A5 fun _=>?_|refine A4 fun _=>?_);try simp(disch:=first|omega|assumption|((repeat(first|exact A1|exact uH|apply A2|apply uT));first|done|fail)|(simp;first|done|omega|fail))[c1, c2])); exact A9 (by simp)
theorem B7y (w : World) (s : ByteArray) (hs : s.size < 2 ^ 40) : Fn PR B7 86 #[.string s] w (fun u w' => u = keyed.val (Y6 s) ∧ C3 [] w w') := by
 refine Fn.pure (A73 (TW.go (κ := false) (S := []) ?_))
 unfold A2M
 by_cases c0 : s.size = 0
 ·have e : s = ByteArray.mk #[] := by
   apply ByteArray.ext; exact Array.eq_empty_of_size_eq_zero c0
  (have zz:=trivial;repeat((first|clear zz|with_reducible first|refine A3 ?_|refine A5 fun _=>?_|refine A4 fun _=>?_);try simp(disch:=first|omega|assumption|((repeat(first|exact A1|exact uH|apply A2|apply uT));first|done|fail)|(simp;first|done|omega|fail))[e]))
  exact A9 (by simp [Y6, keyed.val, noK, KeyV.val])
 have c0' : ¬ s = ByteArray.mk #[] := fun e => c0 (by rw [e]; rfl)
 obtain ⟨by0, hb0, hb1⟩ := j9 (s := s) (i := 0) (by omega)
 have hb0' : s[(0 : Int).toNat]? = some by0 := hb0
 have hl0 := l6 s 0
 have e1 : ((by0.toNat : Nat) : Int).fdiv (2 ^ min 4 IntKind.u8.bits) = (E6 s 0 / 16 : Nat) := by rw [show (2 : Int) ^ min 4 IntKind.u8.bits = 16 from rfl, Int.fdiv_eq_ediv_of_nonneg _ (by omega), hb1]; omega
 by_cases c1 : E6 s 0 / 16 = 4
 ·have c1' : ((E6 s 0 : Nat) : Int) / 16 = 4 := by omega
  (have zz:=trivial;repeat((first|clear zz|with_reducible first|refine A3 ?_|refine A5 fun _=>?_|refine A4 fun _=>?_);try simp(disch:=first|omega|assumption|((repeat(first|exact A1|exact uH|apply A2|apply uT));first|done|fail)|(simp;first|done|omega|fail))[c0', T5]))
  rw [e1]
  (have zz:=trivial;repeat((first|clear zz|with_reducible first|refine A3 ?_|refine A5 fun _=>?_|refine A4 fun _=>?_);try simp(disch:=first|omega|assumption|((repeat(first|exact A1|exact uH|apply A2|apply uT));first|done|fail)|(simp;first|done|omega|fail))[c1', c1]))
  refine B9 A1V (fun w' _ => B7Z w' s hs) ?_
  (have zz:=trivial;repeat((first|clear zz|with_reducible first|refine A3 ?_|refine A5 fun _=>?_|refine A4 fun _=>?_);try simp(disch:=first|omega|assumption|((repeat(first|exact A1|exact uH|apply A2|apply uT));first|done|fail)|(simp;first|done|omega|fail))[keyed.val, KeyV.val]))
  exact A9 (by simp [Y6, keyed.val, KeyV.val, c0, c1])
 have c1' : ¬ ((E6 s 0 : Nat) : Int) / 16 = 4 := by omega
 by_cases c2 : E6 s 0 / 16 = 6
 ·have c2' : ((E6 s 0 : Nat) : Int) / 16 = 6 := by omega
  (have zz:=trivial;repeat((first|clear zz|with_reducible first|refine A3 ?_|refine A5 fun _=>?_|refine A4 fun _=>?_);try simp(disch:=first|omega|assumption|((repeat(first|exact A1|exact uH|apply A2|apply uT));first|done|fail)|(simp;first|done|omega|fail))[c0', T5]))
  rw [e1]
  (have zz:=trivial;repeat((first|clear zz|with_reducible first|refine A3 ?_|refine A5 fun _=>?_|refine A4 fun _=>?_);try simp(disch:=first|omega|assumption|((repeat(first|exact A1|exact uH|apply A2|apply uT));first|done|fail)|(simp;first|done|omega|fail))[c1', c1, c2', c2, T5]))
  refine B9 A1P (fun w' _ => B7E w' s hs) ?_
  (have zz:=trivial;repeat((first|clear zz|with_reducible first|refine A3 ?_|refine A5 fun _=>?_|refine A4 fun _=>?_);try simp(disch:=first|omega|assumption|((repeat(first|exact A1|exact uH|apply A2|apply uT));first|done|fail)|(simp;first|done|omega|fail))[keyed.val, KeyV.val]))
  exact A9 (by simp [Y6, keyed.val, KeyV.val, c0, c1, c2])
 have c2' : ¬ ((E6 s 0 : Nat) : Int) / 16 = 6 := by omega
 (have zz:=trivial;repeat((first|clear zz|with_reducible first|refine A3 ?_|refine A5 fun _=>?_|refine A4 fun _=>?_);try simp(disch:=first|omega|assumption|((repeat(first|exact A1|exact uH|apply A2|apply uT));first|done|fail)|(simp;first|done|omega|fail))[c0', T5]))
 rw [e1]
 (have zz:=trivial;repeat((first|clear zz|with_reducible first|refine A3 ?_|refine A5 fun _=>?_|refine A4 fun _=>?_);try simp(disch:=first|omega|assumption|((repeat(first|exact A1|exact uH|apply A2|apply uT));first|done|fail)|(simp;first|done|omega|fail))[c1', c1, c2', c2, T5]))
 exact A9 (by simp [Y6, keyed.val, KeyV.val, c0, c1, c2, noK])
def E9 (s : ByteArray) : KeyV × Nat × Nat :=
 let x := Y6 s
 if x.2.2 ≠ 0 then (noK, 0, x.2.2) else let y := T3 x.1.proto x.2.1; if y.2.2.2 ≠ 0 then (noK, 0, y.2.2.2) else ({ x.1 with fr := y.1, tp := y.2.1 }, y.2.2.1, 0)
def M3 (k : KeyV) (f : Int) : Value := .agg #[.int .i64 k.v, .string k.src, .string k.dst, .int .i64 k.fr, .int .i64 k.tp, .int .i64 k.proto, .int .i64 f]
def packet.val (x : KeyV × Nat × Nat) : Value := .tuple #[M3 x.1 x.2.1, .int .i64 x.2.2]
theorem B6k (s : ByteArray) : (l2 s).rest.size ≤ s.size := by
 unfold l2; split
 ·simp only [ByteArray.size_extract]; omega
 ·simp [HeadV.err]
theorem B5B (s : ByteArray) : (Y8 s).rest.size ≤ s.size := by
 unfold Y8; split
 ·simp only [ByteArray.size_extract]; omega
 ·simp [HeadV.err]
theorem B2q (s : ByteArray) : (Y6 s).2.1.size ≤ s.size := by
 unfold Y6
 split
 ·simp
 split
 ·exact B6k s
 split
 ·exact B5B s
 ·simp
theorem y7 (w : World) (s : ByteArray) (hs : s.size < 2 ^ 40) : Fn PR B7 21 #[.string s] w (fun u w' => u = packet.val (E9 s) ∧ C3 [] w w') := by
 refine Fn.pure (A7z (TW.go (κ := false) (S := []) ?_))
 unfold A2A
 (have zz:=trivial;repeat((first|clear zz|with_reducible first|refine A3 ?_|refine A5 fun _=>?_|refine A4 fun _=>?_);try simp(disch:=first|omega|assumption|((repeat(first|exact A1|exact uH|apply A2|apply uT));first|done|fail)|(simp;first|done|omega|fail))[]))
 refine B9 A7m (fun w' _ => B7y w' s hs) ?_
 have hr := B2q s
 by_cases c1 : (Y6 s).2.2 = 0
 ·(have zz:=trivial;repeat((first|clear zz|with_reducible first|refine A3 ?_|refine A5 fun _=>?_|refine A4 fun _=>?_);try simp(disch:=first|omega|assumption|((repeat(first|exact A1|exact uH|apply A2|apply uT));first|done|fail)|(simp;first|done|omega|fail))[keyed.val, KeyV.val, c1]))
  refine B9 A9e (fun w' _ => B1n w' _ (by omega) _) ?_
  by_cases c2 : (T3 (Y6 s).1.proto (Y6 s).2.1).2.2.2 = 0
  ·(have zz:=trivial;repeat((first|clear zz|with_reducible first|refine A3 ?_|refine A5 fun _=>?_|refine A4 fun _=>?_);try simp(disch:=first|omega|assumption|((repeat(first|exact A1|exact uH|apply A2|apply uT));first|done|fail)|(simp;first|done|omega|fail))[T3.val, c2]))
   exact A9 (by simp [E9, packet.val, M3, KeyV.val, c1, c2])
  ·(have zz:=trivial;repeat((first|clear zz|with_reducible first|refine A3 ?_|refine A5 fun _=>?_|refine A4 fun _=>?_);try simp(disch:=first|omega|assumption|((repeat(first|exact A1|exact uH|apply A2|apply uT));first|done|fail)|(simp;first|done|omega|fail))[T3.val, c2]))
   exact A9 (by simp [E9, packet.val, M3, KeyV.val, c1, c2, noK])
 ·(have zz:=trivial;repeat((first|clear zz|with_reducible first|refine A3 ?_|refine A5 fun _=>?_|refine A4 fun _=>?_);try simp(disch:=first|omega|assumption|((repeat(first|exact A1|exact uH|apply A2|apply uT));first|done|fail)|(simp;first|done|omega|fail))[keyed.val, KeyV.val, c1]))
  exact A9 (by simp [E9, packet.val, M3, KeyV.val, c1, noK])
def Y0 (k : KeyV) (f : Int) : ByteArray × Nat :=
 if k.v ≠ 4 ∧ k.v ≠ 6 then (H0, 3) else let s := S3 k.proto k.fr k.tp f; if s.2 ≠ 0 then (H0, s.2) else if k.v = 6 then A4A k.src k.dst s.1 k.proto else A4K k.src k.dst s.1 k.proto
theorem B3x (number x y f : Int) : (S3 number x y f).1.size ≤ 1000 := by
 have h6 := Z3 6
 have h8 := Z3 8
 unfold S3 A1a A1C A2c
 repeat' split
 all_goals simp [h6, h8]
theorem B2N (w : World) (k : KeyV) (f : Int) : Fn PR B7 64 #[M3 k f] w (fun u w' => u = .tuple #[.string (Y0 k f).1, .int .i64 (Y0 k f).2] ∧ C3 [] w w') := by
 refine Fn.pure (B0Y (TW.go (κ := false) (S := []) ?_))
 unfold A4r
 have hz := B3x k.proto k.fr k.tp f
 by_cases c0 : k.v = 4
 ·(have zz:=trivial;repeat((first|clear zz|with_reducible first|refine A3 ?_|refine A5 fun _=>?_|refine A4 fun _=>?_);try simp(disch:=first|omega|assumption|((repeat(first|exact A1|exact uH|apply A2|apply uT));first|done|fail)|(simp;first|done|omega|fail))[M3, KeyV.val, c0]))
  refine B9 A1D (fun w' _ => A4P w' _ _ _ _) ?_
  by_cases c1 : (S3 k.proto k.fr k.tp f).2 = 0
  ·(have zz:=trivial;repeat((first|clear zz|with_reducible first|refine A3 ?_|refine A5 fun _=>?_|refine A4 fun _=>?_);try simp(disch:=first|omega|assumption|((repeat(first|exact A1|exact uH|apply A2|apply uT));first|done|fail)|(simp;first|done|omega|fail))[c1, c0]))
   refine B9 B2f (fun w' _ => B5M w' _ _ _ _ (by omega)) ?_
   (have zz:=trivial;repeat((first|clear zz|with_reducible first|refine A3 ?_|refine A5 fun _=>?_|refine A4 fun _=>?_);try simp(disch:=first|omega|assumption|((repeat(first|exact A1|exact uH|apply A2|apply uT));first|done|fail)|(simp;first|done|omega|fail))[]))
   exact A9 (by simp [Y0, c0, c1])
  ·(have zz:=trivial;repeat((first|clear zz|with_reducible first|refine A3 ?_|refine A5 fun _=>?_|refine A4 fun _=>?_);try simp(disch:=first|omega|assumption|((repeat(first|exact A1|exact uH|apply A2|apply uT));first|done|fail)|(simp;first|done|omega|fail))[c1, c0]))
   exact A9 (by simp [Y0, c0, c1])
 by_cases c6 : k.v = 6
 ·(have zz:=trivial;repeat((first|clear zz|with_reducible first|refine A3 ?_|refine A5 fun _=>?_|refine A4 fun _=>?_);try simp(disch:=first|omega|assumption|((repeat(first|exact A1|exact uH|apply A2|apply uT));first|done|fail)|(simp;first|done|omega|fail))[M3, KeyV.val, c6]))
  refine B9 A1D (fun w' _ => A4P w' _ _ _ _) ?_
  by_cases c1 : (S3 k.proto k.fr k.tp f).2 = 0
  ·(have zz:=trivial;repeat((first|clear zz|with_reducible first|refine A3 ?_|refine A5 fun _=>?_|refine A4 fun _=>?_);try simp(disch:=first|omega|assumption|((repeat(first|exact A1|exact uH|apply A2|apply uT));first|done|fail)|(simp;first|done|omega|fail))[c1, c6]))
   refine B9 B29 (fun w' _ => B5g w' _ _ _ _ (by omega)) ?_
   (have zz:=trivial;repeat((first|clear zz|with_reducible first|refine A3 ?_|refine A5 fun _=>?_|refine A4 fun _=>?_);try simp(disch:=first|omega|assumption|((repeat(first|exact A1|exact uH|apply A2|apply uT));first|done|fail)|(simp;first|done|omega|fail))[]))
   exact A9 (by simp [Y0, c6, c1])
  ·(have zz:=trivial;repeat((first|clear zz|with_reducible first|refine A3 ?_|refine A5 fun _=>?_|refine A4 fun _=>?_);try simp(disch:=first|omega|assumption|((repeat(first|exact A1|exact uH|apply A2|apply uT));first|done|fail)|(simp;first|done|omega|fail))[c1, c6]))
   exact A9 (by simp [Y0, c6, c1])
 ·(have zz:=trivial;repeat((first|clear zz|with_reducible first|refine A3 ?_|refine A5 fun _=>?_|refine A4 fun _=>?_);try simp(disch:=first|omega|assumption|((repeat(first|exact A1|exact uH|apply A2|apply uT));first|done|fail)|(simp;first|done|omega|fail))[M3, KeyV.val, c0, c6]))
  exact A9 (by simp [Y0, c0, c6])
def A4F (k : KeyV) (f : Int) : Bool := decide (k.proto = 6) && !decide (IntKind.i64.wrap ((f % 2 ^ IntKind.i64.bits).toNat &&& 5 % 2 ^ IntKind.i64.bits : Nat) = 0)
theorem B4U (w : World) (k : KeyV) (f : Int) : Fn PR B7 58 #[M3 k f] w (fun u w' => u = .bool (A4F k f) ∧ C3 [] w w') := by
 refine Fn.pure (A6w (TW.go (κ := false) (S := []) ?_))
 unfold A0v
 by_cases c0 : k.proto = 6
 ·(have zz:=trivial;repeat((first|clear zz|with_reducible first|refine A3 ?_|refine A5 fun _=>?_|refine A4 fun _=>?_);try simp(disch:=first|omega|assumption|((repeat(first|exact A1|exact uH|apply A2|apply uT));first|done|fail)|(simp;first|done|omega|fail))[M3, KeyV.val, c0]))
  exact A9 (by simp [A4F, c0])
 ·(have zz:=trivial;repeat((first|clear zz|with_reducible first|refine A3 ?_|refine A5 fun _=>?_|refine A4 fun _=>?_);try simp(disch:=first|omega|assumption|((repeat(first|exact A1|exact uH|apply A2|apply uT));first|done|fail)|(simp;first|done|omega|fail))[M3, KeyV.val, c0]))
  exact A9 (by simp [A4F, c0])
end Go.Proofs.YtjobgnabneddjaaGreat
namespace Go.Proofs.YtjobgnabneddjaaGreat
open Go
section
variable {κ : Bool} {X : Nat → Prop} {S : List Nat} {w0 : World} {H H' : List Res} {K : Value → WP}
theorem B6w {P : Program} {g : Sem Value} {u : Value} {b : Nat} {c c' : Array Value} {T : TypeId} (hrun : ∀ w, bl w b = some (.cells c T (0, 0)) → g.run P w = .ok u (World.putb w b (.cells c' T (0, 0))))
  (hu : Up (.pt b (.cells c T (0, 0))) (.pt b (.cells c' T (0, 0))) H H') (hK : TW κ S w0 H' (K u)) : TW κ S w0 H (B1 P X g K) := fun w hw => by
 have hm : Res.pt b (.cells c T (0, 0)) ∈ H := by obtain ⟨A, B, rfl, _⟩ := hu.parts; simp
 have hb := hw.pt hm
 rw [Q1 (hrun w hb) (Sk.putb X hb)]
 refine hK _ (hw.up hu ⟨KS.putb hb (by simp [Res.foot]), ?_, ?_, by simp⟩)
 ·simp only [List.mem_singleton, forall_eq, Res.holds]; exact ⟨M6 (G5 hb), rfl⟩
 ·simp only [List.mem_singleton, forall_eq, Res.foot]; exact ⟨Or.inl (by simp), by have := G5 hb; simpa using this⟩
theorem B3U (w : World) : (underlying 301).run PR w = .ok (.slice 5) w := A04.run_und
theorem C3g (w : World) : (underlying 355).run PR w = .ok (.array 38 5) w := B4B.run_und
def U0 (s : ByteArray) (o : Nat) (t : ByteArray) : ByteArray := s.extract 0 o ++ t ++ s.extract (o + t.size) s.size
theorem A6F {s t : ByteArray} {o : Nat} (h : o + t.size ≤ s.size) : (U0 s o t).size = s.size := by simp [U0]; omega
theorem A9x (s t : ByteArray) (o : Nat) (h : o + t.size ≤ s.size) : E3 (E4 s).toArray o (E4 t) = (E4 (U0 s o t)).toArray := by
 apply Array.toList_inj.1
 rw [p4 _ _ _ (by simpa using h)]
 simp [E4, U0, List.map_take, List.map_drop]
 rw [List.take_of_length_le (by simp)]
theorem A9n {b o n c : Nat} {s t : ByteArray} {T : TypeId} (hu : Up (.pt b (.cells (E4 s).toArray T)) (.pt b (.cells (E4 (U0 s o t)).toArray T)) H H') (hn : t.size ≤ n) (hs : o + t.size ≤ s.size)
  (hK : TW κ S w0 H' (K (.int .i64 t.size))) : TW κ S w0 H (B1 PR X (A8 .copy #[301, 9] 3 [.slice (some ⟨b, o, none⟩) n c, .string t]) K) := by
 refine B6w (u := .int .i64 t.size) (fun w hb => ?_) hu hK
 have hst := V0 (P := PR) (o0 := o) (E4 t) 0 w (E4 s).toArray hb (by simpa using hs) (A2n t)
 rw [Nat.add_zero, A9x s t o hs] at hst
 have hl : Nat.min t.size n = t.size := Nat.min_eq_left hn
 have htk : List.take t.size (List.map (fun b : UInt8 => Value.int IntKind.u8 (b.toNat : Int)) t.data.toList) = E4 t := by
  rw [List.take_of_length_le (by simp)]; rfl
 show (Builtin.copy_ #[301, 9] 3 #[.slice (some ⟨b, o, none⟩) n c, .string t]).run PR w = _
 simp [Builtin.copy_, B3U, ty5.run_size, Builtin.lenOf, Builtin.firstCells, hl]
 rw [htk, hst]
 simp [goInt, Result.andThen]
def u7 : ByteArray := A7s z1 38
theorem A4N : u7.size = 38 := Z3 38
theorem B6Q : (Builtin.zeroCells (Value.int .u8 0).cells 38).toList = E4 u7 := by kernel_rfl
theorem C0G : (E4 u7).toArray = #[.int .u8 0, .int .u8 0, .int .u8 0, .int .u8 0, .int .u8 0, .int .u8 0, .int .u8 0, .int .u8 0, .int .u8 0, .int .u8 0, .int .u8 0, .int .u8 0, .int .u8 0, .int .u8 0, .int .u8 0, .int .u8 0, .int .u8 0, .int .u8 0, .int .u8 0, .int .u8 0, .int .u8 0, .int .u8 0, .int .u8 0, .int .u8 0, .int .u8 0, .int .u8 0, .int .u8 0, .int .u8 0, .int .u8 0, .int .u8 0, .int .u8 0, .int .u8 0, .int .u8 0, .int .u8 0, .int .u8 0, .int .u8 0, .int .u8 0, .int .u8 0] := by kernel_rfl
theorem B5m {b : Nat} {s : ByteArray} {T : TypeId} (hs : s.size = 38) (hu : Up (.pt b (.cells (E4 s).toArray T)) (.pt b (.cells (E4 u7).toArray T)) H H')
  (hK : TW κ S w0 H' (K (.tuple #[]))) : TW κ S w0 H (B1 PR X (A8 .clear #[301] 0 [.slice (some ⟨b, 0, none⟩) 38 38]) K) := by
 refine B6w (u := .tuple #[]) (fun w hb => ?_) hu hK
 have h38 := A4N
 have hst := V0 (P := PR) (o0 := 0) (E4 u7) 0 w (E4 s).toArray hb (by simp [hs, h38]) (A2n _)
 rw [Nat.add_zero, A9x s u7 0 (by omega)] at hst
 have e : U0 s 0 u7 = u7 := by
  apply ByteArray.ext
  simp [U0, h38, hs]
 rw [e] at hst
 show (Builtin.clear_ #[301] 0 #[.slice (some ⟨b, 0, none⟩) 38 38]).run PR w = _
 simp only [Builtin.clear_, List.getElem?_toArray, List.getElem?_cons_zero, Sem.run_bind, B3U, Result.andThen_ok, ty5.run_zero, B6Q, hst, Sem.run_pure]
theorem C0d {b : Nat} {s : ByteArray} {T : TypeId} (hm : Res.pt b (.cells (E4 s).toArray T) ∈ H) (c n : Nat) (hn : n = s.size) :
  TW κ S w0 H (A6 PR (convert 301 9 (.slice (some ⟨b, 0, none⟩) n c)) K) = TW κ S w0 H (K (.string s)) := TW.congr fun w hw => by
 refine N6 ?_ K
 subst hn
 have hb := hw.pt hm
 have hB : Lib.Bytes w b 0 s := fun i hi => by
  rw [D8 hb]; simp [E4, hi]; rfl
 exact Lib.run_convert_whole w _ _ _ A04.und ty5.und m4.und b 0 s hB c
end
theorem B55 {lo : Nat} (b : Nat) (h : lo < 38) (K : Value → WP) : A0 PR (Instr.sliceAt 355 (.pointer (some ⟨b, 0, none⟩)) (some (.int .i64 (lo : Int))) none none) K = K (.slice (some ⟨b, lo, none⟩) (38 - lo) (38 - lo)) :=
 E2 (fun w => by
  have h1 : ¬ ((38 : Int) < lo) := by omega
  have h2 : ¬ (38 = lo) := by omega
  simp [Instr.sliceAt, C3g, Instr.sliceBounds, Instr.sliceBound, asIntOf, h1, h2, ty5.run_size, Instr.sureAddr, W6]
  omega) K
def T8 (v : Int) : Nat := if v = 4 then 4 else if v = 6 then 16 else 0
theorem B8V (w : World) (v : Int) : Fn PR B7 228 #[.int .i64 v] w (fun u w' => u = .int .i64 (T8 v : Nat) ∧ C3 [] w w') := by
 have := B9Z w v
 have e : ((T8 v : Nat) : Int) = if v = 4 then 4 else if v = 6 then 16 else 0 := by (unfold T8; repeat' split) <;> rfl
 rw [e]; exact this
def S7 (k : KeyV) : Bool := decide (T8 k.v ≠ 0 ∧ k.src.size = T8 k.v ∧ k.dst.size = T8 k.v ∧ (S3 k.proto k.fr k.tp 0).2 = 0)
def A1B (k : KeyV) : ByteArray := U0 (U0 (U0 u7 0 (E0 (k.v * 256 + k.proto) 2 ++ E0 k.fr 2 ++ E0 k.tp 2)) 6 k.src) 22 k.dst
def A3g (k : KeyV) : Value := .tuple #[.string (if S7 k then A1B k else H0), .bool (S7 k)]
theorem B90 {n x y f : Int} (h : (S3 n x y f).2 = 0) : (n = 6 ∨ n = 17) ∧ P5 x y = true := by
 unfold S3 at h
 split at h
 ·simp at h
 split at h
 ·simp at h
 ·rename_i h1 h2
  refine ⟨by omega, ?_⟩
  cases hp : P5 x y with
  | true => rfl
  | false => exact absurd (Or.inl hp) h2
theorem B7k (w : World) (k : KeyV) : Fn PR B7 166 #[k.val] w (fun u w' => u = A3g k ∧ C3 [] w w') := by
 refine Fn.pure (A7y (TW.go (κ := false) (S := []) ?_))
 unfold A12 KeyV.val
 (have zz:=trivial;repeat((first|clear zz|with_reducible first|refine A3 ?_|refine A5 fun _=>?_|refine A4 fun _=>?_);try simp(disch:=first|omega|assumption|((repeat(first|exact A1|exact uH|apply A2|apply uT));first|done|fail)|(simp;first|done|omega|fail))[]))
 refine B9 A8Y (fun w' _ => B8V w' _) ?_
 (have zz:=trivial;repeat((first|clear zz|with_reducible first|refine A3 ?_|refine A5 fun _=>?_|refine A4 fun _=>?_);try simp(disch:=first|omega|assumption|((repeat(first|exact A1|exact uH|apply A2|apply uT));first|done|fail)|(simp;first|done|omega|fail))[]))
 refine B9 A1D (fun w' _ => A4P w' _ _ _ _) ?_
 have bad : S7 k = false → A3g k = .tuple #[.string H0, .bool false] := fun h => by simp [A3g, h]
 by_cases c1 : T8 k.v = 0
 ·(have zz:=trivial;repeat((first|clear zz|with_reducible first|refine A3 ?_|refine A5 fun _=>?_|refine A4 fun _=>?_);try simp(disch:=first|omega|assumption|((repeat(first|exact A1|exact uH|apply A2|apply uT));first|done|fail)|(simp;first|done|omega|fail))[c1]))
  exact A9 (bad (by simp [S7, c1])).symm
 have c1' : ¬ ((T8 k.v : Nat) : Int) = 0 := by omega
 by_cases c2 : k.src.size = T8 k.v
 case neg =>
  have c2' : ¬ ((k.src.size : Nat) : Int) = T8 k.v := by omega
  (have zz:=trivial;repeat((first|clear zz|with_reducible first|refine A3 ?_|refine A5 fun _=>?_|refine A4 fun _=>?_);try simp(disch:=first|omega|assumption|((repeat(first|exact A1|exact uH|apply A2|apply uT));first|done|fail)|(simp;first|done|omega|fail))[c1, c1', c2, c2']))
  exact A9 (bad (by simp [S7, c2])).symm
 by_cases c3 : k.dst.size = T8 k.v
 case neg =>
  have c3' : ¬ ((k.dst.size : Nat) : Int) = T8 k.v := by omega
  (have zz:=trivial;repeat((first|clear zz|with_reducible first|refine A3 ?_|refine A5 fun _=>?_|refine A4 fun _=>?_);try simp(disch:=first|omega|assumption|((repeat(first|exact A1|exact uH|apply A2|apply uT));first|done|fail)|(simp;first|done|omega|fail))[c1, c1', c2, c3, c3']))
  exact A9 (bad (by simp [S7, c3])).symm
 by_cases c4 : (S3 k.proto k.fr k.tp 0).2 = 0
 case neg =>
  (have zz:=trivial;repeat((first|clear zz|with_reducible first|refine A3 ?_|refine A5 fun _=>?_|refine A4 fun _=>?_);try simp(disch:=first|omega|assumption|((repeat(first|exact A1|exact uH|apply A2|apply uT));first|done|fail)|(simp;first|done|omega|fail))[c1, c1', c2, c3, c4]))
  exact A9 (bad (by simp [S7, c4])).symm
 (have zz:=trivial;repeat((first|clear zz|with_reducible first|refine A3 ?_|refine A5 fun _=>?_|refine A4 fun _=>?_);try simp(disch:=first|omega|assumption|((repeat(first|exact A1|exact uH|apply A2|apply uT));first|done|fail)|(simp;first|done|omega|fail))[c1, c1', c2, c3, c4]))
 rename_i bk ba
 refine TW.eqH (H' := [.pt ba (.cells (E4 u7).toArray 355), .pt bk (.cells #[.int .i64 k.v, .string k.src, .string k.dst, .int .i64 k.fr, .int .i64 k.tp, .int .i64 k.proto] 45)]) (by rw [C0G]) ?_
 refine B5m A4N .here ?_
 obtain ⟨hp, hq⟩ := B90 c4
 simp only [P5, decide_eq_true_eq] at hq
 have hv : k.v = 4 ∨ k.v = 6 := by unfold T8 at c1; split at c1 <;> (try split at c1) <;> omega
 have hh : (E0 (k.v * 256 + k.proto) 2 ++ E0 k.fr 2 ++ E0 k.tp 2).size = 6 := by simp
 have h38 := A4N
 have s1 : (U0 u7 0 (E0 (k.v * 256 + k.proto) 2 ++ E0 k.fr 2 ++ E0 k.tp 2)).size = 38 := by rw [A6F (by omega), h38]
 have hl : T8 k.v ≤ 16 := by unfold T8; split <;> (try split) <;> omega
 have s2 : (U0 (U0 u7 0 (E0 (k.v * 256 + k.proto) 2 ++ E0 k.fr 2 ++ E0 k.tp 2)) 6 k.src).size = 38 := by rw [A6F (by omega), s1]
 have s3 : (A1B k).size = 38 := by unfold A1B; rw [A6F (by omega), s2]
 have i6 := fun K => B55 (lo := 6) ba (by omega) K
 have i22 := fun K => B55 (lo := 22) ba (by omega) K
 simp at i6 i22
 have ok : S7 k = true := by simp [S7, c1, c2, c3, c4]
 have q1 := hq.1
 have q2 := hq.2.1
 have q3 := hq.2.2.1
 have q4 := hq.2.2.2
 have eor : IntKind.u64.wrap ((IntKind.u64.wrap (k.v * 2 ^ min 8 IntKind.u64.bits) % 2 ^ IntKind.u64.bits).toNat ||| (k.proto % 2 ^ IntKind.u64.bits).toNat : Nat) = k.v * 256 + k.proto := by
  rcases hv with hv | hv <;> rcases hp with hp | hp <;> (rw [hv, hp]; decide)
 have ew1 : IntKind.u64.wrap k.fr = k.fr := y1 (by omega) (by omega)
 have ew2 : IntKind.u64.wrap k.tp = k.tp := y1 (by omega) (by omega)
 (have zz:=trivial;repeat((first|clear zz|with_reducible first|refine A3 ?_|refine A5 fun _=>?_|refine A4 fun _=>?_);try simp(disch:=first|omega|assumption|((repeat(first|exact A1|exact uH|apply A2|apply uT));first|done|fail)|(simp;first|done|omega|fail))[]))
 rw [eor, ew1, ew2]
 refine B9 G7 (fun w' hw' => W9 w' _ _) ?_
 (have zz:=trivial;repeat((first|clear zz|with_reducible first|refine A3 ?_|refine A5 fun _=>?_|refine A4 fun _=>?_);try simp(disch:=first|omega|assumption|((repeat(first|exact A1|exact uH|apply A2|apply uT));first|done|fail)|(simp;first|done|omega|fail))[]))
 refine B9 G7 (fun w' hw' => W9 w' _ _) ?_
 (have zz:=trivial;repeat((first|clear zz|with_reducible first|refine A3 ?_|refine A5 fun _=>?_|refine A4 fun _=>?_);try simp(disch:=first|omega|assumption|((repeat(first|exact A1|exact uH|apply A2|apply uT));first|done|fail)|(simp;first|done|omega|fail))[S1]))
 refine B9 G7 (fun w' hw' => W9 w' _ _) ?_
 (have zz:=trivial;repeat((first|clear zz|with_reducible first|refine A3 ?_|refine A5 fun _=>?_|refine A4 fun _=>?_);try simp(disch:=first|omega|assumption|((repeat(first|exact A1|exact uH|apply A2|apply uT));first|done|fail)|(simp;first|done|omega|fail))[S1]))
 refine A9n (o := 0) (s := u7) (by (repeat constructor)) (by omega) (by omega) ?_
 (have zz:=trivial;repeat((first|clear zz|with_reducible first|refine A3 ?_|refine A5 fun _=>?_|refine A4 fun _=>?_);try simp(disch:=first|omega|assumption|((repeat(first|exact A1|exact uH|apply A2|apply uT));first|done|fail)|(simp;first|done|omega|fail))[i6]))
 refine A9n (o := 6) (s := U0 u7 0 (E0 (k.v * 256 + k.proto) 2 ++ E0 k.fr 2 ++ E0 k.tp 2)) (by (repeat constructor)) (by omega) (by omega) ?_
 (have zz:=trivial;repeat((first|clear zz|with_reducible first|refine A3 ?_|refine A5 fun _=>?_|refine A4 fun _=>?_);try simp(disch:=first|omega|assumption|((repeat(first|exact A1|exact uH|apply A2|apply uT));first|done|fail)|(simp;first|done|omega|fail))[i22]))
 refine A9n (o := 22) (s := U0 (U0 u7 0 (E0 (k.v * 256 + k.proto) 2 ++ E0 k.fr 2 ++ E0 k.tp 2)) 6 k.src) (by (repeat constructor)) (by omega) (by omega) ?_
 (have zz:=trivial;repeat((first|clear zz|with_reducible first|refine A3 ?_|refine A5 fun _=>?_|refine A4 fun _=>?_);try simp(disch:=first|omega|assumption|((repeat(first|exact A1|exact uH|apply A2|apply uT));first|done|fail)|(simp;first|done|omega|fail))[]))
 rw [C0d (s := A1B k) (by (repeat constructor)) _ _ s3.symm]
 exact A9 (by simp [A3g, ok])
end Go.Proofs.YtjobgnabneddjaaGreat
namespace Go.Proofs.YtjobgnabneddjaaGreat
open Go
@[simp] theorem C6J {κ : Bool} {S : List Nat} {w0 : World} {H : List Res} {K : Value → WP} {t : TypeId} {z : Value} [h : TS t z] {b o : Nat} {c : Array Value} {T : TypeId} {f : Nat × Nat} (hm : Res.pt b (.cells c T f) ∈ H) :
  TW κ S w0 H (A6 PR (E7 [.c t (.pointer (some ⟨b, o, none⟩))]) K) = TW κ S w0 H (rdc c[o]? K (A6 PR (E7 [.c t (.pointer (some ⟨b, o, none⟩))]) K)) := by
 cases hc : c[o]? with
 | none => rfl
 | some v => rw [C0k hm hc]; rfl
abbrev J0 := Int × Int
def A2m (b : J0) : List Value := [.int .i64 b.1, .int .i64 b.2]
structure EnV where
 st : Int
 key : ByteArray
 bk : Int
 dl : Int
 deriving DecidableEq
def F7 (x : EnV) : List Value := [.int .i64 x.st, .string x.key, .int .i64 x.bk, .int .i64 x.dl]
theorem C1Z {t u : TypeId} {n m : Nat} {z : Value} {a : Option Addr} {l c e : Nat} (h : TI PR t (.slice u) n m z) : EqV PR (e + 1) t (.slice a l c) (.slice none 0 0) a.isNone := by
 intro w
 cases a with
 | none => simp only [Op.equalIn, Sem.run_bind, h.run_und, Result.andThen_ok, Sem.run_pure, Option.isNone]
 | some a => simp only [Op.equalIn, Sem.run_bind, h.run_und, Result.andThen_ok, Sem.run_pure]; rfl
theorem C5J {t u : TypeId} {n m : Nat} {z : Value} (h : TI PR t (.slice u) n m z) (x y : Operand) (a : Option Addr) (l c : Nat) (K : Value → WP) :
  A6 PR (G0 .eql t x y (.slice a l c) (.slice none 0 0)) K = K (.bool a.isNone) := by
 funext w
 refine N6 ?_ K
 have h1 : (eqGuard .eql t x y (.slice a l c) (.slice none 0 0)).run PR w = .ok () w := by simp [eqGuard]
 have h2 : (Op.equalIn 10000 t (.slice a l c) (.slice none 0 0)).run PR w = .ok a.isNone w := C1Z (e := 9999) h w
 simp [G0, h1, binOp, Op.equal, Op.maxDepth, h2]
theorem B8r (x y : Operand) (a : Option Addr) (l c : Nat) (K : Value → WP) : A6 PR (G0 .eql 84 x y (.slice a l c) (.slice none 0 0)) K = K (.bool a.isNone) := C5J A5Y x y a l c K
theorem B51 (w : World) (v : Value) (n : Nat) (xs : List Value) (hn : n ≤ 1000000) (hx : xs.length = n * 4) (hp : xs.all plain = true) (hv : K4 w v n xs) :
  Fn PR B7 122 #[v] w (Rn [] w (fun r u => u = r) fun r => [.own 218 4 r n xs]) := by
 obtain ⟨a, c, rfl, hr⟩ := hv.form
 refine b9 (TW.go (κ := false) (S := []) ?_)
 unfold P6
 cases a with
 | none =>
  obtain rfl : n = 0 := by
   rcases Nat.eq_zero_or_pos n with h | h
   ·exact h
   ·obtain ⟨_, _, h, _⟩ := hr h; cases h
  obtain rfl : xs = [] := List.length_eq_zero_iff.1 (by omega)
  (have zz:=trivial;repeat((first|clear zz|with_reducible first|refine A3 ?_|refine A5 fun _=>?_|refine A4 fun _=>?_);try simp(disch:=first|omega|assumption|((repeat(first|exact A1|exact uH|apply A2|apply uT));first|done|fail)|(simp;first|done|omega|fail))[B8r]))
  refine A0D 218 4 ?_
  exact Z8 (.slice none 0 0) rfl (by simp)
 | some a =>
  (have zz:=trivial;repeat((first|clear zz|with_reducible first|refine A3 ?_|refine A5 fun _=>?_|refine A4 fun _=>?_|refine C8 fun _=>?_|refine C7 (hK:=fun _=>?_)|refine C9 (hK:=fun _=>?_)|refine D0 (hK:=fun _=>?_)|refine D1 (hK:=fun _=>?_)|refine D2 (hK:=fun _=>?_));try simp(disch:=first|omega|assumption|((repeat(first|exact A1|exact uH|apply A2|apply uT));first|done|fail)|(simp;first|done|omega|fail))[B8r]))
  refine A3q (by (repeat constructor)) (U6.old0 hv) (by decide) hx hp (by simp only [maxLen]; omega) (by omega) fun a' c' => ?_
  simp only [Nat.zero_add, List.nil_append]
  exact B4 _ rfl (by (repeat' constructor))
def A9T {α : Type} (p : α → Bool) (l : List α) : Int := match l.findIdx? p with | some i => i | none => -1
theorem B5T {α : Type} {p : α → Bool} {l : List α} {i : Nat} {x : α} (hx : l[i]? = some x) (hp : p x = true) (h : ∀ j y, j < i → l[j]? = some y → p y = false) : A9T p l = i := by
 have : l.findIdx? p = some i := by
  rw [List.findIdx?_eq_some_iff_getElem]
  obtain ⟨hi, e⟩ := List.getElem?_eq_some_iff.1 hx
  exact ⟨hi, by rw [e]; exact hp, fun j hj => by rw [h j l[j] hj (List.getElem?_eq_getElem (by omega))]; simp⟩
 simp [A9T, this]
theorem B6u {α : Type} {p : α → Bool} {l : List α} (h : ∀ (j : Nat) y, l[j]? = some y → p y = false) : A9T p l = -1 := by
 have : l.findIdx? p = none := by
  rw [List.findIdx?_eq_none_iff]; intro x hx; obtain ⟨i, hi, rfl⟩ := List.getElem_of_mem hx; exact h i _ (List.getElem?_eq_getElem hi)
 simp [A9T, this]
theorem B0H (w : World) (v : Value) (l : List J0) (p : J0 → Bool) (f : FuncId) (cap : List Value) (hn : l.length ≤ 1000000) (hv : K4 w v l.length (l.flatMap A2m)) (he : B0 PR f)
  (hf : ∀ w', KS false [] w w' → ∀ x : J0, Fn PR B7 f (.agg #[.int .i64 x.1, .int .i64 x.2] :: cap).toArray w' (fun r w'' => r = .bool (p x) ∧ C3 [] w' w'')) :
  Fn PR B7 266 #[v, .func (.func f) #[] cap.toArray] w (fun r w' => r = .int .i64 (A9T p l) ∧ C3 [] w w') := by
 refine Fn.pure (U8 (TW.go (κ := false) (S := []) ?_))
 unfold L8
 obtain ⟨a, c, rfl, hr⟩ := hv.form
 (have zz:=trivial;repeat((first|clear zz|with_reducible first|refine A3 ?_|refine A5 fun _=>?_|refine A4 fun _=>?_);try simp(disch:=first|omega|assumption|((repeat(first|exact A1|exact uH|apply A2|apply uT));first|done|fail)|(simp;first|done|omega|fail))[]))
 refine A8Z (α := Unit) l.length (fun _ _ => .int .i64 0) (fun _ _ => []) (fun i _ => ∀ j y, j < i → l[j]? = some y → p y = false) () (by intro j _ hj; omega) ?_
 rintro i _ hi hpre L hL
 by_cases hlt : i < l.length
 ·obtain ⟨b, o, rfl, hrow⟩ := hr (by omega)
  obtain ⟨x, hx⟩ : ∃ x, l[i]? = some x := ⟨_, List.getElem?_eq_getElem (by omega)⟩
  have h1 := hrow.at (f := A2m) (k := 2) (fun _ => rfl) hx
  rw [A2m] at h1
  (have zz:=trivial;repeat((first|clear zz|with_reducible first|refine A3 ?_|refine A5 fun _=>?_|refine A4 fun _=>?_);try simp(disch:=first|omega|assumption|((repeat(first|exact A1|exact uH|apply A2|apply uT));first|done|fail)|(simp;first|done|omega|fail))[hlt, h1]))
  refine B1w he (φ := fun r => r = .bool (p x)) (fun w' hw' => by simpa using hf w' hw'.ks x) ?_
  rintro _ rfl
  cases hb : p x with
  | true =>
   (have zz:=trivial;repeat((first|clear zz|with_reducible first|refine A3 ?_|refine A5 fun _=>?_|refine A4 fun _=>?_);try simp(disch:=first|omega|assumption|((repeat(first|exact A1|exact uH|apply A2|apply uT));first|done|fail)|(simp;first|done|omega|fail))[]))
   exact A9 (by rw [B5T hx hb hpre])
  | false =>
   (have zz:=trivial;repeat((first|clear zz|with_reducible first|refine A3 ?_|refine A5 fun _=>?_|refine A4 fun _=>?_);try simp(disch:=first|omega|assumption|((repeat(first|exact A1|exact uH|apply A2|apply uT));first|done|fail)|(simp;first|done|omega|fail))[]))
   refine Sels.tw .nil (hL hlt () ?_)
   intro j y hj hy
   by_cases hji : j = i
   ·subst hji; rw [hx] at hy; cases hy; exact hb
   ·exact hpre j y (by omega) hy
 ·obtain rfl : i = l.length := by omega
  (have zz:=trivial;repeat((first|clear zz|with_reducible first|refine A3 ?_|refine A5 fun _=>?_|refine A4 fun _=>?_);try simp(disch:=first|omega|assumption|((repeat(first|exact A1|exact uH|apply A2|apply uT));first|done|fail)|(simp;first|done|omega|fail))[]))
  exact A9 (by rw [B6u fun j y hy => hpre j y (List.getElem?_eq_some_iff.1 hy).1 hy])
end Go.Proofs.YtjobgnabneddjaaGreat
namespace Go.Proofs.YtjobgnabneddjaaGreat
open Go
theorem B44 (w : World) (x : J0) (id : Int) (b : Nat) (hb : w.cell? ⟨b, 0, none⟩ = some (.int .i64 id)) : Fn PR B7 286 #[.agg #[.int .i64 x.1, .int .i64 x.2], .pointer (some ⟨b, 0, none⟩)] w (fun r w' => r = .bool (decide (x.1 = id)) ∧ C3 [] w w') := by
 refine Fn.pure (A7Q (TW.go (κ := false) (S := []) ?_))
 unfold A1L
 (have zz:=trivial;repeat((first|clear zz|with_reducible first|refine A3 ?_|refine A5 fun _=>?_|refine A4 fun _=>?_);try simp(disch:=first|omega|assumption|((repeat(first|exact A1|exact uH|apply A2|apply uT));first|done|fail)|(simp;first|done|omega|fail))[hb]))
 exact A9 rfl
theorem B73 (w : World) (id : Int) : Fn PR B7 267 #[.int .i64 id] w (Rn [] w (fun b v => v = .func (.func 286) #[] #[.pointer (some ⟨b, 0, none⟩)]) fun b => [.pt b (.cells #[.int .i64 id] 3)]) := by
 refine B0e (TW.go (κ := false) (S := []) ?_)
 unfold A4b
 (have zz:=trivial;repeat((first|clear zz|with_reducible first|refine A3 ?_|refine A5 fun _=>?_|refine A4 fun _=>?_);try simp(disch:=first|omega|assumption|((repeat(first|exact A1|exact uH|apply A2|apply uT));first|done|fail)|(simp;first|done|omega|fail))[]))
 exact Z8 _ rfl (by simp)
def Y4 (l : List J0) (id : Int) : Int := A9T (fun x => decide (x.1 = id)) l
theorem B3B (w : World) (v : Value) (l : List J0) (id : Int) (hn : l.length ≤ 1000000) (hv : K4 w v l.length (l.flatMap A2m)) :
  Fn PR B7 237 #[v, .int .i64 id] w (fun r w' => r = .int .i64 (Y4 l id) ∧ C3 [] w w') := by
 refine Fn.pure (B2D (TW.go (κ := false) (S := []) ?_))
 unfold A5u
 refine K3 A9m (fun w' _ => B73 w' id) ?_
 rintro b _ rfl
 refine B9 U1 (fun w' hw' => B0H w' v l (fun x => decide (x.1 = id)) 286 [.pointer (some ⟨b, 0, none⟩)] hn (hv.ks hw'.ks (by simp)) A6n
  fun w2 h x => B44 w2 x id b (h.cell (by simp) (hw'.cell1 (by (repeat constructor))))) ?_
 exact A9 rfl
def C5G (b : J0) : Bool := decide (1 ≤ b.1 ∧ b.1 ≤ 65535 ∧ 1 ≤ b.2 ∧ b.2 ≤ 16)
def B5x : List J0 → Bool
 | [] => true
 | b :: l => C5G b && !(l.any fun x => decide (x.1 = b.1)) && B5x l
def B5q (l : List J0) : Int := if B5x l && decide (l.length ≤ 32) then 0 else 10
end Go.Proofs.YtjobgnabneddjaaGreat
namespace Go.Proofs.YtjobgnabneddjaaGreat
open Go
structure CfgV where
 wk : Int
 sh : Int
 cp : Int
 idle : Int
 sl : Int
 deriving DecidableEq
def CfgV.val (c : CfgV) : Value := .agg #[.int .i64 c.wk, .int .i64 c.sh, .int .i64 c.cp, .int .i64 c.idle, .int .i64 c.sl]
def V5 (n lo hi : Int) : Bool := decide (lo ≤ n) && decide (n ≤ hi)
def T0 (c : CfgV) : Bool := V5 c.wk 1 64 && V5 c.sh 1 16 && V5 c.cp 1 64 && V5 c.idle 0 1000000 && V5 c.sl 2 8
structure AnsV where
 err : Int
 bk : Int
 made : Bool
 count : Int
 deriving DecidableEq
def AnsV.val (a : AnsV) : Value := .agg #[.int .i64 a.err, .int .i64 a.bk, .bool a.made, .int .i64 a.count]
structure OpV where
 kind : Int
 packet : ByteArray
 pool : List J0
 shard : Int
def OpV.val (o : OpV) (v : Value) : Value := .agg #[.int .i64 o.kind, .string o.packet, v, .int .i64 o.shard]
end Go.Proofs.YtjobgnabneddjaaGreat
namespace Go.Proofs.YtjobgnabneddjaaGreat
open Go
def A4f (X : Nat → Prop) (t0 t1 : Value) (R : Value → WP) : WP :=
 B1 PR X (Instr.box 9 t1) fun t3 =>
 B1 PR X (Instr.alloc 3 true (.tuple #[])) fun t5 =>
 C1 PR X (Instr.storeAt 3 t5 (.int .i64 (-1))) <|
 jn (n := 0) (
 A6 PR (Instr.loadAt 3 t5) fun t28 =>
 V7 (R t28)) fun J1 =>
 A6 PR (Instr.loadAt 9 t3) fun t9 =>
 B5 PR X 179 [t0, t9] fun t10 =>
 rng (N := 2) PR X (fun t11 t12 K2 =>
 B1 PR (fun _ => False) (Instr.alloc 218 true (.tuple #[])) fun t7 =>
 C1 PR (fun _ => False) (Instr.storeAt 218 t7 t12) <|
 bgn <|
 A0 PR (Instr.fieldAt 218 t7 0) fun t14 =>
 A6 PR (Instr.loadAt 3 t14) fun t15 =>
 A0 PR (binOp .eql 3 t15 (.int .i64 0)) fun t16 =>
 D4 t16 (
 K2 (some (.exit 0))) (
 A0 PR (Instr.fieldAt 218 t7 0) fun t18 =>
 A6 PR (Instr.loadAt 3 t18) fun t19 =>
 A0 PR (binOp .eql 3 t19 (.int .i64 1)) fun t20 =>
 gj t20 true (fun J => A0 PR (Instr.fieldAt 218 t7 1) J) fun t22 =>
 gj t20 true (fun J => A6 PR (Instr.loadAt 9 t22) J) fun t23 =>
 gj t20 true (fun J => A6 PR (Instr.loadAt 9 t3) J) fun t24 =>
 gj t20 true (fun J => A0 PR (binOp .eql 9 t23 t24) J) fun t25 =>
 A0 PR (do pure (if ← asBool t20 then t25 else (.bool false))) fun t26 =>
 D4 t26 (
 C1 PR (fun _ => False) (Instr.storeAt 3 t5 t11) <|
 K2 (some (.exit 0))) (
 K2 none))) t10 (fun j => match j with | none => (J1) | some (.exit i) => (match Nat.beq i 0 with | true => (J1) | false => (F5)) | some .ret => (V7 (R (.int .i64 0))) | some _ => F5)
theorem a6 : B0 PR 133 := A7 Tryz.func133 (by kernel_rfl) rfl
theorem B0Q {X : Nat → Prop} {t0 t1 : Value} {R : Value → WP} {w : World} (h : A4f X t0 t1 R w) : Fn PR X 133 #[t0, t1] w R := C4 (args := [t0, t1]) mixed Tryz.func133 (by kernel_rfl) h
def A5Z (X : Nat → Prop) (t0 t1 : Value) (R : Value → WP) : WP :=
 B1 PR X (Instr.box 84 t0) fun t2 =>
 B1 PR X (Instr.box 9 t1) fun t3 =>
 A0 PR (Instr.makeFunc (.func 235) #[] #[t3, t2]) fun t5 =>
 R t5
theorem A4n : B0 PR 179 := A7 Tryz.func179 (by kernel_rfl) rfl
theorem B1V {X : Nat → Prop} {t0 t1 : Value} {R : Value → WP} {w : World} (h : A5Z X t0 t1 R w) : Fn PR X 179 #[t0, t1] w R := C4 (args := [t0, t1]) mixed Tryz.func179 (by kernel_rfl) h
def A3L (X : Nat → Prop) (t0 t1 : Value) (R : Value → WP) : WP :=
 B1 PR X (Instr.box 3 t1) fun t3 =>
 A0 PR (Instr.makeFunc (.func 241) #[] #[t3]) fun t6 =>
 B5 PR X 240 [t0, t6] fun t7 =>
 R t7
theorem A8T : B0 PR 186 := A7 Tryz.func186 (by kernel_rfl) rfl
theorem A9g {X : Nat → Prop} {t0 t1 : Value} {R : Value → WP} {w : World} (h : A3L X t0 t1 R w) : Fn PR X 186 #[t0, t1] w R := C4 (args := [t0, t1]) mixed Tryz.func186 (by kernel_rfl) h
def A2L (X : Nat → Prop) (t0 t1 t2 : Value) (R : Value → WP) : WP :=
 A6 PR (Instr.loadAt 9 t1) fun t7 =>
 A6 PR (Instr.loadAt 84 t2) fun t8 =>
 A0 PR (A8 .len #[84] 0 [t8]) fun t9 =>
 B5 PR X 236 [t7, t9] fun t10 =>
 A6 PR (Instr.loadAt 84 t2) fun t11 =>
 A0 PR (A8 .len #[84] 0 [t11]) fun t12 =>
 lp (n := 1) (fun L1 t13 =>
 A0 PR (binOp .lss 3 t13 t12) fun t14 =>
 jn (n := 0) (
 jn (n := 0) (
 A0 PR (binOp .add 3 t13 (.int .i64 1)) fun t30 =>
 L1 t30) fun J2 =>
 A0 PR (binOp .add 3 t10 t13) fun t18 =>
 A6 PR (Instr.loadAt 84 t2) fun t19 =>
 A0 PR (A8 .len #[84] 0 [t19]) fun t20 =>
 A0 PR (binOp .rem 3 t18 t20) fun t21 =>
 A6 PR (Instr.loadAt 84 t2) fun t24 =>
 A0 PR (Instr.indexAt 84 t24 t21) fun t26 =>
 A6 PR (Instr.loadAt 218 t26) fun t27 =>
 G8 PR X t0 [t21, t27] fun t28 =>
 A0 PR (Op.unary .not t28) fun t29 =>
 D4 t29 (
 R (.tuple #[])) (
 J2)) fun J3 =>
 D4 t14 (
 J3) (
 R (.tuple #[]))) (.int .i64 0)
theorem A7p : B0 PR 235 := A7 Tryz.func235 (by kernel_rfl) rfl
theorem A77 {X : Nat → Prop} {t0 t1 t2 : Value} {R : Value → WP} {w : World} (h : A2L X t0 t1 t2 R w) : Fn PR X 235 #[t0, t1, t2] w R := C4 (args := [t0, t1, t2]) mixed Tryz.func235 (by kernel_rfl) h
theorem A72 {X : Nat → Prop} {t0 t1 t2 : Value} {K : Value → WP} {w : World} (h : Fn PR X 235 #[t0, t1, t2] w K) : y6 PR X 235 [t0, t1, t2] K w := ⟨A7p, h⟩
def A4c (X : Nat → Prop) (t0 t1 : Value) (R : Value → WP) : WP :=
 jn (n := 1) (fun t4 =>
 B5 PR X 135 [t0] fun t8 =>
 A0 PR (convert 3 89 t1) fun t10 =>
 A0 PR (binOp .rem 89 t8 t10) fun t11 =>
 A0 PR (convert 89 3 t11) fun t12 =>
 R t12) fun J1 =>
 A0 PR (binOp .lss 3 t1 (.int .i64 1)) fun t6 =>
 D4 t6 (
 R (.int .i64 0)) (
 J1 (.int .i64 0))
theorem A9Q : B0 PR 236 := A7 Tryz.func236 (by kernel_rfl) rfl
theorem B0k {X : Nat → Prop} {t0 t1 : Value} {R : Value → WP} {w : World} (h : A4c X t0 t1 R w) : Fn PR X 236 #[t0, t1] w R := C4 (args := [t0, t1]) mixed Tryz.func236 (by kernel_rfl) h
def Z0 (X : Nat → Prop) (t0 t1 : Value) (R : Value → WP) : WP :=
 jn (n := 2) (fun t5 t10 =>
 R t5) fun J1 =>
 A0 PR (A8 .len #[84] 0 [t0]) fun t9 =>
 lp (n := 2) (fun L2 t5_1 t10_1 =>
 A0 PR (binOp .lss 3 t10_1 t9) fun t11 =>
 jn (n := 0) (
 jn (n := 1) (fun t5_2 =>
 A0 PR (binOp .add 3 t10_1 (.int .i64 1)) fun t19 =>
 L2 t5_2 t19) fun J3 =>
 A0 PR (Instr.indexAt 84 t0 t10_1) fun t12 =>
 A6 PR (Instr.loadAt 218 t12) fun t13 =>
 B1 PR X (Instr.alloc 218 true (.tuple #[])) fun t7 =>
 C1 PR X (Instr.storeAt 218 t7 t13) <|
 A6 PR (Instr.loadAt 218 t7) fun t15 =>
 G8 PR X t1 [t15] fun t16 =>
 D4 t16 (
 A0 PR (binOp .add 3 t5_1 (.int .i64 1)) fun t18 =>
 J3 t18) (
 J3 t5_1)) fun J4 =>
 D4 t11 (
 J4) (
 J1 t5_1 t10_1)) (.int .i64 0) (.int .i64 0)
theorem A05 : B0 PR 240 := A7 Tryz.func240 (by kernel_rfl) rfl
theorem A1f {X : Nat → Prop} {t0 t1 : Value} {R : Value → WP} {w : World} (h : Z0 X t0 t1 R w) : Fn PR X 240 #[t0, t1] w R := C4 (args := [t0, t1]) mixed Tryz.func240 (by kernel_rfl) h
def A0u (X : Nat → Prop) (t0 t1 : Value) (R : Value → WP) : WP :=
 B1 PR X (Instr.box 218 t0) fun t2 =>
 A0 PR (Instr.fieldAt 218 t2 0) fun t4 =>
 A6 PR (Instr.loadAt 3 t4) fun t5 =>
 A6 PR (Instr.loadAt 3 t1) fun t6 =>
 A0 PR (binOp .eql 3 t5 t6) fun t7 =>
 R t7
theorem A5V : B0 PR 241 := A7 Tryz.func241 (by kernel_rfl) rfl
theorem A6q {X : Nat → Prop} {t0 t1 : Value} {R : Value → WP} {w : World} (h : A0u X t0 t1 R w) : Fn PR X 241 #[t0, t1] w R := C4 (args := [t0, t1]) mixed Tryz.func241 (by kernel_rfl) h
def A4q (X : Nat → Prop) (t0 t1 : Value) (R : Value → WP) : WP :=
 B1 PR X (Instr.alloc 3 true (.tuple #[])) fun t4 =>
 jn (n := 0) (
 jn (n := 0) (
 C1 PR X (Instr.storeAt 3 t4 (.int .i64 (-1))) <|
 V7 (A6 PR (E7 [.c 3 t4]) R)) fun J1 =>
 B5 PR X 179 [t0, t1] fun t13 =>
 rng (N := 2) PR X (fun t14 t15 K2 =>
 B1 PR (fun _ => False) (Instr.alloc 218 true (.tuple #[])) fun t6 =>
 C1 PR (fun _ => False) (Instr.storeAt 218 t6 t15) <|
 bgn <|
 A0 PR (Instr.fieldAt 218 t6 0) fun t16 =>
 A6 PR (Instr.loadAt 3 t16) fun t17 =>
 A0 PR (binOp .neq 3 t17 (.int .i64 1)) fun t18 =>
 D4 t18 (
 C1 PR (fun _ => False) (Instr.storeAt 3 t4 t14) <|
 K2 (some .ret)) (
 K2 none)) t13 (fun j => match j with | none => (J1) | some (.exit i) => (match Nat.beq i 0 with | true => (J1) | false => (F5)) | some .ret => (V7 (A6 PR (E7 [.c 3 t4]) R)) | some _ => F5)) fun J3 =>
 B5 PR X 133 [t0, t1] fun t9 =>
 A0 PR (binOp .geq 3 t9 (.int .i64 0)) fun t10 =>
 D4 t10 (
 C1 PR X (Instr.storeAt 3 t4 (.int .i64 (-1))) <|
 V7 (A6 PR (E7 [.c 3 t4]) R)) (
 J3)
theorem A9K : B0 PR 242 := A7 Tryz.func242 (by kernel_rfl) rfl
theorem B0q {X : Nat → Prop} {t0 t1 : Value} {R : Value → WP} {w : World} (h : A4q X t0 t1 R w) : Fn PR X 242 #[t0, t1] w R := C4 (args := [t0, t1]) mixed Tryz.func242 (by kernel_rfl) h
end Go.Proofs.YtjobgnabneddjaaGreat
namespace Go.Proofs.YtjobgnabneddjaaGreat
open Go
def A8S (X : Nat → Prop) (t0 : Value) (R : Value → WP) : WP :=
 B5 PR X 183 [(.int .u64 14695981039346656037), t0] fun t4 =>
 R t4
theorem A2w : B0 PR 135 := A7 Tryz.func135 (by kernel_rfl) rfl
theorem B31 {X : Nat → Prop} {t0 : Value} {R : Value → WP} {w : World} (h : A8S X t0 R w) : Fn PR X 135 #[t0] w R := C4 (args := [t0]) mixed Tryz.func135 (by kernel_rfl) h
def A67 (X : Nat → Prop) (t0 t1 : Value) (R : Value → WP) : WP :=
 B1 PR X (Instr.alloc 368 true (.tuple #[])) fun t5 =>
 B1 PR X (Instr.alloc 370 true (.tuple #[])) fun t6 =>
 C1 PR X (Instr.storeAt 368 t5 (.func (.func 238) #[] #[])) <|
 C1 PR X (Instr.storeAt 370 t6 t0) <|
 jn (n := 0) (
 A6 PR (Instr.loadAt 370 t6) fun t16 =>
 V7 (R t16)) fun J1 =>
 B5 PR X 239 [t1] fun t10 =>
 rng (N := 1) PR X (fun t11 K2 =>
 bgn <|
 A6 PR (Instr.loadAt 368 t5) fun t12 =>
 A6 PR (Instr.loadAt 370 t6) fun t13 =>
 G8 PR (fun _ => False) t12 [t13, t11] fun t15 =>
 C1 PR (fun _ => False) (Instr.storeAt 370 t6 t15) <|
 K2 none) t10 (fun j => match j with | none => (J1) | some (.exit i) => (match Nat.beq i 0 with | true => (J1) | false => (F5)) | some .ret => (V7 (R (.int .u64 0))) | some _ => F5)
theorem B2V : B0 PR 183 := A7 Tryz.func183 (by kernel_rfl) rfl
theorem B2y {X : Nat → Prop} {t0 t1 : Value} {R : Value → WP} {w : World} (h : A67 X t0 t1 R w) : Fn PR X 183 #[t0, t1] w R := C4 (args := [t0, t1]) mixed Tryz.func183 (by kernel_rfl) h
def A3p (X : Nat → Prop) (t0 t1 : Value) (R : Value → WP) : WP :=
 A0 PR (convert 5 370 t1) fun t7 =>
 A0 PR (binOp .xor 370 t0 t7) fun t8 =>
 A0 PR (binOp .mul 370 t8 (.int .u64 1099511628211)) fun t9 =>
 R t9
theorem A8e : B0 PR 238 := A7 Tryz.func238 (by kernel_rfl) rfl
theorem A9B {X : Nat → Prop} {t0 t1 : Value} {R : Value → WP} {w : World} (h : A3p X t0 t1 R w) : Fn PR X 238 #[t0, t1] w R := C4 (args := [t0, t1]) mixed Tryz.func238 (by kernel_rfl) h
def A65 (X : Nat → Prop) (t0 : Value) (R : Value → WP) : WP :=
 B1 PR X (Instr.box 9 t0) fun t1 =>
 A0 PR (Instr.makeFunc (.func 268) #[] #[t1]) fun t3 =>
 R t3
theorem B2Y : B0 PR 239 := A7 Tryz.func239 (by kernel_rfl) rfl
theorem B2g {X : Nat → Prop} {t0 : Value} {R : Value → WP} {w : World} (h : A65 X t0 R w) : Fn PR X 239 #[t0] w R := C4 (args := [t0]) mixed Tryz.func239 (by kernel_rfl) h
def A3Q (X : Nat → Prop) (t0 t1 : Value) (R : Value → WP) : WP :=
 A6 PR (Instr.loadAt 9 t1) fun t4 =>
 A0 PR (A8 .len #[9] 0 [t4]) fun t5 =>
 lp (n := 1) (fun L1 t6 =>
 A0 PR (binOp .lss 3 t6 t5) fun t7 =>
 jn (n := 0) (
 jn (n := 0) (
 A0 PR (binOp .add 3 t6 (.int .i64 1)) fun t15 =>
 L1 t15) fun J2 =>
 A6 PR (Instr.loadAt 9 t1) fun t10 =>
 A0 PR (Instr.index 9 t10 t6) fun t12 =>
 G8 PR X t0 [t12] fun t13 =>
 A0 PR (Op.unary .not t13) fun t14 =>
 D4 t14 (
 R (.tuple #[])) (
 J2)) fun J3 =>
 D4 t7 (
 J3) (
 R (.tuple #[]))) (.int .i64 0)
theorem A8n : B0 PR 268 := A7 Tryz.func268 (by kernel_rfl) rfl
theorem A9d {X : Nat → Prop} {t0 t1 : Value} {R : Value → WP} {w : World} (h : A3Q X t0 t1 R w) : Fn PR X 268 #[t0, t1] w R := C4 (args := [t0, t1]) mixed Tryz.func268 (by kernel_rfl) h
theorem A9N {X : Nat → Prop} {t0 t1 : Value} {K : Value → WP} {w : World} (h : Fn PR X 268 #[t0, t1] w K) : y6 PR X 268 [t0, t1] K w := ⟨A8n, h⟩
end Go.Proofs.YtjobgnabneddjaaGreat
namespace Go.Proofs.YtjobgnabneddjaaGreat
open Go
def A9Z (h b : Nat) : Nat := ((h ^^^ b) * 1099511628211) % 18446744073709551616
def A9D (h : Nat) (s : ByteArray) : Nat → Nat
 | 0 => h
 | i + 1 => A9Z (A9D h s i) (E6 s i)
def B4u (h : Nat) (s : ByteArray) : Nat := A9D h s s.size
def U2 (s : ByteArray) : Nat := B4u 14695981039346656037 s
theorem B99 (h b : Nat) : A9Z h b < 2 ^ 64 := by unfold A9Z; omega
theorem B3n {h : Nat} (hh : h < 2 ^ 64) (s : ByteArray) (i : Nat) : A9D h s i < 2 ^ 64 := by
 cases i with
 | zero => exact hh
 | succ i => exact B99 _ _
theorem C1y (w : World) (h b : Nat) (hh : h < 2 ^ 64) (hb : b < 256) : Fn PR B7 238 #[.int .u64 (h : Int), .int .u8 (b : Int)] w (fun v w' => v = .int .u64 (A9Z h b : Nat) ∧ C3 [] w w') := by
 refine Fn.pure (A9B (TW.go (κ := false) (S := []) ?_))
 unfold A3p
 (have zz:=trivial;repeat((first|clear zz|with_reducible first|refine A3 ?_|refine A5 fun _=>?_|refine A4 fun _=>?_);try simp(disch:=first|omega|assumption|((repeat(first|exact A1|exact uH|apply A2|apply uT));first|done|fail)|(simp;first|done|omega|fail))[]))
 have e1 : (h % 2 ^ IntKind.u64.bits ^^^ b % 2 ^ IntKind.u64.bits) = h ^^^ b := by rw [show (2 : Nat) ^ IntKind.u64.bits = 2 ^ 64 from rfl, Nat.mod_eq_of_lt hh, Nat.mod_eq_of_lt (by omega)]
 have e2 : h ^^^ b < 2 ^ 64 := Nat.xor_lt_two_pow hh (by omega)
 rw [e1, y1 (n := ((h ^^^ b : Nat) : Int)) (by omega) (by omega)]
 refine A9 ?_
 have e3 : IntKind.u64.wrap (((h ^^^ b : Nat) : Int) * 1099511628211) = (A9Z h b : Nat) := by
  simp only [IntKind.wrap, IntKind.bits, IntKind.signed, A9Z]
  simp
 rw [e3]
abbrev B81 (b : Nat) : Value := .func (.func 268) #[] #[.pointer (some ⟨b, 0, none⟩)]
theorem B9W (w : World) (s : ByteArray) : Fn PR B7 239 #[.string s] w (Rn [] w (fun b v => v = B81 b) fun b => [.pt b (.cells #[.string s] 9)]) := by
 refine B2g (TW.go (κ := false) (S := []) ?_)
 unfold A65
 (have zz:=trivial;repeat((first|clear zz|with_reducible first|refine A3 ?_|refine A5 fun _=>?_|refine A4 fun _=>?_);try simp(disch:=first|omega|assumption|((repeat(first|exact A1|exact uH|apply A2|apply uT));first|done|fail)|(simp;first|done|omega|fail))[]))
 rename_i b
 exact Z8 b rfl (by simp)
def B0v (s : ByteArray) (i : Nat) : List Value := [.int .u8 (E6 s i : Nat)]
theorem B92 (b : Nat) (s : ByteArray) (hs : s.size < 2 ^ 60) : A4B (B81 b) [.pt b (.cells #[.string s] 9)] (fun _ _ => True) ((List.range s.size).map (B0v s)) := by
 refine ⟨_, _, _, rfl, fun l J E hJ hE stJ stE hy w0 h0 => ?_⟩
 refine A9N (A9d (TW.at (κ := true) ?_ (hJ _ _ _ h0).1))
 unfold A3Q
 (have zz:=trivial;repeat((first|clear zz|with_reducible first|refine A3 ?_|refine A5 fun _=>?_|refine A4 fun _=>?_);try simp(disch:=first|omega|assumption|((repeat(first|exact A1|exact uH|apply A2|apply uT));first|done|fail)|(simp;first|done|omega|fail))[]))
 refine A3e s.size (fun i => i) (fun _ => _) hJ stJ h0 fun i a hi hJi _ L hL => ?_
 by_cases hlt : i < s.size
 ·obtain ⟨by0, hb0, hb1⟩ := j9 (s := s) (i := i) hlt
  have hb0' : s[((i : Nat) : Int).toNat]? = some by0 := by rw [Int.toNat_natCast]; exact hb0
  (have zz:=trivial;repeat((first|clear zz|with_reducible first|refine A3 ?_|refine A5 fun _=>?_|refine A4 fun _=>?_);try simp(disch:=first|omega|assumption|((repeat(first|exact A1|exact uH|apply A2|apply uT));first|done|fail)|(simp;first|done|omega|fail))[hlt, T5]))
  rw [hb1]
  refine A6l hJ hE stJ hy hJi (by simpa using hlt) (by simp [B0v]) (fun w3 h => ?_) (fun w3 h => ?_)
  ·(have zz:=trivial;repeat((first|clear zz|with_reducible first|refine A3 ?_|refine A5 fun _=>?_|refine A4 fun _=>?_);try simp(disch:=first|omega|assumption|((repeat(first|exact A1|exact uH|apply A2|apply uT));first|done|fail)|(simp;first|done|omega|fail))[]))
   exact fun w' hw' => hL hlt w' (stJ _ _ _ _ _ h hw')
  ·(have zz:=trivial;repeat((first|clear zz|with_reducible first|refine A3 ?_|refine A5 fun _=>?_|refine A4 fun _=>?_);try simp(disch:=first|omega|assumption|((repeat(first|exact A1|exact uH|apply A2|apply uT));first|done|fail)|(simp;first|done|omega|fail))[]))
   exact A28 stE h
 ·obtain rfl : i = s.size := by omega
  (have zz:=trivial;repeat((first|clear zz|with_reducible first|refine A3 ?_|refine A5 fun _=>?_|refine A4 fun _=>?_);try simp(disch:=first|omega|assumption|((repeat(first|exact A1|exact uH|apply A2|apply uT));first|done|fail)|(simp;first|done|omega|fail))[]))
  exact A3T stJ (by simpa using hJi)
theorem B9N (w : World) (h : Nat) (s : ByteArray) (hh : h < 2 ^ 64) (hs : s.size < 2 ^ 60) : Fn PR B7 183 #[.int .u64 (h : Int), .string s] w (fun v w' => v = .int .u64 (B4u h s : Nat) ∧ C3 [] w w') := by
 refine Fn.pure (B2y (TW.go (κ := false) (S := []) ?_))
 unfold A67
 (have zz:=trivial;repeat((first|clear zz|with_reducible first|refine A3 ?_|refine A5 fun _=>?_|refine A4 fun _=>?_);try simp(disch:=first|omega|assumption|((repeat(first|exact A1|exact uH|apply A2|apply uT));first|done|fail)|(simp;first|done|omega|fail))[]))
 rename_i bf bx
 refine K3 B2Y (fun w' _ => B9W w' s) ?_
 rintro b v rfl
 refine A03 (B92 b s hs) (by simp [B0v]) (fun _ (_ : Unit) => True) (fun i _ => [.pt bx (.cells #[.int .u64 ((A9D h s i : Nat) : Int)] 370), .pt bf (.cells #[.func (.func 238) #[] #[]] 368)])
  (fun _ (_ : Unit) => False) (fun _ => []) () trivial ?_ ?_ ?_ ?_ (by simp [A9D])
 ·intros; trivial
 ·rintro i hi _ F _ K' hK _
  simp only [List.getElem_map, List.getElem_range, B0v, VF.app]
  (have zz:=trivial;repeat((first|clear zz|with_reducible first|refine A3 ?_|refine A5 fun _=>?_|refine A4 fun _=>?_);try simp(disch:=first|omega|assumption|((repeat(first|exact A1|exact uH|apply A2|apply uT));first|done|fail)|(simp;first|done|omega|fail))[]))
  refine B9 A8e (fun w' _ => C1y w' _ _ (B3n hh s i) (l6 s i)) ?_
  (have zz:=trivial;repeat((first|clear zz|with_reducible first|refine A3 ?_|refine A5 fun _=>?_|refine A4 fun _=>?_);try simp(disch:=first|omega|assumption|((repeat(first|exact A1|exact uH|apply A2|apply uT));first|done|fail)|(simp;first|done|omega|fail))[]))
  exact TW.eqH (by simp [A9D]) (hK () trivial)
 ·rintro _ _
  (have zz:=trivial;repeat((first|clear zz|with_reducible first|refine A3 ?_|refine A5 fun _=>?_|refine A4 fun _=>?_);try simp(disch:=first|omega|assumption|((repeat(first|exact A1|exact uH|apply A2|apply uT));first|done|fail)|(simp;first|done|omega|fail))[]))
  exact A9 (by simp [B4u])
 ·rintro _ _ h; exact h.elim
theorem A5k (w : World) (s : ByteArray) (hs : s.size < 2 ^ 60) : Fn PR B7 135 #[.string s] w (fun v w' => v = .int .u64 (U2 s : Nat) ∧ C3 [] w w') := by
 refine Fn.pure (B31 (TW.go (κ := false) (S := []) ?_))
 unfold A8S
 refine B9 B2V (fun w' _ => B9N w' 14695981039346656037 s (by omega) hs) ?_
 exact A9 rfl
end Go.Proofs.YtjobgnabneddjaaGreat
namespace Go.Proofs.YtjobgnabneddjaaGreat
open Go
def Q8 (key : ByteArray) (n : Nat) : Nat := U2 key % n
theorem B3S (s : ByteArray) : U2 s < 2 ^ 64 := B3n (by omega) s _
theorem B9T (w : World) (key : ByteArray) (n : Nat) (hk : key.size < 2 ^ 60) (hn : n ≤ 1000000) : Fn PR B7 236 #[.string key, .int .i64 (n : Int)] w (fun v w' => v = .int .i64 (if n = 0 then 0 else Q8 key n : Nat) ∧ C3 [] w w') := by
 refine Fn.pure (B0k (TW.go (κ := false) (S := []) ?_))
 unfold A4c
 by_cases c1 : n = 0
 ·have c1' : (n : Int) < 1 := by omega
  (have zz:=trivial;repeat((first|clear zz|with_reducible first|refine A3 ?_|refine A5 fun _=>?_|refine A4 fun _=>?_);try simp(disch:=first|omega|assumption|((repeat(first|exact A1|exact uH|apply A2|apply uT));first|done|fail)|(simp;first|done|omega|fail))[c1']))
  exact A9 (by simp [c1])
 have c1' : ¬ (n : Int) < 1 := by omega
 have c1'' : ¬ (n : Int) = 0 := by omega
 (have zz:=trivial;repeat((first|clear zz|with_reducible first|refine A3 ?_|refine A5 fun _=>?_|refine A4 fun _=>?_);try simp(disch:=first|omega|assumption|((repeat(first|exact A1|exact uH|apply A2|apply uT));first|done|fail)|(simp;first|done|omega|fail))[c1']))
 refine B9 A2w (fun w' _ => A5k w' key hk) ?_
 have hl := B3S key
 have hm : Q8 key n < n := Nat.mod_lt _ (by omega)
 have e1 : ((U2 key : Nat) : Int).tmod n = (Q8 key n : Nat) := by unfold Q8; rw [Int.tmod_eq_emod_of_nonneg (by omega)]; omega
 have e2 : ((U2 key : Nat) : Int) % n = (Q8 key n : Nat) := by unfold Q8; omega
 (have zz:=trivial;repeat((first|clear zz|with_reducible first|refine A3 ?_|refine A5 fun _=>?_|refine A4 fun _=>?_);try simp(disch:=first|omega|assumption|((repeat(first|exact A1|exact uH|apply A2|apply uT));first|done|fail)|(simp;first|done|omega|fail))[c1'', e1, A81]))
 exact A9 (by simp [c1])
def noE : EnV := ⟨0, H0, 0, 0⟩
def k5 (l : List EnV) (key : ByteArray) : List (Nat × EnV) := (List.range l.length).map fun i => ((Q8 key l.length + i) % l.length, l.getD ((Q8 key l.length + i) % l.length) noE)
def A2f (p : Nat × EnV) : List Value := [.int .i64 (p.1 : Nat), .agg #[.int .i64 p.2.st, .string p.2.key, .int .i64 p.2.bk, .int .i64 p.2.dl]]
abbrev C0Z (x : Nat × Nat) : Value := .func (.func 235) #[] #[.pointer (some ⟨x.1, 0, none⟩), .pointer (some ⟨x.2, 0, none⟩)]
abbrev B16 (x : Nat × Nat) (v : Value) (key : ByteArray) : List Res := [.pt x.1 (.cells #[.string key] 9), .pt x.2 (.cells #[v] 84)]
theorem B5W (w : World) (v : Value) (key : ByteArray) (hv : ∃ a n c, v = .slice a n c) : Fn PR B7 179 #[v, .string key] w (Rn [] w (fun x u => u = C0Z x) fun x => B16 x v key) := by
 obtain ⟨a, n, c, rfl⟩ := hv
 refine B1V (TW.go (κ := false) (S := []) ?_)
 unfold A5Z
 (have zz:=trivial;repeat((first|clear zz|with_reducible first|refine A3 ?_|refine A5 fun _=>?_|refine A4 fun _=>?_);try simp(disch:=first|omega|assumption|((repeat(first|exact A1|exact uH|apply A2|apply uT));first|done|fail)|(simp;first|done|omega|fail))[]))
 rename_i b1 b2
 exact B4 (b2, b1) rfl (by (repeat' constructor))
def RqS (v : Value) (n : Nat) (xs : List Value) (F : List Res) (w : World) : Prop := ∃ a c, v = .slice a n c ∧ (0 < n → ∃ b o, a = some ⟨b, o, none⟩ ∧ L5 w b o xs ∧ b ∉ B3 F)
theorem RqS.of {v : Value} {n : Nat} {xs : List Value} {w0 w : World} {A F : List Res} (h : K4 w0 v n xs) (hx : 0 < n → 0 < xs.length) (hw : LW false [] w0 (A ++ F) w) : RqS v n xs F w := by
 obtain ⟨a, c, rfl, hr⟩ := h.form
 refine ⟨a, c, rfl, fun hn => ?_⟩
 obtain ⟨b, o, rfl, hrow⟩ := hr hn
 refine ⟨b, o, rfl, hw.ks.row (by simp) hrow, hw.notin_old ?_ (by simp)⟩
 have h0 := hrow 0 (hx hn)
 rw [List.getElem?_eq_getElem (hx hn)] at h0
 obtain ⟨c', t', z', h1, h2⟩ := A0a h0
 exact G5 h1
theorem l4 (l : List EnV) : (l.flatMap F7).length = l.length * 4 := by
 induction l with
 | nil => rfl
 | cons x l ih => rw [List.flatMap_cons, List.length_append, ih]; simp [F7]; omega
theorem B6f (x : Nat × Nat) (v : Value) (l : List EnV) (key : ByteArray) (hk : key.size < 2 ^ 60) (hn : l.length ≤ 1000000) : A4B (C0Z x) (B16 x v key) (RqS v l.length (l.flatMap F7)) ((k5 l key).map A2f) := by
 obtain ⟨bk, bt⟩ := x
 refine ⟨_, _, _, rfl, fun y J E hJ hE stJ stE hy w0 h0 => ?_⟩
 obtain ⟨a, c, hv, hr⟩ := (hJ _ _ _ h0).2
 subst hv
 refine A72 (A77 (TW.at (κ := true) ?_ (hJ _ _ _ h0).1))
 unfold A2L
 simp only [B16]
 (have zz:=trivial;repeat((first|clear zz|with_reducible first|refine A3 ?_|refine A5 fun _=>?_|refine A4 fun _=>?_);try simp(disch:=first|omega|assumption|((repeat(first|exact A1|exact uH|apply A2|apply uT));first|done|fail)|(simp;first|done|omega|fail))[]))
 refine B9 A9Q (fun w' _ => B9T w' key l.length hk hn) ?_
 (have zz:=trivial;repeat((first|clear zz|with_reducible first|refine A3 ?_|refine A5 fun _=>?_|refine A4 fun _=>?_);try simp(disch:=first|omega|assumption|((repeat(first|exact A1|exact uH|apply A2|apply uT));first|done|fail)|(simp;first|done|omega|fail))[]))
 refine A3e l.length (fun i => i) (fun _ => _) hJ stJ h0 fun i a' hi hJi hRi L hL => ?_
 by_cases hlt : i < l.length
 ·obtain ⟨_, _, hv, hr⟩ := hRi
  obtain ⟨b, o, hb, hrow, hnb⟩ := hr (by omega)
  cases hv
  have hh : Q8 key l.length < l.length := Nat.mod_lt _ (by omega)
  have e0 : (if l.length = 0 then 0 else Q8 key l.length) = Q8 key l.length := if_neg (by omega)
  have hj : (Q8 key l.length + i) % l.length < l.length := Nat.mod_lt _ (by omega)
  have hx : l[(Q8 key l.length + i) % l.length]? = some (l.getD ((Q8 key l.length + i) % l.length) noE) := by
   rw [List.getD_eq_getElem?_getD, List.getElem?_eq_getElem hj]; rfl
  have h1 := hrow.at (f := F7) (k := 4) (fun _ => rfl) hx
  have e1 : (((Q8 key l.length : Nat) : Int) + (i : Nat)).tmod l.length = ((Q8 key l.length + i) % l.length : Nat) := by rw [Int.tmod_eq_emod_of_nonneg (by omega), Int.natCast_emod, Int.natCast_add]
  have hwi : ∀ h, ((k5 l key).map A2f)[i]'h = A2f ((Q8 key l.length + i) % l.length, l.getD ((Q8 key l.length + i) % l.length) noE) := by
   intro h; simp only [List.getElem_map, k5, List.getElem_range]
  generalize hjd : (Q8 key l.length + i) % l.length = j at *
  generalize hxd : l.getD j noE = x at *
  rw [F7] at h1
  have hnz : ¬ (l.length : Int) = 0 := by omega
  subst hb
  rw [e0]
  (have zz:=trivial;repeat((first|clear zz|with_reducible first|refine A3 ?_|refine A5 fun _=>?_|refine A4 fun _=>?_);try simp(disch:=first|omega|assumption|((repeat(first|exact A1|exact uH|apply A2|apply uT));first|done|fail)|(simp;first|done|omega|fail))[hlt, e1, h1, hnz, A81]))
  refine A6l hJ hE stJ hy hJi (by simpa [k5] using hlt) (hwi _) (fun w3 h => ?_) (fun w3 h => ?_)
  ·(have zz:=trivial;repeat((first|clear zz|with_reducible first|refine A3 ?_|refine A5 fun _=>?_|refine A4 fun _=>?_);try simp(disch:=first|omega|assumption|((repeat(first|exact A1|exact uH|apply A2|apply uT));first|done|fail)|(simp;first|done|omega|fail))[]))
   exact fun w' hw' => hL hlt w' (stJ _ _ _ _ _ h hw')
  ·(have zz:=trivial;repeat((first|clear zz|with_reducible first|refine A3 ?_|refine A5 fun _=>?_|refine A4 fun _=>?_);try simp(disch:=first|omega|assumption|((repeat(first|exact A1|exact uH|apply A2|apply uT));first|done|fail)|(simp;first|done|omega|fail))[]))
   exact A28 stE h
 ·obtain rfl : i = l.length := by omega
  (have zz:=trivial;repeat((first|clear zz|with_reducible first|refine A3 ?_|refine A5 fun _=>?_|refine A4 fun _=>?_);try simp(disch:=first|omega|assumption|((repeat(first|exact A1|exact uH|apply A2|apply uT));first|done|fail)|(simp;first|done|omega|fail))[]))
  exact A3T stJ (by simpa [k5] using hJi)
def j5 (key : ByteArray) : List (Nat × EnV) → Int
 | [] => -1
 | p :: r => if p.2.st = 0 then -1 else if p.2.st = 1 ∧ p.2.key = key then p.1 else j5 key r
def H6 (l : List EnV) (key : ByteArray) : Int := j5 key (k5 l key)
theorem B3a {α : Type} {l : List α} {i : Nat} (h : i < l.length) : l.drop i = l[i] :: l.drop (i + 1) := List.drop_eq_getElem_cons h
theorem A4C (L : List (Nat × EnV)) : ∀ x ∈ L.map A2f, x.length = 2 := by
 intro x hx; obtain ⟨p, _, rfl⟩ := List.mem_map.1 hx; rfl
theorem p8 (w : World) (v : Value) (l : List EnV) (key : ByteArray) (hk : key.size < 2 ^ 60) (hn : l.length ≤ 1000000) (hv : K4 w v l.length (l.flatMap F7)) :
  Fn PR B7 133 #[v, .string key] w (fun r w' => r = .int .i64 (H6 l key) ∧ C3 [] w w') := by
 refine Fn.pure (B0Q (TW.go (κ := false) (S := []) ?_))
 unfold A4f
 (have zz:=trivial;repeat((first|clear zz|with_reducible first|refine A3 ?_|refine A5 fun _=>?_|refine A4 fun _=>?_);try simp(disch:=first|omega|assumption|((repeat(first|exact A1|exact uH|apply A2|apply uT));first|done|fail)|(simp;first|done|omega|fail))[]))
 rename_i bk bf
 refine K3 A4n (fun w' _ => B5W w' v key (by obtain ⟨a, c, rfl, _⟩ := hv.form; exact ⟨a, _, c, rfl⟩)) ?_
 rintro x u rfl
 refine A03 (B6f x v l key hk hn) (A4C _) (fun i (_ : Unit) => j5 key ((k5 l key).drop i) = H6 l key) (fun _ _ => [.pt bf (.cells #[.int .i64 (-1)] 3), .pt bk (.cells #[.string key] 9)])
  (fun c (y : Unit) => c = .exit 0) (fun y => [.pt bf (.cells #[.int .i64 (H6 l key)] 3)]) () rfl ?_ ?_ ?_ ?_ (by simp [B16])
 ·intro i _ F w1 _ hw
  exact RqS.of hv (fun h => by rw [l4]; omega) hw
 ·rintro i hi _ F hψ K' hK hE
  have hi' : i < (k5 l key).length := by simpa using hi
  rw [B3a hi'] at hψ
  simp only [List.getElem_map]
  generalize (k5 l key)[i] = p at *
  simp only [A2f, VF.app]
  by_cases c0 : p.2.st = 0
  ·(have zz:=trivial;repeat((first|clear zz|with_reducible first|refine A3 ?_|refine A5 fun _=>?_|refine A4 fun _=>?_);try simp(disch:=first|omega|assumption|((repeat(first|exact A1|exact uH|apply A2|apply uT));first|done|fail)|(simp;first|done|omega|fail))[c0]))
   refine TW.sub (hE (.exit 0) () rfl) ?_
   rw [← hψ]
   simp only [j5, c0, if_true]
   ((try simp only [List.cons_append, List.nil_append, List.append_assoc]); (repeat (first | exact List.Sublist.refl _ | exact List.nil_sublist _ | with_reducible apply List.Sublist.cons_cons | apply List.Sublist.cons)); first | done | fail)
  by_cases c1 : p.2.st = 1
  ·by_cases c2 : p.2.key = key
   ·(have zz:=trivial;repeat((first|clear zz|with_reducible first|refine A3 ?_|refine A5 fun _=>?_|refine A4 fun _=>?_);try simp(disch:=first|omega|assumption|((repeat(first|exact A1|exact uH|apply A2|apply uT));first|done|fail)|(simp;first|done|omega|fail))[c0, c1, c2]))
    refine TW.sub (hE (.exit 0) () rfl) ?_
    rw [← hψ]
    simp [j5, c1, c2]
    ((try simp only [List.cons_append, List.nil_append, List.append_assoc]); (repeat (first | exact List.Sublist.refl _ | exact List.nil_sublist _ | with_reducible apply List.Sublist.cons_cons | apply List.Sublist.cons)); first | done | fail)
   ·(have zz:=trivial;repeat((first|clear zz|with_reducible first|refine A3 ?_|refine A5 fun _=>?_|refine A4 fun _=>?_);try simp(disch:=first|omega|assumption|((repeat(first|exact A1|exact uH|apply A2|apply uT));first|done|fail)|(simp;first|done|omega|fail))[c0, c1, c2]))
    refine TW.sub (hK () ?_) (by ((try simp only [List.cons_append, List.nil_append, List.append_assoc]); (repeat (first | exact List.Sublist.refl _ | exact List.nil_sublist _ | with_reducible apply List.Sublist.cons_cons | apply List.Sublist.cons)); first | done | fail))
    rw [← hψ]
    simp [j5, c1, c2]
  ·(have zz:=trivial;repeat((first|clear zz|with_reducible first|refine A3 ?_|refine A5 fun _=>?_|refine A4 fun _=>?_);try simp(disch:=first|omega|assumption|((repeat(first|exact A1|exact uH|apply A2|apply uT));first|done|fail)|(simp;first|done|omega|fail))[c0, c1]))
   refine TW.sub (hK () ?_) (by ((try simp only [List.cons_append, List.nil_append, List.append_assoc]); (repeat (first | exact List.Sublist.refl _ | exact List.nil_sublist _ | with_reducible apply List.Sublist.cons_cons | apply List.Sublist.cons)); first | done | fail))
   rw [← hψ]
   simp [j5, c0, c1]
 ·intro _ hψ
  (have zz:=trivial;repeat((first|clear zz|with_reducible first|refine A3 ?_|refine A5 fun _=>?_|refine A4 fun _=>?_);try simp(disch:=first|omega|assumption|((repeat(first|exact A1|exact uH|apply A2|apply uT));first|done|fail)|(simp;first|done|omega|fail))[]))
  simp only [List.length_map, List.drop_length, j5] at hψ
  exact A9 (by rw [← hψ])
 ·rintro _ _ rfl
  (have zz:=trivial;repeat((first|clear zz|with_reducible first|refine A3 ?_|refine A5 fun _=>?_|refine A4 fun _=>?_);try simp(disch:=first|omega|assumption|((repeat(first|exact A1|exact uH|apply A2|apply uT));first|done|fail)|(simp;first|done|omega|fail))[]))
  exact A9 rfl
def q7 : List (Nat × EnV) → Int
 | [] => -1
 | p :: r => if p.2.st = 1 then q7 r else p.1
def j1 (l : List EnV) (key : ByteArray) : Int := if 0 ≤ H6 l key then -1 else q7 (k5 l key)
theorem B2W (w : World) (v : Value) (l : List EnV) (key : ByteArray) (hk : key.size < 2 ^ 60) (hn : l.length ≤ 1000000) (hv : K4 w v l.length (l.flatMap F7)) :
  Fn PR B7 242 #[v, .string key] w (fun r w' => r = .int .i64 (j1 l key) ∧ C3 [] w w') := by
 refine Fn.pure (B0q (TW.go (κ := false) (S := []) ?_))
 unfold A4q
 (have zz:=trivial;repeat((first|clear zz|with_reducible first|refine A3 ?_|refine A5 fun _=>?_|refine A4 fun _=>?_);try simp(disch:=first|omega|assumption|((repeat(first|exact A1|exact uH|apply A2|apply uT));first|done|fail)|(simp;first|done|omega|fail))[]))
 rename_i bf
 refine B9 a6 (fun w' hw' => p8 w' v l key hk hn (hv.ks hw'.ks (by simp))) ?_
 by_cases c1 : 0 ≤ H6 l key
 ·(have zz:=trivial;repeat((first|clear zz|with_reducible first|refine A3 ?_|refine A5 fun _=>?_|refine A4 fun _=>?_);try simp(disch:=first|omega|assumption|((repeat(first|exact A1|exact uH|apply A2|apply uT));first|done|fail)|(simp;first|done|omega|fail))[c1]))
  exact A9 (by simp [j1, c1])
 have e1 : j1 l key = q7 (k5 l key) := if_neg c1
 (have zz:=trivial;repeat((first|clear zz|with_reducible first|refine A3 ?_|refine A5 fun _=>?_|refine A4 fun _=>?_);try simp(disch:=first|omega|assumption|((repeat(first|exact A1|exact uH|apply A2|apply uT));first|done|fail)|(simp;first|done|omega|fail))[c1]))
 refine K3 A4n (fun w' _ => B5W w' v key (by obtain ⟨a, c, rfl, _⟩ := hv.form; exact ⟨a, _, c, rfl⟩)) ?_
 rintro x u rfl
 refine A03 (B6f x v l key hk hn) (A4C _) (fun i (_ : Unit) => q7 ((k5 l key).drop i) = j1 l key) (fun _ _ => [.pt bf (.cells #[.int .i64 0] 3)])
  (fun c (y : Unit) => c = .ret) (fun y => [.pt bf (.cells #[.int .i64 (j1 l key)] 3)]) () (by rw [List.drop_zero, e1]) ?_ ?_ ?_ ?_ (by simp [B16])
 ·intro i _ F w1 _ hw
  exact RqS.of hv (fun h => by rw [l4]; omega) hw
 ·rintro i hi _ F hψ K' hK hE
  have hi' : i < (k5 l key).length := by simpa using hi
  rw [B3a hi'] at hψ
  simp only [List.getElem_map]
  generalize (k5 l key)[i] = p at *
  simp only [A2f, VF.app]
  by_cases c1 : p.2.st = 1
  ·(have zz:=trivial;repeat((first|clear zz|with_reducible first|refine A3 ?_|refine A5 fun _=>?_|refine A4 fun _=>?_);try simp(disch:=first|omega|assumption|((repeat(first|exact A1|exact uH|apply A2|apply uT));first|done|fail)|(simp;first|done|omega|fail))[c1]))
   refine TW.sub (hK () ?_) (by ((try simp only [List.cons_append, List.nil_append, List.append_assoc]); (repeat (first | exact List.Sublist.refl _ | exact List.nil_sublist _ | with_reducible apply List.Sublist.cons_cons | apply List.Sublist.cons)); first | done | fail))
   rw [← hψ]
   simp [q7, c1]
  ·(have zz:=trivial;repeat((first|clear zz|with_reducible first|refine A3 ?_|refine A5 fun _=>?_|refine A4 fun _=>?_);try simp(disch:=first|omega|assumption|((repeat(first|exact A1|exact uH|apply A2|apply uT));first|done|fail)|(simp;first|done|omega|fail))[c1]))
   refine TW.sub (hE .ret () rfl) ?_
   rw [← hψ]
   simp only [q7, c1, if_false]
   ((try simp only [List.cons_append, List.nil_append, List.append_assoc]); (repeat (first | exact List.Sublist.refl _ | exact List.nil_sublist _ | with_reducible apply List.Sublist.cons_cons | apply List.Sublist.cons)); first | done | fail)
 ·intro _ hψ
  (have zz:=trivial;repeat((first|clear zz|with_reducible first|refine A3 ?_|refine A5 fun _=>?_|refine A4 fun _=>?_);try simp(disch:=first|omega|assumption|((repeat(first|exact A1|exact uH|apply A2|apply uT));first|done|fail)|(simp;first|done|omega|fail))[]))
  simp only [List.length_map, List.drop_length, q7] at hψ
  exact A9 (by rw [← hψ])
 ·rintro _ _ rfl
  (have zz:=trivial;repeat((first|clear zz|with_reducible first|refine A3 ?_|refine A5 fun _=>?_|refine A4 fun _=>?_);try simp(disch:=first|omega|assumption|((repeat(first|exact A1|exact uH|apply A2|apply uT));first|done|fail)|(simp;first|done|omega|fail))[]))
  exact A9 rfl
theorem B4s (w : World) (x : EnV) (st : Int) (b : Nat) (hb : w.cell? ⟨b, 0, none⟩ = some (.int .i64 st)) : Fn PR B7 241 #[.agg #[.int .i64 x.st, .string x.key, .int .i64 x.bk, .int .i64 x.dl], .pointer (some ⟨b, 0, none⟩)] w (fun r w' => r = .bool (decide (x.st = st)) ∧ C3 [] w w') := by
 refine Fn.pure (A6q (TW.go (κ := false) (S := []) ?_))
 unfold A0u
 (have zz:=trivial;repeat((first|clear zz|with_reducible first|refine A3 ?_|refine A5 fun _=>?_|refine A4 fun _=>?_);try simp(disch:=first|omega|assumption|((repeat(first|exact A1|exact uH|apply A2|apply uT));first|done|fail)|(simp;first|done|omega|fail))[hb]))
 exact A9 rfl
def A1F (l : List EnV) (st : Int) : Nat := l.countP fun x => decide (x.st = st)
theorem B2p {α : Type} {p : α → Bool} {l : List α} {i : Nat} {x : α} (hx : l[i]? = some x) : (l.take (i + 1)).countP p = (l.take i).countP p + if p x then 1 else 0 := by
 rw [List.take_add_one, hx, List.countP_append]; simp [List.countP_cons]
theorem B64 (w : World) (v : Value) (l : List EnV) (p : EnV → Bool) (f : FuncId) (cap : List Value) (hn : l.length ≤ 1000000) (hv : K4 w v l.length (l.flatMap F7)) (he : B0 PR f)
  (hf : ∀ w', KS false [] w w' → ∀ x : EnV, Fn PR B7 f (.agg #[.int .i64 x.st, .string x.key, .int .i64 x.bk, .int .i64 x.dl] :: cap).toArray w' (fun r w'' => r = .bool (p x) ∧ C3 [] w' w'')) :
  Fn PR B7 240 #[v, .func (.func f) #[] cap.toArray] w (fun r w' => r = .int .i64 (l.countP p : Nat) ∧ C3 [] w w') := by
 refine Fn.pure (A1f (TW.go (κ := false) (S := []) ?_))
 unfold Z0
 obtain ⟨a, c, rfl, hr⟩ := hv.form
 (have zz:=trivial;repeat((first|clear zz|with_reducible first|refine A3 ?_|refine A5 fun _=>?_|refine A4 fun _=>?_);try simp(disch:=first|omega|assumption|((repeat(first|exact A1|exact uH|apply A2|apply uT));first|done|fail)|(simp;first|done|omega|fail))[]))
 refine A8Z (α := Unit) l.length (fun i _ => .int .i64 ((l.take i).countP p : Nat)) (fun _ _ => []) (fun i _ => True) () trivial ?_
 rintro i _ hi _ L hL
 by_cases hlt : i < l.length
 ·obtain ⟨b, o, rfl, hrow⟩ := hr (by omega)
  obtain ⟨x, hx⟩ : ∃ x, l[i]? = some x := ⟨_, List.getElem?_eq_getElem (by omega)⟩
  have h1 := hrow.at (f := F7) (k := 4) (fun _ => rfl) hx
  rw [F7] at h1
  (have zz:=trivial;repeat((first|clear zz|with_reducible first|refine A3 ?_|refine A5 fun _=>?_|refine A4 fun _=>?_);try simp(disch:=first|omega|assumption|((repeat(first|exact A1|exact uH|apply A2|apply uT));first|done|fail)|(simp;first|done|omega|fail))[hlt, h1]))
  refine B1w he (φ := fun r => r = .bool (p x)) (fun w' hw' => by simpa using hf w' hw'.ks x) ?_
  rintro _ rfl
  have hc := B2p (p := p) hx
  have hle : (l.take i).countP p ≤ i := Nat.le_trans List.countP_le_length (by simp; omega)
  have hL' := hL hlt () trivial
  rw [hc] at hL'
  cases hb : p x with
  | true =>
   rw [hb] at hL'
   (have zz:=trivial;repeat((first|clear zz|with_reducible first|refine A3 ?_|refine A5 fun _=>?_|refine A4 fun _=>?_);try simp(disch:=first|omega|assumption|((repeat(first|exact A1|exact uH|apply A2|apply uT));first|done|fail)|(simp;first|done|omega|fail))[]))
   exact Sels.tw .nil (by simpa using hL')
  | false =>
   rw [hb] at hL'
   (have zz:=trivial;repeat((first|clear zz|with_reducible first|refine A3 ?_|refine A5 fun _=>?_|refine A4 fun _=>?_);try simp(disch:=first|omega|assumption|((repeat(first|exact A1|exact uH|apply A2|apply uT));first|done|fail)|(simp;first|done|omega|fail))[]))
   exact Sels.tw .nil (by simpa using hL')
 ·obtain rfl : i = l.length := by omega
  (have zz:=trivial;repeat((first|clear zz|with_reducible first|refine A3 ?_|refine A5 fun _=>?_|refine A4 fun _=>?_);try simp(disch:=first|omega|assumption|((repeat(first|exact A1|exact uH|apply A2|apply uT));first|done|fail)|(simp;first|done|omega|fail))[]))
  exact A9 rfl
theorem B66 (w : World) (v : Value) (l : List EnV) (st : Int) (hn : l.length ≤ 1000000) (hv : K4 w v l.length (l.flatMap F7)) :
  Fn PR B7 186 #[v, .int .i64 st] w (fun r w' => r = .int .i64 (A1F l st : Nat) ∧ C3 [] w w') := by
 refine Fn.pure (A9g (TW.go (κ := false) (S := []) ?_))
 unfold A3L
 (have zz:=trivial;repeat((first|clear zz|with_reducible first|refine A3 ?_|refine A5 fun _=>?_|refine A4 fun _=>?_);try simp(disch:=first|omega|assumption|((repeat(first|exact A1|exact uH|apply A2|apply uT));first|done|fail)|(simp;first|done|omega|fail))[]))
 rename_i b
 refine B9 A05 (fun w' hw' => B64 w' v l (fun x => decide (x.st = st)) 241 [.pointer (some ⟨b, 0, none⟩)] hn (hv.ks hw'.ks (by simp)) A5V
  fun w2 h x => B4s w2 x st b (h.cell (by simp) (hw'.cell1 (by (repeat constructor))))) ?_
 exact A9 rfl
end Go.Proofs.YtjobgnabneddjaaGreat
