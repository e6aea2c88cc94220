/- The proof of a given statement, a part of it (Packet Bytes Sl Pool Vals ShProbe ShFnv Fnv Probe). No condition but what each lemma says. -/
import Derived.Lib.SlBytesRow
import Derived.Test.YtjobgnabneddjaaGreatU11
set_option linter.unusedVariables false
set_option linter.unusedSimpArgs false
namespace Go.Proofs.YtjobgnabneddjaaGreat
open Go
structure KeyV where
 v : Int
 src : ByteArray
 dst : ByteArray
 fr : Int
 tp : Int
 proto : Int
 deriving DecidableEq
def KeyV.cs (k : KeyV) : List Value := [.int .i64 k.v, .string k.src, .string k.dst, .int .i64 k.fr, .int .i64 k.tp, .int .i64 k.proto]
def KeyV.val (k : KeyV) : Value := .agg #[.int .i64 k.v, .string k.src, .string k.dst, .int .i64 k.fr, .int .i64 k.tp, .int .i64 k.proto]
def noK : KeyV := ⟨0, L9, L9, 0, 0, 0⟩
def r6 (s : ByteArray) : KeyV × ByteArray × Nat :=
 if s.size = 0 then (noK, L9, 2) else if F6 s 0 / 16 = 4 then (⟨4, (A0L s).src, (A0L s).dst, 0, 0, (A0L s).proto⟩, (A0L s).rest, (A0L s).e)
 else if F6 s 0 / 16 = 6 then (⟨6, (p9 s).src, (p9 s).dst, 0, 0, (p9 s).proto⟩, (p9 s).rest, (p9 s).e) else (noK, L9, 3)
def keyed.val (x : KeyV × ByteArray × Nat) : Value := .tuple #[x.1.val, .string x.2.1, .int .i64 x.2.2]
theorem C0J (w : World) (src dst : ByteArray) (p : Int) : Fn PR B8 140 #[.agg #[.string src, .string dst, .int .i64 p]] w (fun v w' => v = KeyV.val ⟨4, src, dst, 0, 0, p⟩ ∧ C7 [] w w') := by
 refine Fn.pure (A9q (TW.go (κ := false) (S := []) ?_))
 unfold A2u
 (have zz:=trivial;repeat((first|clear zz|with_reducible first|refine A3 ?_|refine A5 fun _=>?_|refine A4 fun _=>?_);try simp(disch:=first|omega|assumption|((repeat(first|exact A1|exact uH|apply A2|apply uT));first|done|fail)|(simp;first|done|omega|fail))[]))
 exact B0 rfl
theorem B9s (w : World) (src dst : ByteArray) (p : Int) : Fn PR B8 143 #[.agg #[.string src, .string dst, .int .i64 p]] w (fun v w' => v = KeyV.val ⟨6, src, dst, 0, 0, p⟩ ∧ C7 [] w w') := by
 refine Fn.pure (B0E (TW.go (κ := false) (S := []) ?_))
 unfold A2j
 (have zz:=trivial;repeat((first|clear zz|with_reducible first|refine A3 ?_|refine A5 fun _=>?_|refine A4 fun _=>?_);try simp(disch:=first|omega|assumption|((repeat(first|exact A1|exact uH|apply A2|apply uT));first|done|fail)|(simp;first|done|omega|fail))[]))
 exact B0 rfl
theorem C3A (w : World) (s : ByteArray) (hs : s.size < 2 ^ 63) : Fn PR B8 138 #[.string s, .func (.func 139) #[] #[], .func (.func 140) #[] #[]] w
  (fun v w' => v = keyed.val (⟨4, (A0L s).src, (A0L s).dst, 0, 0, (A0L s).proto⟩, (A0L s).rest, (A0L s).e) ∧ C7 [] w w') := by
 refine Fn.pure (A4U (TW.go (κ := false) (S := []) ?_))
 unfold w8
 (have zz:=trivial;repeat((first|clear zz|with_reducible first|refine A3 ?_|refine A5 fun _=>?_|refine A4 fun _=>?_);try simp(disch:=first|omega|assumption|((repeat(first|exact A1|exact uH|apply A2|apply uT));first|done|fail)|(simp;first|done|omega|fail))[]))
 refine C1 B4z (fun w' _ => B8E w' s hs) ?_
 (have zz:=trivial;repeat((first|clear zz|with_reducible first|refine A3 ?_|refine A5 fun _=>?_|refine A4 fun _=>?_);try simp(disch:=first|omega|assumption|((repeat(first|exact A1|exact uH|apply A2|apply uT));first|done|fail)|(simp;first|done|omega|fail))[HeadV.val]))
 refine C1 A8j (fun w' _ => C0J w' _ _ _) ?_
 (have zz:=trivial;repeat((first|clear zz|with_reducible first|refine A3 ?_|refine A5 fun _=>?_|refine A4 fun _=>?_);try simp(disch:=first|omega|assumption|((repeat(first|exact A1|exact uH|apply A2|apply uT));first|done|fail)|(simp;first|done|omega|fail))[KeyV.val]))
 exact B0 (by simp [keyed.val, KeyV.val])
theorem C3F (w : World) (s : ByteArray) (hs : s.size < 2 ^ 63) : Fn PR B8 141 #[.string s, .func (.func 142) #[] #[], .func (.func 143) #[] #[]] w
  (fun v w' => v = keyed.val (⟨6, (p9 s).src, (p9 s).dst, 0, 0, (p9 s).proto⟩, (p9 s).rest, (p9 s).e) ∧ C7 [] w w') := by
 refine Fn.pure (A4e (TW.go (κ := false) (S := []) ?_))
 unfold x3
 (have zz:=trivial;repeat((first|clear zz|with_reducible first|refine A3 ?_|refine A5 fun _=>?_|refine A4 fun _=>?_);try simp(disch:=first|omega|assumption|((repeat(first|exact A1|exact uH|apply A2|apply uT));first|done|fail)|(simp;first|done|omega|fail))[]))
 refine C1 B5U (fun w' _ => B8D w' s hs) ?_
 (have zz:=trivial;repeat((first|clear zz|with_reducible first|refine A3 ?_|refine A5 fun _=>?_|refine A4 fun _=>?_);try simp(disch:=first|omega|assumption|((repeat(first|exact A1|exact uH|apply A2|apply uT));first|done|fail)|(simp;first|done|omega|fail))[HeadV.val]))
 refine C1 A83 (fun w' _ => B9s w' _ _ _) ?_
 (have zz:=trivial;repeat((first|clear zz|with_reducible first|refine A3 ?_|refine A5 fun _=>?_|refine A4 fun _=>?_);try simp(disch:=first|omega|assumption|((repeat(first|exact A1|exact uH|apply A2|apply uT));first|done|fail)|(simp;first|done|omega|fail))[KeyV.val]))
 exact B0 (by simp [keyed.val, KeyV.val])
theorem C5k (w : World) (v : Int) : Fn PR B8 228 #[.int .i64 v] w (fun u w' => u = .int .i64 (if v = 4 then 4 else if v = 6 then 16 else 0) ∧ C7 [] w w') := by
 refine Fn.pure (B3m (TW.go (κ := false) (S := []) ?_))
 unfold A6y
 by_cases c1 : v = 4
 ·(have zz:=trivial;repeat((first|clear zz|with_reducible first|refine A3 ?_|refine A5 fun _=>?_|refine A4 fun _=>?_);try simp(disch:=first|omega|assumption|((repeat(first|exact A1|exact uH|apply A2|apply uT));first|done|fail)|(simp;first|done|omega|fail))[c1])); exact B0 (by simp)
 by_cases c2 : v = 6
 ·(have zz:=trivial;repeat((first|clear zz|with_reducible first|refine A3 ?_|refine A5 fun _=>?_|refine A4 fun _=>?_);try simp(disch:=first|omega|assumption|((repeat(first|exact A1|exact uH|apply A2|apply uT));first|done|fail)|(simp;first|done|omega|fail))[c1, c2])); exact B0 (by simp)
 ·(have zz:=trivial;repeat((first|clear zz|with_reducible first|refine A3 ?_|refine A5 fun _=>?_|refine A4 fun _=>?_);try simp(disch:=first|omega|assumption|((repeat(first|exact A1|exact uH|apply A2|apply uT));first|done|fail)|(simp;first|done|omega|fail))[c1, c2])); exact B0 (by simp)
theorem C2r (w : World) (s : ByteArray) (hs : s.size < 2 ^ 63) : Fn PR B8 86 #[.string s] w (fun u w' => u = keyed.val (r6 s) ∧ C7 [] w w') := by
 refine Fn.pure (B2L (TW.go (κ := false) (S := []) ?_))
 unfold A5T
 by_cases c0 : s.size = 0
 ·have e : s = ByteArray.mk #[] := by
   apply ByteArray.ext; exact Array.eq_empty_of_size_eq_zero c0
  (have zz:=trivial;repeat((first|clear zz|with_reducible first|refine A3 ?_|refine A5 fun _=>?_|refine A4 fun _=>?_);try simp(disch:=first|omega|assumption|((repeat(first|exact A1|exact uH|apply A2|apply uT));first|done|fail)|(simp;first|done|omega|fail))[e]))
  exact B0 (by simp [r6, keyed.val, noK, KeyV.val])
 have c0' : ¬ s = ByteArray.mk #[] := fun e => c0 (by rw [e]; rfl)
 obtain ⟨by0, hb0, hb1⟩ := A0T (s := s) (i := 0) (by omega)
 have hb0' : s[(0 : Int).toNat]? = some by0 := hb0
 have hl0 := A0Z s 0
 have e1 : ((by0.toNat : Nat) : Int).fdiv (2 ^ min 4 IntKind.u8.bits) = (F6 s 0 / 16 : Nat) := by rw [show (2 : Int) ^ min 4 IntKind.u8.bits = 16 from rfl, Int.fdiv_eq_ediv_of_nonneg _ (by omega), hb1]; omega
 by_cases c1 : F6 s 0 / 16 = 4
 ·have c1' : ((F6 s 0 : Nat) : Int) / 16 = 4 := by omega
  (have zz:=trivial;repeat((first|clear zz|with_reducible first|refine A3 ?_|refine A5 fun _=>?_|refine A4 fun _=>?_);try simp(disch:=first|omega|assumption|((repeat(first|exact A1|exact uH|apply A2|apply uT));first|done|fail)|(simp;first|done|omega|fail))[c0', a6]))
  rw [e1]
  (have zz:=trivial;repeat((first|clear zz|with_reducible first|refine A3 ?_|refine A5 fun _=>?_|refine A4 fun _=>?_);try simp(disch:=first|omega|assumption|((repeat(first|exact A1|exact uH|apply A2|apply uT));first|done|fail)|(simp;first|done|omega|fail))[c1', c1]))
  refine C1 A4L (fun w' _ => C3A w' s hs) ?_
  (have zz:=trivial;repeat((first|clear zz|with_reducible first|refine A3 ?_|refine A5 fun _=>?_|refine A4 fun _=>?_);try simp(disch:=first|omega|assumption|((repeat(first|exact A1|exact uH|apply A2|apply uT));first|done|fail)|(simp;first|done|omega|fail))[keyed.val, KeyV.val]))
  exact B0 (by simp [r6, keyed.val, KeyV.val, c0, c1])
 have c1' : ¬ ((F6 s 0 : Nat) : Int) / 16 = 4 := by omega
 by_cases c2 : F6 s 0 / 16 = 6
 ·have c2' : ((F6 s 0 : Nat) : Int) / 16 = 6 := by omega
  (have zz:=trivial;repeat((first|clear zz|with_reducible first|refine A3 ?_|refine A5 fun _=>?_|refine A4 fun _=>?_);try simp(disch:=first|omega|assumption|((repeat(first|exact A1|exact uH|apply A2|apply uT));first|done|fail)|(simp;first|done|omega|fail))[c0', a6]))
  rw [e1]
  (have zz:=trivial;repeat((first|clear zz|with_reducible first|refine A3 ?_|refine A5 fun _=>?_|refine A4 fun _=>?_);try simp(disch:=first|omega|assumption|((repeat(first|exact A1|exact uH|apply A2|apply uT));first|done|fail)|(simp;first|done|omega|fail))[c1', c1, c2', c2, a6]))
  refine C1 A3p (fun w' _ => C3F w' s hs) ?_
  (have zz:=trivial;repeat((first|clear zz|with_reducible first|refine A3 ?_|refine A5 fun _=>?_|refine A4 fun _=>?_);try simp(disch:=first|omega|assumption|((repeat(first|exact A1|exact uH|apply A2|apply uT));first|done|fail)|(simp;first|done|omega|fail))[keyed.val, KeyV.val]))
  exact B0 (by simp [r6, keyed.val, KeyV.val, c0, c1, c2])
 have c2' : ¬ ((F6 s 0 : Nat) : Int) / 16 = 6 := by omega
 (have zz:=trivial;repeat((first|clear zz|with_reducible first|refine A3 ?_|refine A5 fun _=>?_|refine A4 fun _=>?_);try simp(disch:=first|omega|assumption|((repeat(first|exact A1|exact uH|apply A2|apply uT));first|done|fail)|(simp;first|done|omega|fail))[c0', a6]))
 rw [e1]
 (have zz:=trivial;repeat((first|clear zz|with_reducible first|refine A3 ?_|refine A5 fun _=>?_|refine A4 fun _=>?_);try simp(disch:=first|omega|assumption|((repeat(first|exact A1|exact uH|apply A2|apply uT));first|done|fail)|(simp;first|done|omega|fail))[c1', c1, c2', c2, a6]))
 exact B0 (by simp [r6, keyed.val, KeyV.val, c0, c1, c2, noK])
def E1 (s : ByteArray) : KeyV × Nat × Nat :=
 let x := r6 s
 if x.2.2 ≠ 0 then (noK, 0, x.2.2) else let y := Z6 x.1.proto x.2.1; if y.2.2.2 ≠ 0 then (noK, 0, y.2.2.2) else ({ x.1 with fr := y.1, tp := y.2.1 }, y.2.2.1, 0)
def T7 (k : KeyV) (f : Int) : Value := .agg #[.int .i64 k.v, .string k.src, .string k.dst, .int .i64 k.fr, .int .i64 k.tp, .int .i64 k.proto, .int .i64 f]
def packet.val (x : KeyV × Nat × Nat) : Value := .tuple #[T7 x.1 x.2.1, .int .i64 x.2.2]
theorem C0L (s : ByteArray) : (r6 s).2.1.size ≤ 65535 := by
 have h1 : (A0L s).rest.size ≤ 65535 := by
  have := A2p s 2
  unfold A0L; split
  ·simp only [ByteArray.size_extract]; omega
  ·simp [HeadV.err]
 have h2 : (p9 s).rest.size ≤ 65535 := by
  have := A2p s 4
  unfold p9; split
  ·simp only [ByteArray.size_extract]; omega
  ·simp [HeadV.err]
 unfold r6
 split
 ·simp
 split
 ·exact h1
 split
 ·exact h2
 ·simp
theorem A44 (w : World) (s : ByteArray) (hs : s.size < 2 ^ 63) : Fn PR B8 21 #[.string s] w (fun u w' => u = packet.val (E1 s) ∧ C7 [] w w') := by
 refine Fn.pure (B12 (TW.go (κ := false) (S := []) ?_))
 unfold A5J
 (have zz:=trivial;repeat((first|clear zz|with_reducible first|refine A3 ?_|refine A5 fun _=>?_|refine A4 fun _=>?_);try simp(disch:=first|omega|assumption|((repeat(first|exact A1|exact uH|apply A2|apply uT));first|done|fail)|(simp;first|done|omega|fail))[]))
 refine C1 B1p (fun w' _ => C2r w' s hs) ?_
 have hr := C0L s
 by_cases c1 : (r6 s).2.2 = 0
 ·(have zz:=trivial;repeat((first|clear zz|with_reducible first|refine A3 ?_|refine A5 fun _=>?_|refine A4 fun _=>?_);try simp(disch:=first|omega|assumption|((repeat(first|exact A1|exact uH|apply A2|apply uT));first|done|fail)|(simp;first|done|omega|fail))[keyed.val, KeyV.val, c1]))
  refine C1 B4J (fun w' _ => B7c w' _ (by omega) _) ?_
  by_cases c2 : (Z6 (r6 s).1.proto (r6 s).2.1).2.2.2 = 0
  ·(have zz:=trivial;repeat((first|clear zz|with_reducible first|refine A3 ?_|refine A5 fun _=>?_|refine A4 fun _=>?_);try simp(disch:=first|omega|assumption|((repeat(first|exact A1|exact uH|apply A2|apply uT));first|done|fail)|(simp;first|done|omega|fail))[Z6.val, c2]))
   exact B0 (by simp [E1, packet.val, T7, KeyV.val, c1, c2])
  ·(have zz:=trivial;repeat((first|clear zz|with_reducible first|refine A3 ?_|refine A5 fun _=>?_|refine A4 fun _=>?_);try simp(disch:=first|omega|assumption|((repeat(first|exact A1|exact uH|apply A2|apply uT));first|done|fail)|(simp;first|done|omega|fail))[Z6.val, c2]))
   exact B0 (by simp [E1, packet.val, T7, KeyV.val, c1, c2, noK])
 ·(have zz:=trivial;repeat((first|clear zz|with_reducible first|refine A3 ?_|refine A5 fun _=>?_|refine A4 fun _=>?_);try simp(disch:=first|omega|assumption|((repeat(first|exact A1|exact uH|apply A2|apply uT));first|done|fail)|(simp;first|done|omega|fail))[keyed.val, KeyV.val, c1]))
  exact B0 (by simp [E1, packet.val, T7, KeyV.val, c1, noK])
theorem B3y (w : World) (s : ByteArray) (hs : s.size < 2 ^ 40) : Fn PR B8 21 #[.string s] w (fun u w' => u = packet.val (E1 s) ∧ C7 [] w w') := A44 w s (by omega)
def n7 (k : KeyV) (f : Int) : ByteArray × Nat :=
 if k.v ≠ 4 ∧ k.v ≠ 6 then (L9, 3) else let s := W6 k.proto k.fr k.tp f; if s.2 ≠ 0 then (L9, s.2) else if k.v = 6 then A7F k.src k.dst s.1 k.proto else A7u k.src k.dst s.1 k.proto
theorem B9a (number x y f : Int) : (W6 number x y f).1.size ≤ 1000 := by
 have h6 := r9 6
 have h8 := r9 8
 unfold W6 A3q A4H A5Z
 repeat' split
 all_goals simp [h6, h8]
theorem B6x (w : World) (k : KeyV) (f : Int) : Fn PR B8 64 #[T7 k f] w (fun u w' => u = .tuple #[.string (n7 k f).1, .int .i64 (n7 k f).2] ∧ C7 [] w w') := by
 refine Fn.pure (B5D (TW.go (κ := false) (S := []) ?_))
 unfold A8F
 have hz := B9a k.proto k.fr k.tp f
 by_cases c0 : k.v = 4
 ·(have zz:=trivial;repeat((first|clear zz|with_reducible first|refine A3 ?_|refine A5 fun _=>?_|refine A4 fun _=>?_);try simp(disch:=first|omega|assumption|((repeat(first|exact A1|exact uH|apply A2|apply uT));first|done|fail)|(simp;first|done|omega|fail))[T7, KeyV.val, c0]))
  refine C1 A3m (fun w' _ => A7P w' _ _ _ _) ?_
  by_cases c1 : (W6 k.proto k.fr k.tp f).2 = 0
  ·(have zz:=trivial;repeat((first|clear zz|with_reducible first|refine A3 ?_|refine A5 fun _=>?_|refine A4 fun _=>?_);try simp(disch:=first|omega|assumption|((repeat(first|exact A1|exact uH|apply A2|apply uT));first|done|fail)|(simp;first|done|omega|fail))[c1, c0]))
   refine C1 B77 (fun w' _ => C1p w' _ _ _ _ (by omega)) ?_
   (have zz:=trivial;repeat((first|clear zz|with_reducible first|refine A3 ?_|refine A5 fun _=>?_|refine A4 fun _=>?_);try simp(disch:=first|omega|assumption|((repeat(first|exact A1|exact uH|apply A2|apply uT));first|done|fail)|(simp;first|done|omega|fail))[]))
   exact B0 (by simp [n7, c0, c1])
  ·(have zz:=trivial;repeat((first|clear zz|with_reducible first|refine A3 ?_|refine A5 fun _=>?_|refine A4 fun _=>?_);try simp(disch:=first|omega|assumption|((repeat(first|exact A1|exact uH|apply A2|apply uT));first|done|fail)|(simp;first|done|omega|fail))[c1, c0]))
   exact B0 (by simp [n7, c0, c1])
 by_cases c6 : k.v = 6
 ·(have zz:=trivial;repeat((first|clear zz|with_reducible first|refine A3 ?_|refine A5 fun _=>?_|refine A4 fun _=>?_);try simp(disch:=first|omega|assumption|((repeat(first|exact A1|exact uH|apply A2|apply uT));first|done|fail)|(simp;first|done|omega|fail))[T7, KeyV.val, c6]))
  refine C1 A3m (fun w' _ => A7P w' _ _ _ _) ?_
  by_cases c1 : (W6 k.proto k.fr k.tp f).2 = 0
  ·(have zz:=trivial;repeat((first|clear zz|with_reducible first|refine A3 ?_|refine A5 fun _=>?_|refine A4 fun _=>?_);try simp(disch:=first|omega|assumption|((repeat(first|exact A1|exact uH|apply A2|apply uT));first|done|fail)|(simp;first|done|omega|fail))[c1, c6]))
   refine C1 B7p (fun w' _ => C2k w' _ _ _ _ (by omega)) ?_
   (have zz:=trivial;repeat((first|clear zz|with_reducible first|refine A3 ?_|refine A5 fun _=>?_|refine A4 fun _=>?_);try simp(disch:=first|omega|assumption|((repeat(first|exact A1|exact uH|apply A2|apply uT));first|done|fail)|(simp;first|done|omega|fail))[]))
   exact B0 (by simp [n7, c6, c1])
  ·(have zz:=trivial;repeat((first|clear zz|with_reducible first|refine A3 ?_|refine A5 fun _=>?_|refine A4 fun _=>?_);try simp(disch:=first|omega|assumption|((repeat(first|exact A1|exact uH|apply A2|apply uT));first|done|fail)|(simp;first|done|omega|fail))[c1, c6]))
   exact B0 (by simp [n7, c6, c1])
 ·(have zz:=trivial;repeat((first|clear zz|with_reducible first|refine A3 ?_|refine A5 fun _=>?_|refine A4 fun _=>?_);try simp(disch:=first|omega|assumption|((repeat(first|exact A1|exact uH|apply A2|apply uT));first|done|fail)|(simp;first|done|omega|fail))[T7, KeyV.val, c0, c6]))
  exact B0 (by simp [n7, c0, c6])
def A1s (k : KeyV) (f : Int) : Bool := decide (k.proto = 6) && !decide (IntKind.i64.wrap ((f % 2 ^ IntKind.i64.bits).toNat &&& 5 % 2 ^ IntKind.i64.bits : Nat) = 0)
theorem B3C (w : World) (k : KeyV) (f : Int) : Fn PR B8 58 #[T7 k f] w (fun u w' => u = .bool (A1s k f) ∧ C7 [] w w') := by
 refine Fn.pure (B0p (TW.go (κ := false) (S := []) ?_))
 unfold A27
 by_cases c0 : k.proto = 6
 ·(have zz:=trivial;repeat((first|clear zz|with_reducible first|refine A3 ?_|refine A5 fun _=>?_|refine A4 fun _=>?_);try simp(disch:=first|omega|assumption|((repeat(first|exact A1|exact uH|apply A2|apply uT));first|done|fail)|(simp;first|done|omega|fail))[T7, KeyV.val, c0]))
  exact B0 (by simp [A1s, c0])
 ·(have zz:=trivial;repeat((first|clear zz|with_reducible first|refine A3 ?_|refine A5 fun _=>?_|refine A4 fun _=>?_);try simp(disch:=first|omega|assumption|((repeat(first|exact A1|exact uH|apply A2|apply uT));first|done|fail)|(simp;first|done|omega|fail))[T7, KeyV.val, c0]))
  exact B0 (by simp [A1s, c0])
end Go.Proofs.YtjobgnabneddjaaGreat
namespace Go.Proofs.YtjobgnabneddjaaGreat
open Go
section
variable {κ : Bool} {X : Nat → Prop} {S : List Nat} {w0 : World} {H H' : List Res} {K : Value → WP}
theorem C2N {P : Program} {g : Sem Value} {u : Value} {b : Nat} {c c' : Array Value} {T : TypeId} (hrun : ∀ w, bl w b = some (.cells c T (0, 0)) → g.run P w = .ok u (World.putb w b (.cells c' T (0, 0))))
  (hu : Up (.pt b (.cells c T (0, 0))) (.pt b (.cells c' T (0, 0))) H H') (hK : TW κ S w0 H' (K u)) : TW κ S w0 H (B2 P X g K) := fun w hw => by
 have hm : Res.pt b (.cells c T (0, 0)) ∈ H := by obtain ⟨A, B, rfl, _⟩ := hu.parts; simp
 have hb := hw.pt hm
 rw [U5 (hrun w hb) (Sk.putb X hb)]
 refine hK _ (hw.up hu ⟨KS.putb hb (by simp [Res.foot]), ?_, ?_, by simp⟩)
 ·simp only [List.mem_singleton, forall_eq, Res.holds]; exact ⟨Q2 (H7 hb), rfl⟩
 ·simp only [List.mem_singleton, forall_eq, Res.foot]; exact ⟨Or.inl (by simp), by have := H7 hb; simpa using this⟩
theorem B8P (w : World) : (underlying 301).run PR w = .ok (.slice 5) w := A3Q.run_und
theorem C9U (w : World) : (underlying 355).run PR w = .ok (.array 38 5) w := B9f.run_und
def d7 (s : ByteArray) (o : Nat) (t : ByteArray) : ByteArray := s.extract 0 o ++ t ++ s.extract (o + t.size) s.size
theorem A9V {s t : ByteArray} {o : Nat} (h : o + t.size ≤ s.size) : (d7 s o t).size = s.size := by simp [d7]; omega
theorem B4b (s t : ByteArray) (o : Nat) (h : o + t.size ≤ s.size) : E8 (F5 s).toArray o (F5 t) = (F5 (d7 s o t)).toArray := by
 apply Array.toList_inj.1
 rw [A1F _ _ _ (by simpa using h)]
 simp [F5, d7, List.map_take, List.map_drop]
 rw [List.take_of_length_le (by simp)]
theorem B3l {b o n c : Nat} {s t : ByteArray} {T : TypeId} (hu : Up (.pt b (.cells (F5 s).toArray T)) (.pt b (.cells (F5 (d7 s o t)).toArray T)) H H') (hn : t.size ≤ n) (hs : o + t.size ≤ s.size)
  (hK : TW κ S w0 H' (K (.int .i64 t.size))) : TW κ S w0 H (B2 PR X (A8 .copy #[301, 9] 3 [.slice (some ⟨b, o, none⟩) n c, .string t]) K) := by
 refine C2N (u := .int .i64 t.size) (fun w hb => ?_) hu hK
 have hst := f9 (P := PR) (o0 := o) (F5 t) 0 w (F5 s).toArray hb (by simpa using hs) (A5e t)
 rw [Nat.add_zero, B4b s t o hs] at hst
 have hl : Nat.min t.size n = t.size := Nat.min_eq_left hn
 have htk : List.take t.size (List.map (fun b : UInt8 => Value.int IntKind.u8 (b.toNat : Int)) t.data.toList) = F5 t := by
  rw [List.take_of_length_le (by simp)]; rfl
 show (Builtin.copy_ #[301, 9] 3 #[.slice (some ⟨b, o, none⟩) n c, .string t]).run PR w = _
 simp [Builtin.copy_, B8P, ty5.run_size, Builtin.lenOf, Builtin.firstCells, hl]
 rw [htk, hst]
 simp [goInt, Result.andThen]
def z38 : ByteArray := B1P z1 38
theorem A7s : z38.size = 38 := r9 38
theorem C1Z : (Builtin.zeroCells (Value.int .u8 0).cells 38).toList = F5 z38 := by kernel_rfl
theorem C5b : (F5 z38).toArray = #[.int .u8 0, .int .u8 0, .int .u8 0, .int .u8 0, .int .u8 0, .int .u8 0, .int .u8 0, .int .u8 0, .int .u8 0, .int .u8 0, .int .u8 0, .int .u8 0, .int .u8 0, .int .u8 0, .int .u8 0, .int .u8 0, .int .u8 0, .int .u8 0, .int .u8 0, .int .u8 0, .int .u8 0, .int .u8 0, .int .u8 0, .int .u8 0, .int .u8 0, .int .u8 0, .int .u8 0, .int .u8 0, .int .u8 0, .int .u8 0, .int .u8 0, .int .u8 0, .int .u8 0, .int .u8 0, .int .u8 0, .int .u8 0, .int .u8 0, .int .u8 0] := by kernel_rfl
theorem C1P {b : Nat} {s : ByteArray} {T : TypeId} (hs : s.size = 38) (hu : Up (.pt b (.cells (F5 s).toArray T)) (.pt b (.cells (F5 z38).toArray T)) H H')
  (hK : TW κ S w0 H' (K (.tuple #[]))) : TW κ S w0 H (B2 PR X (A8 .clear #[301] 0 [.slice (some ⟨b, 0, none⟩) 38 38]) K) := by
 refine C2N (u := .tuple #[]) (fun w hb => ?_) hu hK
 have h38 := A7s
 have hst := f9 (P := PR) (o0 := 0) (F5 z38) 0 w (F5 s).toArray hb (by simp [hs, h38]) (A5e _)
 rw [Nat.add_zero, B4b s z38 0 (by omega)] at hst
 have e : d7 s 0 z38 = z38 := by
  apply ByteArray.ext
  simp [d7, h38, hs]
 rw [e] at hst
 show (Builtin.clear_ #[301] 0 #[.slice (some ⟨b, 0, none⟩) 38 38]).run PR w = _
 simp only [Builtin.clear_, List.getElem?_toArray, List.getElem?_cons_zero, Sem.run_bind, B8P, Result.andThen_ok, ty5.run_zero, C1Z, hst, Sem.run_pure]
theorem C7P {b : Nat} {s : ByteArray} {T : TypeId} (hm : Res.pt b (.cells (F5 s).toArray T) ∈ H) (c n : Nat) (hn : n = s.size) :
  TW κ S w0 H (A6 PR (convert 301 9 (.slice (some ⟨b, 0, none⟩) n c)) K) = TW κ S w0 H (K (.string s)) := TW.congr fun w hw => by
 refine S9 ?_ K
 subst hn
 have hb := hw.pt hm
 have hB : Lib.Bytes w b 0 s := fun i hi => by
  rw [E5 hb]; simp [F5, hi]; rfl
 exact Lib.run_convert_whole w _ _ _ A3Q.und ty5.und ty9.und b 0 s hB c
end
theorem C2P {lo : Nat} (b : Nat) (h : lo < 38) (K : Value → WP) : A0 PR (Instr.sliceAt 355 (.pointer (some ⟨b, 0, none⟩)) (some (.int .i64 (lo : Int))) none none) K = K (.slice (some ⟨b, lo, none⟩) (38 - lo) (38 - lo)) :=
 F1 (fun w => by
  have h1 : ¬ ((38 : Int) < lo) := by omega
  have h2 : ¬ (38 = lo) := by omega
  simp [Instr.sliceAt, C9U, Instr.sliceBounds, Instr.sliceBound, asIntOf, h1, h2, ty5.run_size, Instr.sureAddr, b9]
  omega) K
def Z5 (v : Int) : Nat := if v = 4 then 4 else if v = 6 then 16 else 0
theorem C2y (w : World) (v : Int) : Fn PR B8 228 #[.int .i64 v] w (fun u w' => u = .int .i64 (Z5 v : Nat) ∧ C7 [] w w') := by
 have := C5k w v
 have e : ((Z5 v : Nat) : Int) = if v = 4 then 4 else if v = 6 then 16 else 0 := by (unfold Z5; repeat' split) <;> rfl
 rw [e]; exact this
def Y6 (k : KeyV) : Bool := decide (Z5 k.v ≠ 0 ∧ k.src.size = Z5 k.v ∧ k.dst.size = Z5 k.v ∧ (W6 k.proto k.fr k.tp 0).2 = 0)
def A4A (k : KeyV) : ByteArray := d7 (d7 (d7 z38 0 (F2 (k.v * 256 + k.proto) 2 ++ F2 k.fr 2 ++ F2 k.tp 2)) 6 k.src) 22 k.dst
def A6x (k : KeyV) : Value := .tuple #[.string (if Y6 k then A4A k else L9), .bool (Y6 k)]
theorem C5n {n x y f : Int} (h : (W6 n x y f).2 = 0) : (n = 6 ∨ n = 17) ∧ T9 x y = true := by
 unfold W6 at h
 split at h
 ·simp at h
 split at h
 ·simp at h
 ·rename_i h1 h2
  refine ⟨by omega, ?_⟩
  cases hp : T9 x y with
  | true => rfl
  | false => exact absurd (Or.inl hp) h2
theorem C3n (w : World) (k : KeyV) : Fn PR B8 166 #[k.val] w (fun u w' => u = A6x k ∧ C7 [] w w') := by
 refine Fn.pure (B2V (TW.go (κ := false) (S := []) ?_))
 unfold A5D KeyV.val
 (have zz:=trivial;repeat((first|clear zz|with_reducible first|refine A3 ?_|refine A5 fun _=>?_|refine A4 fun _=>?_);try simp(disch:=first|omega|assumption|((repeat(first|exact A1|exact uH|apply A2|apply uT));first|done|fail)|(simp;first|done|omega|fail))[]))
 refine C1 B2r (fun w' _ => C2y w' _) ?_
 (have zz:=trivial;repeat((first|clear zz|with_reducible first|refine A3 ?_|refine A5 fun _=>?_|refine A4 fun _=>?_);try simp(disch:=first|omega|assumption|((repeat(first|exact A1|exact uH|apply A2|apply uT));first|done|fail)|(simp;first|done|omega|fail))[]))
 refine C1 A3m (fun w' _ => A7P w' _ _ _ _) ?_
 have bad : Y6 k = false → A6x k = .tuple #[.string L9, .bool false] := fun h => by simp [A6x, h]
 by_cases c1 : Z5 k.v = 0
 ·(have zz:=trivial;repeat((first|clear zz|with_reducible first|refine A3 ?_|refine A5 fun _=>?_|refine A4 fun _=>?_);try simp(disch:=first|omega|assumption|((repeat(first|exact A1|exact uH|apply A2|apply uT));first|done|fail)|(simp;first|done|omega|fail))[c1]))
  exact B0 (bad (by simp [Y6, c1])).symm
 have c1' : ¬ ((Z5 k.v : Nat) : Int) = 0 := by omega
 by_cases c2 : k.src.size = Z5 k.v
 case neg =>
  have c2' : ¬ ((k.src.size : Nat) : Int) = Z5 k.v := by omega
  (have zz:=trivial;repeat((first|clear zz|with_reducible first|refine A3 ?_|refine A5 fun _=>?_|refine A4 fun _=>?_);try simp(disch:=first|omega|assumption|((repeat(first|exact A1|exact uH|apply A2|apply uT));first|done|fail)|(simp;first|done|omega|fail))[c1, c1', c2, c2']))
  exact B0 (bad (by simp [Y6, c2])).symm
 by_cases c3 : k.dst.size = Z5 k.v
 case neg =>
  have c3' : ¬ ((k.dst.size : Nat) : Int) = Z5 k.v := by omega
  (have zz:=trivial;repeat((first|clear zz|with_reducible first|refine A3 ?_|refine A5 fun _=>?_|refine A4 fun _=>?_);try simp(disch:=first|omega|assumption|((repeat(first|exact A1|exact uH|apply A2|apply uT));first|done|fail)|(simp;first|done|omega|fail))[c1, c1', c2, c3, c3']))
  exact B0 (bad (by simp [Y6, c3])).symm
 by_cases c4 : (W6 k.proto k.fr k.tp 0).2 = 0
 case neg =>
  (have zz:=trivial;repeat((first|clear zz|with_reducible first|refine A3 ?_|refine A5 fun _=>?_|refine A4 fun _=>?_);try simp(disch:=first|omega|assumption|((repeat(first|exact A1|exact uH|apply A2|apply uT));first|done|fail)|(simp;first|done|omega|fail))[c1, c1', c2, c3, c4]))
  exact B0 (bad (by simp [Y6, c4])).symm
 (have zz:=trivial;repeat((first|clear zz|with_reducible first|refine A3 ?_|refine A5 fun _=>?_|refine A4 fun _=>?_);try simp(disch:=first|omega|assumption|((repeat(first|exact A1|exact uH|apply A2|apply uT));first|done|fail)|(simp;first|done|omega|fail))[c1, c1', c2, c3, c4]))
 rename_i bk ba
 refine TW.eqH (H' := [.pt ba (.cells (F5 z38).toArray 355), .pt bk (.cells #[.int .i64 k.v, .string k.src, .string k.dst, .int .i64 k.fr, .int .i64 k.tp, .int .i64 k.proto] 45)]) (by rw [C5b]) ?_
 refine C1P A7s .here ?_
 obtain ⟨hp, hq⟩ := C5n c4
 simp only [T9, decide_eq_true_eq] at hq
 have hv : k.v = 4 ∨ k.v = 6 := by unfold Z5 at c1; split at c1 <;> (try split at c1) <;> omega
 have hh : (F2 (k.v * 256 + k.proto) 2 ++ F2 k.fr 2 ++ F2 k.tp 2).size = 6 := by simp
 have h38 := A7s
 have s1 : (d7 z38 0 (F2 (k.v * 256 + k.proto) 2 ++ F2 k.fr 2 ++ F2 k.tp 2)).size = 38 := by rw [A9V (by omega), h38]
 have hl : Z5 k.v ≤ 16 := by unfold Z5; split <;> (try split) <;> omega
 have s2 : (d7 (d7 z38 0 (F2 (k.v * 256 + k.proto) 2 ++ F2 k.fr 2 ++ F2 k.tp 2)) 6 k.src).size = 38 := by rw [A9V (by omega), s1]
 have s3 : (A4A k).size = 38 := by unfold A4A; rw [A9V (by omega), s2]
 have i6 := fun K => C2P (lo := 6) ba (by omega) K
 have i22 := fun K => C2P (lo := 22) ba (by omega) K
 simp at i6 i22
 have ok : Y6 k = true := by simp [Y6, c1, c2, c3, c4]
 have q1 := hq.1
 have q2 := hq.2.1
 have q3 := hq.2.2.1
 have q4 := hq.2.2.2
 have eor : IntKind.u64.wrap ((IntKind.u64.wrap (k.v * 2 ^ min 8 IntKind.u64.bits) % 2 ^ IntKind.u64.bits).toNat ||| (k.proto % 2 ^ IntKind.u64.bits).toNat : Nat) = k.v * 256 + k.proto := by
  rcases hv with hv | hv <;> rcases hp with hp | hp <;> (rw [hv, hp]; decide)
 have ew1 : IntKind.u64.wrap k.fr = k.fr := A1v (by omega) (by omega)
 have ew2 : IntKind.u64.wrap k.tp = k.tp := A1v (by omega) (by omega)
 (have zz:=trivial;repeat((first|clear zz|with_reducible first|refine A3 ?_|refine A5 fun _=>?_|refine A4 fun _=>?_);try simp(disch:=first|omega|assumption|((repeat(first|exact A1|exact uH|apply A2|apply uT));first|done|fail)|(simp;first|done|omega|fail))[]))
 rw [eor, ew1, ew2]
 refine C1 G7 (fun w' hw' => V7 w' _ _) ?_
 (have zz:=trivial;repeat((first|clear zz|with_reducible first|refine A3 ?_|refine A5 fun _=>?_|refine A4 fun _=>?_);try simp(disch:=first|omega|assumption|((repeat(first|exact A1|exact uH|apply A2|apply uT));first|done|fail)|(simp;first|done|omega|fail))[]))
 refine C1 G7 (fun w' hw' => V7 w' _ _) ?_
 (have zz:=trivial;repeat((first|clear zz|with_reducible first|refine A3 ?_|refine A5 fun _=>?_|refine A4 fun _=>?_);try simp(disch:=first|omega|assumption|((repeat(first|exact A1|exact uH|apply A2|apply uT));first|done|fail)|(simp;first|done|omega|fail))[U6]))
 refine C1 G7 (fun w' hw' => V7 w' _ _) ?_
 (have zz:=trivial;repeat((first|clear zz|with_reducible first|refine A3 ?_|refine A5 fun _=>?_|refine A4 fun _=>?_);try simp(disch:=first|omega|assumption|((repeat(first|exact A1|exact uH|apply A2|apply uT));first|done|fail)|(simp;first|done|omega|fail))[U6]))
 refine B3l (o := 0) (s := z38) (by (repeat constructor)) (by omega) (by omega) ?_
 (have zz:=trivial;repeat((first|clear zz|with_reducible first|refine A3 ?_|refine A5 fun _=>?_|refine A4 fun _=>?_);try simp(disch:=first|omega|assumption|((repeat(first|exact A1|exact uH|apply A2|apply uT));first|done|fail)|(simp;first|done|omega|fail))[i6]))
 refine B3l (o := 6) (s := d7 z38 0 (F2 (k.v * 256 + k.proto) 2 ++ F2 k.fr 2 ++ F2 k.tp 2)) (by (repeat constructor)) (by omega) (by omega) ?_
 (have zz:=trivial;repeat((first|clear zz|with_reducible first|refine A3 ?_|refine A5 fun _=>?_|refine A4 fun _=>?_);try simp(disch:=first|omega|assumption|((repeat(first|exact A1|exact uH|apply A2|apply uT));first|done|fail)|(simp;first|done|omega|fail))[i22]))
 refine B3l (o := 22) (s := d7 (d7 z38 0 (F2 (k.v * 256 + k.proto) 2 ++ F2 k.fr 2 ++ F2 k.tp 2)) 6 k.src) (by (repeat constructor)) (by omega) (by omega) ?_
 (have zz:=trivial;repeat((first|clear zz|with_reducible first|refine A3 ?_|refine A5 fun _=>?_|refine A4 fun _=>?_);try simp(disch:=first|omega|assumption|((repeat(first|exact A1|exact uH|apply A2|apply uT));first|done|fail)|(simp;first|done|omega|fail))[]))
 rw [C7P (s := A4A k) (by (repeat constructor)) _ _ s3.symm]
 exact B0 (by simp [A6x, ok])
end Go.Proofs.YtjobgnabneddjaaGreat
namespace Go.Proofs.YtjobgnabneddjaaGreat
open Go
@[simp] theorem D3B {κ : Bool} {S : List Nat} {w0 : World} {H : List Res} {K : Value → WP} {t : TypeId} {z : Value} [h : TS t z] {b o : Nat} {c : Array Value} {T : TypeId} {f : Nat × Nat} (hm : Res.pt b (.cells c T f) ∈ H) :
  TW κ S w0 H (A6 PR (F8 [.c t (.pointer (some ⟨b, o, none⟩))]) K) = TW κ S w0 H (rdc c[o]? K (A6 PR (F8 [.c t (.pointer (some ⟨b, o, none⟩))]) K)) := by
 cases hc : c[o]? with
 | none => rfl
 | some v => rw [C7G hm hc]; rfl
abbrev E6 := Int × Int
def J0 (b : E6) : List Value := [.int .i64 b.1, .int .i64 b.2]
structure EnV where
 st : Int
 key : ByteArray
 bk : Int
 dl : Int
 deriving DecidableEq
def H0 (x : EnV) : List Value := [.int .i64 x.st, .string x.key, .int .i64 x.bk, .int .i64 x.dl]
theorem C7W {t u : TypeId} {n m : Nat} {z : Value} {a : Option Addr} {l c e : Nat} (h : TI PR t (.slice u) n m z) : EqV PR (e + 1) t (.slice a l c) (.slice none 0 0) a.isNone := by
 intro w
 cases a with
 | none => simp only [Op.equalIn, Sem.run_bind, h.run_und, Result.andThen_ok, Sem.run_pure, Option.isNone]
 | some a => simp only [Op.equalIn, Sem.run_bind, h.run_und, Result.andThen_ok, Sem.run_pure]; rfl
theorem C69 {t u : TypeId} {n m : Nat} {z : Value} (h : TI PR t (.slice u) n m z) (x y : Operand) (a : Option Addr) (l c : Nat) (K : Value → WP) :
  A6 PR (H8 .eql t x y (.slice a l c) (.slice none 0 0)) K = K (.bool a.isNone) := by
 funext w
 refine S9 ?_ K
 have h1 : (eqGuard .eql t x y (.slice a l c) (.slice none 0 0)).run PR w = .ok () w := by simp [eqGuard]
 have h2 : (Op.equalIn 10000 t (.slice a l c) (.slice none 0 0)).run PR w = .ok a.isNone w := C7W (e := 9999) h w
 simp [H8, h1, binOp, Op.equal, Op.maxDepth, h2]
theorem C4n (x y : Operand) (a : Option Addr) (l c : Nat) (K : Value → WP) : A6 PR (H8 .eql 58 x y (.slice a l c) (.slice none 0 0)) K = K (.bool a.isNone) := C69 B4L x y a l c K
theorem C4x (x y : Operand) (a : Option Addr) (l c : Nat) (K : Value → WP) : A6 PR (H8 .eql 84 x y (.slice a l c) (.slice none 0 0)) K = K (.bool a.isNone) := C69 A9y x y a l c K
theorem C1l (w : World) (v : Value) (n : Nat) (xs : List Value) (hn : n ≤ 1000000) (hx : xs.length = n * 2) (hp : xs.all plain = true) (hv : G1 w v n xs) :
  Fn PR B8 123 #[v] w (Rn [] w (fun r u => u = r) fun r => [.own 155 2 r n xs]) := by
 obtain ⟨a, c, rfl, hr⟩ := hv.form
 refine m7 (TW.go (κ := false) (S := []) ?_)
 unfold S1
 cases a with
 | none =>
  obtain rfl : n = 0 := by
   rcases Nat.eq_zero_or_pos n with h | h
   ·exact h
   ·obtain ⟨_, _, h, _⟩ := hr h; cases h
  obtain rfl : xs = [] := List.length_eq_zero_iff.1 (by omega)
  (have zz:=trivial;repeat((first|clear zz|with_reducible first|refine A3 ?_|refine A5 fun _=>?_|refine A4 fun _=>?_);try simp(disch:=first|omega|assumption|((repeat(first|exact A1|exact uH|apply A2|apply uT));first|done|fail)|(simp;first|done|omega|fail))[C4n]))
  refine k9 155 2 ?_
  exact j1 (.slice none 0 0) rfl (by simp)
 | some a =>
  (have zz:=trivial;repeat((first|clear zz|with_reducible first|refine A3 ?_|refine A5 fun _=>?_|refine A4 fun _=>?_|refine D6 fun _=>?_|refine D3 (hK:=fun _=>?_)|refine D7 (hK:=fun _=>?_)|refine D8 (hK:=fun _=>?_)|refine D5 (hK:=fun _=>?_)|refine D4 (hK:=fun _=>?_));try simp(disch:=first|omega|assumption|((repeat(first|exact A1|exact uH|apply A2|apply uT));first|done|fail)|(simp;first|done|omega|fail))[C4n]))
  refine u5 (by (repeat constructor)) (P6.old0 hv) (by decide) hx hp (by simp only [maxLen]; omega) (by omega) fun a' c' => ?_
  simp only [Nat.zero_add, List.nil_append]
  exact B1 _ rfl (by (repeat' constructor))
theorem C14 (w : World) (v : Value) (n : Nat) (xs : List Value) (hn : n ≤ 1000000) (hx : xs.length = n * 4) (hp : xs.all plain = true) (hv : G1 w v n xs) :
  Fn PR B8 122 #[v] w (Rn [] w (fun r u => u = r) fun r => [.own 218 4 r n xs]) := by
 obtain ⟨a, c, rfl, hr⟩ := hv.form
 refine u6 (TW.go (κ := false) (S := []) ?_)
 unfold T3
 cases a with
 | none =>
  obtain rfl : n = 0 := by
   rcases Nat.eq_zero_or_pos n with h | h
   ·exact h
   ·obtain ⟨_, _, h, _⟩ := hr h; cases h
  obtain rfl : xs = [] := List.length_eq_zero_iff.1 (by omega)
  (have zz:=trivial;repeat((first|clear zz|with_reducible first|refine A3 ?_|refine A5 fun _=>?_|refine A4 fun _=>?_);try simp(disch:=first|omega|assumption|((repeat(first|exact A1|exact uH|apply A2|apply uT));first|done|fail)|(simp;first|done|omega|fail))[C4x]))
  refine k9 218 4 ?_
  exact j1 (.slice none 0 0) rfl (by simp)
 | some a =>
  (have zz:=trivial;repeat((first|clear zz|with_reducible first|refine A3 ?_|refine A5 fun _=>?_|refine A4 fun _=>?_|refine D6 fun _=>?_|refine D3 (hK:=fun _=>?_)|refine D7 (hK:=fun _=>?_)|refine D8 (hK:=fun _=>?_)|refine D5 (hK:=fun _=>?_)|refine D4 (hK:=fun _=>?_));try simp(disch:=first|omega|assumption|((repeat(first|exact A1|exact uH|apply A2|apply uT));first|done|fail)|(simp;first|done|omega|fail))[C4x]))
  refine u5 (by (repeat constructor)) (P6.old0 hv) (by decide) hx hp (by simp only [maxLen]; omega) (by omega) fun a' c' => ?_
  simp only [Nat.zero_add, List.nil_append]
  exact B1 _ rfl (by (repeat' constructor))
def A7E {α : Type} (p : α → Bool) (l : List α) : Int := match l.findIdx? p with | some i => i | none => -1
theorem A4w {α : Type} {p : α → Bool} {l : List α} {i : Nat} {x : α} (hx : l[i]? = some x) (hp : p x = true) (h : ∀ j y, j < i → l[j]? = some y → p y = false) : A7E p l = i := by
 have : l.findIdx? p = some i := by
  rw [List.findIdx?_eq_some_iff_getElem]
  obtain ⟨hi, e⟩ := List.getElem?_eq_some_iff.1 hx
  exact ⟨hi, by rw [e]; exact hp, fun j hj => by rw [h j l[j] hj (List.getElem?_eq_getElem (by omega))]; simp⟩
 simp [A7E, this]
theorem A87 {α : Type} {p : α → Bool} {l : List α} (h : ∀ (j : Nat) y, l[j]? = some y → p y = false) : A7E p l = -1 := by
 have : l.findIdx? p = none := by
  rw [List.findIdx?_eq_none_iff]; intro x hx; obtain ⟨i, hi, rfl⟩ := List.getElem_of_mem hx; exact h i _ (List.getElem?_eq_getElem hi)
 simp [A7E, this]
theorem B5F (w : World) (v : Value) (l : List E6) (p : E6 → Bool) (f : FuncId) (cap : List Value) (hn : l.length ≤ 1000000) (hv : G1 w v l.length (l.flatMap J0)) (he : A9 PR f)
  (hf : ∀ w', KS false [] w w' → ∀ x : E6, Fn PR B8 f (.agg #[.int .i64 x.1, .int .i64 x.2] :: cap).toArray w' (fun r w'' => r = .bool (p x) ∧ C7 [] w' w'')) :
  Fn PR B8 266 #[v, .func (.func f) #[] cap.toArray] w (fun r w' => r = .int .i64 (A7E p l) ∧ C7 [] w w') := by
 refine Fn.pure (e9 (TW.go (κ := false) (S := []) ?_))
 unfold P5
 obtain ⟨a, c, rfl, hr⟩ := hv.form
 (have zz:=trivial;repeat((first|clear zz|with_reducible first|refine A3 ?_|refine A5 fun _=>?_|refine A4 fun _=>?_);try simp(disch:=first|omega|assumption|((repeat(first|exact A1|exact uH|apply A2|apply uT));first|done|fail)|(simp;first|done|omega|fail))[]))
 refine A2V (α := Unit) l.length (fun _ _ => .int .i64 0) (fun _ _ => []) (fun i _ => ∀ j y, j < i → l[j]? = some y → p y = false) () (by intro j _ hj; omega) ?_
 rintro i _ hi hpre L hL
 by_cases hlt : i < l.length
 ·obtain ⟨b, o, rfl, hrow⟩ := hr (by omega)
  obtain ⟨x, hx⟩ : ∃ x, l[i]? = some x := ⟨_, List.getElem?_eq_getElem (by omega)⟩
  have h1 := hrow.at (f := J0) (k := 2) (fun _ => rfl) hx
  rw [J0] at h1
  (have zz:=trivial;repeat((first|clear zz|with_reducible first|refine A3 ?_|refine A5 fun _=>?_|refine A4 fun _=>?_);try simp(disch:=first|omega|assumption|((repeat(first|exact A1|exact uH|apply A2|apply uT));first|done|fail)|(simp;first|done|omega|fail))[hlt, h1]))
  refine B3p he (φ := fun r => r = .bool (p x)) (fun w' hw' => by simpa using hf w' hw'.ks x) ?_
  rintro _ rfl
  cases hb : p x with
  | true =>
   (have zz:=trivial;repeat((first|clear zz|with_reducible first|refine A3 ?_|refine A5 fun _=>?_|refine A4 fun _=>?_);try simp(disch:=first|omega|assumption|((repeat(first|exact A1|exact uH|apply A2|apply uT));first|done|fail)|(simp;first|done|omega|fail))[]))
   exact B0 (by rw [A4w hx hb hpre])
  | false =>
   (have zz:=trivial;repeat((first|clear zz|with_reducible first|refine A3 ?_|refine A5 fun _=>?_|refine A4 fun _=>?_);try simp(disch:=first|omega|assumption|((repeat(first|exact A1|exact uH|apply A2|apply uT));first|done|fail)|(simp;first|done|omega|fail))[]))
   refine Sels.tw .nil (hL hlt () ?_)
   intro j y hj hy
   by_cases hji : j = i
   ·subst hji; rw [hx] at hy; cases hy; exact hb
   ·exact hpre j y (by omega) hy
 ·obtain rfl : i = l.length := by omega
  (have zz:=trivial;repeat((first|clear zz|with_reducible first|refine A3 ?_|refine A5 fun _=>?_|refine A4 fun _=>?_);try simp(disch:=first|omega|assumption|((repeat(first|exact A1|exact uH|apply A2|apply uT));first|done|fail)|(simp;first|done|omega|fail))[]))
  exact B0 (by rw [A87 fun j y hy => hpre j y (List.getElem?_eq_some_iff.1 hy).1 hy])
theorem B5L (w : World) (v : Value) (l : List (Int × Int)) (p : Int × Int → Bool) (f : FuncId) (cap : List Value) (hn : l.length ≤ 1000000) (hv : G1 w v l.length (l.flatMap J0)) (he : A9 PR f)
  (hf : ∀ w', KS false [] w w' → ∀ x : Int × Int, Fn PR B8 f (.agg #[.int .i64 x.1, .int .i64 x.2] :: cap).toArray w' (fun r w'' => r = .bool (p x) ∧ C7 [] w' w'')) :
  Fn PR B8 201 #[v, .func (.func f) #[] cap.toArray] w (fun r w' => r = .int .i64 (A7E p l) ∧ C7 [] w w') := by
 refine Fn.pure (A0r (TW.go (κ := false) (S := []) ?_))
 unfold W8
 obtain ⟨a, c, rfl, hr⟩ := hv.form
 (have zz:=trivial;repeat((first|clear zz|with_reducible first|refine A3 ?_|refine A5 fun _=>?_|refine A4 fun _=>?_);try simp(disch:=first|omega|assumption|((repeat(first|exact A1|exact uH|apply A2|apply uT));first|done|fail)|(simp;first|done|omega|fail))[]))
 refine A2V (α := Unit) l.length (fun _ _ => .int .i64 0) (fun _ _ => []) (fun i _ => ∀ j y, j < i → l[j]? = some y → p y = false) () (by intro j _ hj; omega) ?_
 rintro i _ hi hpre L hL
 by_cases hlt : i < l.length
 ·obtain ⟨b, o, rfl, hrow⟩ := hr (by omega)
  obtain ⟨x, hx⟩ : ∃ x, l[i]? = some x := ⟨_, List.getElem?_eq_getElem (by omega)⟩
  have h1 := hrow.at (f := J0) (k := 2) (fun _ => rfl) hx
  rw [J0] at h1
  (have zz:=trivial;repeat((first|clear zz|with_reducible first|refine A3 ?_|refine A5 fun _=>?_|refine A4 fun _=>?_);try simp(disch:=first|omega|assumption|((repeat(first|exact A1|exact uH|apply A2|apply uT));first|done|fail)|(simp;first|done|omega|fail))[hlt, h1]))
  refine B3p he (φ := fun r => r = .bool (p x)) (fun w' hw' => by simpa using hf w' hw'.ks x) ?_
  rintro _ rfl
  cases hb : p x with
  | true =>
   (have zz:=trivial;repeat((first|clear zz|with_reducible first|refine A3 ?_|refine A5 fun _=>?_|refine A4 fun _=>?_);try simp(disch:=first|omega|assumption|((repeat(first|exact A1|exact uH|apply A2|apply uT));first|done|fail)|(simp;first|done|omega|fail))[]))
   exact B0 (by rw [A4w hx hb hpre])
  | false =>
   (have zz:=trivial;repeat((first|clear zz|with_reducible first|refine A3 ?_|refine A5 fun _=>?_|refine A4 fun _=>?_);try simp(disch:=first|omega|assumption|((repeat(first|exact A1|exact uH|apply A2|apply uT));first|done|fail)|(simp;first|done|omega|fail))[]))
   refine Sels.tw .nil (hL hlt () ?_)
   intro j y hj hy
   by_cases hji : j = i
   ·subst hji; rw [hx] at hy; cases hy; exact hb
   ·exact hpre j y (by omega) hy
 ·obtain rfl : i = l.length := by omega
  (have zz:=trivial;repeat((first|clear zz|with_reducible first|refine A3 ?_|refine A5 fun _=>?_|refine A4 fun _=>?_);try simp(disch:=first|omega|assumption|((repeat(first|exact A1|exact uH|apply A2|apply uT));first|done|fail)|(simp;first|done|omega|fail))[]))
  exact B0 (by rw [A87 fun j y hy => hpre j y (List.getElem?_eq_some_iff.1 hy).1 hy])
theorem B6f {α : Type} (p : α → Bool) (l : List α) : decide (0 ≤ A7E p l) = l.any p := by
 unfold A7E
 cases h : l.findIdx? p with
 | none =>
  have := List.findIdx?_eq_none_iff.1 h
  rw [Bool.eq_iff_iff]; simp [List.any_eq_true]; intro x hx; have := this x hx; simp_all
 | some i =>
  obtain ⟨hi, h1, _⟩ := List.findIdx?_eq_some_iff_getElem.1 h
  rw [Bool.eq_iff_iff]; simp only [List.any_eq_true, decide_eq_true_eq]
  exact ⟨fun _ => ⟨_, List.getElem_mem hi, h1⟩, fun _ => by omega⟩
theorem B1b (w : World) (v : Value) (l : List (Int × Int)) (p : Int × Int → Bool) (f : FuncId) (cap : List Value) (hn : l.length ≤ 1000000) (hv : G1 w v l.length (l.flatMap J0)) (he : A9 PR f)
  (hf : ∀ w', KS false [] w w' → ∀ x : Int × Int, Fn PR B8 f (.agg #[.int .i64 x.1, .int .i64 x.2] :: cap).toArray w' (fun r w'' => r = .bool (p x) ∧ C7 [] w' w'')) :
  Fn PR B8 148 #[v, .func (.func f) #[] cap.toArray] w (fun r w' => r = .bool (l.any p) ∧ C7 [] w w') := by
 refine Fn.pure (y0 (TW.go (κ := false) (S := []) ?_))
 unfold U3
 refine C1 A0Q (fun w' hw' => B5L w' v l p f cap hn (hv.ks hw'.ks (by simp)) he fun w2 h => hf w2 (hw'.ks.trans h)) ?_
 (have zz:=trivial;repeat((first|clear zz|with_reducible first|refine A3 ?_|refine A5 fun _=>?_|refine A4 fun _=>?_);try simp(disch:=first|omega|assumption|((repeat(first|exact A1|exact uH|apply A2|apply uT));first|done|fail)|(simp;first|done|omega|fail))[]))
 exact B0 (by rw [B6f])
end Go.Proofs.YtjobgnabneddjaaGreat
namespace Go.Proofs.YtjobgnabneddjaaGreat
open Go
theorem C4K {t e : TypeId} {len n m n' m' : Nat} {z z' : Value} {d' : TypeDesc} {parts : Array (Nat × Value)} {cs : Array Value} {K : Value → WP} (h : TI PR t (.array len e) n m z) (he : TI PR e d' n' m' z')
  (hf : Instr.fill (fun i => some (i * n', n')) z.cells parts.toList = some cs) : A0 PR (Instr.build t parts) K = K (.agg cs) :=
 F1 (fun w => by
  simp only [Instr.build, Sem.run_bind, h.run_zero, Result.andThen_ok, h.run_und, he.run_size, hf, Sem.run_pure]) K
theorem bd2 {k0 k1 : IntKind} {a b : Int} (K : Value → WP) : A0 PR (Instr.build 158 #[(0, .int k0 a), (1, .int k1 b)]) K = K (.agg #[.int k0 a, .int k1 b]) :=
 C4K B2D K3 (by rw [show (#[(0, Value.int k0 a), (1, Value.int k1 b)] : Array (Nat × Value)).toList = [(0, Value.int k0 a), (1, Value.int k1 b)] from rfl, B7 rfl rfl (by simp), B7 rfl rfl (by simp [B9])]; rfl)
theorem B7f (w : World) (x : Int × Int) : Fn PR B8 149 #[.agg #[.int .i64 x.1, .int .i64 x.2]] w (fun r w' => r = .bool (decide (x.1 < 1 ∨ x.2 < x.1)) ∧ C7 [] w w') := by
 refine Fn.pure (B0l (TW.go (κ := false) (S := []) ?_))
 unfold A3B
 by_cases c1 : x.1 < 1
 ·(have zz:=trivial;repeat((first|clear zz|with_reducible first|refine A3 ?_|refine A5 fun _=>?_|refine A4 fun _=>?_);try simp(disch:=first|omega|assumption|((repeat(first|exact A1|exact uH|apply A2|apply uT));first|done|fail)|(simp;first|done|omega|fail))[c1]))
  exact B0 (by simp [c1])
 ·(have zz:=trivial;repeat((first|clear zz|with_reducible first|refine A3 ?_|refine A5 fun _=>?_|refine A4 fun _=>?_);try simp(disch:=first|omega|assumption|((repeat(first|exact A1|exact uH|apply A2|apply uT));first|done|fail)|(simp;first|done|omega|fail))[c1]))
  exact B0 (by simp [c1])
theorem C1K (w : World) (v : Value) (l : List (Int × Int)) (hn : l.length ≤ 1000000) (hv : G1 w v l.length (l.flatMap J0)) :
  Fn PR B8 89 #[v] w (fun r w' => r = .bool (!l.any fun x => decide (x.1 < 1 ∨ x.2 < x.1)) ∧ C7 [] w w') := by
 refine Fn.pure (B3Q (TW.go (κ := false) (S := []) ?_))
 unfold A6k
 refine C1 u0 (fun w' hw' => B1b w' v l (fun x => decide (x.1 < 1 ∨ x.2 < x.1)) 149 [] hn (hv.ks hw'.ks (by simp)) A9D fun w2 h x => B7f w2 x) ?_
 (have zz:=trivial;repeat((first|clear zz|with_reducible first|refine A3 ?_|refine A5 fun _=>?_|refine A4 fun _=>?_);try simp(disch:=first|omega|assumption|((repeat(first|exact A1|exact uH|apply A2|apply uT));first|done|fail)|(simp;first|done|omega|fail))[]))
 exact B0 rfl
theorem C0S (w : World) (x : E6) (id : Int) (b : Nat) (hb : w.cell? ⟨b, 0, none⟩ = some (.int .i64 id)) : Fn PR B8 286 #[.agg #[.int .i64 x.1, .int .i64 x.2], .pointer (some ⟨b, 0, none⟩)] w (fun r w' => r = .bool (decide (x.1 = id)) ∧ C7 [] w w') := by
 refine Fn.pure (B1K (TW.go (κ := false) (S := []) ?_))
 unfold A3r
 (have zz:=trivial;repeat((first|clear zz|with_reducible first|refine A3 ?_|refine A5 fun _=>?_|refine A4 fun _=>?_);try simp(disch:=first|omega|assumption|((repeat(first|exact A1|exact uH|apply A2|apply uT));first|done|fail)|(simp;first|done|omega|fail))[hb]))
 exact B0 rfl
theorem C3J (w : World) (id : Int) : Fn PR B8 267 #[.int .i64 id] w (Rn [] w (fun b v => v = .func (.func 286) #[] #[.pointer (some ⟨b, 0, none⟩)]) fun b => [.pt b (.cells #[.int .i64 id] 3)]) := by
 refine B5A (TW.go (κ := false) (S := []) ?_)
 unfold A8T
 (have zz:=trivial;repeat((first|clear zz|with_reducible first|refine A3 ?_|refine A5 fun _=>?_|refine A4 fun _=>?_);try simp(disch:=first|omega|assumption|((repeat(first|exact A1|exact uH|apply A2|apply uT));first|done|fail)|(simp;first|done|omega|fail))[]))
 exact j1 _ rfl (by simp)
def N6 (l : List E6) (id : Int) : Int := A7E (fun x => decide (x.1 = id)) l
theorem B7v (w : World) (v : Value) (l : List E6) (id : Int) (hn : l.length ≤ 1000000) (hv : G1 w v l.length (l.flatMap J0)) :
  Fn PR B8 237 #[v, .int .i64 id] w (fun r w' => r = .int .i64 (N6 l id) ∧ C7 [] w w') := by
 refine Fn.pure (B7e (TW.go (κ := false) (S := []) ?_))
 unfold A9C
 refine H2 B3W (fun w' _ => C3J w' id) ?_
 rintro b _ rfl
 refine C1 c9 (fun w' hw' => B5F w' v l (fun x => decide (x.1 = id)) 286 [.pointer (some ⟨b, 0, none⟩)] hn (hv.ks hw'.ks (by simp)) B0g
  fun w2 h x => C0S w2 x id b (h.cell (by simp) (hw'.cell1 (by (repeat constructor))))) ?_
 exact B0 rfl
def A0P (b : E6) : Bool := decide (1 ≤ b.1 ∧ b.1 ≤ 65535 ∧ 1 ≤ b.2 ∧ b.2 ≤ 16)
def Z3 : List E6 → Bool
 | [] => true
 | b :: l => A0P b && !(l.any fun x => decide (x.1 = b.1)) && Z3 l
def K4 (l : List E6) : Int := if Z3 l && decide (l.length ≤ 32) then 0 else 10
theorem A0u (l : List E6) : Z3 l = true ↔ (∀ b ∈ l, A0P b = true) ∧ l.Pairwise fun a b => a.1 ≠ b.1 := by
 induction l with
 | nil => simp [Z3]
 | cons b l ih =>
  simp only [Z3, Bool.and_eq_true, ih, List.mem_cons, forall_eq_or_imp, List.pairwise_cons, Bool.not_eq_true', List.any_eq_false, decide_eq_true_eq]
  constructor
  ·rintro ⟨⟨h1, h2⟩, h3, h4⟩; exact ⟨⟨h1, h3⟩, fun a ha e => h2 a ha e.symm, h4⟩
  ·rintro ⟨⟨h1, h3⟩, h2, h4⟩; exact ⟨⟨h1, fun a ha e => h2 a ha e.symm⟩, h3, h4⟩
theorem C4q {α : Type} {R : α → α → Prop} {l : List α} (h : l.Pairwise R) {i j : Nat} {x y : α} (hij : i < j) (hx : l[i]? = some x) (hy : l[j]? = some y) : R x y := by
 obtain ⟨h1, rfl⟩ := List.getElem?_eq_some_iff.1 hx
 obtain ⟨h2, rfl⟩ := List.getElem?_eq_some_iff.1 hy
 exact List.pairwise_iff_getElem.1 h i j h1 h2 hij
theorem C5Z {α : Type} {R : α → α → Prop} {l : List α} {i : Nat} {x : α} (hx : l[i]? = some x) : (l.take (i + 1)).Pairwise R ↔ (l.take i).Pairwise R ∧ ∀ y ∈ l.take i, R y x := by
 rw [List.take_add_one, hx]; simp [List.pairwise_append]
theorem A9F (w : World) (v : Value) (l : List E6) (hn : l.length ≤ 1000000) (hv : G1 w v l.length (l.flatMap J0)) :
  Fn PR B8 29 #[v] w (fun r w' => r = .int .i64 (K4 l) ∧ C7 [] w w') := by
 refine Fn.pure (B40 (TW.go (κ := false) (S := []) ?_))
 unfold A8H
 obtain ⟨a, c, rfl, hr⟩ := hv.form
 refine B82 (Value.int .i64) fun r => ?_
 (have zz:=trivial;repeat((first|clear zz|with_reducible first|refine A3 ?_|refine A5 fun _=>?_|refine A4 fun _=>?_);try simp(disch:=first|omega|assumption|((repeat(first|exact A1|exact uH|apply A2|apply uT));first|done|fail)|(simp;first|done|omega|fail))[]))
 refine A2V (α := List (Int × Value)) l.length (fun _ _ => .int .i64 0) (fun _ M => [.pt r (p5 (Value.int .i64) M)]) (fun i M => (∀ k, l9 k M = if (l.take i).any (fun x => decide (x.1 = k)) then some (.bool true) else none) ∧ Z3 (l.take i) = true) [] (by simp [l9, Z3]) ?_
 rintro i M hi ⟨hM, hok⟩ L hL
 by_cases hlt : i < l.length
 ·obtain ⟨b, o, rfl, hrow⟩ := hr (by omega)
  obtain ⟨x, hx⟩ : ∃ x, l[i]? = some x := ⟨_, List.getElem?_eq_getElem (by omega)⟩
  have h1 := hrow.at (f := J0) (k := 2) (fun _ => rfl) hx
  rw [J0] at h1
  have hxm : x ∈ l := List.mem_of_getElem? hx
  (have zz:=trivial;repeat((first|clear zz|with_reducible first|refine A3 ?_|refine A5 fun _=>?_|refine A4 fun _=>?_);try simp(disch:=first|omega|assumption|((repeat(first|exact A1|exact uH|apply A2|apply uT));first|done|fail)|(simp;first|done|omega|fail))[hlt, h1]))
  rw [B1W C45 ty4 (KeyT.int K3) (l := M) (by (repeat constructor)), hM]
  cases hseen : (l.take i).any (fun y => decide (y.1 = x.1)) with
  | true =>
   have hbad : K4 l = 10 := by
    have : Z3 l = false := by
     rw [← Bool.not_eq_true, A0u]
     rintro ⟨_, h⟩
     obtain ⟨y, hy, he⟩ := List.any_eq_true.1 hseen
     obtain ⟨j, hj, rfl⟩ := List.getElem_of_mem hy
     simp only [List.length_take] at hj
     exact C4q (i := j) (j := i) h (by omega) (List.getElem?_eq_getElem (by omega)) hx (by simpa using he)
    simp [K4, this]
   (have zz:=trivial;repeat((first|clear zz|with_reducible first|refine A3 ?_|refine A5 fun _=>?_|refine A4 fun _=>?_);try simp(disch:=first|omega|assumption|((repeat(first|exact A1|exact uH|apply A2|apply uT));first|done|fail)|(simp;first|done|omega|fail))[]))
   exact B0 (by rw [hbad])
  | false =>
   simp only [Bool.false_eq_true, if_false, Option.getD_none]
   (have zz:=trivial;repeat((first|clear zz|with_reducible first|refine A3 ?_|refine A5 fun _=>?_|refine A4 fun _=>?_|refine D6 fun _=>?_|refine D3 (hK:=fun _=>?_)|refine D7 (hK:=fun _=>?_)|refine D8 (hK:=fun _=>?_)|refine D5 (hK:=fun _=>?_)|refine D4 (hK:=fun _=>?_));try simp(disch:=first|omega|assumption|((repeat(first|exact A1|exact uH|apply A2|apply uT));first|done|fail)|(simp;first|done|omega|fail))[bd2]))
   rename_i bs bx
   refine C1 (u := .bool (A0P x)) B2m (fun w' hw' => ?_) ?_
   ·have := C1K w' (.slice (some ⟨bx, 0, none⟩) 2 2) [(x.1, 65535), (x.2, 16)] (by simp) (by simpa [J0] using P6.own (κ := false) (S := []) (w0 := w) (e := 158) (k := 2) (q := 2) (v := .slice (some ⟨bx, 0, none⟩) 2 2) (by (repeat constructor)) w' hw')
    have e : (!([(x.1, 65535), (x.2, 16)] : List (Int × Int)).any fun x => decide (x.1 < 1 ∨ x.2 < x.1)) = A0P x := by
     rw [Bool.eq_iff_iff]; simp [A0P]; omega
    rw [e] at this
    exact this
   ·cases hbk : A0P x with
    | false =>
     have hbad : K4 l = 10 := by
      have : Z3 l = false := by
       rw [← Bool.not_eq_true, A0u]
       rintro ⟨h, _⟩
       rw [h x hxm] at hbk; cases hbk
      simp [K4, this]
     (have zz:=trivial;repeat((first|clear zz|with_reducible first|refine A3 ?_|refine A5 fun _=>?_|refine A4 fun _=>?_);try simp(disch:=first|omega|assumption|((repeat(first|exact A1|exact uH|apply A2|apply uT));first|done|fail)|(simp;first|done|omega|fail))[]))
     exact B0 (by rw [hbad])
    | true =>
     (have zz:=trivial;repeat((first|clear zz|with_reducible first|refine A3 ?_|refine A5 fun _=>?_|refine A4 fun _=>?_);try simp(disch:=first|omega|assumption|((repeat(first|exact A1|exact uH|apply A2|apply uT));first|done|fail)|(simp;first|done|omega|fail))[]))
     refine B1w C45 (KeyT.int K3) (k := x.1) (by (repeat constructor)) ?_
     (have zz:=trivial;repeat((first|clear zz|with_reducible first|refine A3 ?_|refine A5 fun _=>?_|refine A4 fun _=>?_);try simp(disch:=first|omega|assumption|((repeat(first|exact A1|exact uH|apply A2|apply uT));first|done|fail)|(simp;first|done|omega|fail))[]))
     refine Sels.tw (by (repeat' constructor)) (hL hlt _ ⟨?_, ?_⟩)
     ·intro k
      rw [C2H, hM, List.take_add_one, hx]
      by_cases hk : k = x.1
      ·subst hk; simp
      ·have hk' : ¬ x.1 = k := fun e => hk e.symm
       have hAB : (l.take i ++ (some x).toList).any (fun x => decide (x.1 = k)) = (l.take i).any (fun x => decide (x.1 = k)) := by
        rw [List.any_append]; simp only [Option.toList_some, List.any_cons, List.any_nil, decide_eq_false hk', Bool.or_false]
       rw [if_neg hk, hAB]
     ·rw [A0u] at hok ⊢
      refine ⟨fun y hy => ?_, (C5Z hx).2 ⟨hok.2, fun y hy e => ?_⟩⟩
      ·rw [List.take_add_one, hx] at hy
       simp only [Option.toList_some, List.mem_append, List.mem_singleton] at hy
       rcases hy with hy | rfl
       ·exact hok.1 y hy
       ·exact hbk
      ·have := List.any_eq_false.1 hseen y hy
       simp [e] at this
 ·obtain rfl : i = l.length := by omega
  rw [List.take_length] at hok
  by_cases c1 : l.length ≤ 32
  ·have c1' : ¬ (32 : Int) < l.length := by omega
   (have zz:=trivial;repeat((first|clear zz|with_reducible first|refine A3 ?_|refine A5 fun _=>?_|refine A4 fun _=>?_);try simp(disch:=first|omega|assumption|((repeat(first|exact A1|exact uH|apply A2|apply uT));first|done|fail)|(simp;first|done|omega|fail))[c1']))
   exact B0 (by simp [K4, hok, c1])
  ·have c1' : (32 : Int) < l.length := by omega
   (have zz:=trivial;repeat((first|clear zz|with_reducible first|refine A3 ?_|refine A5 fun _=>?_|refine A4 fun _=>?_);try simp(disch:=first|omega|assumption|((repeat(first|exact A1|exact uH|apply A2|apply uT));first|done|fail)|(simp;first|done|omega|fail))[c1']))
   exact B0 (by simp [K4, c1])
end Go.Proofs.YtjobgnabneddjaaGreat
namespace Go.Proofs.YtjobgnabneddjaaGreat
open Go
structure CfgV where
 wk : Int
 sh : Int
 cp : Int
 idle : Int
 sl : Int
 deriving DecidableEq
def CfgV.val (c : CfgV) : Value := .agg #[.int .i64 c.wk, .int .i64 c.sh, .int .i64 c.cp, .int .i64 c.idle, .int .i64 c.sl]
def W0 (n lo hi : Int) : Bool := decide (lo ≤ n) && decide (n ≤ hi)
def M7 (c : CfgV) : Bool := W0 c.wk 1 64 && W0 c.sh 1 16 && W0 c.cp 1 64 && W0 c.idle 0 1000000 && W0 c.sl 2 8
structure AnsV where
 err : Int
 bk : Int
 made : Bool
 count : Int
 deriving DecidableEq
def AnsV.val (a : AnsV) : Value := .agg #[.int .i64 a.err, .int .i64 a.bk, .bool a.made, .int .i64 a.count]
structure OpV where
 kind : Int
 packet : ByteArray
 pool : List E6
 shard : Int
def OpV.val (o : OpV) (v : Value) : Value := .agg #[.int .i64 o.kind, .string o.packet, v, .int .i64 o.shard]
end Go.Proofs.YtjobgnabneddjaaGreat
namespace Go.Proofs.YtjobgnabneddjaaGreat
open Go
def A78 (X : Nat → Prop) (t0 t1 : Value) (R : Value → WP) : WP :=
 B2 PR X (Instr.box 9 t1) fun t3 =>
 B2 PR X (Instr.alloc 3 true (.tuple #[])) fun t5 =>
 C0 PR X (Instr.storeAt 3 t5 (.int .i64 (-1))) <|
 jn (n := 0) (
 A6 PR (Instr.loadAt 3 t5) fun t28 =>
 d9 (R t28)) fun J1 =>
 A6 PR (Instr.loadAt 9 t3) fun t9 =>
 B4 PR X 179 [t0, t9] fun t10 =>
 rng (N := 2) PR X (fun t11 t12 K2 =>
 B2 PR (fun _ => False) (Instr.alloc 218 true (.tuple #[])) fun t7 =>
 C0 PR (fun _ => False) (Instr.storeAt 218 t7 t12) <|
 bgn <|
 A0 PR (Instr.fieldAt 218 t7 0) fun t14 =>
 A6 PR (Instr.loadAt 3 t14) fun t15 =>
 A0 PR (binOp .eql 3 t15 (.int .i64 0)) fun t16 =>
 C4 t16 (
 K2 (some (.exit 0))) (
 A0 PR (Instr.fieldAt 218 t7 0) fun t18 =>
 A6 PR (Instr.loadAt 3 t18) fun t19 =>
 A0 PR (binOp .eql 3 t19 (.int .i64 1)) fun t20 =>
 gj t20 true (fun J => A0 PR (Instr.fieldAt 218 t7 1) J) fun t22 =>
 gj t20 true (fun J => A6 PR (Instr.loadAt 9 t22) J) fun t23 =>
 gj t20 true (fun J => A6 PR (Instr.loadAt 9 t3) J) fun t24 =>
 gj t20 true (fun J => A0 PR (binOp .eql 9 t23 t24) J) fun t25 =>
 A0 PR (do pure (if ← asBool t20 then t25 else (.bool false))) fun t26 =>
 C4 t26 (
 C0 PR (fun _ => False) (Instr.storeAt 3 t5 t11) <|
 K2 (some (.exit 0))) (
 K2 none))) t10 (fun j => match j with | none => (J1) | some (.exit i) => (match Nat.beq i 0 with | true => (J1) | false => (G2)) | some .ret => (d9 (R (.int .i64 0))) | some _ => G2)
theorem v6 : A9 PR 133 := A7 Tryz.func133 (by kernel_rfl) rfl
theorem B5P {X : Nat → Prop} {t0 t1 : Value} {R : Value → WP} {w : World} (h : A78 X t0 t1 R w) : Fn PR X 133 #[t0, t1] w R := C3 (args := [t0, t1]) mixed Tryz.func133 (by kernel_rfl) h
def A9r (X : Nat → Prop) (t0 t1 : Value) (R : Value → WP) : WP :=
 B2 PR X (Instr.box 84 t0) fun t2 =>
 B2 PR X (Instr.box 9 t1) fun t3 =>
 A0 PR (Instr.makeFunc (.func 235) #[] #[t3, t2]) fun t5 =>
 R t5
theorem A8U : A9 PR 179 := A7 Tryz.func179 (by kernel_rfl) rfl
theorem B6d {X : Nat → Prop} {t0 t1 : Value} {R : Value → WP} {w : World} (h : A9r X t0 t1 R w) : Fn PR X 179 #[t0, t1] w R := C3 (args := [t0, t1]) mixed Tryz.func179 (by kernel_rfl) h
def A6p (X : Nat → Prop) (t0 t1 : Value) (R : Value → WP) : WP :=
 B2 PR X (Instr.box 3 t1) fun t3 =>
 A0 PR (Instr.makeFunc (.func 241) #[] #[t3]) fun t6 =>
 B4 PR X 240 [t0, t6] fun t7 =>
 R t7
theorem B2B : A9 PR 186 := A7 Tryz.func186 (by kernel_rfl) rfl
theorem B3j {X : Nat → Prop} {t0 t1 : Value} {R : Value → WP} {w : World} (h : A6p X t0 t1 R w) : Fn PR X 186 #[t0, t1] w R := C3 (args := [t0, t1]) mixed Tryz.func186 (by kernel_rfl) h
def A5S (X : Nat → Prop) (t0 t1 t2 : Value) (R : Value → WP) : WP :=
 A6 PR (Instr.loadAt 9 t1) fun t7 =>
 A6 PR (Instr.loadAt 84 t2) fun t8 =>
 A0 PR (A8 .len #[84] 0 [t8]) fun t9 =>
 B4 PR X 236 [t7, t9] fun t10 =>
 A6 PR (Instr.loadAt 84 t2) fun t11 =>
 A0 PR (A8 .len #[84] 0 [t11]) fun t12 =>
 lp (n := 1) (fun L1 t13 =>
 A0 PR (binOp .lss 3 t13 t12) fun t14 =>
 jn (n := 0) (
 jn (n := 0) (
 A0 PR (binOp .add 3 t13 (.int .i64 1)) fun t30 =>
 L1 t30) fun J2 =>
 A0 PR (binOp .add 3 t10 t13) fun t18 =>
 A6 PR (Instr.loadAt 84 t2) fun t19 =>
 A0 PR (A8 .len #[84] 0 [t19]) fun t20 =>
 A0 PR (binOp .rem 3 t18 t20) fun t21 =>
 A6 PR (Instr.loadAt 84 t2) fun t24 =>
 A0 PR (Instr.indexAt 84 t24 t21) fun t26 =>
 A6 PR (Instr.loadAt 218 t26) fun t27 =>
 L5 PR X t0 [t21, t27] fun t28 =>
 A0 PR (Op.unary .not t28) fun t29 =>
 C4 t29 (
 R (.tuple #[])) (
 J2)) fun J3 =>
 C4 t14 (
 J3) (
 R (.tuple #[]))) (.int .i64 0)
theorem B1L : A9 PR 235 := A7 Tryz.func235 (by kernel_rfl) rfl
theorem B2e {X : Nat → Prop} {t0 t1 t2 : Value} {R : Value → WP} {w : World} (h : A5S X t0 t1 t2 R w) : Fn PR X 235 #[t0, t1, t2] w R := C3 (args := [t0, t1, t2]) mixed Tryz.func235 (by kernel_rfl) h
theorem B23 {X : Nat → Prop} {t0 t1 t2 : Value} {K : Value → WP} {w : World} (h : Fn PR X 235 #[t0, t1, t2] w K) : A00 PR X 235 [t0, t1, t2] K w := ⟨B1L, h⟩
def A75 (X : Nat → Prop) (t0 t1 : Value) (R : Value → WP) : WP :=
 jn (n := 1) (fun t4 =>
 B4 PR X 135 [t0] fun t8 =>
 A0 PR (convert 3 89 t1) fun t10 =>
 A0 PR (binOp .rem 89 t8 t10) fun t11 =>
 A0 PR (convert 89 3 t11) fun t12 =>
 R t12) fun J1 =>
 A0 PR (binOp .lss 3 t1 (.int .i64 1)) fun t6 =>
 C4 t6 (
 R (.int .i64 0)) (
 J1 (.int .i64 0))
theorem B4D : A9 PR 236 := A7 Tryz.func236 (by kernel_rfl) rfl
theorem B5Q {X : Nat → Prop} {t0 t1 : Value} {R : Value → WP} {w : World} (h : A75 X t0 t1 R w) : Fn PR X 236 #[t0, t1] w R := C3 (args := [t0, t1]) mixed Tryz.func236 (by kernel_rfl) h
def q8 (X : Nat → Prop) (t0 t1 : Value) (R : Value → WP) : WP :=
 jn (n := 2) (fun t5 t10 =>
 R t5) fun J1 =>
 A0 PR (A8 .len #[84] 0 [t0]) fun t9 =>
 lp (n := 2) (fun L2 t5_1 t10_1 =>
 A0 PR (binOp .lss 3 t10_1 t9) fun t11 =>
 jn (n := 0) (
 jn (n := 1) (fun t5_2 =>
 A0 PR (binOp .add 3 t10_1 (.int .i64 1)) fun t19 =>
 L2 t5_2 t19) fun J3 =>
 A0 PR (Instr.indexAt 84 t0 t10_1) fun t12 =>
 A6 PR (Instr.loadAt 218 t12) fun t13 =>
 B2 PR X (Instr.alloc 218 true (.tuple #[])) fun t7 =>
 C0 PR X (Instr.storeAt 218 t7 t13) <|
 A6 PR (Instr.loadAt 218 t7) fun t15 =>
 L5 PR X t1 [t15] fun t16 =>
 C4 t16 (
 A0 PR (binOp .add 3 t5_1 (.int .i64 1)) fun t18 =>
 J3 t18) (
 J3 t5_1)) fun J4 =>
 C4 t11 (
 J4) (
 J1 t5_1 t10_1)) (.int .i64 0) (.int .i64 0)
theorem A3L : A9 PR 240 := A7 Tryz.func240 (by kernel_rfl) rfl
theorem A35 {X : Nat → Prop} {t0 t1 : Value} {R : Value → WP} {w : World} (h : q8 X t0 t1 R w) : Fn PR X 240 #[t0, t1] w R := C3 (args := [t0, t1]) mixed Tryz.func240 (by kernel_rfl) h
def A29 (X : Nat → Prop) (t0 t1 : Value) (R : Value → WP) : WP :=
 B2 PR X (Instr.box 218 t0) fun t2 =>
 A0 PR (Instr.fieldAt 218 t2 0) fun t4 =>
 A6 PR (Instr.loadAt 3 t4) fun t5 =>
 A6 PR (Instr.loadAt 3 t1) fun t6 =>
 A0 PR (binOp .eql 3 t5 t6) fun t7 =>
 R t7
theorem A9c : A9 PR 241 := A7 Tryz.func241 (by kernel_rfl) rfl
theorem B0n {X : Nat → Prop} {t0 t1 : Value} {R : Value → WP} {w : World} (h : A29 X t0 t1 R w) : Fn PR X 241 #[t0, t1] w R := C3 (args := [t0, t1]) mixed Tryz.func241 (by kernel_rfl) h
def A8E (X : Nat → Prop) (t0 t1 : Value) (R : Value → WP) : WP :=
 B2 PR X (Instr.alloc 3 true (.tuple #[])) fun t4 =>
 jn (n := 0) (
 jn (n := 0) (
 C0 PR X (Instr.storeAt 3 t4 (.int .i64 (-1))) <|
 d9 (A6 PR (F8 [.c 3 t4]) R)) fun J1 =>
 B4 PR X 179 [t0, t1] fun t13 =>
 rng (N := 2) PR X (fun t14 t15 K2 =>
 B2 PR (fun _ => False) (Instr.alloc 218 true (.tuple #[])) fun t6 =>
 C0 PR (fun _ => False) (Instr.storeAt 218 t6 t15) <|
 bgn <|
 A0 PR (Instr.fieldAt 218 t6 0) fun t16 =>
 A6 PR (Instr.loadAt 3 t16) fun t17 =>
 A0 PR (binOp .neq 3 t17 (.int .i64 1)) fun t18 =>
 C4 t18 (
 C0 PR (fun _ => False) (Instr.storeAt 3 t4 t14) <|
 K2 (some .ret)) (
 K2 none)) t13 (fun j => match j with | none => (J1) | some (.exit i) => (match Nat.beq i 0 with | true => (J1) | false => (G2)) | some .ret => (d9 (A6 PR (F8 [.c 3 t4]) R)) | some _ => G2)) fun J3 =>
 B4 PR X 133 [t0, t1] fun t9 =>
 A0 PR (binOp .geq 3 t9 (.int .i64 0)) fun t10 =>
 C4 t10 (
 C0 PR X (Instr.storeAt 3 t4 (.int .i64 (-1))) <|
 d9 (A6 PR (F8 [.c 3 t4]) R)) (
 J3)
theorem B3g : A9 PR 242 := A7 Tryz.func242 (by kernel_rfl) rfl
theorem B5K {X : Nat → Prop} {t0 t1 : Value} {R : Value → WP} {w : World} (h : A8E X t0 t1 R w) : Fn PR X 242 #[t0, t1] w R := C3 (args := [t0, t1]) mixed Tryz.func242 (by kernel_rfl) h
end Go.Proofs.YtjobgnabneddjaaGreat
namespace Go.Proofs.YtjobgnabneddjaaGreat
open Go
def B2g (X : Nat → Prop) (t0 : Value) (R : Value → WP) : WP :=
 B4 PR X 183 [(.int .u64 14695981039346656037), t0] fun t4 =>
 R t4
theorem A2N : A9 PR 135 := A7 Tryz.func135 (by kernel_rfl) rfl
theorem B86 {X : Nat → Prop} {t0 : Value} {R : Value → WP} {w : World} (h : B2g X t0 R w) : Fn PR X 135 #[t0] w R := C3 (args := [t0]) mixed Tryz.func135 (by kernel_rfl) h
def B0y (X : Nat → Prop) (t0 t1 : Value) (R : Value → WP) : WP :=
 B2 PR X (Instr.alloc 368 true (.tuple #[])) fun t5 =>
 B2 PR X (Instr.alloc 370 true (.tuple #[])) fun t6 =>
 C0 PR X (Instr.storeAt 368 t5 (.func (.func 238) #[] #[])) <|
 C0 PR X (Instr.storeAt 370 t6 t0) <|
 jn (n := 0) (
 A6 PR (Instr.loadAt 370 t6) fun t16 =>
 d9 (R t16)) fun J1 =>
 B4 PR X 239 [t1] fun t10 =>
 rng (N := 1) PR X (fun t11 K2 =>
 bgn <|
 A6 PR (Instr.loadAt 368 t5) fun t12 =>
 A6 PR (Instr.loadAt 370 t6) fun t13 =>
 L5 PR (fun _ => False) t12 [t13, t11] fun t15 =>
 C0 PR (fun _ => False) (Instr.storeAt 370 t6 t15) <|
 K2 none) t10 (fun j => match j with | none => (J1) | some (.exit i) => (match Nat.beq i 0 with | true => (J1) | false => (G2)) | some .ret => (d9 (R (.int .u64 0))) | some _ => G2)
theorem B0C : A9 PR 183 := A7 Tryz.func183 (by kernel_rfl) rfl
theorem B74 {X : Nat → Prop} {t0 t1 : Value} {R : Value → WP} {w : World} (h : B0y X t0 t1 R w) : Fn PR X 183 #[t0, t1] w R := C3 (args := [t0, t1]) mixed Tryz.func183 (by kernel_rfl) h
def A56 (X : Nat → Prop) (t0 t1 : Value) (R : Value → WP) : WP :=
 A0 PR (convert 5 370 t1) fun t7 =>
 A0 PR (binOp .xor 370 t0 t7) fun t8 =>
 A0 PR (binOp .mul 370 t8 (.int .u64 1099511628211)) fun t9 =>
 R t9
theorem B2v : A9 PR 238 := A7 Tryz.func238 (by kernel_rfl) rfl
theorem B3e {X : Nat → Prop} {t0 t1 : Value} {R : Value → WP} {w : World} (h : A56 X t0 t1 R w) : Fn PR X 238 #[t0, t1] w R := C3 (args := [t0, t1]) mixed Tryz.func238 (by kernel_rfl) h
def B1A (X : Nat → Prop) (t0 : Value) (R : Value → WP) : WP :=
 B2 PR X (Instr.box 9 t0) fun t1 =>
 A0 PR (Instr.makeFunc (.func 268) #[] #[t1]) fun t3 =>
 R t3
theorem B6a : A9 PR 239 := A7 Tryz.func239 (by kernel_rfl) rfl
theorem B7u {X : Nat → Prop} {t0 : Value} {R : Value → WP} {w : World} (h : B1A X t0 R w) : Fn PR X 239 #[t0] w R := C3 (args := [t0]) mixed Tryz.func239 (by kernel_rfl) h
def A6T (X : Nat → Prop) (t0 t1 : Value) (R : Value → WP) : WP :=
 A6 PR (Instr.loadAt 9 t1) fun t4 =>
 A0 PR (A8 .len #[9] 0 [t4]) fun t5 =>
 lp (n := 1) (fun L1 t6 =>
 A0 PR (binOp .lss 3 t6 t5) fun t7 =>
 jn (n := 0) (
 jn (n := 0) (
 A0 PR (binOp .add 3 t6 (.int .i64 1)) fun t15 =>
 L1 t15) fun J2 =>
 A6 PR (Instr.loadAt 9 t1) fun t10 =>
 A0 PR (Instr.index 9 t10 t6) fun t12 =>
 L5 PR X t0 [t12] fun t13 =>
 A0 PR (Op.unary .not t13) fun t14 =>
 C4 t14 (
 R (.tuple #[])) (
 J2)) fun J3 =>
 C4 t7 (
 J3) (
 R (.tuple #[]))) (.int .i64 0)
theorem B2n : A9 PR 268 := A7 Tryz.func268 (by kernel_rfl) rfl
theorem B3s {X : Nat → Prop} {t0 t1 : Value} {R : Value → WP} {w : World} (h : A6T X t0 t1 R w) : Fn PR X 268 #[t0, t1] w R := C3 (args := [t0, t1]) mixed Tryz.func268 (by kernel_rfl) h
theorem B4F {X : Nat → Prop} {t0 t1 : Value} {K : Value → WP} {w : World} (h : Fn PR X 268 #[t0, t1] w K) : A00 PR X 268 [t0, t1] K w := ⟨B2n, h⟩
end Go.Proofs.YtjobgnabneddjaaGreat
namespace Go.Proofs.YtjobgnabneddjaaGreat
open Go
def B37 (h b : Nat) : Nat := ((h ^^^ b) * 1099511628211) % 18446744073709551616
def B3d (h : Nat) (s : ByteArray) : Nat → Nat
 | 0 => h
 | i + 1 => B37 (B3d h s i) (F6 s i)
def B91 (h : Nat) (s : ByteArray) : Nat := B3d h s s.size
def Y4 (s : ByteArray) : Nat := B91 14695981039346656037 s
theorem C5a (h b : Nat) : B37 h b < 2 ^ 64 := by unfold B37; omega
theorem B8a {h : Nat} (hh : h < 2 ^ 64) (s : ByteArray) (i : Nat) : B3d h s i < 2 ^ 64 := by
 cases i with
 | zero => exact hh
 | succ i => exact C5a _ _
theorem C8g (w : World) (h b : Nat) (hh : h < 2 ^ 64) (hb : b < 256) : Fn PR B8 238 #[.int .u64 (h : Int), .int .u8 (b : Int)] w (fun v w' => v = .int .u64 (B37 h b : Nat) ∧ C7 [] w w') := by
 refine Fn.pure (B3e (TW.go (κ := false) (S := []) ?_))
 unfold A56
 (have zz:=trivial;repeat((first|clear zz|with_reducible first|refine A3 ?_|refine A5 fun _=>?_|refine A4 fun _=>?_);try simp(disch:=first|omega|assumption|((repeat(first|exact A1|exact uH|apply A2|apply uT));first|done|fail)|(simp;first|done|omega|fail))[]))
 have e1 : (h % 2 ^ IntKind.u64.bits ^^^ b % 2 ^ IntKind.u64.bits) = h ^^^ b := by rw [show (2 : Nat) ^ IntKind.u64.bits = 2 ^ 64 from rfl, Nat.mod_eq_of_lt hh, Nat.mod_eq_of_lt (by omega)]
 have e2 : h ^^^ b < 2 ^ 64 := Nat.xor_lt_two_pow hh (by omega)
 rw [e1, A1v (n := ((h ^^^ b : Nat) : Int)) (by omega) (by omega)]
 refine B0 ?_
 have e3 : IntKind.u64.wrap (((h ^^^ b : Nat) : Int) * 1099511628211) = (B37 h b : Nat) := by
  simp only [IntKind.wrap, IntKind.bits, IntKind.signed, B37]
  simp
 rw [e3]
abbrev C46 (b : Nat) : Value := .func (.func 268) #[] #[.pointer (some ⟨b, 0, none⟩)]
theorem C59 (w : World) (s : ByteArray) : Fn PR B8 239 #[.string s] w (Rn [] w (fun b v => v = C46 b) fun b => [.pt b (.cells #[.string s] 9)]) := by
 refine B7u (TW.go (κ := false) (S := []) ?_)
 unfold B1A
 (have zz:=trivial;repeat((first|clear zz|with_reducible first|refine A3 ?_|refine A5 fun _=>?_|refine A4 fun _=>?_);try simp(disch:=first|omega|assumption|((repeat(first|exact A1|exact uH|apply A2|apply uT));first|done|fail)|(simp;first|done|omega|fail))[]))
 rename_i b
 exact j1 b rfl (by simp)
def B5n (s : ByteArray) (i : Nat) : List Value := [.int .u8 (F6 s i : Nat)]
theorem C5L (b : Nat) (s : ByteArray) (hs : s.size < 2 ^ 60) : A5A (C46 b) [.pt b (.cells #[.string s] 9)] (fun _ _ => True) ((List.range s.size).map (B5n s)) := by
 refine ⟨_, _, _, rfl, fun l J E hJ hE stJ stE hy w0 h0 => ?_⟩
 refine B4F (B3s (TW.at (κ := true) ?_ (hJ _ _ _ h0).1))
 unfold A6T
 (have zz:=trivial;repeat((first|clear zz|with_reducible first|refine A3 ?_|refine A5 fun _=>?_|refine A4 fun _=>?_);try simp(disch:=first|omega|assumption|((repeat(first|exact A1|exact uH|apply A2|apply uT));first|done|fail)|(simp;first|done|omega|fail))[]))
 refine A2z s.size (fun i => i) (fun _ => _) hJ stJ h0 fun i a hi hJi _ L hL => ?_
 by_cases hlt : i < s.size
 ·obtain ⟨by0, hb0, hb1⟩ := A0T (s := s) (i := i) hlt
  have hb0' : s[((i : Nat) : Int).toNat]? = some by0 := by rw [Int.toNat_natCast]; exact hb0
  (have zz:=trivial;repeat((first|clear zz|with_reducible first|refine A3 ?_|refine A5 fun _=>?_|refine A4 fun _=>?_);try simp(disch:=first|omega|assumption|((repeat(first|exact A1|exact uH|apply A2|apply uT));first|done|fail)|(simp;first|done|omega|fail))[hlt, a6]))
  rw [hb1]
  refine A7b hJ hE stJ hy hJi (by simpa using hlt) (by simp [B5n]) (fun w3 h => ?_) (fun w3 h => ?_)
  ·(have zz:=trivial;repeat((first|clear zz|with_reducible first|refine A3 ?_|refine A5 fun _=>?_|refine A4 fun _=>?_);try simp(disch:=first|omega|assumption|((repeat(first|exact A1|exact uH|apply A2|apply uT));first|done|fail)|(simp;first|done|omega|fail))[]))
   exact fun w' hw' => hL hlt w' (stJ _ _ _ _ _ h hw')
  ·(have zz:=trivial;repeat((first|clear zz|with_reducible first|refine A3 ?_|refine A5 fun _=>?_|refine A4 fun _=>?_);try simp(disch:=first|omega|assumption|((repeat(first|exact A1|exact uH|apply A2|apply uT));first|done|fail)|(simp;first|done|omega|fail))[]))
   exact A4K stE h
 ·obtain rfl : i = s.size := by omega
  (have zz:=trivial;repeat((first|clear zz|with_reducible first|refine A3 ?_|refine A5 fun _=>?_|refine A4 fun _=>?_);try simp(disch:=first|omega|assumption|((repeat(first|exact A1|exact uH|apply A2|apply uT));first|done|fail)|(simp;first|done|omega|fail))[]))
  exact A4B stJ (by simpa using hJi)
theorem B8U (w : World) (h : Nat) (s : ByteArray) (hh : h < 2 ^ 64) (hs : s.size < 2 ^ 60) : Fn PR B8 183 #[.int .u64 (h : Int), .string s] w (fun v w' => v = .int .u64 (B91 h s : Nat) ∧ C7 [] w w') := by
 refine Fn.pure (B74 (TW.go (κ := false) (S := []) ?_))
 unfold B0y
 (have zz:=trivial;repeat((first|clear zz|with_reducible first|refine A3 ?_|refine A5 fun _=>?_|refine A4 fun _=>?_);try simp(disch:=first|omega|assumption|((repeat(first|exact A1|exact uH|apply A2|apply uT));first|done|fail)|(simp;first|done|omega|fail))[]))
 rename_i bf bx
 refine H2 B6a (fun w' _ => C59 w' s) ?_
 rintro b v rfl
 refine A2E (C5L b s hs) (by simp [B5n]) (fun _ (_ : Unit) => True) (fun i _ => [.pt bx (.cells #[.int .u64 ((B3d h s i : Nat) : Int)] 370), .pt bf (.cells #[.func (.func 238) #[] #[]] 368)])
  (fun _ (_ : Unit) => False) (fun _ => []) () trivial ?_ ?_ ?_ ?_ (by simp [B3d])
 ·intros; trivial
 ·rintro i hi _ F _ K' hK _
  simp only [List.getElem_map, List.getElem_range, B5n, VF.app]
  (have zz:=trivial;repeat((first|clear zz|with_reducible first|refine A3 ?_|refine A5 fun _=>?_|refine A4 fun _=>?_);try simp(disch:=first|omega|assumption|((repeat(first|exact A1|exact uH|apply A2|apply uT));first|done|fail)|(simp;first|done|omega|fail))[]))
  refine C1 B2v (fun w' _ => C8g w' _ _ (B8a hh s i) (A0Z s i)) ?_
  (have zz:=trivial;repeat((first|clear zz|with_reducible first|refine A3 ?_|refine A5 fun _=>?_|refine A4 fun _=>?_);try simp(disch:=first|omega|assumption|((repeat(first|exact A1|exact uH|apply A2|apply uT));first|done|fail)|(simp;first|done|omega|fail))[]))
  exact TW.eqH (by simp [B3d]) (hK () trivial)
 ·rintro _ _
  (have zz:=trivial;repeat((first|clear zz|with_reducible first|refine A3 ?_|refine A5 fun _=>?_|refine A4 fun _=>?_);try simp(disch:=first|omega|assumption|((repeat(first|exact A1|exact uH|apply A2|apply uT));first|done|fail)|(simp;first|done|omega|fail))[]))
  exact B0 (by simp [B91])
 ·rintro _ _ h; exact h.elim
theorem A45 (w : World) (s : ByteArray) (hs : s.size < 2 ^ 60) : Fn PR B8 135 #[.string s] w (fun v w' => v = .int .u64 (Y4 s : Nat) ∧ C7 [] w w') := by
 refine Fn.pure (B86 (TW.go (κ := false) (S := []) ?_))
 unfold B2g
 refine C1 B0C (fun w' _ => B8U w' 14695981039346656037 s (by omega) hs) ?_
 exact B0 rfl
end Go.Proofs.YtjobgnabneddjaaGreat
namespace Go.Proofs.YtjobgnabneddjaaGreat
open Go
def N3 (key : ByteArray) (n : Nat) : Nat := Y4 key % n
theorem B3c (s : ByteArray) : Y4 s < 2 ^ 64 := B8a (by omega) s _
theorem C5M (w : World) (key : ByteArray) (n : Nat) (hk : key.size < 2 ^ 60) (hn : n ≤ 1000000) : Fn PR B8 236 #[.string key, .int .i64 (n : Int)] w (fun v w' => v = .int .i64 (if n = 0 then 0 else N3 key n : Nat) ∧ C7 [] w w') := by
 refine Fn.pure (B5Q (TW.go (κ := false) (S := []) ?_))
 unfold A75
 by_cases c1 : n = 0
 ·have c1' : (n : Int) < 1 := by omega
  (have zz:=trivial;repeat((first|clear zz|with_reducible first|refine A3 ?_|refine A5 fun _=>?_|refine A4 fun _=>?_);try simp(disch:=first|omega|assumption|((repeat(first|exact A1|exact uH|apply A2|apply uT));first|done|fail)|(simp;first|done|omega|fail))[c1']))
  exact B0 (by simp [c1])
 have c1' : ¬ (n : Int) < 1 := by omega
 have c1'' : ¬ (n : Int) = 0 := by omega
 (have zz:=trivial;repeat((first|clear zz|with_reducible first|refine A3 ?_|refine A5 fun _=>?_|refine A4 fun _=>?_);try simp(disch:=first|omega|assumption|((repeat(first|exact A1|exact uH|apply A2|apply uT));first|done|fail)|(simp;first|done|omega|fail))[c1']))
 refine C1 A2N (fun w' _ => A45 w' key hk) ?_
 have hl := B3c key
 have hm : N3 key n < n := Nat.mod_lt _ (by omega)
 have e1 : ((Y4 key : Nat) : Int).tmod n = (N3 key n : Nat) := by unfold N3; rw [Int.tmod_eq_emod_of_nonneg (by omega)]; omega
 have e2 : ((Y4 key : Nat) : Int) % n = (N3 key n : Nat) := by unfold N3; omega
 (have zz:=trivial;repeat((first|clear zz|with_reducible first|refine A3 ?_|refine A5 fun _=>?_|refine A4 fun _=>?_);try simp(disch:=first|omega|assumption|((repeat(first|exact A1|exact uH|apply A2|apply uT));first|done|fail)|(simp;first|done|omega|fail))[c1'', e1, B2N]))
 exact B0 (by simp [c1])
def noE : EnV := ⟨0, L9, 0, 0⟩
def U2 (l : List EnV) (key : ByteArray) : List (Nat × EnV) := (List.range l.length).map fun i => ((N3 key l.length + i) % l.length, l.getD ((N3 key l.length + i) % l.length) noE)
def A5m (p : Nat × EnV) : List Value := [.int .i64 (p.1 : Nat), .agg #[.int .i64 p.2.st, .string p.2.key, .int .i64 p.2.bk, .int .i64 p.2.dl]]
abbrev C7e (x : Nat × Nat) : Value := .func (.func 235) #[] #[.pointer (some ⟨x.1, 0, none⟩), .pointer (some ⟨x.2, 0, none⟩)]
abbrev B66 (x : Nat × Nat) (v : Value) (key : ByteArray) : List Res := [.pt x.1 (.cells #[.string key] 9), .pt x.2 (.cells #[v] 84)]
theorem C12 (w : World) (v : Value) (key : ByteArray) (hv : ∃ a n c, v = .slice a n c) : Fn PR B8 179 #[v, .string key] w (Rn [] w (fun x u => u = C7e x) fun x => B66 x v key) := by
 obtain ⟨a, n, c, rfl⟩ := hv
 refine B6d (TW.go (κ := false) (S := []) ?_)
 unfold A9r
 (have zz:=trivial;repeat((first|clear zz|with_reducible first|refine A3 ?_|refine A5 fun _=>?_|refine A4 fun _=>?_);try simp(disch:=first|omega|assumption|((repeat(first|exact A1|exact uH|apply A2|apply uT));first|done|fail)|(simp;first|done|omega|fail))[]))
 rename_i b1 b2
 exact B1 (b2, b1) rfl (by (repeat' constructor))
def RqS (v : Value) (n : Nat) (xs : List Value) (F : List Res) (w : World) : Prop := ∃ a c, v = .slice a n c ∧ (0 < n → ∃ b o, a = some ⟨b, o, none⟩ ∧ N1 w b o xs ∧ b ∉ B5 F)
theorem RqS.of {v : Value} {n : Nat} {xs : List Value} {w0 w : World} {A F : List Res} (h : G1 w0 v n xs) (hx : 0 < n → 0 < xs.length) (hw : LW false [] w0 (A ++ F) w) : RqS v n xs F w := by
 obtain ⟨a, c, rfl, hr⟩ := h.form
 refine ⟨a, c, rfl, fun hn => ?_⟩
 obtain ⟨b, o, rfl, hrow⟩ := hr hn
 refine ⟨b, o, rfl, hw.ks.row (by simp) hrow, hw.notin_old ?_ (by simp)⟩
 have h0 := hrow 0 (hx hn)
 rw [List.getElem?_eq_getElem (hx hn)] at h0
 obtain ⟨c', t', z', h1, h2⟩ := q6 h0
 exact H7 h1
theorem A0n (l : List EnV) : (l.flatMap H0).length = l.length * 4 := by
 induction l with
 | nil => rfl
 | cons x l ih => rw [List.flatMap_cons, List.length_append, ih]; simp [H0]; omega
theorem C1T (x : Nat × Nat) (v : Value) (l : List EnV) (key : ByteArray) (hk : key.size < 2 ^ 60) (hn : l.length ≤ 1000000) : A5A (C7e x) (B66 x v key) (RqS v l.length (l.flatMap H0)) ((U2 l key).map A5m) := by
 obtain ⟨bk, bt⟩ := x
 refine ⟨_, _, _, rfl, fun y J E hJ hE stJ stE hy w0 h0 => ?_⟩
 obtain ⟨a, c, hv, hr⟩ := (hJ _ _ _ h0).2
 subst hv
 refine B23 (B2e (TW.at (κ := true) ?_ (hJ _ _ _ h0).1))
 unfold A5S
 simp only [B66]
 (have zz:=trivial;repeat((first|clear zz|with_reducible first|refine A3 ?_|refine A5 fun _=>?_|refine A4 fun _=>?_);try simp(disch:=first|omega|assumption|((repeat(first|exact A1|exact uH|apply A2|apply uT));first|done|fail)|(simp;first|done|omega|fail))[]))
 refine C1 B4D (fun w' _ => C5M w' key l.length hk hn) ?_
 (have zz:=trivial;repeat((first|clear zz|with_reducible first|refine A3 ?_|refine A5 fun _=>?_|refine A4 fun _=>?_);try simp(disch:=first|omega|assumption|((repeat(first|exact A1|exact uH|apply A2|apply uT));first|done|fail)|(simp;first|done|omega|fail))[]))
 refine A2z l.length (fun i => i) (fun _ => _) hJ stJ h0 fun i a' hi hJi hRi L hL => ?_
 by_cases hlt : i < l.length
 ·obtain ⟨_, _, hv, hr⟩ := hRi
  obtain ⟨b, o, hb, hrow, hnb⟩ := hr (by omega)
  cases hv
  have hh : N3 key l.length < l.length := Nat.mod_lt _ (by omega)
  have e0 : (if l.length = 0 then 0 else N3 key l.length) = N3 key l.length := if_neg (by omega)
  have hj : (N3 key l.length + i) % l.length < l.length := Nat.mod_lt _ (by omega)
  have hx : l[(N3 key l.length + i) % l.length]? = some (l.getD ((N3 key l.length + i) % l.length) noE) := by
   rw [List.getD_eq_getElem?_getD, List.getElem?_eq_getElem hj]; rfl
  have h1 := hrow.at (f := H0) (k := 4) (fun _ => rfl) hx
  have e1 : (((N3 key l.length : Nat) : Int) + (i : Nat)).tmod l.length = ((N3 key l.length + i) % l.length : Nat) := by rw [Int.tmod_eq_emod_of_nonneg (by omega), Int.natCast_emod, Int.natCast_add]
  have hwi : ∀ h, ((U2 l key).map A5m)[i]'h = A5m ((N3 key l.length + i) % l.length, l.getD ((N3 key l.length + i) % l.length) noE) := by
   intro h; simp only [List.getElem_map, U2, List.getElem_range]
  generalize hjd : (N3 key l.length + i) % l.length = j at *
  generalize hxd : l.getD j noE = x at *
  rw [H0] at h1
  have hnz : ¬ (l.length : Int) = 0 := by omega
  subst hb
  rw [e0]
  (have zz:=trivial;repeat((first|clear zz|with_reducible first|refine A3 ?_|refine A5 fun _=>?_|refine A4 fun _=>?_);try simp(disch:=first|omega|assumption|((repeat(first|exact A1|exact uH|apply A2|apply uT));first|done|fail)|(simp;first|done|omega|fail))[hlt, e1, h1, hnz, B2N]))
  refine A7b hJ hE stJ hy hJi (by simpa [U2] using hlt) (hwi _) (fun w3 h => ?_) (fun w3 h => ?_)
  ·(have zz:=trivial;repeat((first|clear zz|with_reducible first|refine A3 ?_|refine A5 fun _=>?_|refine A4 fun _=>?_);try simp(disch:=first|omega|assumption|((repeat(first|exact A1|exact uH|apply A2|apply uT));first|done|fail)|(simp;first|done|omega|fail))[]))
   exact fun w' hw' => hL hlt w' (stJ _ _ _ _ _ h hw')
  ·(have zz:=trivial;repeat((first|clear zz|with_reducible first|refine A3 ?_|refine A5 fun _=>?_|refine A4 fun _=>?_);try simp(disch:=first|omega|assumption|((repeat(first|exact A1|exact uH|apply A2|apply uT));first|done|fail)|(simp;first|done|omega|fail))[]))
   exact A4K stE h
 ·obtain rfl : i = l.length := by omega
  (have zz:=trivial;repeat((first|clear zz|with_reducible first|refine A3 ?_|refine A5 fun _=>?_|refine A4 fun _=>?_);try simp(disch:=first|omega|assumption|((repeat(first|exact A1|exact uH|apply A2|apply uT));first|done|fail)|(simp;first|done|omega|fail))[]))
  exact A4B stJ (by simpa [U2] using hJi)
def L0 (key : ByteArray) : List (Nat × EnV) → Int
 | [] => -1
 | p :: r => if p.2.st = 0 then -1 else if p.2.st = 1 ∧ p.2.key = key then p.1 else L0 key r
def E3 (l : List EnV) (key : ByteArray) : Int := L0 key (U2 l key)
theorem B84 {α : Type} {l : List α} {i : Nat} (h : i < l.length) : l.drop i = l[i] :: l.drop (i + 1) := List.drop_eq_getElem_cons h
theorem A7K (L : List (Nat × EnV)) : ∀ x ∈ L.map A5m, x.length = 2 := by
 intro x hx; obtain ⟨p, _, rfl⟩ := List.mem_map.1 hx; rfl
theorem A09 (w : World) (v : Value) (l : List EnV) (key : ByteArray) (hk : key.size < 2 ^ 60) (hn : l.length ≤ 1000000) (hv : G1 w v l.length (l.flatMap H0)) :
  Fn PR B8 133 #[v, .string key] w (fun r w' => r = .int .i64 (E3 l key) ∧ C7 [] w w') := by
 refine Fn.pure (B5P (TW.go (κ := false) (S := []) ?_))
 unfold A78
 (have zz:=trivial;repeat((first|clear zz|with_reducible first|refine A3 ?_|refine A5 fun _=>?_|refine A4 fun _=>?_);try simp(disch:=first|omega|assumption|((repeat(first|exact A1|exact uH|apply A2|apply uT));first|done|fail)|(simp;first|done|omega|fail))[]))
 rename_i bk bf
 refine H2 A8U (fun w' _ => C12 w' v key (by obtain ⟨a, c, rfl, _⟩ := hv.form; exact ⟨a, _, c, rfl⟩)) ?_
 rintro x u rfl
 refine A2E (C1T x v l key hk hn) (A7K _) (fun i (_ : Unit) => L0 key ((U2 l key).drop i) = E3 l key) (fun _ _ => [.pt bf (.cells #[.int .i64 (-1)] 3), .pt bk (.cells #[.string key] 9)])
  (fun c (y : Unit) => c = .exit 0) (fun y => [.pt bf (.cells #[.int .i64 (E3 l key)] 3)]) () rfl ?_ ?_ ?_ ?_ (by simp [B66])
 ·intro i _ F w1 _ hw
  exact RqS.of hv (fun h => by rw [A0n]; omega) hw
 ·rintro i hi _ F hψ K' hK hE
  have hi' : i < (U2 l key).length := by simpa using hi
  rw [B84 hi'] at hψ
  simp only [List.getElem_map]
  generalize (U2 l key)[i] = p at *
  simp only [A5m, VF.app]
  by_cases c0 : p.2.st = 0
  ·(have zz:=trivial;repeat((first|clear zz|with_reducible first|refine A3 ?_|refine A5 fun _=>?_|refine A4 fun _=>?_);try simp(disch:=first|omega|assumption|((repeat(first|exact A1|exact uH|apply A2|apply uT));first|done|fail)|(simp;first|done|omega|fail))[c0]))
   refine TW.sub (hE (.exit 0) () rfl) ?_
   rw [← hψ]
   simp only [L0, c0, if_true]
   ((try simp only [List.cons_append, List.nil_append, List.append_assoc]); (repeat (first | exact List.Sublist.refl _ | exact List.nil_sublist _ | with_reducible apply List.Sublist.cons_cons | apply List.Sublist.cons)); first | done | fail)
  by_cases c1 : p.2.st = 1
  ·by_cases c2 : p.2.key = key
   ·(have zz:=trivial;repeat((first|clear zz|with_reducible first|refine A3 ?_|refine A5 fun _=>?_|refine A4 fun _=>?_);try simp(disch:=first|omega|assumption|((repeat(first|exact A1|exact uH|apply A2|apply uT));first|done|fail)|(simp;first|done|omega|fail))[c0, c1, c2]))
    refine TW.sub (hE (.exit 0) () rfl) ?_
    rw [← hψ]
    simp [L0, c1, c2]
    ((try simp only [List.cons_append, List.nil_append, List.append_assoc]); (repeat (first | exact List.Sublist.refl _ | exact List.nil_sublist _ | with_reducible apply List.Sublist.cons_cons | apply List.Sublist.cons)); first | done | fail)
   ·(have zz:=trivial;repeat((first|clear zz|with_reducible first|refine A3 ?_|refine A5 fun _=>?_|refine A4 fun _=>?_);try simp(disch:=first|omega|assumption|((repeat(first|exact A1|exact uH|apply A2|apply uT));first|done|fail)|(simp;first|done|omega|fail))[c0, c1, c2]))
    refine TW.sub (hK () ?_) (by ((try simp only [List.cons_append, List.nil_append, List.append_assoc]); (repeat (first | exact List.Sublist.refl _ | exact List.nil_sublist _ | with_reducible apply List.Sublist.cons_cons | apply List.Sublist.cons)); first | done | fail))
    rw [← hψ]
    simp [L0, c1, c2]
  ·(have zz:=trivial;repeat((first|clear zz|with_reducible first|refine A3 ?_|refine A5 fun _=>?_|refine A4 fun _=>?_);try simp(disch:=first|omega|assumption|((repeat(first|exact A1|exact uH|apply A2|apply uT));first|done|fail)|(simp;first|done|omega|fail))[c0, c1]))
   refine TW.sub (hK () ?_) (by ((try simp only [List.cons_append, List.nil_append, List.append_assoc]); (repeat (first | exact List.Sublist.refl _ | exact List.nil_sublist _ | with_reducible apply List.Sublist.cons_cons | apply List.Sublist.cons)); first | done | fail))
   rw [← hψ]
   simp [L0, c0, c1]
 ·intro _ hψ
  (have zz:=trivial;repeat((first|clear zz|with_reducible first|refine A3 ?_|refine A5 fun _=>?_|refine A4 fun _=>?_);try simp(disch:=first|omega|assumption|((repeat(first|exact A1|exact uH|apply A2|apply uT));first|done|fail)|(simp;first|done|omega|fail))[]))
  simp only [List.length_map, List.drop_length, L0] at hψ
  exact B0 (by rw [← hψ])
 ·rintro _ _ rfl
  (have zz:=trivial;repeat((first|clear zz|with_reducible first|refine A3 ?_|refine A5 fun _=>?_|refine A4 fun _=>?_);try simp(disch:=first|omega|assumption|((repeat(first|exact A1|exact uH|apply A2|apply uT));first|done|fail)|(simp;first|done|omega|fail))[]))
  exact B0 rfl
def P4 : List (Nat × EnV) → Int
 | [] => -1
 | p :: r => if p.2.st = 1 then P4 r else p.1
def b8 (l : List EnV) (key : ByteArray) : Int := if 0 ≤ E3 l key then -1 else P4 (U2 l key)
theorem B7V (w : World) (v : Value) (l : List EnV) (key : ByteArray) (hk : key.size < 2 ^ 60) (hn : l.length ≤ 1000000) (hv : G1 w v l.length (l.flatMap H0)) :
  Fn PR B8 242 #[v, .string key] w (fun r w' => r = .int .i64 (b8 l key) ∧ C7 [] w w') := by
 refine Fn.pure (B5K (TW.go (κ := false) (S := []) ?_))
 unfold A8E
 (have zz:=trivial;repeat((first|clear zz|with_reducible first|refine A3 ?_|refine A5 fun _=>?_|refine A4 fun _=>?_);try simp(disch:=first|omega|assumption|((repeat(first|exact A1|exact uH|apply A2|apply uT));first|done|fail)|(simp;first|done|omega|fail))[]))
 rename_i bf
 refine C1 v6 (fun w' hw' => A09 w' v l key hk hn (hv.ks hw'.ks (by simp))) ?_
 by_cases c1 : 0 ≤ E3 l key
 ·(have zz:=trivial;repeat((first|clear zz|with_reducible first|refine A3 ?_|refine A5 fun _=>?_|refine A4 fun _=>?_);try simp(disch:=first|omega|assumption|((repeat(first|exact A1|exact uH|apply A2|apply uT));first|done|fail)|(simp;first|done|omega|fail))[c1]))
  exact B0 (by simp [b8, c1])
 have e1 : b8 l key = P4 (U2 l key) := if_neg c1
 (have zz:=trivial;repeat((first|clear zz|with_reducible first|refine A3 ?_|refine A5 fun _=>?_|refine A4 fun _=>?_);try simp(disch:=first|omega|assumption|((repeat(first|exact A1|exact uH|apply A2|apply uT));first|done|fail)|(simp;first|done|omega|fail))[c1]))
 refine H2 A8U (fun w' _ => C12 w' v key (by obtain ⟨a, c, rfl, _⟩ := hv.form; exact ⟨a, _, c, rfl⟩)) ?_
 rintro x u rfl
 refine A2E (C1T x v l key hk hn) (A7K _) (fun i (_ : Unit) => P4 ((U2 l key).drop i) = b8 l key) (fun _ _ => [.pt bf (.cells #[.int .i64 0] 3)])
  (fun c (y : Unit) => c = .ret) (fun y => [.pt bf (.cells #[.int .i64 (b8 l key)] 3)]) () (by rw [List.drop_zero, e1]) ?_ ?_ ?_ ?_ (by simp [B66])
 ·intro i _ F w1 _ hw
  exact RqS.of hv (fun h => by rw [A0n]; omega) hw
 ·rintro i hi _ F hψ K' hK hE
  have hi' : i < (U2 l key).length := by simpa using hi
  rw [B84 hi'] at hψ
  simp only [List.getElem_map]
  generalize (U2 l key)[i] = p at *
  simp only [A5m, VF.app]
  by_cases c1 : p.2.st = 1
  ·(have zz:=trivial;repeat((first|clear zz|with_reducible first|refine A3 ?_|refine A5 fun _=>?_|refine A4 fun _=>?_);try simp(disch:=first|omega|assumption|((repeat(first|exact A1|exact uH|apply A2|apply uT));first|done|fail)|(simp;first|done|omega|fail))[c1]))
   refine TW.sub (hK () ?_) (by ((try simp only [List.cons_append, List.nil_append, List.append_assoc]); (repeat (first | exact List.Sublist.refl _ | exact List.nil_sublist _ | with_reducible apply List.Sublist.cons_cons | apply List.Sublist.cons)); first | done | fail))
   rw [← hψ]
   simp [P4, c1]
  ·(have zz:=trivial;repeat((first|clear zz|with_reducible first|refine A3 ?_|refine A5 fun _=>?_|refine A4 fun _=>?_);try simp(disch:=first|omega|assumption|((repeat(first|exact A1|exact uH|apply A2|apply uT));first|done|fail)|(simp;first|done|omega|fail))[c1]))
   refine TW.sub (hE .ret () rfl) ?_
   rw [← hψ]
   simp only [P4, c1, if_false]
   ((try simp only [List.cons_append, List.nil_append, List.append_assoc]); (repeat (first | exact List.Sublist.refl _ | exact List.nil_sublist _ | with_reducible apply List.Sublist.cons_cons | apply List.Sublist.cons)); first | done | fail)
 ·intro _ hψ
  (have zz:=trivial;repeat((first|clear zz|with_reducible first|refine A3 ?_|refine A5 fun _=>?_|refine A4 fun _=>?_);try simp(disch:=first|omega|assumption|((repeat(first|exact A1|exact uH|apply A2|apply uT));first|done|fail)|(simp;first|done|omega|fail))[]))
  simp only [List.length_map, List.drop_length, P4] at hψ
  exact B0 (by rw [← hψ])
 ·rintro _ _ rfl
  (have zz:=trivial;repeat((first|clear zz|with_reducible first|refine A3 ?_|refine A5 fun _=>?_|refine A4 fun _=>?_);try simp(disch:=first|omega|assumption|((repeat(first|exact A1|exact uH|apply A2|apply uT));first|done|fail)|(simp;first|done|omega|fail))[]))
  exact B0 rfl
theorem B9M (w : World) (x : EnV) (st : Int) (b : Nat) (hb : w.cell? ⟨b, 0, none⟩ = some (.int .i64 st)) : Fn PR B8 241 #[.agg #[.int .i64 x.st, .string x.key, .int .i64 x.bk, .int .i64 x.dl], .pointer (some ⟨b, 0, none⟩)] w (fun r w' => r = .bool (decide (x.st = st)) ∧ C7 [] w w') := by
 refine Fn.pure (B0n (TW.go (κ := false) (S := []) ?_))
 unfold A29
 (have zz:=trivial;repeat((first|clear zz|with_reducible first|refine A3 ?_|refine A5 fun _=>?_|refine A4 fun _=>?_);try simp(disch:=first|omega|assumption|((repeat(first|exact A1|exact uH|apply A2|apply uT));first|done|fail)|(simp;first|done|omega|fail))[hb]))
 exact B0 rfl
def A4P (l : List EnV) (st : Int) : Nat := l.countP fun x => decide (x.st = st)
theorem B8K {α : Type} {p : α → Bool} {l : List α} {i : Nat} {x : α} (hx : l[i]? = some x) : (l.take (i + 1)).countP p = (l.take i).countP p + if p x then 1 else 0 := by
 rw [List.take_add_one, hx, List.countP_append]; simp [List.countP_cons]
theorem C3v (w : World) (v : Value) (l : List EnV) (p : EnV → Bool) (f : FuncId) (cap : List Value) (hn : l.length ≤ 1000000) (hv : G1 w v l.length (l.flatMap H0)) (he : A9 PR f)
  (hf : ∀ w', KS false [] w w' → ∀ x : EnV, Fn PR B8 f (.agg #[.int .i64 x.st, .string x.key, .int .i64 x.bk, .int .i64 x.dl] :: cap).toArray w' (fun r w'' => r = .bool (p x) ∧ C7 [] w' w'')) :
  Fn PR B8 240 #[v, .func (.func f) #[] cap.toArray] w (fun r w' => r = .int .i64 (l.countP p : Nat) ∧ C7 [] w w') := by
 refine Fn.pure (A35 (TW.go (κ := false) (S := []) ?_))
 unfold q8
 obtain ⟨a, c, rfl, hr⟩ := hv.form
 (have zz:=trivial;repeat((first|clear zz|with_reducible first|refine A3 ?_|refine A5 fun _=>?_|refine A4 fun _=>?_);try simp(disch:=first|omega|assumption|((repeat(first|exact A1|exact uH|apply A2|apply uT));first|done|fail)|(simp;first|done|omega|fail))[]))
 refine A2V (α := Unit) l.length (fun i _ => .int .i64 ((l.take i).countP p : Nat)) (fun _ _ => []) (fun i _ => True) () trivial ?_
 rintro i _ hi _ L hL
 by_cases hlt : i < l.length
 ·obtain ⟨b, o, rfl, hrow⟩ := hr (by omega)
  obtain ⟨x, hx⟩ : ∃ x, l[i]? = some x := ⟨_, List.getElem?_eq_getElem (by omega)⟩
  have h1 := hrow.at (f := H0) (k := 4) (fun _ => rfl) hx
  rw [H0] at h1
  (have zz:=trivial;repeat((first|clear zz|with_reducible first|refine A3 ?_|refine A5 fun _=>?_|refine A4 fun _=>?_);try simp(disch:=first|omega|assumption|((repeat(first|exact A1|exact uH|apply A2|apply uT));first|done|fail)|(simp;first|done|omega|fail))[hlt, h1]))
  refine B3p he (φ := fun r => r = .bool (p x)) (fun w' hw' => by simpa using hf w' hw'.ks x) ?_
  rintro _ rfl
  have hc := B8K (p := p) hx
  have hle : (l.take i).countP p ≤ i := Nat.le_trans List.countP_le_length (by simp; omega)
  have hL' := hL hlt () trivial
  rw [hc] at hL'
  cases hb : p x with
  | true =>
   rw [hb] at hL'
   (have zz:=trivial;repeat((first|clear zz|with_reducible first|refine A3 ?_|refine A5 fun _=>?_|refine A4 fun _=>?_);try simp(disch:=first|omega|assumption|((repeat(first|exact A1|exact uH|apply A2|apply uT));first|done|fail)|(simp;first|done|omega|fail))[]))
   exact Sels.tw .nil (by simpa using hL')
  | false =>
   rw [hb] at hL'
   (have zz:=trivial;repeat((first|clear zz|with_reducible first|refine A3 ?_|refine A5 fun _=>?_|refine A4 fun _=>?_);try simp(disch:=first|omega|assumption|((repeat(first|exact A1|exact uH|apply A2|apply uT));first|done|fail)|(simp;first|done|omega|fail))[]))
   exact Sels.tw .nil (by simpa using hL')
 ·obtain rfl : i = l.length := by omega
  (have zz:=trivial;repeat((first|clear zz|with_reducible first|refine A3 ?_|refine A5 fun _=>?_|refine A4 fun _=>?_);try simp(disch:=first|omega|assumption|((repeat(first|exact A1|exact uH|apply A2|apply uT));first|done|fail)|(simp;first|done|omega|fail))[]))
  exact B0 rfl
theorem C3D (w : World) (v : Value) (l : List EnV) (st : Int) (hn : l.length ≤ 1000000) (hv : G1 w v l.length (l.flatMap H0)) :
  Fn PR B8 186 #[v, .int .i64 st] w (fun r w' => r = .int .i64 (A4P l st : Nat) ∧ C7 [] w w') := by
 refine Fn.pure (B3j (TW.go (κ := false) (S := []) ?_))
 unfold A6p
 (have zz:=trivial;repeat((first|clear zz|with_reducible first|refine A3 ?_|refine A5 fun _=>?_|refine A4 fun _=>?_);try simp(disch:=first|omega|assumption|((repeat(first|exact A1|exact uH|apply A2|apply uT));first|done|fail)|(simp;first|done|omega|fail))[]))
 rename_i b
 refine C1 A3L (fun w' hw' => C3v w' v l (fun x => decide (x.st = st)) 241 [.pointer (some ⟨b, 0, none⟩)] hn (hv.ks hw'.ks (by simp)) A9c
  fun w2 h x => B9M w2 x st b (h.cell (by simp) (hw'.cell1 (by (repeat constructor))))) ?_
 exact B0 rfl
end Go.Proofs.YtjobgnabneddjaaGreat
