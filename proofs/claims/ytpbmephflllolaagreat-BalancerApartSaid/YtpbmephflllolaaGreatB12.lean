/- The proof of a given statement, a part of it (Packet Bytes Sl Pool Vals ShProbe ShFnv Fnv Probe). No condition but what each lemma says. -/
import Derived.Lib.SlBytesRow
import Derived.Test.YtpbmephflllolaaGreatB11
set_option linter.unusedVariables false
set_option linter.unusedSimpArgs false
namespace Go.Proofs.YtpbmephflllolaaGreat
open Go
structure KeyV where
 v : Int
 src : ByteArray
 dst : ByteArray
 fr : Int
 tp : Int
 proto : Int
 deriving DecidableEq
def KeyV.cs (k : KeyV) : List Value := [.int .i64 k.v, .string k.src, .string k.dst, .int .i64 k.fr, .int .i64 k.tp, .int .i64 k.proto]
def KeyV.val (k : KeyV) : Value := .agg #[.int .i64 k.v, .string k.src, .string k.dst, .int .i64 k.fr, .int .i64 k.tp, .int .i64 k.proto]
def noK : KeyV := ⟨0, N5, N5, 0, 0, 0⟩
def j6 (s : ByteArray) : KeyV × ByteArray × Nat :=
 if s.size = 0 then (noK, N5, 2) else if E1 s 0 / 16 = 4 then (⟨4, (r4 s).src, (r4 s).dst, 0, 0, (r4 s).proto⟩, (r4 s).rest, (r4 s).e)
 else if E1 s 0 / 16 = 6 then (⟨6, (j2 s).src, (j2 s).dst, 0, 0, (j2 s).proto⟩, (j2 s).rest, (j2 s).e) else (noK, N5, 3)
def keyed.val (x : KeyV × ByteArray × Nat) : Value := .tuple #[x.1.val, .string x.2.1, .int .i64 x.2.2]
theorem B4q (w : World) (src dst : ByteArray) (p : Int) : Fn PR B5 144 #[.agg #[.string src, .string dst, .int .i64 p]] w (fun v w' => v = KeyV.val ⟨4, src, dst, 0, 0, p⟩ ∧ C0 [] w w') := by
 refine Fn.pure (A50 (TW.go (κ := false) (S := []) ?_))
 unfold A0c
 (have zz:=trivial;repeat((first|clear zz|with_reducible first|refine A3 ?_|refine A5 fun _=>?_|refine A4 fun _=>?_);try simp(disch:=first|omega|assumption|((repeat(first|exact A1|exact uH|apply A2|apply uT));first|done|fail)|(simp;first|done|omega|fail))[]))
 exact B0 rfl
theorem B4b (w : World) (src dst : ByteArray) (p : Int) : Fn PR B5 147 #[.agg #[.string src, .string dst, .int .i64 p]] w (fun v w' => v = KeyV.val ⟨6, src, dst, 0, 0, p⟩ ∧ C0 [] w w') := by
 refine Fn.pure (A5c (TW.go (κ := false) (S := []) ?_))
 unfold A0a
 (have zz:=trivial;repeat((first|clear zz|with_reducible first|refine A3 ?_|refine A5 fun _=>?_|refine A4 fun _=>?_);try simp(disch:=first|omega|assumption|((repeat(first|exact A1|exact uH|apply A2|apply uT));first|done|fail)|(simp;first|done|omega|fail))[]))
 exact B0 rfl
theorem B7K (w : World) (s : ByteArray) (hs : s.size < 2 ^ 63) : Fn PR B5 142 #[.string s, .func (.func 143) #[] #[], .func (.func 144) #[] #[]] w
  (fun v w' => v = keyed.val (⟨4, (r4 s).src, (r4 s).dst, 0, 0, (r4 s).proto⟩, (r4 s).rest, (r4 s).e) ∧ C0 [] w w') := by
 refine Fn.pure (A2V (TW.go (κ := false) (S := []) ?_))
 unfold m5
 (have zz:=trivial;repeat((first|clear zz|with_reducible first|refine A3 ?_|refine A5 fun _=>?_|refine A4 fun _=>?_);try simp(disch:=first|omega|assumption|((repeat(first|exact A1|exact uH|apply A2|apply uT));first|done|fail)|(simp;first|done|omega|fail))[]))
 refine D1 B01 (fun w' _ => B3S w' s hs) ?_
 (have zz:=trivial;repeat((first|clear zz|with_reducible first|refine A3 ?_|refine A5 fun _=>?_|refine A4 fun _=>?_);try simp(disch:=first|omega|assumption|((repeat(first|exact A1|exact uH|apply A2|apply uT));first|done|fail)|(simp;first|done|omega|fail))[HeadV.val]))
 refine D1 A5A (fun w' _ => B4q w' _ _ _) ?_
 (have zz:=trivial;repeat((first|clear zz|with_reducible first|refine A3 ?_|refine A5 fun _=>?_|refine A4 fun _=>?_);try simp(disch:=first|omega|assumption|((repeat(first|exact A1|exact uH|apply A2|apply uT));first|done|fail)|(simp;first|done|omega|fail))[KeyV.val]))
 exact B0 (by simp [keyed.val, KeyV.val])
theorem B8T (w : World) (s : ByteArray) (hs : s.size < 2 ^ 63) : Fn PR B5 145 #[.string s, .func (.func 146) #[] #[], .func (.func 147) #[] #[]] w
  (fun v w' => v = keyed.val (⟨6, (j2 s).src, (j2 s).dst, 0, 0, (j2 s).proto⟩, (j2 s).rest, (j2 s).e) ∧ C0 [] w w') := by
 refine Fn.pure (A2S (TW.go (κ := false) (S := []) ?_))
 unfold m7
 (have zz:=trivial;repeat((first|clear zz|with_reducible first|refine A3 ?_|refine A5 fun _=>?_|refine A4 fun _=>?_);try simp(disch:=first|omega|assumption|((repeat(first|exact A1|exact uH|apply A2|apply uT));first|done|fail)|(simp;first|done|omega|fail))[]))
 refine D1 B0r (fun w' _ => B3H w' s hs) ?_
 (have zz:=trivial;repeat((first|clear zz|with_reducible first|refine A3 ?_|refine A5 fun _=>?_|refine A4 fun _=>?_);try simp(disch:=first|omega|assumption|((repeat(first|exact A1|exact uH|apply A2|apply uT));first|done|fail)|(simp;first|done|omega|fail))[HeadV.val]))
 refine D1 A5E (fun w' _ => B4b w' _ _ _) ?_
 (have zz:=trivial;repeat((first|clear zz|with_reducible first|refine A3 ?_|refine A5 fun _=>?_|refine A4 fun _=>?_);try simp(disch:=first|omega|assumption|((repeat(first|exact A1|exact uH|apply A2|apply uT));first|done|fail)|(simp;first|done|omega|fail))[KeyV.val]))
 exact B0 (by simp [keyed.val, KeyV.val])
theorem B9y (w : World) (v : Int) : Fn PR B5 54 #[.int .i64 v] w (fun u w' => u = .int .i64 (if v = 4 then 4 else if v = 6 then 16 else 0) ∧ C0 [] w w') := by
 refine Fn.pure (A9S (TW.go (κ := false) (S := []) ?_))
 unfold A3U
 by_cases c1 : v = 4
 ·(have zz:=trivial;repeat((first|clear zz|with_reducible first|refine A3 ?_|refine A5 fun _=>?_|refine A4 fun _=>?_);try simp(disch:=first|omega|assumption|((repeat(first|exact A1|exact uH|apply A2|apply uT));first|done|fail)|(simp;first|done|omega|fail))[c1])); exact B0 (by simp)
 by_cases c2 : v = 6
 ·(have zz:=trivial;repeat((first|clear zz|with_reducible first|refine A3 ?_|refine A5 fun _=>?_|refine A4 fun _=>?_);try simp(disch:=first|omega|assumption|((repeat(first|exact A1|exact uH|apply A2|apply uT));first|done|fail)|(simp;first|done|omega|fail))[c1, c2])); exact B0 (by simp)
 ·(have zz:=trivial;repeat((first|clear zz|with_reducible first|refine A3 ?_|refine A5 fun _=>?_|refine A4 fun _=>?_);try simp(disch:=first|omega|assumption|((repeat(first|exact A1|exact uH|apply A2|apply uT));first|done|fail)|(simp;first|done|omega|fail))[c1, c2])); exact B0 (by simp)
theorem B75 (w : World) (s : ByteArray) (hs : s.size < 2 ^ 63) : Fn PR B5 100 #[.string s] w (fun u w' => u = keyed.val (j6 s) ∧ C0 [] w w') := by
 refine Fn.pure (A8q (TW.go (κ := false) (S := []) ?_))
 unfold A22
 by_cases c0 : s.size = 0
 ·have e : s = ByteArray.mk #[] := by
   apply ByteArray.ext; exact Array.eq_empty_of_size_eq_zero c0
  (have zz:=trivial;repeat((first|clear zz|with_reducible first|refine A3 ?_|refine A5 fun _=>?_|refine A4 fun _=>?_);try simp(disch:=first|omega|assumption|((repeat(first|exact A1|exact uH|apply A2|apply uT));first|done|fail)|(simp;first|done|omega|fail))[e]))
  exact B0 (by simp [j6, keyed.val, noK, KeyV.val])
 have c0' : ¬ s = ByteArray.mk #[] := fun e => c0 (by rw [e]; rfl)
 obtain ⟨by0, hb0, hb1⟩ := q9 (s := s) (i := 0) (by omega)
 have hb0' : s[(0 : Int).toNat]? = some by0 := hb0
 have hl0 := r9 s 0
 have e1 : ((by0.toNat : Nat) : Int).fdiv (2 ^ min 4 IntKind.u8.bits) = (E1 s 0 / 16 : Nat) := by rw [show (2 : Int) ^ min 4 IntKind.u8.bits = 16 from rfl, Int.fdiv_eq_ediv_of_nonneg _ (by omega), hb1]; omega
 by_cases c1 : E1 s 0 / 16 = 4
 ·have c1' : ((E1 s 0 : Nat) : Int) / 16 = 4 := by omega
  (have zz:=trivial;repeat((first|clear zz|with_reducible first|refine A3 ?_|refine A5 fun _=>?_|refine A4 fun _=>?_);try simp(disch:=first|omega|assumption|((repeat(first|exact A1|exact uH|apply A2|apply uT));first|done|fail)|(simp;first|done|omega|fail))[c0', Y3]))
  rw [e1]
  (have zz:=trivial;repeat((first|clear zz|with_reducible first|refine A3 ?_|refine A5 fun _=>?_|refine A4 fun _=>?_);try simp(disch:=first|omega|assumption|((repeat(first|exact A1|exact uH|apply A2|apply uT));first|done|fail)|(simp;first|done|omega|fail))[c1', c1]))
  refine D1 A2B (fun w' _ => B7K w' s hs) ?_
  (have zz:=trivial;repeat((first|clear zz|with_reducible first|refine A3 ?_|refine A5 fun _=>?_|refine A4 fun _=>?_);try simp(disch:=first|omega|assumption|((repeat(first|exact A1|exact uH|apply A2|apply uT));first|done|fail)|(simp;first|done|omega|fail))[keyed.val, KeyV.val]))
  exact B0 (by simp [j6, keyed.val, KeyV.val, c0, c1])
 have c1' : ¬ ((E1 s 0 : Nat) : Int) / 16 = 4 := by omega
 by_cases c2 : E1 s 0 / 16 = 6
 ·have c2' : ((E1 s 0 : Nat) : Int) / 16 = 6 := by omega
  (have zz:=trivial;repeat((first|clear zz|with_reducible first|refine A3 ?_|refine A5 fun _=>?_|refine A4 fun _=>?_);try simp(disch:=first|omega|assumption|((repeat(first|exact A1|exact uH|apply A2|apply uT));first|done|fail)|(simp;first|done|omega|fail))[c0', Y3]))
  rw [e1]
  (have zz:=trivial;repeat((first|clear zz|with_reducible first|refine A3 ?_|refine A5 fun _=>?_|refine A4 fun _=>?_);try simp(disch:=first|omega|assumption|((repeat(first|exact A1|exact uH|apply A2|apply uT));first|done|fail)|(simp;first|done|omega|fail))[c1', c1, c2', c2, Y3]))
  refine D1 A2G (fun w' _ => B8T w' s hs) ?_
  (have zz:=trivial;repeat((first|clear zz|with_reducible first|refine A3 ?_|refine A5 fun _=>?_|refine A4 fun _=>?_);try simp(disch:=first|omega|assumption|((repeat(first|exact A1|exact uH|apply A2|apply uT));first|done|fail)|(simp;first|done|omega|fail))[keyed.val, KeyV.val]))
  exact B0 (by simp [j6, keyed.val, KeyV.val, c0, c1, c2])
 have c2' : ¬ ((E1 s 0 : Nat) : Int) / 16 = 6 := by omega
 (have zz:=trivial;repeat((first|clear zz|with_reducible first|refine A3 ?_|refine A5 fun _=>?_|refine A4 fun _=>?_);try simp(disch:=first|omega|assumption|((repeat(first|exact A1|exact uH|apply A2|apply uT));first|done|fail)|(simp;first|done|omega|fail))[c0', Y3]))
 rw [e1]
 (have zz:=trivial;repeat((first|clear zz|with_reducible first|refine A3 ?_|refine A5 fun _=>?_|refine A4 fun _=>?_);try simp(disch:=first|omega|assumption|((repeat(first|exact A1|exact uH|apply A2|apply uT));first|done|fail)|(simp;first|done|omega|fail))[c1', c1, c2', c2, Y3]))
 exact B0 (by simp [j6, keyed.val, KeyV.val, c0, c1, c2, noK])
def F8 (s : ByteArray) : KeyV × Nat × Nat :=
 let x := j6 s
 if x.2.2 ≠ 0 then (noK, 0, x.2.2) else let y := W2 x.1.proto x.2.1; if y.2.2.2 ≠ 0 then (noK, 0, y.2.2.2) else ({ x.1 with fr := y.1, tp := y.2.1 }, y.2.2.1, 0)
def T9 (k : KeyV) (f : Int) : Value := .agg #[.int .i64 k.v, .string k.src, .string k.dst, .int .i64 k.fr, .int .i64 k.tp, .int .i64 k.proto, .int .i64 f]
def packet.val (x : KeyV × Nat × Nat) : Value := .tuple #[T9 x.1 x.2.1, .int .i64 x.2.2]
theorem B4n (s : ByteArray) : (j6 s).2.1.size ≤ 65535 := by
 have h1 : (r4 s).rest.size ≤ 65535 := by
  have := A03 s 2
  unfold r4; split
  ·simp only [ByteArray.size_extract]; omega
  ·simp [HeadV.err]
 have h2 : (j2 s).rest.size ≤ 65535 := by
  have := A03 s 4
  unfold j2; split
  ·simp only [ByteArray.size_extract]; omega
  ·simp [HeadV.err]
 unfold j6
 split
 ·simp
 split
 ·exact h1
 split
 ·exact h2
 ·simp
theorem A7u (w : World) (s : ByteArray) (hs : s.size < 2 ^ 63) : Fn PR B5 56 #[.string s] w (fun u w' => u = packet.val (F8 s) ∧ C0 [] w w') := by
 refine Fn.pure (A8s (TW.go (κ := false) (S := []) ?_))
 unfold A2p
 (have zz:=trivial;repeat((first|clear zz|with_reducible first|refine A3 ?_|refine A5 fun _=>?_|refine A4 fun _=>?_);try simp(disch:=first|omega|assumption|((repeat(first|exact A1|exact uH|apply A2|apply uT));first|done|fail)|(simp;first|done|omega|fail))[]))
 refine D1 A7j (fun w' _ => B75 w' s hs) ?_
 have hr := B4n s
 by_cases c1 : (j6 s).2.2 = 0
 ·(have zz:=trivial;repeat((first|clear zz|with_reducible first|refine A3 ?_|refine A5 fun _=>?_|refine A4 fun _=>?_);try simp(disch:=first|omega|assumption|((repeat(first|exact A1|exact uH|apply A2|apply uT));first|done|fail)|(simp;first|done|omega|fail))[keyed.val, KeyV.val, c1]))
  refine D1 A9Q (fun w' _ => B1r w' _ (by omega) _) ?_
  by_cases c2 : (W2 (j6 s).1.proto (j6 s).2.1).2.2.2 = 0
  ·(have zz:=trivial;repeat((first|clear zz|with_reducible first|refine A3 ?_|refine A5 fun _=>?_|refine A4 fun _=>?_);try simp(disch:=first|omega|assumption|((repeat(first|exact A1|exact uH|apply A2|apply uT));first|done|fail)|(simp;first|done|omega|fail))[W2.val, c2]))
   exact B0 (by simp [F8, packet.val, T9, KeyV.val, c1, c2])
  ·(have zz:=trivial;repeat((first|clear zz|with_reducible first|refine A3 ?_|refine A5 fun _=>?_|refine A4 fun _=>?_);try simp(disch:=first|omega|assumption|((repeat(first|exact A1|exact uH|apply A2|apply uT));first|done|fail)|(simp;first|done|omega|fail))[W2.val, c2]))
   exact B0 (by simp [F8, packet.val, T9, KeyV.val, c1, c2, noK])
 ·(have zz:=trivial;repeat((first|clear zz|with_reducible first|refine A3 ?_|refine A5 fun _=>?_|refine A4 fun _=>?_);try simp(disch:=first|omega|assumption|((repeat(first|exact A1|exact uH|apply A2|apply uT));first|done|fail)|(simp;first|done|omega|fail))[keyed.val, KeyV.val, c1]))
  exact B0 (by simp [F8, packet.val, T9, KeyV.val, c1, noK])
theorem A9C (w : World) (s : ByteArray) (hs : s.size < 2 ^ 40) : Fn PR B5 56 #[.string s] w (fun u w' => u = packet.val (F8 s) ∧ C0 [] w w') := A7u w s (by omega)
def Q6 (k : KeyV) (f : Int) : ByteArray × Nat :=
 if k.v ≠ 4 ∧ k.v ≠ 6 then (N5, 3) else let s := U8 k.proto k.fr k.tp f; if s.2 ≠ 0 then (N5, s.2) else if k.v = 6 then A4K k.src k.dst s.1 k.proto else A4a k.src k.dst s.1 k.proto
theorem B5P (number x y f : Int) : (U8 number x y f).1.size ≤ 1000 := by
 have h6 := j1 6
 have h8 := j1 8
 unfold U8 A1x A19 A3G
 repeat' split
 all_goals simp [h6, h8]
theorem B2q (w : World) (k : KeyV) (f : Int) : Fn PR B5 21 #[T9 k f] w (fun u w' => u = .tuple #[.string (Q6 k f).1, .int .i64 (Q6 k f).2] ∧ C0 [] w w') := by
 refine Fn.pure (B0Y (TW.go (κ := false) (S := []) ?_))
 unfold A4u
 have hz := B5P k.proto k.fr k.tp f
 by_cases c0 : k.v = 4
 ·(have zz:=trivial;repeat((first|clear zz|with_reducible first|refine A3 ?_|refine A5 fun _=>?_|refine A4 fun _=>?_);try simp(disch:=first|omega|assumption|((repeat(first|exact A1|exact uH|apply A2|apply uT));first|done|fail)|(simp;first|done|omega|fail))[T9, KeyV.val, c0]))
  refine D1 A10 (fun w' _ => A4D w' _ _ _ _) ?_
  by_cases c1 : (U8 k.proto k.fr k.tp f).2 = 0
  ·(have zz:=trivial;repeat((first|clear zz|with_reducible first|refine A3 ?_|refine A5 fun _=>?_|refine A4 fun _=>?_);try simp(disch:=first|omega|assumption|((repeat(first|exact A1|exact uH|apply A2|apply uT));first|done|fail)|(simp;first|done|omega|fail))[c1, c0]))
   refine D1 B2u (fun w' _ => B64 w' _ _ _ _ (by omega)) ?_
   (have zz:=trivial;repeat((first|clear zz|with_reducible first|refine A3 ?_|refine A5 fun _=>?_|refine A4 fun _=>?_);try simp(disch:=first|omega|assumption|((repeat(first|exact A1|exact uH|apply A2|apply uT));first|done|fail)|(simp;first|done|omega|fail))[]))
   exact B0 (by simp [Q6, c0, c1])
  ·(have zz:=trivial;repeat((first|clear zz|with_reducible first|refine A3 ?_|refine A5 fun _=>?_|refine A4 fun _=>?_);try simp(disch:=first|omega|assumption|((repeat(first|exact A1|exact uH|apply A2|apply uT));first|done|fail)|(simp;first|done|omega|fail))[c1, c0]))
   exact B0 (by simp [Q6, c0, c1])
 by_cases c6 : k.v = 6
 ·(have zz:=trivial;repeat((first|clear zz|with_reducible first|refine A3 ?_|refine A5 fun _=>?_|refine A4 fun _=>?_);try simp(disch:=first|omega|assumption|((repeat(first|exact A1|exact uH|apply A2|apply uT));first|done|fail)|(simp;first|done|omega|fail))[T9, KeyV.val, c6]))
  refine D1 A10 (fun w' _ => A4D w' _ _ _ _) ?_
  by_cases c1 : (U8 k.proto k.fr k.tp f).2 = 0
  ·(have zz:=trivial;repeat((first|clear zz|with_reducible first|refine A3 ?_|refine A5 fun _=>?_|refine A4 fun _=>?_);try simp(disch:=first|omega|assumption|((repeat(first|exact A1|exact uH|apply A2|apply uT));first|done|fail)|(simp;first|done|omega|fail))[c1, c6]))
   refine D1 B3N (fun w' _ => B6K w' _ _ _ _ (by omega)) ?_
   (have zz:=trivial;repeat((first|clear zz|with_reducible first|refine A3 ?_|refine A5 fun _=>?_|refine A4 fun _=>?_);try simp(disch:=first|omega|assumption|((repeat(first|exact A1|exact uH|apply A2|apply uT));first|done|fail)|(simp;first|done|omega|fail))[]))
   exact B0 (by simp [Q6, c6, c1])
  ·(have zz:=trivial;repeat((first|clear zz|with_reducible first|refine A3 ?_|refine A5 fun _=>?_|refine A4 fun _=>?_);try simp(disch:=first|omega|assumption|((repeat(first|exact A1|exact uH|apply A2|apply uT));first|done|fail)|(simp;first|done|omega|fail))[c1, c6]))
   exact B0 (by simp [Q6, c6, c1])
 ·(have zz:=trivial;repeat((first|clear zz|with_reducible first|refine A3 ?_|refine A5 fun _=>?_|refine A4 fun _=>?_);try simp(disch:=first|omega|assumption|((repeat(first|exact A1|exact uH|apply A2|apply uT));first|done|fail)|(simp;first|done|omega|fail))[T9, KeyV.val, c0, c6]))
  exact B0 (by simp [Q6, c0, c6])
def d7 (k : KeyV) (f : Int) : Bool := decide (k.proto = 6) && !decide (IntKind.i64.wrap ((f % 2 ^ IntKind.i64.bits).toNat &&& 5 % 2 ^ IntKind.i64.bits : Nat) = 0)
theorem B41 (w : World) (k : KeyV) (f : Int) : Fn PR B5 22 #[T9 k f] w (fun u w' => u = .bool (d7 k f) ∧ C0 [] w w') := by
 refine Fn.pure (A6l (TW.go (κ := false) (S := []) ?_))
 unfold A1C
 by_cases c0 : k.proto = 6
 ·(have zz:=trivial;repeat((first|clear zz|with_reducible first|refine A3 ?_|refine A5 fun _=>?_|refine A4 fun _=>?_);try simp(disch:=first|omega|assumption|((repeat(first|exact A1|exact uH|apply A2|apply uT));first|done|fail)|(simp;first|done|omega|fail))[T9, KeyV.val, c0]))
  exact B0 (by simp [d7, c0])
 ·(have zz:=trivial;repeat((first|clear zz|with_reducible first|refine A3 ?_|refine A5 fun _=>?_|refine A4 fun _=>?_);try simp(disch:=first|omega|assumption|((repeat(first|exact A1|exact uH|apply A2|apply uT));first|done|fail)|(simp;first|done|omega|fail))[T9, KeyV.val, c0]))
  exact B0 (by simp [d7, c0])
end Go.Proofs.YtpbmephflllolaaGreat
namespace Go.Proofs.YtpbmephflllolaaGreat
open Go
section
variable {κ : Bool} {X : Nat → Prop} {S : List Nat} {w0 : World} {H H' : List Res} {K : Value → WP}
theorem B6p {P : Program} {g : Sem Value} {u : Value} {b : Nat} {c c' : Array Value} {T : TypeId} (hrun : ∀ w, bl w b = some (.cells c T (0, 0)) → g.run P w = .ok u (World.putb w b (.cells c' T (0, 0))))
  (hu : Up (.pt b (.cells c T (0, 0))) (.pt b (.cells c' T (0, 0))) H H') (hK : TW κ S w0 H' (K u)) : TW κ S w0 H (B1 P X g K) := fun w hw => by
 have hm : Res.pt b (.cells c T (0, 0)) ∈ H := by obtain ⟨A, B, rfl, _⟩ := hu.parts; simp
 have hb := hw.pt hm
 rw [S5 (hrun w hb) (Sk.putb X hb)]
 refine hK _ (hw.up hu ⟨KS.putb hb (by simp [Res.foot]), ?_, ?_, by simp⟩)
 ·simp only [List.mem_singleton, forall_eq, Res.holds]; exact ⟨N3 (G2 hb), rfl⟩
 ·simp only [List.mem_singleton, forall_eq, Res.foot]; exact ⟨Or.inl (by simp), by have := G2 hb; simpa using this⟩
theorem B3m (w : World) : (underlying 127).run PR w = .ok (.slice 5) w := A1Y.run_und
theorem C2p (w : World) : (underlying 126).run PR w = .ok (.array 38 5) w := B4y.run_und
def Y4 (s : ByteArray) (o : Nat) (t : ByteArray) : ByteArray := s.extract 0 o ++ t ++ s.extract (o + t.size) s.size
theorem A6H {s t : ByteArray} {o : Nat} (h : o + t.size ≤ s.size) : (Y4 s o t).size = s.size := by simp [Y4]; omega
theorem A9y (s t : ByteArray) (o : Nat) (h : o + t.size ≤ s.size) : E4 (E0 s).toArray o (E0 t) = (E0 (Y4 s o t)).toArray := by
 apply Array.toList_inj.1
 rw [y4 _ _ _ (by simpa using h)]
 simp [E0, Y4, List.map_take, List.map_drop]
 rw [List.take_of_length_le (by simp)]
theorem A80 {b o n c : Nat} {s t : ByteArray} {T : TypeId} (hu : Up (.pt b (.cells (E0 s).toArray T)) (.pt b (.cells (E0 (Y4 s o t)).toArray T)) H H') (hn : t.size ≤ n) (hs : o + t.size ≤ s.size)
  (hK : TW κ S w0 H' (K (.int .i64 t.size))) : TW κ S w0 H (B1 PR X (A8 .copy #[127, 9] 3 [.slice (some ⟨b, o, none⟩) n c, .string t]) K) := by
 refine B6p (u := .int .i64 t.size) (fun w hb => ?_) hu hK
 have hst := Z7 (P := PR) (o0 := o) (E0 t) 0 w (E0 s).toArray hb (by simpa using hs) (A3M t)
 rw [Nat.add_zero, A9y s t o hs] at hst
 have hl : Nat.min t.size n = t.size := Nat.min_eq_left hn
 have htk : List.take t.size (List.map (fun b : UInt8 => Value.int IntKind.u8 (b.toNat : Int)) t.data.toList) = E0 t := by
  rw [List.take_of_length_le (by simp)]; rfl
 show (Builtin.copy_ #[127, 9] 3 #[.slice (some ⟨b, o, none⟩) n c, .string t]).run PR w = _
 simp [Builtin.copy_, B3m, ty5.run_size, Builtin.lenOf, Builtin.firstCells, hl]
 rw [htk, hst]
 simp [goInt, Result.andThen]
def z38 : ByteArray := A7U z1 38
theorem A4W : z38.size = 38 := j1 38
theorem B5n : (Builtin.zeroCells (Value.int .u8 0).cells 38).toList = E0 z38 := by kernel_rfl
theorem B9M : (E0 z38).toArray = #[.int .u8 0, .int .u8 0, .int .u8 0, .int .u8 0, .int .u8 0, .int .u8 0, .int .u8 0, .int .u8 0, .int .u8 0, .int .u8 0, .int .u8 0, .int .u8 0, .int .u8 0, .int .u8 0, .int .u8 0, .int .u8 0, .int .u8 0, .int .u8 0, .int .u8 0, .int .u8 0, .int .u8 0, .int .u8 0, .int .u8 0, .int .u8 0, .int .u8 0, .int .u8 0, .int .u8 0, .int .u8 0, .int .u8 0, .int .u8 0, .int .u8 0, .int .u8 0, .int .u8 0, .int .u8 0, .int .u8 0, .int .u8 0, .int .u8 0, .int .u8 0] := by kernel_rfl
theorem B6S {b : Nat} {s : ByteArray} {T : TypeId} (hs : s.size = 38) (hu : Up (.pt b (.cells (E0 s).toArray T)) (.pt b (.cells (E0 z38).toArray T)) H H')
  (hK : TW κ S w0 H' (K (.tuple #[]))) : TW κ S w0 H (B1 PR X (A8 .clear #[127] 0 [.slice (some ⟨b, 0, none⟩) 38 38]) K) := by
 refine B6p (u := .tuple #[]) (fun w hb => ?_) hu hK
 have h38 := A4W
 have hst := Z7 (P := PR) (o0 := 0) (E0 z38) 0 w (E0 s).toArray hb (by simp [hs, h38]) (A3M _)
 rw [Nat.add_zero, A9y s z38 0 (by omega)] at hst
 have e : Y4 s 0 z38 = z38 := by
  apply ByteArray.ext
  simp [Y4, h38, hs]
 rw [e] at hst
 show (Builtin.clear_ #[127] 0 #[.slice (some ⟨b, 0, none⟩) 38 38]).run PR w = _
 simp only [Builtin.clear_, List.getElem?_toArray, List.getElem?_cons_zero, Sem.run_bind, B3m, Result.andThen_ok, ty5.run_zero, B5n, hst, Sem.run_pure]
theorem C1b {b : Nat} {s : ByteArray} {T : TypeId} (hm : Res.pt b (.cells (E0 s).toArray T) ∈ H) (c n : Nat) (hn : n = s.size) :
  TW κ S w0 H (A6 PR (convert 127 9 (.slice (some ⟨b, 0, none⟩) n c)) K) = TW κ S w0 H (K (.string s)) := TW.congr fun w hw => by
 refine P4 ?_ K
 subst hn
 have hb := hw.pt hm
 have hB : Lib.Bytes w b 0 s := fun i hi => by
  rw [G5 hb]; simp [E0, hi]; rfl
 exact Lib.run_convert_whole w _ _ _ A1Y.und ty5.und y2.und b 0 s hB c
end
theorem B6j {lo : Nat} (b : Nat) (h : lo < 38) (K : Value → WP) : A0 PR (Instr.sliceAt 126 (.pointer (some ⟨b, 0, none⟩)) (some (.int .i64 (lo : Int))) none none) K = K (.slice (some ⟨b, lo, none⟩) (38 - lo) (38 - lo)) :=
 E2 (fun w => by
  have h1 : ¬ ((38 : Int) < lo) := by omega
  have h2 : ¬ (38 = lo) := by omega
  simp [Instr.sliceAt, C2p, Instr.sliceBounds, Instr.sliceBound, asIntOf, h1, h2, ty5.run_size, Instr.sureAddr, W0]
  omega) K
def Y0 (v : Int) : Nat := if v = 4 then 4 else if v = 6 then 16 else 0
theorem B8H (w : World) (v : Int) : Fn PR B5 54 #[.int .i64 v] w (fun u w' => u = .int .i64 (Y0 v : Nat) ∧ C0 [] w w') := by
 have := B9y w v
 have e : ((Y0 v : Nat) : Int) = if v = 4 then 4 else if v = 6 then 16 else 0 := by (unfold Y0; repeat' split) <;> rfl
 rw [e]; exact this
def V7 (k : KeyV) : Bool := decide (Y0 k.v ≠ 0 ∧ k.src.size = Y0 k.v ∧ k.dst.size = Y0 k.v ∧ (U8 k.proto k.fr k.tp 0).2 = 0)
def A2A (k : KeyV) : ByteArray := Y4 (Y4 (Y4 z38 0 (D9 (k.v * 256 + k.proto) 2 ++ D9 k.fr 2 ++ D9 k.tp 2)) 6 k.src) 22 k.dst
def A3y (k : KeyV) : Value := .tuple #[.string (if V7 k then A2A k else N5), .bool (V7 k)]
theorem C0B {n x y f : Int} (h : (U8 n x y f).2 = 0) : (n = 6 ∨ n = 17) ∧ Q8 x y = true := by
 unfold U8 at h
 split at h
 ·simp at h
 split at h
 ·simp at h
 ·rename_i h1 h2
  refine ⟨by omega, ?_⟩
  cases hp : Q8 x y with
  | true => rfl
  | false => exact absurd (Or.inl hp) h2
theorem B7a (w : World) (k : KeyV) : Fn PR B5 23 #[k.val] w (fun u w' => u = A3y k ∧ C0 [] w w') := by
 refine Fn.pure (A72 (TW.go (κ := false) (S := []) ?_))
 unfold A2e KeyV.val
 (have zz:=trivial;repeat((first|clear zz|with_reducible first|refine A3 ?_|refine A5 fun _=>?_|refine A4 fun _=>?_);try simp(disch:=first|omega|assumption|((repeat(first|exact A1|exact uH|apply A2|apply uT));first|done|fail)|(simp;first|done|omega|fail))[]))
 refine D1 A71 (fun w' _ => B8H w' _) ?_
 (have zz:=trivial;repeat((first|clear zz|with_reducible first|refine A3 ?_|refine A5 fun _=>?_|refine A4 fun _=>?_);try simp(disch:=first|omega|assumption|((repeat(first|exact A1|exact uH|apply A2|apply uT));first|done|fail)|(simp;first|done|omega|fail))[]))
 refine D1 A10 (fun w' _ => A4D w' _ _ _ _) ?_
 have bad : V7 k = false → A3y k = .tuple #[.string N5, .bool false] := fun h => by simp [A3y, h]
 by_cases c1 : Y0 k.v = 0
 ·(have zz:=trivial;repeat((first|clear zz|with_reducible first|refine A3 ?_|refine A5 fun _=>?_|refine A4 fun _=>?_);try simp(disch:=first|omega|assumption|((repeat(first|exact A1|exact uH|apply A2|apply uT));first|done|fail)|(simp;first|done|omega|fail))[c1]))
  exact B0 (bad (by simp [V7, c1])).symm
 have c1' : ¬ ((Y0 k.v : Nat) : Int) = 0 := by omega
 by_cases c2 : k.src.size = Y0 k.v
 case neg =>
  have c2' : ¬ ((k.src.size : Nat) : Int) = Y0 k.v := by omega
  (have zz:=trivial;repeat((first|clear zz|with_reducible first|refine A3 ?_|refine A5 fun _=>?_|refine A4 fun _=>?_);try simp(disch:=first|omega|assumption|((repeat(first|exact A1|exact uH|apply A2|apply uT));first|done|fail)|(simp;first|done|omega|fail))[c1, c1', c2, c2']))
  exact B0 (bad (by simp [V7, c2])).symm
 by_cases c3 : k.dst.size = Y0 k.v
 case neg =>
  have c3' : ¬ ((k.dst.size : Nat) : Int) = Y0 k.v := by omega
  (have zz:=trivial;repeat((first|clear zz|with_reducible first|refine A3 ?_|refine A5 fun _=>?_|refine A4 fun _=>?_);try simp(disch:=first|omega|assumption|((repeat(first|exact A1|exact uH|apply A2|apply uT));first|done|fail)|(simp;first|done|omega|fail))[c1, c1', c2, c3, c3']))
  exact B0 (bad (by simp [V7, c3])).symm
 by_cases c4 : (U8 k.proto k.fr k.tp 0).2 = 0
 case neg =>
  (have zz:=trivial;repeat((first|clear zz|with_reducible first|refine A3 ?_|refine A5 fun _=>?_|refine A4 fun _=>?_);try simp(disch:=first|omega|assumption|((repeat(first|exact A1|exact uH|apply A2|apply uT));first|done|fail)|(simp;first|done|omega|fail))[c1, c1', c2, c3, c4]))
  exact B0 (bad (by simp [V7, c4])).symm
 (have zz:=trivial;repeat((first|clear zz|with_reducible first|refine A3 ?_|refine A5 fun _=>?_|refine A4 fun _=>?_);try simp(disch:=first|omega|assumption|((repeat(first|exact A1|exact uH|apply A2|apply uT));first|done|fail)|(simp;first|done|omega|fail))[c1, c1', c2, c3, c4]))
 rename_i bk ba
 refine TW.eqH (H' := [.pt ba (.cells (E0 z38).toArray 126), .pt bk (.cells #[.int .i64 k.v, .string k.src, .string k.dst, .int .i64 k.fr, .int .i64 k.tp, .int .i64 k.proto] 56)]) (by rw [B9M]) ?_
 refine B6S A4W .here ?_
 obtain ⟨hp, hq⟩ := C0B c4
 simp only [Q8, decide_eq_true_eq] at hq
 have hv : k.v = 4 ∨ k.v = 6 := by unfold Y0 at c1; split at c1 <;> (try split at c1) <;> omega
 have hh : (D9 (k.v * 256 + k.proto) 2 ++ D9 k.fr 2 ++ D9 k.tp 2).size = 6 := by simp
 have h38 := A4W
 have s1 : (Y4 z38 0 (D9 (k.v * 256 + k.proto) 2 ++ D9 k.fr 2 ++ D9 k.tp 2)).size = 38 := by rw [A6H (by omega), h38]
 have hl : Y0 k.v ≤ 16 := by unfold Y0; split <;> (try split) <;> omega
 have s2 : (Y4 (Y4 z38 0 (D9 (k.v * 256 + k.proto) 2 ++ D9 k.fr 2 ++ D9 k.tp 2)) 6 k.src).size = 38 := by rw [A6H (by omega), s1]
 have s3 : (A2A k).size = 38 := by unfold A2A; rw [A6H (by omega), s2]
 have i6 := fun K => B6j (lo := 6) ba (by omega) K
 have i22 := fun K => B6j (lo := 22) ba (by omega) K
 simp at i6 i22
 have ok : V7 k = true := by simp [V7, c1, c2, c3, c4]
 have q1 := hq.1
 have q2 := hq.2.1
 have q3 := hq.2.2.1
 have q4 := hq.2.2.2
 have eor : IntKind.u64.wrap ((IntKind.u64.wrap (k.v * 2 ^ min 8 IntKind.u64.bits) % 2 ^ IntKind.u64.bits).toNat ||| (k.proto % 2 ^ IntKind.u64.bits).toNat : Nat) = k.v * 256 + k.proto := by
  rcases hv with hv | hv <;> rcases hp with hp | hp <;> (rw [hv, hp]; decide)
 have ew1 : IntKind.u64.wrap k.fr = k.fr := A0F (by omega) (by omega)
 have ew2 : IntKind.u64.wrap k.tp = k.tp := A0F (by omega) (by omega)
 (have zz:=trivial;repeat((first|clear zz|with_reducible first|refine A3 ?_|refine A5 fun _=>?_|refine A4 fun _=>?_);try simp(disch:=first|omega|assumption|((repeat(first|exact A1|exact uH|apply A2|apply uT));first|done|fail)|(simp;first|done|omega|fail))[]))
 rw [eor, ew1, ew2]
 refine D1 F4 (fun w' hw' => U5 w' _ _) ?_
 (have zz:=trivial;repeat((first|clear zz|with_reducible first|refine A3 ?_|refine A5 fun _=>?_|refine A4 fun _=>?_);try simp(disch:=first|omega|assumption|((repeat(first|exact A1|exact uH|apply A2|apply uT));first|done|fail)|(simp;first|done|omega|fail))[]))
 refine D1 F4 (fun w' hw' => U5 w' _ _) ?_
 (have zz:=trivial;repeat((first|clear zz|with_reducible first|refine A3 ?_|refine A5 fun _=>?_|refine A4 fun _=>?_);try simp(disch:=first|omega|assumption|((repeat(first|exact A1|exact uH|apply A2|apply uT));first|done|fail)|(simp;first|done|omega|fail))[S3]))
 refine D1 F4 (fun w' hw' => U5 w' _ _) ?_
 (have zz:=trivial;repeat((first|clear zz|with_reducible first|refine A3 ?_|refine A5 fun _=>?_|refine A4 fun _=>?_);try simp(disch:=first|omega|assumption|((repeat(first|exact A1|exact uH|apply A2|apply uT));first|done|fail)|(simp;first|done|omega|fail))[S3]))
 refine A80 (o := 0) (s := z38) (by (repeat constructor)) (by omega) (by omega) ?_
 (have zz:=trivial;repeat((first|clear zz|with_reducible first|refine A3 ?_|refine A5 fun _=>?_|refine A4 fun _=>?_);try simp(disch:=first|omega|assumption|((repeat(first|exact A1|exact uH|apply A2|apply uT));first|done|fail)|(simp;first|done|omega|fail))[i6]))
 refine A80 (o := 6) (s := Y4 z38 0 (D9 (k.v * 256 + k.proto) 2 ++ D9 k.fr 2 ++ D9 k.tp 2)) (by (repeat constructor)) (by omega) (by omega) ?_
 (have zz:=trivial;repeat((first|clear zz|with_reducible first|refine A3 ?_|refine A5 fun _=>?_|refine A4 fun _=>?_);try simp(disch:=first|omega|assumption|((repeat(first|exact A1|exact uH|apply A2|apply uT));first|done|fail)|(simp;first|done|omega|fail))[i22]))
 refine A80 (o := 22) (s := Y4 (Y4 z38 0 (D9 (k.v * 256 + k.proto) 2 ++ D9 k.fr 2 ++ D9 k.tp 2)) 6 k.src) (by (repeat constructor)) (by omega) (by omega) ?_
 (have zz:=trivial;repeat((first|clear zz|with_reducible first|refine A3 ?_|refine A5 fun _=>?_|refine A4 fun _=>?_);try simp(disch:=first|omega|assumption|((repeat(first|exact A1|exact uH|apply A2|apply uT));first|done|fail)|(simp;first|done|omega|fail))[]))
 rw [C1b (s := A2A k) (by (repeat constructor)) _ _ s3.symm]
 exact B0 (by simp [A3y, ok])
end Go.Proofs.YtpbmephflllolaaGreat
namespace Go.Proofs.YtpbmephflllolaaGreat
open Go
@[simp] theorem C5v {κ : Bool} {S : List Nat} {w0 : World} {H : List Res} {K : Value → WP} {t : TypeId} {z : Value} [h : TS t z] {b o : Nat} {c : Array Value} {T : TypeId} {f : Nat × Nat} (hm : Res.pt b (.cells c T f) ∈ H) :
  TW κ S w0 H (A6 PR (E3 [.c t (.pointer (some ⟨b, o, none⟩))]) K) = TW κ S w0 H (rdc c[o]? K (A6 PR (E3 [.c t (.pointer (some ⟨b, o, none⟩))]) K)) := by
 cases hc : c[o]? with
 | none => rfl
 | some v => rw [C0Y hm hc]; rfl
abbrev G1 := Int × Int
def F6 (b : G1) : List Value := [.int .i64 b.1, .int .i64 b.2]
structure EnV where
 st : Int
 key : ByteArray
 bk : Int
 dl : Int
 deriving DecidableEq
def F1 (x : EnV) : List Value := [.int .i64 x.st, .string x.key, .int .i64 x.bk, .int .i64 x.dl]
theorem C01 {t u : TypeId} {n m : Nat} {z : Value} {a : Option Addr} {l c e : Nat} (h : TI PR t (.slice u) n m z) : EqV PR (e + 1) t (.slice a l c) (.slice none 0 0) a.isNone := by
 intro w
 cases a with
 | none => simp only [Op.equalIn, Sem.run_bind, h.run_und, Result.andThen_ok, Sem.run_pure, Option.isNone]
 | some a => simp only [Op.equalIn, Sem.run_bind, h.run_und, Result.andThen_ok, Sem.run_pure]; rfl
theorem C1J {t u : TypeId} {n m : Nat} {z : Value} (h : TI PR t (.slice u) n m z) (x y : Operand) (a : Option Addr) (l c : Nat) (K : Value → WP) :
  A6 PR (H8 .eql t x y (.slice a l c) (.slice none 0 0)) K = K (.bool a.isNone) := by
 funext w
 refine P4 ?_ K
 have h1 : (eqGuard .eql t x y (.slice a l c) (.slice none 0 0)).run PR w = .ok () w := by simp [eqGuard]
 have h2 : (Op.equalIn 10000 t (.slice a l c) (.slice none 0 0)).run PR w = .ok a.isNone w := C01 (e := 9999) h w
 simp [H8, h1, binOp, Op.equal, Op.maxDepth, h2]
theorem B9D (x y : Operand) (a : Option Addr) (l c : Nat) (K : Value → WP) : A6 PR (H8 .eql 32 x y (.slice a l c) (.slice none 0 0)) K = K (.bool a.isNone) := C1J A7d x y a l c K
theorem B9B (x y : Operand) (a : Option Addr) (l c : Nat) (K : Value → WP) : A6 PR (H8 .eql 94 x y (.slice a l c) (.slice none 0 0)) K = K (.bool a.isNone) := C1J A9B x y a l c K
theorem B0A (w : World) (v : Value) (n : Nat) (xs : List Value) (hn : n ≤ 1000000) (hx : xs.length = n * 2) (hp : xs.all plain = true) (hv : F5 w v n xs) :
  Fn PR B5 49 #[v] w (Rn [] w (fun r u => u = r) fun r => [.own 75 2 r n xs]) := by
 obtain ⟨a, c, rfl, hr⟩ := hv.form
 refine e8 (TW.go (κ := false) (S := []) ?_)
 unfold N6
 cases a with
 | none =>
  obtain rfl : n = 0 := by
   rcases Nat.eq_zero_or_pos n with h | h
   ·exact h
   ·obtain ⟨_, _, h, _⟩ := hr h; cases h
  obtain rfl : xs = [] := List.length_eq_zero_iff.1 (by omega)
  (have zz:=trivial;repeat((first|clear zz|with_reducible first|refine A3 ?_|refine A5 fun _=>?_|refine A4 fun _=>?_);try simp(disch:=first|omega|assumption|((repeat(first|exact A1|exact uH|apply A2|apply uT));first|done|fail)|(simp;first|done|omega|fail))[B9D]))
  refine p5 75 2 ?_
  exact W5 (.slice none 0 0) rfl (by simp)
 | some a =>
  (have zz:=trivial;repeat((first|clear zz|with_reducible first|refine A3 ?_|refine A5 fun _=>?_|refine A4 fun _=>?_|refine D0 fun _=>?_|refine C6 (hK:=fun _=>?_)|refine C7 (hK:=fun _=>?_)|refine C9 (hK:=fun _=>?_)|refine C4 (hK:=fun _=>?_)|refine C8 (hK:=fun _=>?_));try simp(disch:=first|omega|assumption|((repeat(first|exact A1|exact uH|apply A2|apply uT));first|done|fail)|(simp;first|done|omega|fail))[B9D]))
  refine A0Z (by (repeat constructor)) (M6.old0 hv) (by decide) hx hp (by simp only [maxLen]; omega) (by omega) fun a' c' => ?_
  simp only [Nat.zero_add, List.nil_append]
  exact D4 _ rfl (by (repeat' constructor))
theorem B0S (w : World) (v : Value) (n : Nat) (xs : List Value) (hn : n ≤ 1000000) (hx : xs.length = n * 4) (hp : xs.all plain = true) (hv : F5 w v n xs) :
  Fn PR B5 111 #[v] w (Rn [] w (fun r u => u = r) fun r => [.own 160 4 r n xs]) := by
 obtain ⟨a, c, rfl, hr⟩ := hv.form
 refine k7 (TW.go (κ := false) (S := []) ?_)
 unfold Q9
 cases a with
 | none =>
  obtain rfl : n = 0 := by
   rcases Nat.eq_zero_or_pos n with h | h
   ·exact h
   ·obtain ⟨_, _, h, _⟩ := hr h; cases h
  obtain rfl : xs = [] := List.length_eq_zero_iff.1 (by omega)
  (have zz:=trivial;repeat((first|clear zz|with_reducible first|refine A3 ?_|refine A5 fun _=>?_|refine A4 fun _=>?_);try simp(disch:=first|omega|assumption|((repeat(first|exact A1|exact uH|apply A2|apply uT));first|done|fail)|(simp;first|done|omega|fail))[B9B]))
  refine p5 160 4 ?_
  exact W5 (.slice none 0 0) rfl (by simp)
 | some a =>
  (have zz:=trivial;repeat((first|clear zz|with_reducible first|refine A3 ?_|refine A5 fun _=>?_|refine A4 fun _=>?_|refine D0 fun _=>?_|refine C6 (hK:=fun _=>?_)|refine C7 (hK:=fun _=>?_)|refine C9 (hK:=fun _=>?_)|refine C4 (hK:=fun _=>?_)|refine C8 (hK:=fun _=>?_));try simp(disch:=first|omega|assumption|((repeat(first|exact A1|exact uH|apply A2|apply uT));first|done|fail)|(simp;first|done|omega|fail))[B9B]))
  refine A0Z (by (repeat constructor)) (M6.old0 hv) (by decide) hx hp (by simp only [maxLen]; omega) (by omega) fun a' c' => ?_
  simp only [Nat.zero_add, List.nil_append]
  exact D4 _ rfl (by (repeat' constructor))
def A4S {α : Type} (p : α → Bool) (l : List α) : Int := match l.findIdx? p with | some i => i | none => -1
theorem B0Q {α : Type} {p : α → Bool} {l : List α} {i : Nat} {x : α} (hx : l[i]? = some x) (hp : p x = true) (h : ∀ j y, j < i → l[j]? = some y → p y = false) : A4S p l = i := by
 have : l.findIdx? p = some i := by
  rw [List.findIdx?_eq_some_iff_getElem]
  obtain ⟨hi, e⟩ := List.getElem?_eq_some_iff.1 hx
  exact ⟨hi, by rw [e]; exact hp, fun j hj => by rw [h j l[j] hj (List.getElem?_eq_getElem (by omega))]; simp⟩
 simp [A4S, this]
theorem B0G {α : Type} {p : α → Bool} {l : List α} (h : ∀ (j : Nat) y, l[j]? = some y → p y = false) : A4S p l = -1 := by
 have : l.findIdx? p = none := by
  rw [List.findIdx?_eq_none_iff]; intro x hx; obtain ⟨i, hi, rfl⟩ := List.getElem_of_mem hx; exact h i _ (List.getElem?_eq_getElem hi)
 simp [A4S, this]
theorem B0f (w : World) (v : Value) (l : List G1) (p : G1 → Bool) (f : FuncId) (cap : List Value) (hn : l.length ≤ 1000000) (hv : F5 w v l.length (l.flatMap F6)) (he : A9 PR f)
  (hf : ∀ w', KS false [] w w' → ∀ x : G1, Fn PR B5 f (.agg #[.int .i64 x.1, .int .i64 x.2] :: cap).toArray w' (fun r w'' => r = .bool (p x) ∧ C0 [] w' w'')) :
  Fn PR B5 222 #[v, .func (.func f) #[] cap.toArray] w (fun r w' => r = .int .i64 (A4S p l) ∧ C0 [] w w') := by
 refine Fn.pure (Z1 (TW.go (κ := false) (S := []) ?_))
 unfold M7
 obtain ⟨a, c, rfl, hr⟩ := hv.form
 (have zz:=trivial;repeat((first|clear zz|with_reducible first|refine A3 ?_|refine A5 fun _=>?_|refine A4 fun _=>?_);try simp(disch:=first|omega|assumption|((repeat(first|exact A1|exact uH|apply A2|apply uT));first|done|fail)|(simp;first|done|omega|fail))[]))
 refine k4 (α := Unit) l.length (fun _ _ => .int .i64 0) (fun _ _ => []) (fun i _ => ∀ j y, j < i → l[j]? = some y → p y = false) () (by intro j _ hj; omega) ?_
 rintro i _ hi hpre L hL
 by_cases hlt : i < l.length
 ·obtain ⟨b, o, rfl, hrow⟩ := hr (by omega)
  obtain ⟨x, hx⟩ : ∃ x, l[i]? = some x := ⟨_, List.getElem?_eq_getElem (by omega)⟩
  have h1 := hrow.at (f := F6) (k := 2) (fun _ => rfl) hx
  rw [F6] at h1
  (have zz:=trivial;repeat((first|clear zz|with_reducible first|refine A3 ?_|refine A5 fun _=>?_|refine A4 fun _=>?_);try simp(disch:=first|omega|assumption|((repeat(first|exact A1|exact uH|apply A2|apply uT));first|done|fail)|(simp;first|done|omega|fail))[hlt, h1]))
  refine A9W he (φ := fun r => r = .bool (p x)) (fun w' hw' => by simpa using hf w' hw'.ks x) ?_
  rintro _ rfl
  cases hb : p x with
  | true =>
   (have zz:=trivial;repeat((first|clear zz|with_reducible first|refine A3 ?_|refine A5 fun _=>?_|refine A4 fun _=>?_);try simp(disch:=first|omega|assumption|((repeat(first|exact A1|exact uH|apply A2|apply uT));first|done|fail)|(simp;first|done|omega|fail))[]))
   exact B0 (by rw [B0Q hx hb hpre])
  | false =>
   (have zz:=trivial;repeat((first|clear zz|with_reducible first|refine A3 ?_|refine A5 fun _=>?_|refine A4 fun _=>?_);try simp(disch:=first|omega|assumption|((repeat(first|exact A1|exact uH|apply A2|apply uT));first|done|fail)|(simp;first|done|omega|fail))[]))
   refine Sels.tw .nil (hL hlt () ?_)
   intro j y hj hy
   by_cases hji : j = i
   ·subst hji; rw [hx] at hy; cases hy; exact hb
   ·exact hpre j y (by omega) hy
 ·obtain rfl : i = l.length := by omega
  (have zz:=trivial;repeat((first|clear zz|with_reducible first|refine A3 ?_|refine A5 fun _=>?_|refine A4 fun _=>?_);try simp(disch:=first|omega|assumption|((repeat(first|exact A1|exact uH|apply A2|apply uT));first|done|fail)|(simp;first|done|omega|fail))[]))
  exact B0 (by rw [B0G fun j y hy => hpre j y (List.getElem?_eq_some_iff.1 hy).1 hy])
theorem B0Z (w : World) (v : Value) (l : List (Int × Int)) (p : Int × Int → Bool) (f : FuncId) (cap : List Value) (hn : l.length ≤ 1000000) (hv : F5 w v l.length (l.flatMap F6)) (he : A9 PR f)
  (hf : ∀ w', KS false [] w w' → ∀ x : Int × Int, Fn PR B5 f (.agg #[.int .i64 x.1, .int .i64 x.2] :: cap).toArray w' (fun r w'' => r = .bool (p x) ∧ C0 [] w' w'')) :
  Fn PR B5 170 #[v, .func (.func f) #[] cap.toArray] w (fun r w' => r = .int .i64 (A4S p l) ∧ C0 [] w w') := by
 refine Fn.pure (u0 (TW.go (κ := false) (S := []) ?_))
 unfold V1
 obtain ⟨a, c, rfl, hr⟩ := hv.form
 (have zz:=trivial;repeat((first|clear zz|with_reducible first|refine A3 ?_|refine A5 fun _=>?_|refine A4 fun _=>?_);try simp(disch:=first|omega|assumption|((repeat(first|exact A1|exact uH|apply A2|apply uT));first|done|fail)|(simp;first|done|omega|fail))[]))
 refine k4 (α := Unit) l.length (fun _ _ => .int .i64 0) (fun _ _ => []) (fun i _ => ∀ j y, j < i → l[j]? = some y → p y = false) () (by intro j _ hj; omega) ?_
 rintro i _ hi hpre L hL
 by_cases hlt : i < l.length
 ·obtain ⟨b, o, rfl, hrow⟩ := hr (by omega)
  obtain ⟨x, hx⟩ : ∃ x, l[i]? = some x := ⟨_, List.getElem?_eq_getElem (by omega)⟩
  have h1 := hrow.at (f := F6) (k := 2) (fun _ => rfl) hx
  rw [F6] at h1
  (have zz:=trivial;repeat((first|clear zz|with_reducible first|refine A3 ?_|refine A5 fun _=>?_|refine A4 fun _=>?_);try simp(disch:=first|omega|assumption|((repeat(first|exact A1|exact uH|apply A2|apply uT));first|done|fail)|(simp;first|done|omega|fail))[hlt, h1]))
  refine A9W he (φ := fun r => r = .bool (p x)) (fun w' hw' => by simpa using hf w' hw'.ks x) ?_
  rintro _ rfl
  cases hb : p x with
  | true =>
   (have zz:=trivial;repeat((first|clear zz|with_reducible first|refine A3 ?_|refine A5 fun _=>?_|refine A4 fun _=>?_);try simp(disch:=first|omega|assumption|((repeat(first|exact A1|exact uH|apply A2|apply uT));first|done|fail)|(simp;first|done|omega|fail))[]))
   exact B0 (by rw [B0Q hx hb hpre])
  | false =>
   (have zz:=trivial;repeat((first|clear zz|with_reducible first|refine A3 ?_|refine A5 fun _=>?_|refine A4 fun _=>?_);try simp(disch:=first|omega|assumption|((repeat(first|exact A1|exact uH|apply A2|apply uT));first|done|fail)|(simp;first|done|omega|fail))[]))
   refine Sels.tw .nil (hL hlt () ?_)
   intro j y hj hy
   by_cases hji : j = i
   ·subst hji; rw [hx] at hy; cases hy; exact hb
   ·exact hpre j y (by omega) hy
 ·obtain rfl : i = l.length := by omega
  (have zz:=trivial;repeat((first|clear zz|with_reducible first|refine A3 ?_|refine A5 fun _=>?_|refine A4 fun _=>?_);try simp(disch:=first|omega|assumption|((repeat(first|exact A1|exact uH|apply A2|apply uT));first|done|fail)|(simp;first|done|omega|fail))[]))
  exact B0 (by rw [B0G fun j y hy => hpre j y (List.getElem?_eq_some_iff.1 hy).1 hy])
theorem B8D {α : Type} (p : α → Bool) (l : List α) : decide (0 ≤ A4S p l) = l.any p := by
 unfold A4S
 cases h : l.findIdx? p with
 | none =>
  have := List.findIdx?_eq_none_iff.1 h
  rw [Bool.eq_iff_iff]; simp [List.any_eq_true]; intro x hx; have := this x hx; simp_all
 | some i =>
  obtain ⟨hi, h1, _⟩ := List.findIdx?_eq_some_iff_getElem.1 h
  rw [Bool.eq_iff_iff]; simp only [List.any_eq_true, decide_eq_true_eq]
  exact ⟨fun _ => ⟨_, List.getElem_mem hi, h1⟩, fun _ => by omega⟩
theorem A7F (w : World) (v : Value) (l : List (Int × Int)) (p : Int × Int → Bool) (f : FuncId) (cap : List Value) (hn : l.length ≤ 1000000) (hv : F5 w v l.length (l.flatMap F6)) (he : A9 PR f)
  (hf : ∀ w', KS false [] w w' → ∀ x : Int × Int, Fn PR B5 f (.agg #[.int .i64 x.1, .int .i64 x.2] :: cap).toArray w' (fun r w'' => r = .bool (p x) ∧ C0 [] w' w'')) :
  Fn PR B5 121 #[v, .func (.func f) #[] cap.toArray] w (fun r w' => r = .bool (l.any p) ∧ C0 [] w w') := by
 refine Fn.pure (m9 (TW.go (κ := false) (S := []) ?_))
 unfold S7
 refine D1 p9 (fun w' hw' => B0Z w' v l p f cap hn (hv.ks hw'.ks (by simp)) he fun w2 h => hf w2 (hw'.ks.trans h)) ?_
 (have zz:=trivial;repeat((first|clear zz|with_reducible first|refine A3 ?_|refine A5 fun _=>?_|refine A4 fun _=>?_);try simp(disch:=first|omega|assumption|((repeat(first|exact A1|exact uH|apply A2|apply uT));first|done|fail)|(simp;first|done|omega|fail))[]))
 exact B0 (by rw [B8D])
end Go.Proofs.YtpbmephflllolaaGreat
namespace Go.Proofs.YtpbmephflllolaaGreat
open Go
theorem B8G {t e : TypeId} {len n m n' m' : Nat} {z z' : Value} {d' : TypeDesc} {parts : Array (Nat × Value)} {cs : Array Value} {K : Value → WP} (h : TI PR t (.array len e) n m z) (he : TI PR e d' n' m' z')
  (hf : Instr.fill (fun i => some (i * n', n')) z.cells parts.toList = some cs) : A0 PR (Instr.build t parts) K = K (.agg cs) :=
 E2 (fun w => by
  simp only [Instr.build, Sem.run_bind, h.run_zero, Result.andThen_ok, h.run_und, he.run_size, hf, Sem.run_pure]) K
theorem bd2 {k0 k1 : IntKind} {a b : Int} (K : Value → WP) : A0 PR (Instr.build 153 #[(0, .int k0 a), (1, .int k1 b)]) K = K (.agg #[.int k0 a, .int k1 b]) :=
 B8G A8A H0 (by rw [show (#[(0, Value.int k0 a), (1, Value.int k1 b)] : Array (Nat × Value)).toList = [(0, Value.int k0 a), (1, Value.int k1 b)] from rfl, B7 rfl rfl (by simp), B7 rfl rfl (by simp [B8])]; rfl)
theorem B24 (w : World) (x : Int × Int) : Fn PR B5 122 #[.agg #[.int .i64 x.1, .int .i64 x.2]] w (fun r w' => r = .bool (decide (x.1 < 1 ∨ x.2 < x.1)) ∧ C0 [] w w') := by
 refine Fn.pure (A6f (TW.go (κ := false) (S := []) ?_))
 unfold A1D
 by_cases c1 : x.1 < 1
 ·(have zz:=trivial;repeat((first|clear zz|with_reducible first|refine A3 ?_|refine A5 fun _=>?_|refine A4 fun _=>?_);try simp(disch:=first|omega|assumption|((repeat(first|exact A1|exact uH|apply A2|apply uT));first|done|fail)|(simp;first|done|omega|fail))[c1]))
  exact B0 (by simp [c1])
 ·(have zz:=trivial;repeat((first|clear zz|with_reducible first|refine A3 ?_|refine A5 fun _=>?_|refine A4 fun _=>?_);try simp(disch:=first|omega|assumption|((repeat(first|exact A1|exact uH|apply A2|apply uT));first|done|fail)|(simp;first|done|omega|fail))[c1]))
  exact B0 (by simp [c1])
theorem B6c (w : World) (v : Value) (l : List (Int × Int)) (hn : l.length ≤ 1000000) (hv : F5 w v l.length (l.flatMap F6)) :
  Fn PR B5 70 #[v] w (fun r w' => r = .bool (!l.any fun x => decide (x.1 < 1 ∨ x.2 < x.1)) ∧ C0 [] w w') := by
 refine Fn.pure (A89 (TW.go (κ := false) (S := []) ?_))
 unfold A3q
 refine D1 l4 (fun w' hw' => A7F w' v l (fun x => decide (x.1 < 1 ∨ x.2 < x.1)) 122 [] hn (hv.ks hw'.ks (by simp)) A5f fun w2 h x => B24 w2 x) ?_
 (have zz:=trivial;repeat((first|clear zz|with_reducible first|refine A3 ?_|refine A5 fun _=>?_|refine A4 fun _=>?_);try simp(disch:=first|omega|assumption|((repeat(first|exact A1|exact uH|apply A2|apply uT));first|done|fail)|(simp;first|done|omega|fail))[]))
 exact B0 rfl
theorem B5A (w : World) (x : G1) (id : Int) (b : Nat) (hb : w.cell? ⟨b, 0, none⟩ = some (.int .i64 id)) : Fn PR B5 239 #[.agg #[.int .i64 x.1, .int .i64 x.2], .pointer (some ⟨b, 0, none⟩)] w (fun r w' => r = .bool (decide (x.1 = id)) ∧ C0 [] w w') := by
 refine Fn.pure (A7G (TW.go (κ := false) (S := []) ?_))
 unfold A1z
 (have zz:=trivial;repeat((first|clear zz|with_reducible first|refine A3 ?_|refine A5 fun _=>?_|refine A4 fun _=>?_);try simp(disch:=first|omega|assumption|((repeat(first|exact A1|exact uH|apply A2|apply uT));first|done|fail)|(simp;first|done|omega|fail))[hb]))
 exact B0 rfl
theorem B8S (w : World) (id : Int) : Fn PR B5 223 #[.int .i64 id] w (Rn [] w (fun b v => v = .func (.func 239) #[] #[.pointer (some ⟨b, 0, none⟩)]) fun b => [.pt b (.cells #[.int .i64 id] 3)]) := by
 refine B00 (TW.go (κ := false) (S := []) ?_)
 unfold A4s
 (have zz:=trivial;repeat((first|clear zz|with_reducible first|refine A3 ?_|refine A5 fun _=>?_|refine A4 fun _=>?_);try simp(disch:=first|omega|assumption|((repeat(first|exact A1|exact uH|apply A2|apply uT));first|done|fail)|(simp;first|done|omega|fail))[]))
 exact W5 _ rfl (by simp)
def A4j (l : List G1) (id : Int) : Int := A4S (fun x => decide (x.1 = id)) l
theorem B3P (w : World) (v : Value) (l : List G1) (id : Int) (hn : l.length ≤ 1000000) (hv : F5 w v l.length (l.flatMap F6)) :
  Fn PR B5 199 #[v, .int .i64 id] w (fun r w' => r = .int .i64 (A4j l id) ∧ C0 [] w w') := by
 refine Fn.pure (B1g (TW.go (κ := false) (S := []) ?_))
 unfold A5H
 refine M8 A9H (fun w' _ => B8S w' id) ?_
 rintro b _ rfl
 refine D1 Y8 (fun w' hw' => B0f w' v l (fun x => decide (x.1 = id)) 239 [.pointer (some ⟨b, 0, none⟩)] hn (hv.ks hw'.ks (by simp)) A6p
  fun w2 h x => B5A w2 x id b (h.cell (by simp) (hw'.cell1 (by (repeat constructor))))) ?_
 exact B0 rfl
def A9A (b : G1) : Bool := decide (1 ≤ b.1 ∧ b.1 ≤ 65535 ∧ 1 ≤ b.2 ∧ b.2 ≤ 16)
def u6 : List G1 → Bool
 | [] => true
 | b :: l => A9A b && !(l.any fun x => decide (x.1 = b.1)) && u6 l
def Z4 (l : List G1) : Int := if u6 l && decide (l.length ≤ 32) then 0 else 10
theorem A4N (l : List G1) : u6 l = true ↔ (∀ b ∈ l, A9A b = true) ∧ l.Pairwise fun a b => a.1 ≠ b.1 := by
 induction l with
 | nil => simp [u6]
 | cons b l ih =>
  simp only [u6, Bool.and_eq_true, ih, List.mem_cons, forall_eq_or_imp, List.pairwise_cons, Bool.not_eq_true', List.any_eq_false, decide_eq_true_eq]
  constructor
  ·rintro ⟨⟨h1, h2⟩, h3, h4⟩; exact ⟨⟨h1, h3⟩, fun a ha e => h2 a ha e.symm, h4⟩
  ·rintro ⟨⟨h1, h3⟩, h2, h4⟩; exact ⟨⟨h1, fun a ha e => h2 a ha e.symm⟩, h3, h4⟩
theorem C1v {α : Type} {R : α → α → Prop} {l : List α} (h : l.Pairwise R) {i j : Nat} {x y : α} (hij : i < j) (hx : l[i]? = some x) (hy : l[j]? = some y) : R x y := by
 obtain ⟨h1, rfl⟩ := List.getElem?_eq_some_iff.1 hx
 obtain ⟨h2, rfl⟩ := List.getElem?_eq_some_iff.1 hy
 exact List.pairwise_iff_getElem.1 h i j h1 h2 hij
theorem B98 {α : Type} {R : α → α → Prop} {l : List α} {i : Nat} {x : α} (hx : l[i]? = some x) : (l.take (i + 1)).Pairwise R ↔ (l.take i).Pairwise R ∧ ∀ y ∈ l.take i, R y x := by
 rw [List.take_add_one, hx]; simp [List.pairwise_append]
theorem B17 (w : World) (v : Value) (l : List G1) (hn : l.length ≤ 1000000) (hv : F5 w v l.length (l.flatMap F6)) :
  Fn PR B5 32 #[v] w (fun r w' => r = .int .i64 (Z4 l) ∧ C0 [] w w') := by
 refine Fn.pure (B05 (TW.go (κ := false) (S := []) ?_))
 unfold A43
 obtain ⟨a, c, rfl, hr⟩ := hv.form
 refine B3c (Value.int .i64) fun r => ?_
 (have zz:=trivial;repeat((first|clear zz|with_reducible first|refine A3 ?_|refine A5 fun _=>?_|refine A4 fun _=>?_);try simp(disch:=first|omega|assumption|((repeat(first|exact A1|exact uH|apply A2|apply uT));first|done|fail)|(simp;first|done|omega|fail))[]))
 refine k4 (α := List (Int × Value)) l.length (fun _ _ => .int .i64 0) (fun _ M => [.pt r (g4 (Value.int .i64) M)]) (fun i M => (∀ k, d4 k M = if (l.take i).any (fun x => decide (x.1 = k)) then some (.bool true) else none) ∧ u6 (l.take i) = true) [] (by simp [d4, u6]) ?_
 rintro i M hi ⟨hM, hok⟩ L hL
 by_cases hlt : i < l.length
 ·obtain ⟨b, o, rfl, hrow⟩ := hr (by omega)
  obtain ⟨x, hx⟩ : ∃ x, l[i]? = some x := ⟨_, List.getElem?_eq_getElem (by omega)⟩
  have h1 := hrow.at (f := F6) (k := 2) (fun _ => rfl) hx
  rw [F6] at h1
  have hxm : x ∈ l := List.mem_of_getElem? hx
  (have zz:=trivial;repeat((first|clear zz|with_reducible first|refine A3 ?_|refine A5 fun _=>?_|refine A4 fun _=>?_);try simp(disch:=first|omega|assumption|((repeat(first|exact A1|exact uH|apply A2|apply uT));first|done|fail)|(simp;first|done|omega|fail))[hlt, h1]))
  rw [A7Z B86 ty4 (KeyT.int H0) (l := M) (by (repeat constructor)), hM]
  cases hseen : (l.take i).any (fun y => decide (y.1 = x.1)) with
  | true =>
   have hbad : Z4 l = 10 := by
    have : u6 l = false := by
     rw [← Bool.not_eq_true, A4N]
     rintro ⟨_, h⟩
     obtain ⟨y, hy, he⟩ := List.any_eq_true.1 hseen
     obtain ⟨j, hj, rfl⟩ := List.getElem_of_mem hy
     simp only [List.length_take] at hj
     exact C1v (i := j) (j := i) h (by omega) (List.getElem?_eq_getElem (by omega)) hx (by simpa using he)
    simp [Z4, this]
   (have zz:=trivial;repeat((first|clear zz|with_reducible first|refine A3 ?_|refine A5 fun _=>?_|refine A4 fun _=>?_);try simp(disch:=first|omega|assumption|((repeat(first|exact A1|exact uH|apply A2|apply uT));first|done|fail)|(simp;first|done|omega|fail))[]))
   exact B0 (by rw [hbad])
  | false =>
   simp only [Bool.false_eq_true, if_false, Option.getD_none]
   (have zz:=trivial;repeat((first|clear zz|with_reducible first|refine A3 ?_|refine A5 fun _=>?_|refine A4 fun _=>?_|refine D0 fun _=>?_|refine C6 (hK:=fun _=>?_)|refine C7 (hK:=fun _=>?_)|refine C9 (hK:=fun _=>?_)|refine C4 (hK:=fun _=>?_)|refine C8 (hK:=fun _=>?_));try simp(disch:=first|omega|assumption|((repeat(first|exact A1|exact uH|apply A2|apply uT));first|done|fail)|(simp;first|done|omega|fail))[bd2]))
   rename_i bs bx
   refine D1 (u := .bool (A9A x)) A8u (fun w' hw' => ?_) ?_
   ·have := B6c w' (.slice (some ⟨bx, 0, none⟩) 2 2) [(x.1, 65535), (x.2, 16)] (by simp) (by simpa [F6] using M6.own (κ := false) (S := []) (w0 := w) (e := 153) (k := 2) (q := 2) (v := .slice (some ⟨bx, 0, none⟩) 2 2) (by (repeat constructor)) w' hw')
    have e : (!([(x.1, 65535), (x.2, 16)] : List (Int × Int)).any fun x => decide (x.1 < 1 ∨ x.2 < x.1)) = A9A x := by
     rw [Bool.eq_iff_iff]; simp [A9A]; omega
    rw [e] at this
    exact this
   ·cases hbk : A9A x with
    | false =>
     have hbad : Z4 l = 10 := by
      have : u6 l = false := by
       rw [← Bool.not_eq_true, A4N]
       rintro ⟨h, _⟩
       rw [h x hxm] at hbk; cases hbk
      simp [Z4, this]
     (have zz:=trivial;repeat((first|clear zz|with_reducible first|refine A3 ?_|refine A5 fun _=>?_|refine A4 fun _=>?_);try simp(disch:=first|omega|assumption|((repeat(first|exact A1|exact uH|apply A2|apply uT));first|done|fail)|(simp;first|done|omega|fail))[]))
     exact B0 (by rw [hbad])
    | true =>
     (have zz:=trivial;repeat((first|clear zz|with_reducible first|refine A3 ?_|refine A5 fun _=>?_|refine A4 fun _=>?_);try simp(disch:=first|omega|assumption|((repeat(first|exact A1|exact uH|apply A2|apply uT));first|done|fail)|(simp;first|done|omega|fail))[]))
     refine A66 B86 (KeyT.int H0) (k := x.1) (by (repeat constructor)) ?_
     (have zz:=trivial;repeat((first|clear zz|with_reducible first|refine A3 ?_|refine A5 fun _=>?_|refine A4 fun _=>?_);try simp(disch:=first|omega|assumption|((repeat(first|exact A1|exact uH|apply A2|apply uT));first|done|fail)|(simp;first|done|omega|fail))[]))
     refine Sels.tw (by (repeat' constructor)) (hL hlt _ ⟨?_, ?_⟩)
     ·intro k
      rw [B63, hM, List.take_add_one, hx]
      by_cases hk : k = x.1
      ·subst hk; simp
      ·have hk' : ¬ x.1 = k := fun e => hk e.symm
       have hAB : (l.take i ++ (some x).toList).any (fun x => decide (x.1 = k)) = (l.take i).any (fun x => decide (x.1 = k)) := by
        rw [List.any_append]; simp only [Option.toList_some, List.any_cons, List.any_nil, decide_eq_false hk', Bool.or_false]
       rw [if_neg hk, hAB]
     ·rw [A4N] at hok ⊢
      refine ⟨fun y hy => ?_, (B98 hx).2 ⟨hok.2, fun y hy e => ?_⟩⟩
      ·rw [List.take_add_one, hx] at hy
       simp only [Option.toList_some, List.mem_append, List.mem_singleton] at hy
       rcases hy with hy | rfl
       ·exact hok.1 y hy
       ·exact hbk
      ·have := List.any_eq_false.1 hseen y hy
       simp [e] at this
 ·obtain rfl : i = l.length := by omega
  rw [List.take_length] at hok
  by_cases c1 : l.length ≤ 32
  ·have c1' : ¬ (32 : Int) < l.length := by omega
   (have zz:=trivial;repeat((first|clear zz|with_reducible first|refine A3 ?_|refine A5 fun _=>?_|refine A4 fun _=>?_);try simp(disch:=first|omega|assumption|((repeat(first|exact A1|exact uH|apply A2|apply uT));first|done|fail)|(simp;first|done|omega|fail))[c1']))
   exact B0 (by simp [Z4, hok, c1])
  ·have c1' : (32 : Int) < l.length := by omega
   (have zz:=trivial;repeat((first|clear zz|with_reducible first|refine A3 ?_|refine A5 fun _=>?_|refine A4 fun _=>?_);try simp(disch:=first|omega|assumption|((repeat(first|exact A1|exact uH|apply A2|apply uT));first|done|fail)|(simp;first|done|omega|fail))[c1']))
   exact B0 (by simp [Z4, c1])
end Go.Proofs.YtpbmephflllolaaGreat
namespace Go.Proofs.YtpbmephflllolaaGreat
open Go
structure CfgV where
 wk : Int
 sh : Int
 cp : Int
 idle : Int
 sl : Int
 deriving DecidableEq
def CfgV.val (c : CfgV) : Value := .agg #[.int .i64 c.wk, .int .i64 c.sh, .int .i64 c.cp, .int .i64 c.idle, .int .i64 c.sl]
def g8 (n lo hi : Int) : Bool := decide (lo ≤ n) && decide (n ≤ hi)
def Y1 (c : CfgV) : Bool := g8 c.wk 1 64 && g8 c.sh 1 16 && g8 c.cp 1 64 && g8 c.idle 0 1000000 && g8 c.sl 2 8
structure AnsV where
 err : Int
 bk : Int
 made : Bool
 count : Int
 deriving DecidableEq
def AnsV.val (a : AnsV) : Value := .agg #[.int .i64 a.err, .int .i64 a.bk, .bool a.made, .int .i64 a.count]
structure OpV where
 kind : Int
 packet : ByteArray
 pool : List G1
 shard : Int
def OpV.val (o : OpV) (v : Value) : Value := .agg #[.int .i64 o.kind, .string o.packet, v, .int .i64 o.shard]
end Go.Proofs.YtpbmephflllolaaGreat
namespace Go.Proofs.YtpbmephflllolaaGreat
open Go
def A33 (X : Nat → Prop) (t0 t1 : Value) (R : Value → WP) : WP :=
 B1 PR X (Instr.box 3 t1) fun t3 =>
 A0 PR (Instr.makeFunc (.func 165) #[] #[t3]) fun t6 =>
 B2 PR X 164 [t0, t6] fun t7 =>
 R t7
theorem A2f : A9 PR 113 := A7 Tryz.func113 (by kernel_rfl) rfl
theorem A9m {X : Nat → Prop} {t0 t1 : Value} {R : Value → WP} {w : World} (h : A33 X t0 t1 R w) : Fn PR X 113 #[t0, t1] w R := D2 (args := [t0, t1]) mixed Tryz.func113 (by kernel_rfl) h
def A4v (X : Nat → Prop) (t0 t1 : Value) (R : Value → WP) : WP :=
 B1 PR X (Instr.box 9 t1) fun t3 =>
 B1 PR X (Instr.alloc 3 true (.tuple #[])) fun t5 =>
 C1 PR X (Instr.storeAt 3 t5 (.int .i64 (-1))) <|
 jn (n := 0) (
 A6 PR (Instr.loadAt 3 t5) fun t28 =>
 U2 (R t28)) fun J1 =>
 A6 PR (Instr.loadAt 9 t3) fun t9 =>
 B2 PR X 198 [t0, t9] fun t10 =>
 rng (N := 2) PR X (fun t11 t12 K2 =>
 B1 PR (fun _ => False) (Instr.alloc 160 true (.tuple #[])) fun t7 =>
 C1 PR (fun _ => False) (Instr.storeAt 160 t7 t12) <|
 bgn <|
 A0 PR (Instr.fieldAt 160 t7 0) fun t14 =>
 A6 PR (Instr.loadAt 3 t14) fun t15 =>
 A0 PR (binOp .eql 3 t15 (.int .i64 0)) fun t16 =>
 C3 t16 (
 K2 (some (.exit 0))) (
 A0 PR (Instr.fieldAt 160 t7 0) fun t18 =>
 A6 PR (Instr.loadAt 3 t18) fun t19 =>
 A0 PR (binOp .eql 3 t19 (.int .i64 1)) fun t20 =>
 gj t20 true (fun J => A0 PR (Instr.fieldAt 160 t7 1) J) fun t22 =>
 gj t20 true (fun J => A6 PR (Instr.loadAt 9 t22) J) fun t23 =>
 gj t20 true (fun J => A6 PR (Instr.loadAt 9 t3) J) fun t24 =>
 gj t20 true (fun J => A0 PR (binOp .eql 9 t23 t24) J) fun t25 =>
 A0 PR (do pure (if ← asBool t20 then t25 else (.bool false))) fun t26 =>
 C3 t26 (
 C1 PR (fun _ => False) (Instr.storeAt 3 t5 t11) <|
 K2 (some (.exit 0))) (
 K2 none))) t10 (fun j => match j with | none => (J1) | some (.exit i) => (match Nat.beq i 0 with | true => (J1) | false => (D8)) | some .ret => (U2 (R (.int .i64 0))) | some _ => D8)
theorem l7 : A9 PR 150 := A7 Tryz.func150 (by kernel_rfl) rfl
theorem B0q {X : Nat → Prop} {t0 t1 : Value} {R : Value → WP} {w : World} (h : A4v X t0 t1 R w) : Fn PR X 150 #[t0, t1] w R := D2 (args := [t0, t1]) mixed Tryz.func150 (by kernel_rfl) h
def j8 (X : Nat → Prop) (t0 t1 : Value) (R : Value → WP) : WP :=
 jn (n := 2) (fun t5 t10 =>
 R t5) fun J1 =>
 A0 PR (A8 .len #[94] 0 [t0]) fun t9 =>
 lp (n := 2) (fun L2 t5_1 t10_1 =>
 A0 PR (binOp .lss 3 t10_1 t9) fun t11 =>
 jn (n := 0) (
 jn (n := 1) (fun t5_2 =>
 A0 PR (binOp .add 3 t10_1 (.int .i64 1)) fun t19 =>
 L2 t5_2 t19) fun J3 =>
 A0 PR (Instr.indexAt 94 t0 t10_1) fun t12 =>
 A6 PR (Instr.loadAt 160 t12) fun t13 =>
 B1 PR X (Instr.alloc 160 true (.tuple #[])) fun t7 =>
 C1 PR X (Instr.storeAt 160 t7 t13) <|
 A6 PR (Instr.loadAt 160 t7) fun t15 =>
 H3 PR X t1 [t15] fun t16 =>
 C3 t16 (
 A0 PR (binOp .add 3 t5_1 (.int .i64 1)) fun t18 =>
 J3 t18) (
 J3 t5_1)) fun J4 =>
 C3 t11 (
 J4) (
 J1 t5_1 t10_1)) (.int .i64 0) (.int .i64 0)
theorem A1Z : A9 PR 164 := A7 Tryz.func164 (by kernel_rfl) rfl
theorem A13 {X : Nat → Prop} {t0 t1 : Value} {R : Value → WP} {w : World} (h : j8 X t0 t1 R w) : Fn PR X 164 #[t0, t1] w R := D2 (args := [t0, t1]) mixed Tryz.func164 (by kernel_rfl) h
def A1K (X : Nat → Prop) (t0 t1 : Value) (R : Value → WP) : WP :=
 B1 PR X (Instr.box 160 t0) fun t2 =>
 A0 PR (Instr.fieldAt 160 t2 0) fun t4 =>
 A6 PR (Instr.loadAt 3 t4) fun t5 =>
 A6 PR (Instr.loadAt 3 t1) fun t6 =>
 A0 PR (binOp .eql 3 t5 t6) fun t7 =>
 R t7
theorem A5T : A9 PR 165 := A7 Tryz.func165 (by kernel_rfl) rfl
theorem A6e {X : Nat → Prop} {t0 t1 : Value} {R : Value → WP} {w : World} (h : A1K X t0 t1 R w) : Fn PR X 165 #[t0, t1] w R := D2 (args := [t0, t1]) mixed Tryz.func165 (by kernel_rfl) h
def A5u (X : Nat → Prop) (t0 t1 : Value) (R : Value → WP) : WP :=
 B1 PR X (Instr.box 94 t0) fun t2 =>
 B1 PR X (Instr.box 9 t1) fun t3 =>
 A0 PR (Instr.makeFunc (.func 220) #[] #[t3, t2]) fun t5 =>
 R t5
theorem A4z : A9 PR 198 := A7 Tryz.func198 (by kernel_rfl) rfl
theorem B2m {X : Nat → Prop} {t0 t1 : Value} {R : Value → WP} {w : World} (h : A5u X t0 t1 R w) : Fn PR X 198 #[t0, t1] w R := D2 (args := [t0, t1]) mixed Tryz.func198 (by kernel_rfl) h
def A4p (X : Nat → Prop) (t0 t1 : Value) (R : Value → WP) : WP :=
 B1 PR X (Instr.alloc 3 true (.tuple #[])) fun t4 =>
 jn (n := 0) (
 jn (n := 0) (
 C1 PR X (Instr.storeAt 3 t4 (.int .i64 (-1))) <|
 U2 (A6 PR (E3 [.c 3 t4]) R)) fun J1 =>
 B2 PR X 198 [t0, t1] fun t13 =>
 rng (N := 2) PR X (fun t14 t15 K2 =>
 B1 PR (fun _ => False) (Instr.alloc 160 true (.tuple #[])) fun t6 =>
 C1 PR (fun _ => False) (Instr.storeAt 160 t6 t15) <|
 bgn <|
 A0 PR (Instr.fieldAt 160 t6 0) fun t16 =>
 A6 PR (Instr.loadAt 3 t16) fun t17 =>
 A0 PR (binOp .neq 3 t17 (.int .i64 1)) fun t18 =>
 C3 t18 (
 C1 PR (fun _ => False) (Instr.storeAt 3 t4 t14) <|
 K2 (some .ret)) (
 K2 none)) t13 (fun j => match j with | none => (J1) | some (.exit i) => (match Nat.beq i 0 with | true => (J1) | false => (D8)) | some .ret => (U2 (A6 PR (E3 [.c 3 t4]) R)) | some _ => D8)) fun J3 =>
 B2 PR X 150 [t0, t1] fun t9 =>
 A0 PR (binOp .geq 3 t9 (.int .i64 0)) fun t10 =>
 C3 t10 (
 C1 PR X (Instr.storeAt 3 t4 (.int .i64 (-1))) <|
 U2 (A6 PR (E3 [.c 3 t4]) R)) (
 J3)
theorem A9p : A9 PR 201 := A7 Tryz.func201 (by kernel_rfl) rfl
theorem B0v {X : Nat → Prop} {t0 t1 : Value} {R : Value → WP} {w : World} (h : A4p X t0 t1 R w) : Fn PR X 201 #[t0, t1] w R := D2 (args := [t0, t1]) mixed Tryz.func201 (by kernel_rfl) h
def A20 (X : Nat → Prop) (t0 t1 t2 : Value) (R : Value → WP) : WP :=
 A6 PR (Instr.loadAt 9 t1) fun t7 =>
 A6 PR (Instr.loadAt 94 t2) fun t8 =>
 A0 PR (A8 .len #[94] 0 [t8]) fun t9 =>
 B2 PR X 221 [t7, t9] fun t10 =>
 A6 PR (Instr.loadAt 94 t2) fun t11 =>
 A0 PR (A8 .len #[94] 0 [t11]) fun t12 =>
 lp (n := 1) (fun L1 t13 =>
 A0 PR (binOp .lss 3 t13 t12) fun t14 =>
 jn (n := 0) (
 jn (n := 0) (
 A0 PR (binOp .add 3 t13 (.int .i64 1)) fun t30 =>
 L1 t30) fun J2 =>
 A0 PR (binOp .add 3 t10 t13) fun t18 =>
 A6 PR (Instr.loadAt 94 t2) fun t19 =>
 A0 PR (A8 .len #[94] 0 [t19]) fun t20 =>
 A0 PR (binOp .rem 3 t18 t20) fun t21 =>
 A6 PR (Instr.loadAt 94 t2) fun t24 =>
 A0 PR (Instr.indexAt 94 t24 t21) fun t26 =>
 A6 PR (Instr.loadAt 160 t26) fun t27 =>
 H3 PR X t0 [t21, t27] fun t28 =>
 A0 PR (Op.unary .not t28) fun t29 =>
 C3 t29 (
 R (.tuple #[])) (
 J2)) fun J3 =>
 C3 t14 (
 J3) (
 R (.tuple #[]))) (.int .i64 0)
theorem A7M : A9 PR 220 := A7 Tryz.func220 (by kernel_rfl) rfl
theorem A8T {X : Nat → Prop} {t0 t1 t2 : Value} {R : Value → WP} {w : World} (h : A20 X t0 t1 t2 R w) : Fn PR X 220 #[t0, t1, t2] w R := D2 (args := [t0, t1, t2]) mixed Tryz.func220 (by kernel_rfl) h
theorem A8b {X : Nat → Prop} {t0 t1 t2 : Value} {K : Value → WP} {w : World} (h : Fn PR X 220 #[t0, t1, t2] w K) : r5 PR X 220 [t0, t1, t2] K w := ⟨A7M, h⟩
def A41 (X : Nat → Prop) (t0 t1 : Value) (R : Value → WP) : WP :=
 jn (n := 1) (fun t4 =>
 B2 PR X 102 [t0] fun t8 =>
 A0 PR (convert 3 129 t1) fun t10 =>
 A0 PR (binOp .rem 129 t8 t10) fun t11 =>
 A0 PR (convert 129 3 t11) fun t12 =>
 R t12) fun J1 =>
 A0 PR (binOp .lss 3 t1 (.int .i64 1)) fun t6 =>
 C3 t6 (
 R (.int .i64 0)) (
 J1 (.int .i64 0))
theorem A9L : A9 PR 221 := A7 Tryz.func221 (by kernel_rfl) rfl
theorem B0b {X : Nat → Prop} {t0 t1 : Value} {R : Value → WP} {w : World} (h : A41 X t0 t1 R w) : Fn PR X 221 #[t0, t1] w R := D2 (args := [t0, t1]) mixed Tryz.func221 (by kernel_rfl) h
end Go.Proofs.YtpbmephflllolaaGreat
namespace Go.Proofs.YtpbmephflllolaaGreat
open Go
def A8w (X : Nat → Prop) (t0 : Value) (R : Value → WP) : WP :=
 B2 PR X 149 [(.int .u64 14695981039346656037), t0] fun t4 =>
 R t4
theorem A0P : A9 PR 102 := A7 Tryz.func102 (by kernel_rfl) rfl
theorem B5e {X : Nat → Prop} {t0 : Value} {R : Value → WP} {w : World} (h : A8w X t0 R w) : Fn PR X 102 #[t0] w R := D2 (args := [t0]) mixed Tryz.func102 (by kernel_rfl) h
def A6y (X : Nat → Prop) (t0 t1 : Value) (R : Value → WP) : WP :=
 B1 PR X (Instr.alloc 300 true (.tuple #[])) fun t5 =>
 B1 PR X (Instr.alloc 302 true (.tuple #[])) fun t6 =>
 C1 PR X (Instr.storeAt 300 t5 (.func (.func 196) #[] #[])) <|
 C1 PR X (Instr.storeAt 302 t6 t0) <|
 jn (n := 0) (
 A6 PR (Instr.loadAt 302 t6) fun t16 =>
 U2 (R t16)) fun J1 =>
 B2 PR X 197 [t1] fun t10 =>
 rng (N := 1) PR X (fun t11 K2 =>
 bgn <|
 A6 PR (Instr.loadAt 300 t5) fun t12 =>
 A6 PR (Instr.loadAt 302 t6) fun t13 =>
 H3 PR (fun _ => False) t12 [t13, t11] fun t15 =>
 C1 PR (fun _ => False) (Instr.storeAt 302 t6 t15) <|
 K2 none) t10 (fun j => match j with | none => (J1) | some (.exit i) => (match Nat.beq i 0 with | true => (J1) | false => (D8)) | some .ret => (U2 (R (.int .u64 0))) | some _ => D8)
theorem A58 : A9 PR 149 := A7 Tryz.func149 (by kernel_rfl) rfl
theorem B2x {X : Nat → Prop} {t0 t1 : Value} {R : Value → WP} {w : World} (h : A6y X t0 t1 R w) : Fn PR X 149 #[t0, t1] w R := D2 (args := [t0, t1]) mixed Tryz.func149 (by kernel_rfl) h
def A3S (X : Nat → Prop) (t0 t1 : Value) (R : Value → WP) : WP :=
 A0 PR (convert 5 302 t1) fun t7 =>
 A0 PR (binOp .xor 302 t0 t7) fun t8 =>
 A0 PR (binOp .mul 302 t8 (.int .u64 1099511628211)) fun t9 =>
 R t9
theorem A8K : A9 PR 196 := A7 Tryz.func196 (by kernel_rfl) rfl
theorem A81 {X : Nat → Prop} {t0 t1 : Value} {R : Value → WP} {w : World} (h : A3S X t0 t1 R w) : Fn PR X 196 #[t0, t1] w R := D2 (args := [t0, t1]) mixed Tryz.func196 (by kernel_rfl) h
def A6w (X : Nat → Prop) (t0 : Value) (R : Value → WP) : WP :=
 B1 PR X (Instr.box 9 t0) fun t1 =>
 A0 PR (Instr.makeFunc (.func 219) #[] #[t1]) fun t3 =>
 R t3
theorem B16 : A9 PR 197 := A7 Tryz.func197 (by kernel_rfl) rfl
theorem B28 {X : Nat → Prop} {t0 : Value} {R : Value → WP} {w : World} (h : A6w X t0 R w) : Fn PR X 197 #[t0] w R := D2 (args := [t0]) mixed Tryz.func197 (by kernel_rfl) h
def A30 (X : Nat → Prop) (t0 t1 : Value) (R : Value → WP) : WP :=
 A6 PR (Instr.loadAt 9 t1) fun t4 =>
 A0 PR (A8 .len #[9] 0 [t4]) fun t5 =>
 lp (n := 1) (fun L1 t6 =>
 A0 PR (binOp .lss 3 t6 t5) fun t7 =>
 jn (n := 0) (
 jn (n := 0) (
 A0 PR (binOp .add 3 t6 (.int .i64 1)) fun t15 =>
 L1 t15) fun J2 =>
 A6 PR (Instr.loadAt 9 t1) fun t10 =>
 A0 PR (Instr.index 9 t10 t6) fun t12 =>
 H3 PR X t0 [t12] fun t13 =>
 A0 PR (Op.unary .not t13) fun t14 =>
 C3 t14 (
 R (.tuple #[])) (
 J2)) fun J3 =>
 C3 t7 (
 J3) (
 R (.tuple #[]))) (.int .i64 0)
theorem A8J : A9 PR 219 := A7 Tryz.func219 (by kernel_rfl) rfl
theorem A83 {X : Nat → Prop} {t0 t1 : Value} {R : Value → WP} {w : World} (h : A30 X t0 t1 R w) : Fn PR X 219 #[t0, t1] w R := D2 (args := [t0, t1]) mixed Tryz.func219 (by kernel_rfl) h
theorem A9a {X : Nat → Prop} {t0 t1 : Value} {K : Value → WP} {w : World} (h : Fn PR X 219 #[t0, t1] w K) : r5 PR X 219 [t0, t1] K w := ⟨A8J, h⟩
end Go.Proofs.YtpbmephflllolaaGreat
namespace Go.Proofs.YtpbmephflllolaaGreat
open Go
def A9D (h b : Nat) : Nat := ((h ^^^ b) * 1099511628211) % 18446744073709551616
def A9F (h : Nat) (s : ByteArray) : Nat → Nat
 | 0 => h
 | i + 1 => A9D (A9F h s i) (E1 s i)
def B4d (h : Nat) (s : ByteArray) : Nat := A9F h s s.size
def Z5 (s : ByteArray) : Nat := B4d 14695981039346656037 s
theorem C0E (h b : Nat) : A9D h b < 2 ^ 64 := by unfold A9D; omega
theorem B3y {h : Nat} (hh : h < 2 ^ 64) (s : ByteArray) (i : Nat) : A9F h s i < 2 ^ 64 := by
 cases i with
 | zero => exact hh
 | succ i => exact C0E _ _
theorem C2a (w : World) (h b : Nat) (hh : h < 2 ^ 64) (hb : b < 256) : Fn PR B5 196 #[.int .u64 (h : Int), .int .u8 (b : Int)] w (fun v w' => v = .int .u64 (A9D h b : Nat) ∧ C0 [] w w') := by
 refine Fn.pure (A81 (TW.go (κ := false) (S := []) ?_))
 unfold A3S
 (have zz:=trivial;repeat((first|clear zz|with_reducible first|refine A3 ?_|refine A5 fun _=>?_|refine A4 fun _=>?_);try simp(disch:=first|omega|assumption|((repeat(first|exact A1|exact uH|apply A2|apply uT));first|done|fail)|(simp;first|done|omega|fail))[]))
 have e1 : (h % 2 ^ IntKind.u64.bits ^^^ b % 2 ^ IntKind.u64.bits) = h ^^^ b := by rw [show (2 : Nat) ^ IntKind.u64.bits = 2 ^ 64 from rfl, Nat.mod_eq_of_lt hh, Nat.mod_eq_of_lt (by omega)]
 have e2 : h ^^^ b < 2 ^ 64 := Nat.xor_lt_two_pow hh (by omega)
 rw [e1, A0F (n := ((h ^^^ b : Nat) : Int)) (by omega) (by omega)]
 refine B0 ?_
 have e3 : IntKind.u64.wrap (((h ^^^ b : Nat) : Int) * 1099511628211) = (A9D h b : Nat) := by
  simp only [IntKind.wrap, IntKind.bits, IntKind.signed, A9D]
  simp
 rw [e3]
abbrev B81 (b : Nat) : Value := .func (.func 219) #[] #[.pointer (some ⟨b, 0, none⟩)]
theorem B9n (w : World) (s : ByteArray) : Fn PR B5 197 #[.string s] w (Rn [] w (fun b v => v = B81 b) fun b => [.pt b (.cells #[.string s] 9)]) := by
 refine B28 (TW.go (κ := false) (S := []) ?_)
 unfold A6w
 (have zz:=trivial;repeat((first|clear zz|with_reducible first|refine A3 ?_|refine A5 fun _=>?_|refine A4 fun _=>?_);try simp(disch:=first|omega|assumption|((repeat(first|exact A1|exact uH|apply A2|apply uT));first|done|fail)|(simp;first|done|omega|fail))[]))
 rename_i b
 exact W5 b rfl (by simp)
def B1A (s : ByteArray) (i : Nat) : List Value := [.int .u8 (E1 s i : Nat)]
theorem B9H (b : Nat) (s : ByteArray) (hs : s.size < 2 ^ 60) : A1T (B81 b) [.pt b (.cells #[.string s] 9)] (fun _ _ => True) ((List.range s.size).map (B1A s)) := by
 refine ⟨_, _, _, rfl, fun l J E hJ hE stJ stE hy w0 h0 => ?_⟩
 refine A9a (A83 (TW.at (κ := true) ?_ (hJ _ _ _ h0).1))
 unfold A30
 (have zz:=trivial;repeat((first|clear zz|with_reducible first|refine A3 ?_|refine A5 fun _=>?_|refine A4 fun _=>?_);try simp(disch:=first|omega|assumption|((repeat(first|exact A1|exact uH|apply A2|apply uT));first|done|fail)|(simp;first|done|omega|fail))[]))
 refine A18 s.size (fun i => i) (fun _ => _) hJ stJ h0 fun i a hi hJi _ L hL => ?_
 by_cases hlt : i < s.size
 ·obtain ⟨by0, hb0, hb1⟩ := q9 (s := s) (i := i) hlt
  have hb0' : s[((i : Nat) : Int).toNat]? = some by0 := by rw [Int.toNat_natCast]; exact hb0
  (have zz:=trivial;repeat((first|clear zz|with_reducible first|refine A3 ?_|refine A5 fun _=>?_|refine A4 fun _=>?_);try simp(disch:=first|omega|assumption|((repeat(first|exact A1|exact uH|apply A2|apply uT));first|done|fail)|(simp;first|done|omega|fail))[hlt, Y3]))
  rw [hb1]
  refine A2g hJ hE stJ hy hJi (by simpa using hlt) (by simp [B1A]) (fun w3 h => ?_) (fun w3 h => ?_)
  ·(have zz:=trivial;repeat((first|clear zz|with_reducible first|refine A3 ?_|refine A5 fun _=>?_|refine A4 fun _=>?_);try simp(disch:=first|omega|assumption|((repeat(first|exact A1|exact uH|apply A2|apply uT));first|done|fail)|(simp;first|done|omega|fail))[]))
   exact fun w' hw' => hL hlt w' (stJ _ _ _ _ _ h hw')
  ·(have zz:=trivial;repeat((first|clear zz|with_reducible first|refine A3 ?_|refine A5 fun _=>?_|refine A4 fun _=>?_);try simp(disch:=first|omega|assumption|((repeat(first|exact A1|exact uH|apply A2|apply uT));first|done|fail)|(simp;first|done|omega|fail))[]))
   exact A0x stE h
 ·obtain rfl : i = s.size := by omega
  (have zz:=trivial;repeat((first|clear zz|with_reducible first|refine A3 ?_|refine A5 fun _=>?_|refine A4 fun _=>?_);try simp(disch:=first|omega|assumption|((repeat(first|exact A1|exact uH|apply A2|apply uT));first|done|fail)|(simp;first|done|omega|fail))[]))
  exact A0u stJ (by simpa using hJi)
theorem B3p (w : World) (h : Nat) (s : ByteArray) (hh : h < 2 ^ 64) (hs : s.size < 2 ^ 60) : Fn PR B5 149 #[.int .u64 (h : Int), .string s] w (fun v w' => v = .int .u64 (B4d h s : Nat) ∧ C0 [] w w') := by
 refine Fn.pure (B2x (TW.go (κ := false) (S := []) ?_))
 unfold A6y
 (have zz:=trivial;repeat((first|clear zz|with_reducible first|refine A3 ?_|refine A5 fun _=>?_|refine A4 fun _=>?_);try simp(disch:=first|omega|assumption|((repeat(first|exact A1|exact uH|apply A2|apply uT));first|done|fail)|(simp;first|done|omega|fail))[]))
 rename_i bf bx
 refine M8 B16 (fun w' _ => B9n w' s) ?_
 rintro b v rfl
 refine x7 (B9H b s hs) (by simp [B1A]) (fun _ (_ : Unit) => True) (fun i _ => [.pt bx (.cells #[.int .u64 ((A9F h s i : Nat) : Int)] 302), .pt bf (.cells #[.func (.func 196) #[] #[]] 300)])
  (fun _ (_ : Unit) => False) (fun _ => []) () trivial ?_ ?_ ?_ ?_ (by simp [A9F])
 ·intros; trivial
 ·rintro i hi _ F _ K' hK _
  simp only [List.getElem_map, List.getElem_range, B1A, VF.app]
  (have zz:=trivial;repeat((first|clear zz|with_reducible first|refine A3 ?_|refine A5 fun _=>?_|refine A4 fun _=>?_);try simp(disch:=first|omega|assumption|((repeat(first|exact A1|exact uH|apply A2|apply uT));first|done|fail)|(simp;first|done|omega|fail))[]))
  refine D1 A8K (fun w' _ => C2a w' _ _ (B3y hh s i) (r9 s i)) ?_
  (have zz:=trivial;repeat((first|clear zz|with_reducible first|refine A3 ?_|refine A5 fun _=>?_|refine A4 fun _=>?_);try simp(disch:=first|omega|assumption|((repeat(first|exact A1|exact uH|apply A2|apply uT));first|done|fail)|(simp;first|done|omega|fail))[]))
  exact TW.eqH (by simp [A9F]) (hK () trivial)
 ·rintro _ _
  (have zz:=trivial;repeat((first|clear zz|with_reducible first|refine A3 ?_|refine A5 fun _=>?_|refine A4 fun _=>?_);try simp(disch:=first|omega|assumption|((repeat(first|exact A1|exact uH|apply A2|apply uT));first|done|fail)|(simp;first|done|omega|fail))[]))
  exact B0 (by simp [B4d])
 ·rintro _ _ h; exact h.elim
theorem A2c (w : World) (s : ByteArray) (hs : s.size < 2 ^ 60) : Fn PR B5 102 #[.string s] w (fun v w' => v = .int .u64 (Z5 s : Nat) ∧ C0 [] w w') := by
 refine Fn.pure (B5e (TW.go (κ := false) (S := []) ?_))
 unfold A8w
 refine D1 A58 (fun w' _ => B3p w' 14695981039346656037 s (by omega) hs) ?_
 exact B0 rfl
end Go.Proofs.YtpbmephflllolaaGreat
namespace Go.Proofs.YtpbmephflllolaaGreat
open Go
def L5 (key : ByteArray) (n : Nat) : Nat := Z5 key % n
theorem A9Y (s : ByteArray) : Z5 s < 2 ^ 64 := B3y (by omega) s _
theorem B9g (w : World) (key : ByteArray) (n : Nat) (hk : key.size < 2 ^ 60) (hn : n ≤ 1000000) : Fn PR B5 221 #[.string key, .int .i64 (n : Int)] w (fun v w' => v = .int .i64 (if n = 0 then 0 else L5 key n : Nat) ∧ C0 [] w w') := by
 refine Fn.pure (B0b (TW.go (κ := false) (S := []) ?_))
 unfold A41
 by_cases c1 : n = 0
 ·have c1' : (n : Int) < 1 := by omega
  (have zz:=trivial;repeat((first|clear zz|with_reducible first|refine A3 ?_|refine A5 fun _=>?_|refine A4 fun _=>?_);try simp(disch:=first|omega|assumption|((repeat(first|exact A1|exact uH|apply A2|apply uT));first|done|fail)|(simp;first|done|omega|fail))[c1']))
  exact B0 (by simp [c1])
 have c1' : ¬ (n : Int) < 1 := by omega
 have c1'' : ¬ (n : Int) = 0 := by omega
 (have zz:=trivial;repeat((first|clear zz|with_reducible first|refine A3 ?_|refine A5 fun _=>?_|refine A4 fun _=>?_);try simp(disch:=first|omega|assumption|((repeat(first|exact A1|exact uH|apply A2|apply uT));first|done|fail)|(simp;first|done|omega|fail))[c1']))
 refine D1 A0P (fun w' _ => A2c w' key hk) ?_
 have hl := A9Y key
 have hm : L5 key n < n := Nat.mod_lt _ (by omega)
 have e1 : ((Z5 key : Nat) : Int).tmod n = (L5 key n : Nat) := by unfold L5; rw [Int.tmod_eq_emod_of_nonneg (by omega)]; omega
 have e2 : ((Z5 key : Nat) : Int) % n = (L5 key n : Nat) := by unfold L5; omega
 (have zz:=trivial;repeat((first|clear zz|with_reducible first|refine A3 ?_|refine A5 fun _=>?_|refine A4 fun _=>?_);try simp(disch:=first|omega|assumption|((repeat(first|exact A1|exact uH|apply A2|apply uT));first|done|fail)|(simp;first|done|omega|fail))[c1'', e1, A1W]))
 exact B0 (by simp [c1])
def a6 : EnV := ⟨0, N5, 0, 0⟩
def P6 (l : List EnV) (key : ByteArray) : List (Nat × EnV) := (List.range l.length).map fun i => ((L5 key l.length + i) % l.length, l.getD ((L5 key l.length + i) % l.length) a6)
def A27 (p : Nat × EnV) : List Value := [.int .i64 (p.1 : Nat), .agg #[.int .i64 p.2.st, .string p.2.key, .int .i64 p.2.bk, .int .i64 p.2.dl]]
abbrev C1V (x : Nat × Nat) : Value := .func (.func 220) #[] #[.pointer (some ⟨x.1, 0, none⟩), .pointer (some ⟨x.2, 0, none⟩)]
abbrev B1Z (x : Nat × Nat) (v : Value) (key : ByteArray) : List Res := [.pt x.1 (.cells #[.string key] 9), .pt x.2 (.cells #[v] 94)]
theorem B6B (w : World) (v : Value) (key : ByteArray) (hv : ∃ a n c, v = .slice a n c) : Fn PR B5 198 #[v, .string key] w (Rn [] w (fun x u => u = C1V x) fun x => B1Z x v key) := by
 obtain ⟨a, n, c, rfl⟩ := hv
 refine B2m (TW.go (κ := false) (S := []) ?_)
 unfold A5u
 (have zz:=trivial;repeat((first|clear zz|with_reducible first|refine A3 ?_|refine A5 fun _=>?_|refine A4 fun _=>?_);try simp(disch:=first|omega|assumption|((repeat(first|exact A1|exact uH|apply A2|apply uT));first|done|fail)|(simp;first|done|omega|fail))[]))
 rename_i b1 b2
 exact D4 (b2, b1) rfl (by (repeat' constructor))
def RqS (v : Value) (n : Nat) (xs : List Value) (F : List Res) (w : World) : Prop := ∃ a c, v = .slice a n c ∧ (0 < n → ∃ b o, a = some ⟨b, o, none⟩ ∧ H6 w b o xs ∧ b ∉ B4 F)
theorem RqS.of {v : Value} {n : Nat} {xs : List Value} {w0 w : World} {A F : List Res} (h : F5 w0 v n xs) (hx : 0 < n → 0 < xs.length) (hw : LW false [] w0 (A ++ F) w) : RqS v n xs F w := by
 obtain ⟨a, c, rfl, hr⟩ := h.form
 refine ⟨a, c, rfl, fun hn => ?_⟩
 obtain ⟨b, o, rfl, hrow⟩ := hr hn
 refine ⟨b, o, rfl, hw.ks.row (by simp) hrow, hw.notin_old ?_ (by simp)⟩
 have h0 := hrow 0 (hx hn)
 rw [List.getElem?_eq_getElem (hx hn)] at h0
 obtain ⟨c', t', z', h1, h2⟩ := c8 h0
 exact G2 h1
theorem k8 (l : List EnV) : (l.flatMap F1).length = l.length * 4 := by
 induction l with
 | nil => rfl
 | cons x l ih => rw [List.flatMap_cons, List.length_append, ih]; simp [F1]; omega
theorem B59 (x : Nat × Nat) (v : Value) (l : List EnV) (key : ByteArray) (hk : key.size < 2 ^ 60) (hn : l.length ≤ 1000000) : A1T (C1V x) (B1Z x v key) (RqS v l.length (l.flatMap F1)) ((P6 l key).map A27) := by
 obtain ⟨bk, bt⟩ := x
 refine ⟨_, _, _, rfl, fun y J E hJ hE stJ stE hy w0 h0 => ?_⟩
 obtain ⟨a, c, hv, hr⟩ := (hJ _ _ _ h0).2
 subst hv
 refine A8b (A8T (TW.at (κ := true) ?_ (hJ _ _ _ h0).1))
 unfold A20
 simp only [B1Z]
 (have zz:=trivial;repeat((first|clear zz|with_reducible first|refine A3 ?_|refine A5 fun _=>?_|refine A4 fun _=>?_);try simp(disch:=first|omega|assumption|((repeat(first|exact A1|exact uH|apply A2|apply uT));first|done|fail)|(simp;first|done|omega|fail))[]))
 refine D1 A9L (fun w' _ => B9g w' key l.length hk hn) ?_
 (have zz:=trivial;repeat((first|clear zz|with_reducible first|refine A3 ?_|refine A5 fun _=>?_|refine A4 fun _=>?_);try simp(disch:=first|omega|assumption|((repeat(first|exact A1|exact uH|apply A2|apply uT));first|done|fail)|(simp;first|done|omega|fail))[]))
 refine A18 l.length (fun i => i) (fun _ => _) hJ stJ h0 fun i a' hi hJi hRi L hL => ?_
 by_cases hlt : i < l.length
 ·obtain ⟨_, _, hv, hr⟩ := hRi
  obtain ⟨b, o, hb, hrow, hnb⟩ := hr (by omega)
  cases hv
  have hh : L5 key l.length < l.length := Nat.mod_lt _ (by omega)
  have e0 : (if l.length = 0 then 0 else L5 key l.length) = L5 key l.length := if_neg (by omega)
  have hj : (L5 key l.length + i) % l.length < l.length := Nat.mod_lt _ (by omega)
  have hx : l[(L5 key l.length + i) % l.length]? = some (l.getD ((L5 key l.length + i) % l.length) a6) := by
   rw [List.getD_eq_getElem?_getD, List.getElem?_eq_getElem hj]; rfl
  have h1 := hrow.at (f := F1) (k := 4) (fun _ => rfl) hx
  have e1 : (((L5 key l.length : Nat) : Int) + (i : Nat)).tmod l.length = ((L5 key l.length + i) % l.length : Nat) := by rw [Int.tmod_eq_emod_of_nonneg (by omega), Int.natCast_emod, Int.natCast_add]
  have hwi : ∀ h, ((P6 l key).map A27)[i]'h = A27 ((L5 key l.length + i) % l.length, l.getD ((L5 key l.length + i) % l.length) a6) := by
   intro h; simp only [List.getElem_map, P6, List.getElem_range]
  generalize hjd : (L5 key l.length + i) % l.length = j at *
  generalize hxd : l.getD j a6 = x at *
  rw [F1] at h1
  have hnz : ¬ (l.length : Int) = 0 := by omega
  subst hb
  rw [e0]
  (have zz:=trivial;repeat((first|clear zz|with_reducible first|refine A3 ?_|refine A5 fun _=>?_|refine A4 fun _=>?_);try simp(disch:=first|omega|assumption|((repeat(first|exact A1|exact uH|apply A2|apply uT));first|done|fail)|(simp;first|done|omega|fail))[hlt, e1, h1, hnz, A1W]))
  refine A2g hJ hE stJ hy hJi (by simpa [P6] using hlt) (hwi _) (fun w3 h => ?_) (fun w3 h => ?_)
  ·(have zz:=trivial;repeat((first|clear zz|with_reducible first|refine A3 ?_|refine A5 fun _=>?_|refine A4 fun _=>?_);try simp(disch:=first|omega|assumption|((repeat(first|exact A1|exact uH|apply A2|apply uT));first|done|fail)|(simp;first|done|omega|fail))[]))
   exact fun w' hw' => hL hlt w' (stJ _ _ _ _ _ h hw')
  ·(have zz:=trivial;repeat((first|clear zz|with_reducible first|refine A3 ?_|refine A5 fun _=>?_|refine A4 fun _=>?_);try simp(disch:=first|omega|assumption|((repeat(first|exact A1|exact uH|apply A2|apply uT));first|done|fail)|(simp;first|done|omega|fail))[]))
   exact A0x stE h
 ·obtain rfl : i = l.length := by omega
  (have zz:=trivial;repeat((first|clear zz|with_reducible first|refine A3 ?_|refine A5 fun _=>?_|refine A4 fun _=>?_);try simp(disch:=first|omega|assumption|((repeat(first|exact A1|exact uH|apply A2|apply uT));first|done|fail)|(simp;first|done|omega|fail))[]))
  exact A0u stJ (by simpa [P6] using hJi)
def G7 (key : ByteArray) : List (Nat × EnV) → Int
 | [] => -1
 | p :: r => if p.2.st = 0 then -1 else if p.2.st = 1 ∧ p.2.key = key then p.1 else G7 key r
def D5 (l : List EnV) (key : ByteArray) : Int := G7 key (P6 l key)
theorem B3e {α : Type} {l : List α} {i : Nat} (h : i < l.length) : l.drop i = l[i] :: l.drop (i + 1) := List.drop_eq_getElem_cons h
theorem A4d (L : List (Nat × EnV)) : ∀ x ∈ L.map A27, x.length = 2 := by
 intro x hx; obtain ⟨p, _, rfl⟩ := List.mem_map.1 hx; rfl
theorem u3 (w : World) (v : Value) (l : List EnV) (key : ByteArray) (hk : key.size < 2 ^ 60) (hn : l.length ≤ 1000000) (hv : F5 w v l.length (l.flatMap F1)) :
  Fn PR B5 150 #[v, .string key] w (fun r w' => r = .int .i64 (D5 l key) ∧ C0 [] w w') := by
 refine Fn.pure (B0q (TW.go (κ := false) (S := []) ?_))
 unfold A4v
 (have zz:=trivial;repeat((first|clear zz|with_reducible first|refine A3 ?_|refine A5 fun _=>?_|refine A4 fun _=>?_);try simp(disch:=first|omega|assumption|((repeat(first|exact A1|exact uH|apply A2|apply uT));first|done|fail)|(simp;first|done|omega|fail))[]))
 rename_i bk bf
 refine M8 A4z (fun w' _ => B6B w' v key (by obtain ⟨a, c, rfl, _⟩ := hv.form; exact ⟨a, _, c, rfl⟩)) ?_
 rintro x u rfl
 refine x7 (B59 x v l key hk hn) (A4d _) (fun i (_ : Unit) => G7 key ((P6 l key).drop i) = D5 l key) (fun _ _ => [.pt bf (.cells #[.int .i64 (-1)] 3), .pt bk (.cells #[.string key] 9)])
  (fun c (y : Unit) => c = .exit 0) (fun y => [.pt bf (.cells #[.int .i64 (D5 l key)] 3)]) () rfl ?_ ?_ ?_ ?_ (by simp [B1Z])
 ·intro i _ F w1 _ hw
  exact RqS.of hv (fun h => by rw [k8]; omega) hw
 ·rintro i hi _ F hψ K' hK hE
  have hi' : i < (P6 l key).length := by simpa using hi
  rw [B3e hi'] at hψ
  simp only [List.getElem_map]
  generalize (P6 l key)[i] = p at *
  simp only [A27, VF.app]
  by_cases c0 : p.2.st = 0
  ·(have zz:=trivial;repeat((first|clear zz|with_reducible first|refine A3 ?_|refine A5 fun _=>?_|refine A4 fun _=>?_);try simp(disch:=first|omega|assumption|((repeat(first|exact A1|exact uH|apply A2|apply uT));first|done|fail)|(simp;first|done|omega|fail))[c0]))
   refine TW.sub (hE (.exit 0) () rfl) ?_
   rw [← hψ]
   simp only [G7, c0, if_true]
   ((try simp only [List.cons_append, List.nil_append, List.append_assoc]); (repeat (first | exact List.Sublist.refl _ | exact List.nil_sublist _ | with_reducible apply List.Sublist.cons_cons | apply List.Sublist.cons)); first | done | fail)
  by_cases c1 : p.2.st = 1
  ·by_cases c2 : p.2.key = key
   ·(have zz:=trivial;repeat((first|clear zz|with_reducible first|refine A3 ?_|refine A5 fun _=>?_|refine A4 fun _=>?_);try simp(disch:=first|omega|assumption|((repeat(first|exact A1|exact uH|apply A2|apply uT));first|done|fail)|(simp;first|done|omega|fail))[c0, c1, c2]))
    refine TW.sub (hE (.exit 0) () rfl) ?_
    rw [← hψ]
    simp [G7, c1, c2]
    ((try simp only [List.cons_append, List.nil_append, List.append_assoc]); (repeat (first | exact List.Sublist.refl _ | exact List.nil_sublist _ | with_reducible apply List.Sublist.cons_cons | apply List.Sublist.cons)); first | done | fail)
   ·(have zz:=trivial;repeat((first|clear zz|with_reducible first|refine A3 ?_|refine A5 fun _=>?_|refine A4 fun _=>?_);try simp(disch:=first|omega|assumption|((repeat(first|exact A1|exact uH|apply A2|apply uT));first|done|fail)|(simp;first|done|omega|fail))[c0, c1, c2]))
    refine TW.sub (hK () ?_) (by ((try simp only [List.cons_append, List.nil_append, List.append_assoc]); (repeat (first | exact List.Sublist.refl _ | exact List.nil_sublist _ | with_reducible apply List.Sublist.cons_cons | apply List.Sublist.cons)); first | done | fail))
    rw [← hψ]
    simp [G7, c1, c2]
  ·(have zz:=trivial;repeat((first|clear zz|with_reducible first|refine A3 ?_|refine A5 fun _=>?_|refine A4 fun _=>?_);try simp(disch:=first|omega|assumption|((repeat(first|exact A1|exact uH|apply A2|apply uT));first|done|fail)|(simp;first|done|omega|fail))[c0, c1]))
   refine TW.sub (hK () ?_) (by ((try simp only [List.cons_append, List.nil_append, List.append_assoc]); (repeat (first | exact List.Sublist.refl _ | exact List.nil_sublist _ | with_reducible apply List.Sublist.cons_cons | apply List.Sublist.cons)); first | done | fail))
   rw [← hψ]
   simp [G7, c0, c1]
 ·intro _ hψ
  (have zz:=trivial;repeat((first|clear zz|with_reducible first|refine A3 ?_|refine A5 fun _=>?_|refine A4 fun _=>?_);try simp(disch:=first|omega|assumption|((repeat(first|exact A1|exact uH|apply A2|apply uT));first|done|fail)|(simp;first|done|omega|fail))[]))
  simp only [List.length_map, List.drop_length, G7] at hψ
  exact B0 (by rw [← hψ])
 ·rintro _ _ rfl
  (have zz:=trivial;repeat((first|clear zz|with_reducible first|refine A3 ?_|refine A5 fun _=>?_|refine A4 fun _=>?_);try simp(disch:=first|omega|assumption|((repeat(first|exact A1|exact uH|apply A2|apply uT));first|done|fail)|(simp;first|done|omega|fail))[]))
  exact B0 rfl
def M4 : List (Nat × EnV) → Int
 | [] => -1
 | p :: r => if p.2.st = 1 then M4 r else p.1
def U9 (l : List EnV) (key : ByteArray) : Int := if 0 ≤ D5 l key then -1 else M4 (P6 l key)
theorem B1P (w : World) (v : Value) (l : List EnV) (key : ByteArray) (hk : key.size < 2 ^ 60) (hn : l.length ≤ 1000000) (hv : F5 w v l.length (l.flatMap F1)) :
  Fn PR B5 201 #[v, .string key] w (fun r w' => r = .int .i64 (U9 l key) ∧ C0 [] w w') := by
 refine Fn.pure (B0v (TW.go (κ := false) (S := []) ?_))
 unfold A4p
 (have zz:=trivial;repeat((first|clear zz|with_reducible first|refine A3 ?_|refine A5 fun _=>?_|refine A4 fun _=>?_);try simp(disch:=first|omega|assumption|((repeat(first|exact A1|exact uH|apply A2|apply uT));first|done|fail)|(simp;first|done|omega|fail))[]))
 rename_i bf
 refine D1 l7 (fun w' hw' => u3 w' v l key hk hn (hv.ks hw'.ks (by simp))) ?_
 by_cases c1 : 0 ≤ D5 l key
 ·(have zz:=trivial;repeat((first|clear zz|with_reducible first|refine A3 ?_|refine A5 fun _=>?_|refine A4 fun _=>?_);try simp(disch:=first|omega|assumption|((repeat(first|exact A1|exact uH|apply A2|apply uT));first|done|fail)|(simp;first|done|omega|fail))[c1]))
  exact B0 (by simp [U9, c1])
 have e1 : U9 l key = M4 (P6 l key) := if_neg c1
 (have zz:=trivial;repeat((first|clear zz|with_reducible first|refine A3 ?_|refine A5 fun _=>?_|refine A4 fun _=>?_);try simp(disch:=first|omega|assumption|((repeat(first|exact A1|exact uH|apply A2|apply uT));first|done|fail)|(simp;first|done|omega|fail))[c1]))
 refine M8 A4z (fun w' _ => B6B w' v key (by obtain ⟨a, c, rfl, _⟩ := hv.form; exact ⟨a, _, c, rfl⟩)) ?_
 rintro x u rfl
 refine x7 (B59 x v l key hk hn) (A4d _) (fun i (_ : Unit) => M4 ((P6 l key).drop i) = U9 l key) (fun _ _ => [.pt bf (.cells #[.int .i64 0] 3)])
  (fun c (y : Unit) => c = .ret) (fun y => [.pt bf (.cells #[.int .i64 (U9 l key)] 3)]) () (by rw [List.drop_zero, e1]) ?_ ?_ ?_ ?_ (by simp [B1Z])
 ·intro i _ F w1 _ hw
  exact RqS.of hv (fun h => by rw [k8]; omega) hw
 ·rintro i hi _ F hψ K' hK hE
  have hi' : i < (P6 l key).length := by simpa using hi
  rw [B3e hi'] at hψ
  simp only [List.getElem_map]
  generalize (P6 l key)[i] = p at *
  simp only [A27, VF.app]
  by_cases c1 : p.2.st = 1
  ·(have zz:=trivial;repeat((first|clear zz|with_reducible first|refine A3 ?_|refine A5 fun _=>?_|refine A4 fun _=>?_);try simp(disch:=first|omega|assumption|((repeat(first|exact A1|exact uH|apply A2|apply uT));first|done|fail)|(simp;first|done|omega|fail))[c1]))
   refine TW.sub (hK () ?_) (by ((try simp only [List.cons_append, List.nil_append, List.append_assoc]); (repeat (first | exact List.Sublist.refl _ | exact List.nil_sublist _ | with_reducible apply List.Sublist.cons_cons | apply List.Sublist.cons)); first | done | fail))
   rw [← hψ]
   simp [M4, c1]
  ·(have zz:=trivial;repeat((first|clear zz|with_reducible first|refine A3 ?_|refine A5 fun _=>?_|refine A4 fun _=>?_);try simp(disch:=first|omega|assumption|((repeat(first|exact A1|exact uH|apply A2|apply uT));first|done|fail)|(simp;first|done|omega|fail))[c1]))
   refine TW.sub (hE .ret () rfl) ?_
   rw [← hψ]
   simp only [M4, c1, if_false]
   ((try simp only [List.cons_append, List.nil_append, List.append_assoc]); (repeat (first | exact List.Sublist.refl _ | exact List.nil_sublist _ | with_reducible apply List.Sublist.cons_cons | apply List.Sublist.cons)); first | done | fail)
 ·intro _ hψ
  (have zz:=trivial;repeat((first|clear zz|with_reducible first|refine A3 ?_|refine A5 fun _=>?_|refine A4 fun _=>?_);try simp(disch:=first|omega|assumption|((repeat(first|exact A1|exact uH|apply A2|apply uT));first|done|fail)|(simp;first|done|omega|fail))[]))
  simp only [List.length_map, List.drop_length, M4] at hψ
  exact B0 (by rw [← hψ])
 ·rintro _ _ rfl
  (have zz:=trivial;repeat((first|clear zz|with_reducible first|refine A3 ?_|refine A5 fun _=>?_|refine A4 fun _=>?_);try simp(disch:=first|omega|assumption|((repeat(first|exact A1|exact uH|apply A2|apply uT));first|done|fail)|(simp;first|done|omega|fail))[]))
  exact B0 rfl
theorem B4G (w : World) (x : EnV) (st : Int) (b : Nat) (hb : w.cell? ⟨b, 0, none⟩ = some (.int .i64 st)) : Fn PR B5 165 #[.agg #[.int .i64 x.st, .string x.key, .int .i64 x.bk, .int .i64 x.dl], .pointer (some ⟨b, 0, none⟩)] w (fun r w' => r = .bool (decide (x.st = st)) ∧ C0 [] w w') := by
 refine Fn.pure (A6e (TW.go (κ := false) (S := []) ?_))
 unfold A1K
 (have zz:=trivial;repeat((first|clear zz|with_reducible first|refine A3 ?_|refine A5 fun _=>?_|refine A4 fun _=>?_);try simp(disch:=first|omega|assumption|((repeat(first|exact A1|exact uH|apply A2|apply uT));first|done|fail)|(simp;first|done|omega|fail))[hb]))
 exact B0 rfl
def Q0 (l : List EnV) (st : Int) : Nat := l.countP fun x => decide (x.st = st)
theorem B2v {α : Type} {p : α → Bool} {l : List α} {i : Nat} {x : α} (hx : l[i]? = some x) : (l.take (i + 1)).countP p = (l.take i).countP p + if p x then 1 else 0 := by
 rw [List.take_add_one, hx, List.countP_append]; simp [List.countP_cons]
theorem B8K (w : World) (v : Value) (l : List EnV) (p : EnV → Bool) (f : FuncId) (cap : List Value) (hn : l.length ≤ 1000000) (hv : F5 w v l.length (l.flatMap F1)) (he : A9 PR f)
  (hf : ∀ w', KS false [] w w' → ∀ x : EnV, Fn PR B5 f (.agg #[.int .i64 x.st, .string x.key, .int .i64 x.bk, .int .i64 x.dl] :: cap).toArray w' (fun r w'' => r = .bool (p x) ∧ C0 [] w' w'')) :
  Fn PR B5 164 #[v, .func (.func f) #[] cap.toArray] w (fun r w' => r = .int .i64 (l.countP p : Nat) ∧ C0 [] w w') := by
 refine Fn.pure (A13 (TW.go (κ := false) (S := []) ?_))
 unfold j8
 obtain ⟨a, c, rfl, hr⟩ := hv.form
 (have zz:=trivial;repeat((first|clear zz|with_reducible first|refine A3 ?_|refine A5 fun _=>?_|refine A4 fun _=>?_);try simp(disch:=first|omega|assumption|((repeat(first|exact A1|exact uH|apply A2|apply uT));first|done|fail)|(simp;first|done|omega|fail))[]))
 refine k4 (α := Unit) l.length (fun i _ => .int .i64 ((l.take i).countP p : Nat)) (fun _ _ => []) (fun i _ => True) () trivial ?_
 rintro i _ hi _ L hL
 by_cases hlt : i < l.length
 ·obtain ⟨b, o, rfl, hrow⟩ := hr (by omega)
  obtain ⟨x, hx⟩ : ∃ x, l[i]? = some x := ⟨_, List.getElem?_eq_getElem (by omega)⟩
  have h1 := hrow.at (f := F1) (k := 4) (fun _ => rfl) hx
  rw [F1] at h1
  (have zz:=trivial;repeat((first|clear zz|with_reducible first|refine A3 ?_|refine A5 fun _=>?_|refine A4 fun _=>?_);try simp(disch:=first|omega|assumption|((repeat(first|exact A1|exact uH|apply A2|apply uT));first|done|fail)|(simp;first|done|omega|fail))[hlt, h1]))
  refine A9W he (φ := fun r => r = .bool (p x)) (fun w' hw' => by simpa using hf w' hw'.ks x) ?_
  rintro _ rfl
  have hc := B2v (p := p) hx
  have hle : (l.take i).countP p ≤ i := Nat.le_trans List.countP_le_length (by simp; omega)
  have hL' := hL hlt () trivial
  rw [hc] at hL'
  cases hb : p x with
  | true =>
   rw [hb] at hL'
   (have zz:=trivial;repeat((first|clear zz|with_reducible first|refine A3 ?_|refine A5 fun _=>?_|refine A4 fun _=>?_);try simp(disch:=first|omega|assumption|((repeat(first|exact A1|exact uH|apply A2|apply uT));first|done|fail)|(simp;first|done|omega|fail))[]))
   exact Sels.tw .nil (by simpa using hL')
  | false =>
   rw [hb] at hL'
   (have zz:=trivial;repeat((first|clear zz|with_reducible first|refine A3 ?_|refine A5 fun _=>?_|refine A4 fun _=>?_);try simp(disch:=first|omega|assumption|((repeat(first|exact A1|exact uH|apply A2|apply uT));first|done|fail)|(simp;first|done|omega|fail))[]))
   exact Sels.tw .nil (by simpa using hL')
 ·obtain rfl : i = l.length := by omega
  (have zz:=trivial;repeat((first|clear zz|with_reducible first|refine A3 ?_|refine A5 fun _=>?_|refine A4 fun _=>?_);try simp(disch:=first|omega|assumption|((repeat(first|exact A1|exact uH|apply A2|apply uT));first|done|fail)|(simp;first|done|omega|fail))[]))
  exact B0 rfl
theorem B2a (w : World) (v : Value) (l : List EnV) (st : Int) (hn : l.length ≤ 1000000) (hv : F5 w v l.length (l.flatMap F1)) :
  Fn PR B5 113 #[v, .int .i64 st] w (fun r w' => r = .int .i64 (Q0 l st : Nat) ∧ C0 [] w w') := by
 refine Fn.pure (A9m (TW.go (κ := false) (S := []) ?_))
 unfold A33
 (have zz:=trivial;repeat((first|clear zz|with_reducible first|refine A3 ?_|refine A5 fun _=>?_|refine A4 fun _=>?_);try simp(disch:=first|omega|assumption|((repeat(first|exact A1|exact uH|apply A2|apply uT));first|done|fail)|(simp;first|done|omega|fail))[]))
 rename_i b
 refine D1 A1Z (fun w' hw' => B8K w' v l (fun x => decide (x.st = st)) 165 [.pointer (some ⟨b, 0, none⟩)] hn (hv.ks hw'.ks (by simp)) A5T
  fun w2 h x => B4G w2 x st b (h.cell (by simp) (hw'.cell1 (by (repeat constructor))))) ?_
 exact B0 rfl
end Go.Proofs.YtpbmephflllolaaGreat
