/- The proof of a given statement, a part of it (Packet Bytes Sl Pool Vals ShProbe ShFnv Fnv Probe). No condition but what each lemma says. -/
import Derived.Lib.SlBytesRow
import Derived.Test.YtpbmephflllolaaGreatE11
set_option linter.unusedVariables false
set_option linter.unusedSimpArgs false
namespace Go.Proofs.YtpbmephflllolaaGreat
open Go
structure KeyV where
 v : Int
 src : ByteArray
 dst : ByteArray
 fr : Int
 tp : Int
 proto : Int
 deriving DecidableEq
def KeyV.cs (k : KeyV) : List Value := [.int .i64 k.v, .string k.src, .string k.dst, .int .i64 k.fr, .int .i64 k.tp, .int .i64 k.proto]
def KeyV.val (k : KeyV) : Value := .agg #[.int .i64 k.v, .string k.src, .string k.dst, .int .i64 k.fr, .int .i64 k.tp, .int .i64 k.proto]
def noK : KeyV := ⟨0, P4, P4, 0, 0, 0⟩
def V9 (s : ByteArray) : KeyV × ByteArray × Nat :=
 if s.size = 0 then (noK, P4, 2) else if B6 s 0 / 16 = 4 then (⟨4, (l4 s).src, (l4 s).dst, 0, 0, (l4 s).proto⟩, (l4 s).rest, (l4 s).e)
 else if B6 s 0 / 16 = 6 then (⟨6, (j0 s).src, (j0 s).dst, 0, 0, (j0 s).proto⟩, (j0 s).rest, (j0 s).e) else (noK, P4, 3)
def keyed.val (x : KeyV × ByteArray × Nat) : Value := .tuple #[x.1.val, .string x.2.1, .int .i64 x.2.2]
theorem B42 (w : World) (src dst : ByteArray) (p : Int) : Fn PR B5 144 #[.agg #[.string src, .string dst, .int .i64 p]] w (fun v w' => v = KeyV.val ⟨4, src, dst, 0, 0, p⟩ ∧ C4 [] w w') := by
 refine Fn.pure (A6S (TW.go (κ := false) (S := []) ?_))
 unfold A1A
 (have zz:=trivial;repeat((first|clear zz|with_reducible first|refine A3 ?_|refine A5 fun _=>?_|refine A4 fun _=>?_);try simp(disch:=first|omega|assumption|((repeat(first|exact A1|exact uH|apply A2|apply uT));first|done|fail)|(simp;first|done|omega|fail))[]))
 exact B0 rfl
theorem B5E (w : World) (src dst : ByteArray) (p : Int) : Fn PR B5 147 #[.agg #[.string src, .string dst, .int .i64 p]] w (fun v w' => v = KeyV.val ⟨6, src, dst, 0, 0, p⟩ ∧ C4 [] w w') := by
 refine Fn.pure (A6e (TW.go (κ := false) (S := []) ?_))
 unfold A1H
 (have zz:=trivial;repeat((first|clear zz|with_reducible first|refine A3 ?_|refine A5 fun _=>?_|refine A4 fun _=>?_);try simp(disch:=first|omega|assumption|((repeat(first|exact A1|exact uH|apply A2|apply uT));first|done|fail)|(simp;first|done|omega|fail))[]))
 exact B0 rfl
theorem B9G (w : World) (s : ByteArray) (hs : s.size < 2 ^ 63) : Fn PR B5 142 #[.string s, .func (.func 143) #[] #[], .func (.func 144) #[] #[]] w
  (fun v w' => v = keyed.val (⟨4, (l4 s).src, (l4 s).dst, 0, 0, (l4 s).proto⟩, (l4 s).rest, (l4 s).e) ∧ C4 [] w w') := by
 refine Fn.pure (A2n (TW.go (κ := false) (S := []) ?_))
 unfold p8
 (have zz:=trivial;repeat((first|clear zz|with_reducible first|refine A3 ?_|refine A5 fun _=>?_|refine A4 fun _=>?_);try simp(disch:=first|omega|assumption|((repeat(first|exact A1|exact uH|apply A2|apply uT));first|done|fail)|(simp;first|done|omega|fail))[]))
 refine D2 B1K (fun w' _ => B3W w' s hs) ?_
 (have zz:=trivial;repeat((first|clear zz|with_reducible first|refine A3 ?_|refine A5 fun _=>?_|refine A4 fun _=>?_);try simp(disch:=first|omega|assumption|((repeat(first|exact A1|exact uH|apply A2|apply uT));first|done|fail)|(simp;first|done|omega|fail))[HeadV.val]))
 refine D2 A5S (fun w' _ => B42 w' _ _ _) ?_
 (have zz:=trivial;repeat((first|clear zz|with_reducible first|refine A3 ?_|refine A5 fun _=>?_|refine A4 fun _=>?_);try simp(disch:=first|omega|assumption|((repeat(first|exact A1|exact uH|apply A2|apply uT));first|done|fail)|(simp;first|done|omega|fail))[KeyV.val]))
 exact B0 (by simp [keyed.val, KeyV.val])
theorem B8q (w : World) (s : ByteArray) (hs : s.size < 2 ^ 63) : Fn PR B5 145 #[.string s, .func (.func 146) #[] #[], .func (.func 147) #[] #[]] w
  (fun v w' => v = keyed.val (⟨6, (j0 s).src, (j0 s).dst, 0, 0, (j0 s).proto⟩, (j0 s).rest, (j0 s).e) ∧ C4 [] w w') := by
 refine Fn.pure (A2q (TW.go (κ := false) (S := []) ?_))
 unfold p5
 (have zz:=trivial;repeat((first|clear zz|with_reducible first|refine A3 ?_|refine A5 fun _=>?_|refine A4 fun _=>?_);try simp(disch:=first|omega|assumption|((repeat(first|exact A1|exact uH|apply A2|apply uT));first|done|fail)|(simp;first|done|omega|fail))[]))
 refine D2 B1H (fun w' _ => B3K w' s hs) ?_
 (have zz:=trivial;repeat((first|clear zz|with_reducible first|refine A3 ?_|refine A5 fun _=>?_|refine A4 fun _=>?_);try simp(disch:=first|omega|assumption|((repeat(first|exact A1|exact uH|apply A2|apply uT));first|done|fail)|(simp;first|done|omega|fail))[HeadV.val]))
 refine D2 A5V (fun w' _ => B5E w' _ _ _) ?_
 (have zz:=trivial;repeat((first|clear zz|with_reducible first|refine A3 ?_|refine A5 fun _=>?_|refine A4 fun _=>?_);try simp(disch:=first|omega|assumption|((repeat(first|exact A1|exact uH|apply A2|apply uT));first|done|fail)|(simp;first|done|omega|fail))[KeyV.val]))
 exact B0 (by simp [keyed.val, KeyV.val])
theorem C04 (w : World) (v : Int) : Fn PR B5 54 #[.int .i64 v] w (fun u w' => u = .int .i64 (if v = 4 then 4 else if v = 6 then 16 else 0) ∧ C4 [] w w') := by
 refine Fn.pure (A9a (TW.go (κ := false) (S := []) ?_))
 unfold A4M
 by_cases c1 : v = 4
 ·(have zz:=trivial;repeat((first|clear zz|with_reducible first|refine A3 ?_|refine A5 fun _=>?_|refine A4 fun _=>?_);try simp(disch:=first|omega|assumption|((repeat(first|exact A1|exact uH|apply A2|apply uT));first|done|fail)|(simp;first|done|omega|fail))[c1])); exact B0 (by simp)
 by_cases c2 : v = 6
 ·(have zz:=trivial;repeat((first|clear zz|with_reducible first|refine A3 ?_|refine A5 fun _=>?_|refine A4 fun _=>?_);try simp(disch:=first|omega|assumption|((repeat(first|exact A1|exact uH|apply A2|apply uT));first|done|fail)|(simp;first|done|omega|fail))[c1, c2])); exact B0 (by simp)
 ·(have zz:=trivial;repeat((first|clear zz|with_reducible first|refine A3 ?_|refine A5 fun _=>?_|refine A4 fun _=>?_);try simp(disch:=first|omega|assumption|((repeat(first|exact A1|exact uH|apply A2|apply uT));first|done|fail)|(simp;first|done|omega|fail))[c1, c2])); exact B0 (by simp)
theorem B7s (w : World) (s : ByteArray) (hs : s.size < 2 ^ 63) : Fn PR B5 100 #[.string s] w (fun u w' => u = keyed.val (V9 s) ∧ C4 [] w w') := by
 refine Fn.pure (A8L (TW.go (κ := false) (S := []) ?_))
 unfold A2z
 by_cases c0 : s.size = 0
 ·have e : s = ByteArray.mk #[] := by
   apply ByteArray.ext; exact Array.eq_empty_of_size_eq_zero c0
  (have zz:=trivial;repeat((first|clear zz|with_reducible first|refine A3 ?_|refine A5 fun _=>?_|refine A4 fun _=>?_);try simp(disch:=first|omega|assumption|((repeat(first|exact A1|exact uH|apply A2|apply uT));first|done|fail)|(simp;first|done|omega|fail))[e]))
  exact B0 (by simp [V9, keyed.val, noK, KeyV.val])
 have c0' : ¬ s = ByteArray.mk #[] := fun e => c0 (by rw [e]; rfl)
 obtain ⟨by0, hb0, hb1⟩ := s9 (s := s) (i := 0) (by omega)
 have hb0' : s[(0 : Int).toNat]? = some by0 := hb0
 have hl0 := v7 s 0
 have e1 : ((by0.toNat : Nat) : Int).fdiv (2 ^ min 4 IntKind.u8.bits) = (B6 s 0 / 16 : Nat) := by rw [show (2 : Int) ^ min 4 IntKind.u8.bits = 16 from rfl, Int.fdiv_eq_ediv_of_nonneg _ (by omega), hb1]; omega
 by_cases c1 : B6 s 0 / 16 = 4
 ·have c1' : ((B6 s 0 : Nat) : Int) / 16 = 4 := by omega
  (have zz:=trivial;repeat((first|clear zz|with_reducible first|refine A3 ?_|refine A5 fun _=>?_|refine A4 fun _=>?_);try simp(disch:=first|omega|assumption|((repeat(first|exact A1|exact uH|apply A2|apply uT));first|done|fail)|(simp;first|done|omega|fail))[c0', Y1]))
  rw [e1]
  (have zz:=trivial;repeat((first|clear zz|with_reducible first|refine A3 ?_|refine A5 fun _=>?_|refine A4 fun _=>?_);try simp(disch:=first|omega|assumption|((repeat(first|exact A1|exact uH|apply A2|apply uT));first|done|fail)|(simp;first|done|omega|fail))[c1', c1]))
  refine D2 A2K (fun w' _ => B9G w' s hs) ?_
  (have zz:=trivial;repeat((first|clear zz|with_reducible first|refine A3 ?_|refine A5 fun _=>?_|refine A4 fun _=>?_);try simp(disch:=first|omega|assumption|((repeat(first|exact A1|exact uH|apply A2|apply uT));first|done|fail)|(simp;first|done|omega|fail))[keyed.val, KeyV.val]))
  exact B0 (by simp [V9, keyed.val, KeyV.val, c0, c1])
 have c1' : ¬ ((B6 s 0 : Nat) : Int) / 16 = 4 := by omega
 by_cases c2 : B6 s 0 / 16 = 6
 ·have c2' : ((B6 s 0 : Nat) : Int) / 16 = 6 := by omega
  (have zz:=trivial;repeat((first|clear zz|with_reducible first|refine A3 ?_|refine A5 fun _=>?_|refine A4 fun _=>?_);try simp(disch:=first|omega|assumption|((repeat(first|exact A1|exact uH|apply A2|apply uT));first|done|fail)|(simp;first|done|omega|fail))[c0', Y1]))
  rw [e1]
  (have zz:=trivial;repeat((first|clear zz|with_reducible first|refine A3 ?_|refine A5 fun _=>?_|refine A4 fun _=>?_);try simp(disch:=first|omega|assumption|((repeat(first|exact A1|exact uH|apply A2|apply uT));first|done|fail)|(simp;first|done|omega|fail))[c1', c1, c2', c2, Y1]))
  refine D2 A2H (fun w' _ => B8q w' s hs) ?_
  (have zz:=trivial;repeat((first|clear zz|with_reducible first|refine A3 ?_|refine A5 fun _=>?_|refine A4 fun _=>?_);try simp(disch:=first|omega|assumption|((repeat(first|exact A1|exact uH|apply A2|apply uT));first|done|fail)|(simp;first|done|omega|fail))[keyed.val, KeyV.val]))
  exact B0 (by simp [V9, keyed.val, KeyV.val, c0, c1, c2])
 have c2' : ¬ ((B6 s 0 : Nat) : Int) / 16 = 6 := by omega
 (have zz:=trivial;repeat((first|clear zz|with_reducible first|refine A3 ?_|refine A5 fun _=>?_|refine A4 fun _=>?_);try simp(disch:=first|omega|assumption|((repeat(first|exact A1|exact uH|apply A2|apply uT));first|done|fail)|(simp;first|done|omega|fail))[c0', Y1]))
 rw [e1]
 (have zz:=trivial;repeat((first|clear zz|with_reducible first|refine A3 ?_|refine A5 fun _=>?_|refine A4 fun _=>?_);try simp(disch:=first|omega|assumption|((repeat(first|exact A1|exact uH|apply A2|apply uT));first|done|fail)|(simp;first|done|omega|fail))[c1', c1, c2', c2, Y1]))
 exact B0 (by simp [V9, keyed.val, KeyV.val, c0, c1, c2, noK])
def F1 (s : ByteArray) : KeyV × Nat × Nat :=
 let x := V9 s
 if x.2.2 ≠ 0 then (noK, 0, x.2.2) else let y := U5 x.1.proto x.2.1; if y.2.2.2 ≠ 0 then (noK, 0, y.2.2.2) else ({ x.1 with fr := y.1, tp := y.2.1 }, y.2.2.1, 0)
def P8 (k : KeyV) (f : Int) : Value := .agg #[.int .i64 k.v, .string k.src, .string k.dst, .int .i64 k.fr, .int .i64 k.tp, .int .i64 k.proto, .int .i64 f]
def packet.val (x : KeyV × Nat × Nat) : Value := .tuple #[P8 x.1 x.2.1, .int .i64 x.2.2]
theorem B4k (s : ByteArray) : (V9 s).2.1.size ≤ 65535 := by
 have h1 : (l4 s).rest.size ≤ 65535 := by
  have := A01 s 2
  unfold l4; split
  ·simp only [ByteArray.size_extract]; omega
  ·simp [HeadV.err]
 have h2 : (j0 s).rest.size ≤ 65535 := by
  have := A01 s 4
  unfold j0; split
  ·simp only [ByteArray.size_extract]; omega
  ·simp [HeadV.err]
 unfold V9
 split
 ·simp
 split
 ·exact h1
 split
 ·exact h2
 ·simp
theorem A8S (w : World) (s : ByteArray) (hs : s.size < 2 ^ 63) : Fn PR B5 56 #[.string s] w (fun u w' => u = packet.val (F1 s) ∧ C4 [] w w') := by
 refine Fn.pure (A8c (TW.go (κ := false) (S := []) ?_))
 unfold A3M
 (have zz:=trivial;repeat((first|clear zz|with_reducible first|refine A3 ?_|refine A5 fun _=>?_|refine A4 fun _=>?_);try simp(disch:=first|omega|assumption|((repeat(first|exact A1|exact uH|apply A2|apply uT));first|done|fail)|(simp;first|done|omega|fail))[]))
 refine D2 A7u (fun w' _ => B7s w' s hs) ?_
 have hr := B4k s
 by_cases c1 : (V9 s).2.2 = 0
 ·(have zz:=trivial;repeat((first|clear zz|with_reducible first|refine A3 ?_|refine A5 fun _=>?_|refine A4 fun _=>?_);try simp(disch:=first|omega|assumption|((repeat(first|exact A1|exact uH|apply A2|apply uT));first|done|fail)|(simp;first|done|omega|fail))[keyed.val, KeyV.val, c1]))
  refine D2 A9q (fun w' _ => B2G w' _ (by omega) _) ?_
  by_cases c2 : (U5 (V9 s).1.proto (V9 s).2.1).2.2.2 = 0
  ·(have zz:=trivial;repeat((first|clear zz|with_reducible first|refine A3 ?_|refine A5 fun _=>?_|refine A4 fun _=>?_);try simp(disch:=first|omega|assumption|((repeat(first|exact A1|exact uH|apply A2|apply uT));first|done|fail)|(simp;first|done|omega|fail))[U5.val, c2]))
   exact B0 (by simp [F1, packet.val, P8, KeyV.val, c1, c2])
  ·(have zz:=trivial;repeat((first|clear zz|with_reducible first|refine A3 ?_|refine A5 fun _=>?_|refine A4 fun _=>?_);try simp(disch:=first|omega|assumption|((repeat(first|exact A1|exact uH|apply A2|apply uT));first|done|fail)|(simp;first|done|omega|fail))[U5.val, c2]))
   exact B0 (by simp [F1, packet.val, P8, KeyV.val, c1, c2, noK])
 ·(have zz:=trivial;repeat((first|clear zz|with_reducible first|refine A3 ?_|refine A5 fun _=>?_|refine A4 fun _=>?_);try simp(disch:=first|omega|assumption|((repeat(first|exact A1|exact uH|apply A2|apply uT));first|done|fail)|(simp;first|done|omega|fail))[keyed.val, KeyV.val, c1]))
  exact B0 (by simp [F1, packet.val, P8, KeyV.val, c1, noK])
theorem A9c (w : World) (s : ByteArray) (hs : s.size < 2 ^ 40) : Fn PR B5 56 #[.string s] w (fun u w' => u = packet.val (F1 s) ∧ C4 [] w w') := A8S w s (by omega)
def D7 (k : KeyV) (f : Int) : ByteArray × Nat :=
 if k.v ≠ 4 ∧ k.v ≠ 6 then (P4, 3) else let s := N5 k.proto k.fr k.tp f; if s.2 ≠ 0 then (P4, s.2) else if k.v = 6 then A1T k.src k.dst s.1 k.proto else A1Z k.src k.dst s.1 k.proto
theorem A89 (number x y f : Int) : (N5 number x y f).1.size ≤ 1000 := by
 have h6 := Y5 6
 have h8 := Y5 8
 unfold N5 l6 A0g A3g
 repeat' split
 all_goals simp [h6, h8]
theorem A2T (w : World) (k : KeyV) (f : Int) : Fn PR B5 21 #[P8 k f] w (fun u w' => u = .tuple #[.string (D7 k f).1, .int .i64 (D7 k f).2] ∧ C4 [] w w') := by
 refine Fn.pure (B1D (TW.go (κ := false) (S := []) ?_))
 unfold A5E
 have hz := A89 k.proto k.fr k.tp f
 by_cases c0 : k.v = 4
 ·(have zz:=trivial;repeat((first|clear zz|with_reducible first|refine A3 ?_|refine A5 fun _=>?_|refine A4 fun _=>?_);try simp(disch:=first|omega|assumption|((repeat(first|exact A1|exact uH|apply A2|apply uT));first|done|fail)|(simp;first|done|omega|fail))[P8, KeyV.val, c0]))
  refine D2 A2A (fun w' _ => A4k w' _ _ _ _) ?_
  by_cases c1 : (N5 k.proto k.fr k.tp f).2 = 0
  ·(have zz:=trivial;repeat((first|clear zz|with_reducible first|refine A3 ?_|refine A5 fun _=>?_|refine A4 fun _=>?_);try simp(disch:=first|omega|assumption|((repeat(first|exact A1|exact uH|apply A2|apply uT));first|done|fail)|(simp;first|done|omega|fail))[c1, c0]))
   refine D2 B3c (fun w' _ => B6G w' _ _ _ _ (by omega)) ?_
   (have zz:=trivial;repeat((first|clear zz|with_reducible first|refine A3 ?_|refine A5 fun _=>?_|refine A4 fun _=>?_);try simp(disch:=first|omega|assumption|((repeat(first|exact A1|exact uH|apply A2|apply uT));first|done|fail)|(simp;first|done|omega|fail))[]))
   exact B0 (by simp [D7, c0, c1])
  ·(have zz:=trivial;repeat((first|clear zz|with_reducible first|refine A3 ?_|refine A5 fun _=>?_|refine A4 fun _=>?_);try simp(disch:=first|omega|assumption|((repeat(first|exact A1|exact uH|apply A2|apply uT));first|done|fail)|(simp;first|done|omega|fail))[c1, c0]))
   exact B0 (by simp [D7, c0, c1])
 by_cases c6 : k.v = 6
 ·(have zz:=trivial;repeat((first|clear zz|with_reducible first|refine A3 ?_|refine A5 fun _=>?_|refine A4 fun _=>?_);try simp(disch:=first|omega|assumption|((repeat(first|exact A1|exact uH|apply A2|apply uT));first|done|fail)|(simp;first|done|omega|fail))[P8, KeyV.val, c6]))
  refine D2 A2A (fun w' _ => A4k w' _ _ _ _) ?_
  by_cases c1 : (N5 k.proto k.fr k.tp f).2 = 0
  ·(have zz:=trivial;repeat((first|clear zz|with_reducible first|refine A3 ?_|refine A5 fun _=>?_|refine A4 fun _=>?_);try simp(disch:=first|omega|assumption|((repeat(first|exact A1|exact uH|apply A2|apply uT));first|done|fail)|(simp;first|done|omega|fail))[c1, c6]))
   refine D2 B3l (fun w' _ => B7m w' _ _ _ _ (by omega)) ?_
   (have zz:=trivial;repeat((first|clear zz|with_reducible first|refine A3 ?_|refine A5 fun _=>?_|refine A4 fun _=>?_);try simp(disch:=first|omega|assumption|((repeat(first|exact A1|exact uH|apply A2|apply uT));first|done|fail)|(simp;first|done|omega|fail))[]))
   exact B0 (by simp [D7, c6, c1])
  ·(have zz:=trivial;repeat((first|clear zz|with_reducible first|refine A3 ?_|refine A5 fun _=>?_|refine A4 fun _=>?_);try simp(disch:=first|omega|assumption|((repeat(first|exact A1|exact uH|apply A2|apply uT));first|done|fail)|(simp;first|done|omega|fail))[c1, c6]))
   exact B0 (by simp [D7, c6, c1])
 ·(have zz:=trivial;repeat((first|clear zz|with_reducible first|refine A3 ?_|refine A5 fun _=>?_|refine A4 fun _=>?_);try simp(disch:=first|omega|assumption|((repeat(first|exact A1|exact uH|apply A2|apply uT));first|done|fail)|(simp;first|done|omega|fail))[P8, KeyV.val, c0, c6]))
  exact B0 (by simp [D7, c0, c6])
def H6 (k : KeyV) (f : Int) : Bool := decide (k.proto = 6) && !decide (IntKind.i64.wrap ((f % 2 ^ IntKind.i64.bits).toNat &&& 5 % 2 ^ IntKind.i64.bits : Nat) = 0)
theorem A8G (w : World) (k : KeyV) (f : Int) : Fn PR B5 22 #[P8 k f] w (fun u w' => u = .bool (H6 k f) ∧ C4 [] w w') := by
 refine Fn.pure (A7C (TW.go (κ := false) (S := []) ?_))
 unfold A1j
 by_cases c0 : k.proto = 6
 ·(have zz:=trivial;repeat((first|clear zz|with_reducible first|refine A3 ?_|refine A5 fun _=>?_|refine A4 fun _=>?_);try simp(disch:=first|omega|assumption|((repeat(first|exact A1|exact uH|apply A2|apply uT));first|done|fail)|(simp;first|done|omega|fail))[P8, KeyV.val, c0]))
  exact B0 (by simp [H6, c0])
 ·(have zz:=trivial;repeat((first|clear zz|with_reducible first|refine A3 ?_|refine A5 fun _=>?_|refine A4 fun _=>?_);try simp(disch:=first|omega|assumption|((repeat(first|exact A1|exact uH|apply A2|apply uT));first|done|fail)|(simp;first|done|omega|fail))[P8, KeyV.val, c0]))
  exact B0 (by simp [H6, c0])
end Go.Proofs.YtpbmephflllolaaGreat
namespace Go.Proofs.YtpbmephflllolaaGreat
open Go
section
variable {κ : Bool} {X : Nat → Prop} {S : List Nat} {w0 : World} {H H' : List Res} {K : Value → WP}
theorem B7n {P : Program} {g : Sem Value} {u : Value} {b : Nat} {c c' : Array Value} {T : TypeId} (hrun : ∀ w, bl w b = some (.cells c T (0, 0)) → g.run P w = .ok u (World.putb w b (.cells c' T (0, 0))))
  (hu : Up (.pt b (.cells c T (0, 0))) (.pt b (.cells c' T (0, 0))) H H') (hK : TW κ S w0 H' (K u)) : TW κ S w0 H (B1 P X g K) := fun w hw => by
 have hm : Res.pt b (.cells c T (0, 0)) ∈ H := by obtain ⟨A, B, rfl, _⟩ := hu.parts; simp
 have hb := hw.pt hm
 rw [T5 (hrun w hb) (Sk.putb X hb)]
 refine hK _ (hw.up hu ⟨KS.putb hb (by simp [Res.foot]), ?_, ?_, by simp⟩)
 ·simp only [List.mem_singleton, forall_eq, Res.holds]; exact ⟨P3 (G3 hb), rfl⟩
 ·simp only [List.mem_singleton, forall_eq, Res.foot]; exact ⟨Or.inl (by simp), by have := G3 hb; simpa using this⟩
theorem B37 (w : World) : (underlying 127).run PR w = .ok (.slice 5) w := A1n.run_und
theorem C2v (w : World) : (underlying 126).run PR w = .ok (.array 38 5) w := B4b.run_und
def Z6 (s : ByteArray) (o : Nat) (t : ByteArray) : ByteArray := s.extract 0 o ++ t ++ s.extract (o + t.size) s.size
theorem A5r {s t : ByteArray} {o : Nat} (h : o + t.size ≤ s.size) : (Z6 s o t).size = s.size := by simp [Z6]; omega
theorem B0T (s t : ByteArray) (o : Nat) (h : o + t.size ≤ s.size) : E2 (E1 s).toArray o (E1 t) = (E1 (Z6 s o t)).toArray := by
 apply Array.toList_inj.1
 rw [A0J _ _ _ (by simpa using h)]
 simp [E1, Z6, List.map_take, List.map_drop]
 rw [List.take_of_length_le (by simp)]
theorem A9n {b o n c : Nat} {s t : ByteArray} {T : TypeId} (hu : Up (.pt b (.cells (E1 s).toArray T)) (.pt b (.cells (E1 (Z6 s o t)).toArray T)) H H') (hn : t.size ≤ n) (hs : o + t.size ≤ s.size)
  (hK : TW κ S w0 H' (K (.int .i64 t.size))) : TW κ S w0 H (B1 PR X (A8 .copy #[127, 9] 3 [.slice (some ⟨b, o, none⟩) n c, .string t]) K) := by
 refine B7n (u := .int .i64 t.size) (fun w hb => ?_) hu hK
 have hst := c8 (P := PR) (o0 := o) (E1 t) 0 w (E1 s).toArray hb (by simpa using hs) (A3m t)
 rw [Nat.add_zero, B0T s t o hs] at hst
 have hl : Nat.min t.size n = t.size := Nat.min_eq_left hn
 have htk : List.take t.size (List.map (fun b : UInt8 => Value.int IntKind.u8 (b.toNat : Int)) t.data.toList) = E1 t := by
  rw [List.take_of_length_le (by simp)]; rfl
 show (Builtin.copy_ #[127, 9] 3 #[.slice (some ⟨b, o, none⟩) n c, .string t]).run PR w = _
 simp [Builtin.copy_, B37, ty5.run_size, Builtin.lenOf, Builtin.firstCells, hl]
 rw [htk, hst]
 simp [goInt, Result.andThen]
def z38 : ByteArray := A0p z1 38
theorem A4n : z38.size = 38 := Y5 38
theorem B6u : (Builtin.zeroCells (Value.int .u8 0).cells 38).toList = E1 z38 := by kernel_rfl
theorem C0W : (E1 z38).toArray = #[.int .u8 0, .int .u8 0, .int .u8 0, .int .u8 0, .int .u8 0, .int .u8 0, .int .u8 0, .int .u8 0, .int .u8 0, .int .u8 0, .int .u8 0, .int .u8 0, .int .u8 0, .int .u8 0, .int .u8 0, .int .u8 0, .int .u8 0, .int .u8 0, .int .u8 0, .int .u8 0, .int .u8 0, .int .u8 0, .int .u8 0, .int .u8 0, .int .u8 0, .int .u8 0, .int .u8 0, .int .u8 0, .int .u8 0, .int .u8 0, .int .u8 0, .int .u8 0, .int .u8 0, .int .u8 0, .int .u8 0, .int .u8 0, .int .u8 0, .int .u8 0] := by kernel_rfl
theorem B6M {b : Nat} {s : ByteArray} {T : TypeId} (hs : s.size = 38) (hu : Up (.pt b (.cells (E1 s).toArray T)) (.pt b (.cells (E1 z38).toArray T)) H H')
  (hK : TW κ S w0 H' (K (.tuple #[]))) : TW κ S w0 H (B1 PR X (A8 .clear #[127] 0 [.slice (some ⟨b, 0, none⟩) 38 38]) K) := by
 refine B7n (u := .tuple #[]) (fun w hb => ?_) hu hK
 have h38 := A4n
 have hst := c8 (P := PR) (o0 := 0) (E1 z38) 0 w (E1 s).toArray hb (by simp [hs, h38]) (A3m _)
 rw [Nat.add_zero, B0T s z38 0 (by omega)] at hst
 have e : Z6 s 0 z38 = z38 := by
  apply ByteArray.ext
  simp [Z6, h38, hs]
 rw [e] at hst
 show (Builtin.clear_ #[127] 0 #[.slice (some ⟨b, 0, none⟩) 38 38]).run PR w = _
 simp only [Builtin.clear_, List.getElem?_toArray, List.getElem?_cons_zero, Sem.run_bind, B37, Result.andThen_ok, ty5.run_zero, B6u, hst, Sem.run_pure]
theorem C19 {b : Nat} {s : ByteArray} {T : TypeId} (hm : Res.pt b (.cells (E1 s).toArray T) ∈ H) (c n : Nat) (hn : n = s.size) :
  TW κ S w0 H (A6 PR (convert 127 9 (.slice (some ⟨b, 0, none⟩) n c)) K) = TW κ S w0 H (K (.string s)) := TW.congr fun w hw => by
 refine S5 ?_ K
 subst hn
 have hb := hw.pt hm
 have hB : Lib.Bytes w b 0 s := fun i hi => by
  rw [G7 hb]; simp [E1, hi]; rfl
 exact Lib.run_convert_whole w _ _ _ A1n.und ty5.und z6.und b 0 s hB c
end
theorem B6E {lo : Nat} (b : Nat) (h : lo < 38) (K : Value → WP) : A0 PR (Instr.sliceAt 126 (.pointer (some ⟨b, 0, none⟩)) (some (.int .i64 (lo : Int))) none none) K = K (.slice (some ⟨b, lo, none⟩) (38 - lo) (38 - lo)) :=
 E6 (fun w => by
  have h1 : ¬ ((38 : Int) < lo) := by omega
  have h2 : ¬ (38 = lo) := by omega
  simp [Instr.sliceAt, C2v, Instr.sliceBounds, Instr.sliceBound, asIntOf, h1, h2, ty5.run_size, Instr.sureAddr, Y3]
  omega) K
def Y0 (v : Int) : Nat := if v = 4 then 4 else if v = 6 then 16 else 0
theorem B8B (w : World) (v : Int) : Fn PR B5 54 #[.int .i64 v] w (fun u w' => u = .int .i64 (Y0 v : Nat) ∧ C4 [] w w') := by
 have := C04 w v
 have e : ((Y0 v : Nat) : Int) = if v = 4 then 4 else if v = 6 then 16 else 0 := by (unfold Y0; repeat' split) <;> rfl
 rw [e]; exact this
def U7 (k : KeyV) : Bool := decide (Y0 k.v ≠ 0 ∧ k.src.size = Y0 k.v ∧ k.dst.size = Y0 k.v ∧ (N5 k.proto k.fr k.tp 0).2 = 0)
def A09 (k : KeyV) : ByteArray := Z6 (Z6 (Z6 z38 0 (B7 (k.v * 256 + k.proto) 2 ++ B7 k.fr 2 ++ B7 k.tp 2)) 6 k.src) 22 k.dst
def A1P (k : KeyV) : Value := .tuple #[.string (if U7 k then A09 k else P4), .bool (U7 k)]
theorem C0x {n x y f : Int} (h : (N5 n x y f).2 = 0) : (n = 6 ∨ n = 17) ∧ K3 x y = true := by
 unfold N5 at h
 split at h
 ·simp at h
 split at h
 ·simp at h
 ·rename_i h1 h2
  refine ⟨by omega, ?_⟩
  cases hp : K3 x y with
  | true => rfl
  | false => exact absurd (Or.inl hp) h2
theorem B1f (w : World) (k : KeyV) : Fn PR B5 23 #[k.val] w (fun u w' => u = A1P k ∧ C4 [] w w') := by
 refine Fn.pure (A9G (TW.go (κ := false) (S := []) ?_))
 unfold A20 KeyV.val
 (have zz:=trivial;repeat((first|clear zz|with_reducible first|refine A3 ?_|refine A5 fun _=>?_|refine A4 fun _=>?_);try simp(disch:=first|omega|assumption|((repeat(first|exact A1|exact uH|apply A2|apply uT));first|done|fail)|(simp;first|done|omega|fail))[]))
 refine D2 A8p (fun w' _ => B8B w' _) ?_
 (have zz:=trivial;repeat((first|clear zz|with_reducible first|refine A3 ?_|refine A5 fun _=>?_|refine A4 fun _=>?_);try simp(disch:=first|omega|assumption|((repeat(first|exact A1|exact uH|apply A2|apply uT));first|done|fail)|(simp;first|done|omega|fail))[]))
 refine D2 A2A (fun w' _ => A4k w' _ _ _ _) ?_
 have bad : U7 k = false → A1P k = .tuple #[.string P4, .bool false] := fun h => by simp [A1P, h]
 by_cases c1 : Y0 k.v = 0
 ·(have zz:=trivial;repeat((first|clear zz|with_reducible first|refine A3 ?_|refine A5 fun _=>?_|refine A4 fun _=>?_);try simp(disch:=first|omega|assumption|((repeat(first|exact A1|exact uH|apply A2|apply uT));first|done|fail)|(simp;first|done|omega|fail))[c1]))
  exact B0 (bad (by simp [U7, c1])).symm
 have c1' : ¬ ((Y0 k.v : Nat) : Int) = 0 := by omega
 by_cases c2 : k.src.size = Y0 k.v
 case neg =>
  have c2' : ¬ ((k.src.size : Nat) : Int) = Y0 k.v := by omega
  (have zz:=trivial;repeat((first|clear zz|with_reducible first|refine A3 ?_|refine A5 fun _=>?_|refine A4 fun _=>?_);try simp(disch:=first|omega|assumption|((repeat(first|exact A1|exact uH|apply A2|apply uT));first|done|fail)|(simp;first|done|omega|fail))[c1, c1', c2, c2']))
  exact B0 (bad (by simp [U7, c2])).symm
 by_cases c3 : k.dst.size = Y0 k.v
 case neg =>
  have c3' : ¬ ((k.dst.size : Nat) : Int) = Y0 k.v := by omega
  (have zz:=trivial;repeat((first|clear zz|with_reducible first|refine A3 ?_|refine A5 fun _=>?_|refine A4 fun _=>?_);try simp(disch:=first|omega|assumption|((repeat(first|exact A1|exact uH|apply A2|apply uT));first|done|fail)|(simp;first|done|omega|fail))[c1, c1', c2, c3, c3']))
  exact B0 (bad (by simp [U7, c3])).symm
 by_cases c4 : (N5 k.proto k.fr k.tp 0).2 = 0
 case neg =>
  (have zz:=trivial;repeat((first|clear zz|with_reducible first|refine A3 ?_|refine A5 fun _=>?_|refine A4 fun _=>?_);try simp(disch:=first|omega|assumption|((repeat(first|exact A1|exact uH|apply A2|apply uT));first|done|fail)|(simp;first|done|omega|fail))[c1, c1', c2, c3, c4]))
  exact B0 (bad (by simp [U7, c4])).symm
 (have zz:=trivial;repeat((first|clear zz|with_reducible first|refine A3 ?_|refine A5 fun _=>?_|refine A4 fun _=>?_);try simp(disch:=first|omega|assumption|((repeat(first|exact A1|exact uH|apply A2|apply uT));first|done|fail)|(simp;first|done|omega|fail))[c1, c1', c2, c3, c4]))
 rename_i bk ba
 refine TW.eqH (H' := [.pt ba (.cells (E1 z38).toArray 126), .pt bk (.cells #[.int .i64 k.v, .string k.src, .string k.dst, .int .i64 k.fr, .int .i64 k.tp, .int .i64 k.proto] 56)]) (by rw [C0W]) ?_
 refine B6M A4n .here ?_
 obtain ⟨hp, hq⟩ := C0x c4
 simp only [K3, decide_eq_true_eq] at hq
 have hv : k.v = 4 ∨ k.v = 6 := by unfold Y0 at c1; split at c1 <;> (try split at c1) <;> omega
 have hh : (B7 (k.v * 256 + k.proto) 2 ++ B7 k.fr 2 ++ B7 k.tp 2).size = 6 := by simp
 have h38 := A4n
 have s1 : (Z6 z38 0 (B7 (k.v * 256 + k.proto) 2 ++ B7 k.fr 2 ++ B7 k.tp 2)).size = 38 := by rw [A5r (by omega), h38]
 have hl : Y0 k.v ≤ 16 := by unfold Y0; split <;> (try split) <;> omega
 have s2 : (Z6 (Z6 z38 0 (B7 (k.v * 256 + k.proto) 2 ++ B7 k.fr 2 ++ B7 k.tp 2)) 6 k.src).size = 38 := by rw [A5r (by omega), s1]
 have s3 : (A09 k).size = 38 := by unfold A09; rw [A5r (by omega), s2]
 have i6 := fun K => B6E (lo := 6) ba (by omega) K
 have i22 := fun K => B6E (lo := 22) ba (by omega) K
 simp at i6 i22
 have ok : U7 k = true := by simp [U7, c1, c2, c3, c4]
 have q1 := hq.1
 have q2 := hq.2.1
 have q3 := hq.2.2.1
 have q4 := hq.2.2.2
 have eor : IntKind.u64.wrap ((IntKind.u64.wrap (k.v * 2 ^ min 8 IntKind.u64.bits) % 2 ^ IntKind.u64.bits).toNat ||| (k.proto % 2 ^ IntKind.u64.bits).toNat : Nat) = k.v * 256 + k.proto := by
  rcases hv with hv | hv <;> rcases hp with hp | hp <;> (rw [hv, hp]; decide)
 have ew1 : IntKind.u64.wrap k.fr = k.fr := A0a (by omega) (by omega)
 have ew2 : IntKind.u64.wrap k.tp = k.tp := A0a (by omega) (by omega)
 (have zz:=trivial;repeat((first|clear zz|with_reducible first|refine A3 ?_|refine A5 fun _=>?_|refine A4 fun _=>?_);try simp(disch:=first|omega|assumption|((repeat(first|exact A1|exact uH|apply A2|apply uT));first|done|fail)|(simp;first|done|omega|fail))[]))
 rw [eor, ew1, ew2]
 refine D2 F6 (fun w' hw' => V8 w' _ _) ?_
 (have zz:=trivial;repeat((first|clear zz|with_reducible first|refine A3 ?_|refine A5 fun _=>?_|refine A4 fun _=>?_);try simp(disch:=first|omega|assumption|((repeat(first|exact A1|exact uH|apply A2|apply uT));first|done|fail)|(simp;first|done|omega|fail))[]))
 refine D2 F6 (fun w' hw' => V8 w' _ _) ?_
 (have zz:=trivial;repeat((first|clear zz|with_reducible first|refine A3 ?_|refine A5 fun _=>?_|refine A4 fun _=>?_);try simp(disch:=first|omega|assumption|((repeat(first|exact A1|exact uH|apply A2|apply uT));first|done|fail)|(simp;first|done|omega|fail))[T7]))
 refine D2 F6 (fun w' hw' => V8 w' _ _) ?_
 (have zz:=trivial;repeat((first|clear zz|with_reducible first|refine A3 ?_|refine A5 fun _=>?_|refine A4 fun _=>?_);try simp(disch:=first|omega|assumption|((repeat(first|exact A1|exact uH|apply A2|apply uT));first|done|fail)|(simp;first|done|omega|fail))[T7]))
 refine A9n (o := 0) (s := z38) (by (repeat constructor)) (by omega) (by omega) ?_
 (have zz:=trivial;repeat((first|clear zz|with_reducible first|refine A3 ?_|refine A5 fun _=>?_|refine A4 fun _=>?_);try simp(disch:=first|omega|assumption|((repeat(first|exact A1|exact uH|apply A2|apply uT));first|done|fail)|(simp;first|done|omega|fail))[i6]))
 refine A9n (o := 6) (s := Z6 z38 0 (B7 (k.v * 256 + k.proto) 2 ++ B7 k.fr 2 ++ B7 k.tp 2)) (by (repeat constructor)) (by omega) (by omega) ?_
 (have zz:=trivial;repeat((first|clear zz|with_reducible first|refine A3 ?_|refine A5 fun _=>?_|refine A4 fun _=>?_);try simp(disch:=first|omega|assumption|((repeat(first|exact A1|exact uH|apply A2|apply uT));first|done|fail)|(simp;first|done|omega|fail))[i22]))
 refine A9n (o := 22) (s := Z6 (Z6 z38 0 (B7 (k.v * 256 + k.proto) 2 ++ B7 k.fr 2 ++ B7 k.tp 2)) 6 k.src) (by (repeat constructor)) (by omega) (by omega) ?_
 (have zz:=trivial;repeat((first|clear zz|with_reducible first|refine A3 ?_|refine A5 fun _=>?_|refine A4 fun _=>?_);try simp(disch:=first|omega|assumption|((repeat(first|exact A1|exact uH|apply A2|apply uT));first|done|fail)|(simp;first|done|omega|fail))[]))
 rw [C19 (s := A09 k) (by (repeat constructor)) _ _ s3.symm]
 exact B0 (by simp [A1P, ok])
end Go.Proofs.YtpbmephflllolaaGreat
namespace Go.Proofs.YtpbmephflllolaaGreat
open Go
@[simp] theorem C6g {κ : Bool} {S : List Nat} {w0 : World} {H : List Res} {K : Value → WP} {t : TypeId} {z : Value} [h : TS t z] {b o : Nat} {c : Array Value} {T : TypeId} {f : Nat × Nat} (hm : Res.pt b (.cells c T f) ∈ H) :
  TW κ S w0 H (A6 PR (E3 [.c t (.pointer (some ⟨b, o, none⟩))]) K) = TW κ S w0 H (rdc c[o]? K (A6 PR (E3 [.c t (.pointer (some ⟨b, o, none⟩))]) K)) := by
 cases hc : c[o]? with
 | none => rfl
 | some v => rw [C1C hm hc]; rfl
abbrev F9 := Int × Int
def F7 (b : F9) : List Value := [.int .i64 b.1, .int .i64 b.2]
structure EnV where
 st : Int
 key : ByteArray
 bk : Int
 dl : Int
 deriving DecidableEq
def F3 (x : EnV) : List Value := [.int .i64 x.st, .string x.key, .int .i64 x.bk, .int .i64 x.dl]
theorem C2H {t u : TypeId} {n m : Nat} {z : Value} {a : Option Addr} {l c e : Nat} (h : TI PR t (.slice u) n m z) : EqV PR (e + 1) t (.slice a l c) (.slice none 0 0) a.isNone := by
 intro w
 cases a with
 | none => simp only [Op.equalIn, Sem.run_bind, h.run_und, Result.andThen_ok, Sem.run_pure, Option.isNone]
 | some a => simp only [Op.equalIn, Sem.run_bind, h.run_und, Result.andThen_ok, Sem.run_pure]; rfl
theorem C1P {t u : TypeId} {n m : Nat} {z : Value} (h : TI PR t (.slice u) n m z) (x y : Operand) (a : Option Addr) (l c : Nat) (K : Value → WP) :
  A6 PR (N4 .eql t x y (.slice a l c) (.slice none 0 0)) K = K (.bool a.isNone) := by
 funext w
 refine S5 ?_ K
 have h1 : (eqGuard .eql t x y (.slice a l c) (.slice none 0 0)).run PR w = .ok () w := by simp [eqGuard]
 have h2 : (Op.equalIn 10000 t (.slice a l c) (.slice none 0 0)).run PR w = .ok a.isNone w := C2H (e := 9999) h w
 simp [N4, h1, binOp, Op.equal, Op.maxDepth, h2]
theorem B9l (x y : Operand) (a : Option Addr) (l c : Nat) (K : Value → WP) : A6 PR (N4 .eql 32 x y (.slice a l c) (.slice none 0 0)) K = K (.bool a.isNone) := C1P A8E x y a l c K
theorem B9V (x y : Operand) (a : Option Addr) (l c : Nat) (K : Value → WP) : A6 PR (N4 .eql 94 x y (.slice a l c) (.slice none 0 0)) K = K (.bool a.isNone) := C1P A9Z x y a l c K
theorem B0f (w : World) (v : Value) (n : Nat) (xs : List Value) (hn : n ≤ 1000000) (hx : xs.length = n * 2) (hp : xs.all plain = true) (hv : G1 w v n xs) :
  Fn PR B5 49 #[v] w (Rn [] w (fun r u => u = r) fun r => [.own 75 2 r n xs]) := by
 obtain ⟨a, c, rfl, hr⟩ := hv.form
 refine j5 (TW.go (κ := false) (S := []) ?_)
 unfold P9
 cases a with
 | none =>
  obtain rfl : n = 0 := by
   rcases Nat.eq_zero_or_pos n with h | h
   ·exact h
   ·obtain ⟨_, _, h, _⟩ := hr h; cases h
  obtain rfl : xs = [] := List.length_eq_zero_iff.1 (by omega)
  (have zz:=trivial;repeat((first|clear zz|with_reducible first|refine A3 ?_|refine A5 fun _=>?_|refine A4 fun _=>?_);try simp(disch:=first|omega|assumption|((repeat(first|exact A1|exact uH|apply A2|apply uT));first|done|fail)|(simp;first|done|omega|fail))[B9l]))
  refine s6 75 2 ?_
  exact W9 (.slice none 0 0) rfl (by simp)
 | some a =>
  (have zz:=trivial;repeat((first|clear zz|with_reducible first|refine A3 ?_|refine A5 fun _=>?_|refine A4 fun _=>?_|refine D0 fun _=>?_|refine C7 (hK:=fun _=>?_)|refine C9 (hK:=fun _=>?_)|refine D1 (hK:=fun _=>?_)|refine C8 (hK:=fun _=>?_)|refine C6 (hK:=fun _=>?_));try simp(disch:=first|omega|assumption|((repeat(first|exact A1|exact uH|apply A2|apply uT));first|done|fail)|(simp;first|done|omega|fail))[B9l]))
  refine A0v (by (repeat constructor)) (P2.old0 hv) (by decide) hx hp (by simp only [maxLen]; omega) (by omega) fun a' c' => ?_
  simp only [Nat.zero_add, List.nil_append]
  exact D4 _ rfl (by (repeat' constructor))
theorem B0M (w : World) (v : Value) (n : Nat) (xs : List Value) (hn : n ≤ 1000000) (hx : xs.length = n * 4) (hp : xs.all plain = true) (hv : G1 w v n xs) :
  Fn PR B5 111 #[v] w (Rn [] w (fun r u => u = r) fun r => [.own 160 4 r n xs]) := by
 obtain ⟨a, c, rfl, hr⟩ := hv.form
 refine n0 (TW.go (κ := false) (S := []) ?_)
 unfold S8
 cases a with
 | none =>
  obtain rfl : n = 0 := by
   rcases Nat.eq_zero_or_pos n with h | h
   ·exact h
   ·obtain ⟨_, _, h, _⟩ := hr h; cases h
  obtain rfl : xs = [] := List.length_eq_zero_iff.1 (by omega)
  (have zz:=trivial;repeat((first|clear zz|with_reducible first|refine A3 ?_|refine A5 fun _=>?_|refine A4 fun _=>?_);try simp(disch:=first|omega|assumption|((repeat(first|exact A1|exact uH|apply A2|apply uT));first|done|fail)|(simp;first|done|omega|fail))[B9V]))
  refine s6 160 4 ?_
  exact W9 (.slice none 0 0) rfl (by simp)
 | some a =>
  (have zz:=trivial;repeat((first|clear zz|with_reducible first|refine A3 ?_|refine A5 fun _=>?_|refine A4 fun _=>?_|refine D0 fun _=>?_|refine C7 (hK:=fun _=>?_)|refine C9 (hK:=fun _=>?_)|refine D1 (hK:=fun _=>?_)|refine C8 (hK:=fun _=>?_)|refine C6 (hK:=fun _=>?_));try simp(disch:=first|omega|assumption|((repeat(first|exact A1|exact uH|apply A2|apply uT));first|done|fail)|(simp;first|done|omega|fail))[B9V]))
  refine A0v (by (repeat constructor)) (P2.old0 hv) (by decide) hx hp (by simp only [maxLen]; omega) (by omega) fun a' c' => ?_
  simp only [Nat.zero_add, List.nil_append]
  exact D4 _ rfl (by (repeat' constructor))
def A3c {α : Type} (p : α → Bool) (l : List α) : Int := match l.findIdx? p with | some i => i | none => -1
theorem B0j {α : Type} {p : α → Bool} {l : List α} {i : Nat} {x : α} (hx : l[i]? = some x) (hp : p x = true) (h : ∀ j y, j < i → l[j]? = some y → p y = false) : A3c p l = i := by
 have : l.findIdx? p = some i := by
  rw [List.findIdx?_eq_some_iff_getElem]
  obtain ⟨hi, e⟩ := List.getElem?_eq_some_iff.1 hx
  exact ⟨hi, by rw [e]; exact hp, fun j hj => by rw [h j l[j] hj (List.getElem?_eq_getElem (by omega))]; simp⟩
 simp [A3c, this]
theorem B0H {α : Type} {p : α → Bool} {l : List α} (h : ∀ (j : Nat) y, l[j]? = some y → p y = false) : A3c p l = -1 := by
 have : l.findIdx? p = none := by
  rw [List.findIdx?_eq_none_iff]; intro x hx; obtain ⟨i, hi, rfl⟩ := List.getElem_of_mem hx; exact h i _ (List.getElem?_eq_getElem hi)
 simp [A3c, this]
theorem B0x (w : World) (v : Value) (l : List F9) (p : F9 → Bool) (f : FuncId) (cap : List Value) (hn : l.length ≤ 1000000) (hv : G1 w v l.length (l.flatMap F7)) (he : A9 PR f)
  (hf : ∀ w', KS false [] w w' → ∀ x : F9, Fn PR B5 f (.agg #[.int .i64 x.1, .int .i64 x.2] :: cap).toArray w' (fun r w'' => r = .bool (p x) ∧ C4 [] w' w'')) :
  Fn PR B5 222 #[v, .func (.func f) #[] cap.toArray] w (fun r w' => r = .int .i64 (A3c p l) ∧ C4 [] w w') := by
 refine Fn.pure (a8 (TW.go (κ := false) (S := []) ?_))
 unfold N6
 obtain ⟨a, c, rfl, hr⟩ := hv.form
 (have zz:=trivial;repeat((first|clear zz|with_reducible first|refine A3 ?_|refine A5 fun _=>?_|refine A4 fun _=>?_);try simp(disch:=first|omega|assumption|((repeat(first|exact A1|exact uH|apply A2|apply uT));first|done|fail)|(simp;first|done|omega|fail))[]))
 refine r8 (α := Unit) l.length (fun _ _ => .int .i64 0) (fun _ _ => []) (fun i _ => ∀ j y, j < i → l[j]? = some y → p y = false) () (by intro j _ hj; omega) ?_
 rintro i _ hi hpre L hL
 by_cases hlt : i < l.length
 ·obtain ⟨b, o, rfl, hrow⟩ := hr (by omega)
  obtain ⟨x, hx⟩ : ∃ x, l[i]? = some x := ⟨_, List.getElem?_eq_getElem (by omega)⟩
  have h1 := hrow.at (f := F7) (k := 2) (fun _ => rfl) hx
  rw [F7] at h1
  (have zz:=trivial;repeat((first|clear zz|with_reducible first|refine A3 ?_|refine A5 fun _=>?_|refine A4 fun _=>?_);try simp(disch:=first|omega|assumption|((repeat(first|exact A1|exact uH|apply A2|apply uT));first|done|fail)|(simp;first|done|omega|fail))[hlt, h1]))
  refine A9x he (φ := fun r => r = .bool (p x)) (fun w' hw' => by simpa using hf w' hw'.ks x) ?_
  rintro _ rfl
  cases hb : p x with
  | true =>
   (have zz:=trivial;repeat((first|clear zz|with_reducible first|refine A3 ?_|refine A5 fun _=>?_|refine A4 fun _=>?_);try simp(disch:=first|omega|assumption|((repeat(first|exact A1|exact uH|apply A2|apply uT));first|done|fail)|(simp;first|done|omega|fail))[]))
   exact B0 (by rw [B0j hx hb hpre])
  | false =>
   (have zz:=trivial;repeat((first|clear zz|with_reducible first|refine A3 ?_|refine A5 fun _=>?_|refine A4 fun _=>?_);try simp(disch:=first|omega|assumption|((repeat(first|exact A1|exact uH|apply A2|apply uT));first|done|fail)|(simp;first|done|omega|fail))[]))
   refine Sels.tw .nil (hL hlt () ?_)
   intro j y hj hy
   by_cases hji : j = i
   ·subst hji; rw [hx] at hy; cases hy; exact hb
   ·exact hpre j y (by omega) hy
 ·obtain rfl : i = l.length := by omega
  (have zz:=trivial;repeat((first|clear zz|with_reducible first|refine A3 ?_|refine A5 fun _=>?_|refine A4 fun _=>?_);try simp(disch:=first|omega|assumption|((repeat(first|exact A1|exact uH|apply A2|apply uT));first|done|fail)|(simp;first|done|omega|fail))[]))
  exact B0 (by rw [B0H fun j y hy => hpre j y (List.getElem?_eq_some_iff.1 hy).1 hy])
theorem B1M (w : World) (v : Value) (l : List (Int × Int)) (p : Int × Int → Bool) (f : FuncId) (cap : List Value) (hn : l.length ≤ 1000000) (hv : G1 w v l.length (l.flatMap F7)) (he : A9 PR f)
  (hf : ∀ w', KS false [] w w' → ∀ x : Int × Int, Fn PR B5 f (.agg #[.int .i64 x.1, .int .i64 x.2] :: cap).toArray w' (fun r w'' => r = .bool (p x) ∧ C4 [] w' w'')) :
  Fn PR B5 170 #[v, .func (.func f) #[] cap.toArray] w (fun r w' => r = .int .i64 (A3c p l) ∧ C4 [] w w') := by
 refine Fn.pure (x6 (TW.go (κ := false) (S := []) ?_))
 unfold W1
 obtain ⟨a, c, rfl, hr⟩ := hv.form
 (have zz:=trivial;repeat((first|clear zz|with_reducible first|refine A3 ?_|refine A5 fun _=>?_|refine A4 fun _=>?_);try simp(disch:=first|omega|assumption|((repeat(first|exact A1|exact uH|apply A2|apply uT));first|done|fail)|(simp;first|done|omega|fail))[]))
 refine r8 (α := Unit) l.length (fun _ _ => .int .i64 0) (fun _ _ => []) (fun i _ => ∀ j y, j < i → l[j]? = some y → p y = false) () (by intro j _ hj; omega) ?_
 rintro i _ hi hpre L hL
 by_cases hlt : i < l.length
 ·obtain ⟨b, o, rfl, hrow⟩ := hr (by omega)
  obtain ⟨x, hx⟩ : ∃ x, l[i]? = some x := ⟨_, List.getElem?_eq_getElem (by omega)⟩
  have h1 := hrow.at (f := F7) (k := 2) (fun _ => rfl) hx
  rw [F7] at h1
  (have zz:=trivial;repeat((first|clear zz|with_reducible first|refine A3 ?_|refine A5 fun _=>?_|refine A4 fun _=>?_);try simp(disch:=first|omega|assumption|((repeat(first|exact A1|exact uH|apply A2|apply uT));first|done|fail)|(simp;first|done|omega|fail))[hlt, h1]))
  refine A9x he (φ := fun r => r = .bool (p x)) (fun w' hw' => by simpa using hf w' hw'.ks x) ?_
  rintro _ rfl
  cases hb : p x with
  | true =>
   (have zz:=trivial;repeat((first|clear zz|with_reducible first|refine A3 ?_|refine A5 fun _=>?_|refine A4 fun _=>?_);try simp(disch:=first|omega|assumption|((repeat(first|exact A1|exact uH|apply A2|apply uT));first|done|fail)|(simp;first|done|omega|fail))[]))
   exact B0 (by rw [B0j hx hb hpre])
  | false =>
   (have zz:=trivial;repeat((first|clear zz|with_reducible first|refine A3 ?_|refine A5 fun _=>?_|refine A4 fun _=>?_);try simp(disch:=first|omega|assumption|((repeat(first|exact A1|exact uH|apply A2|apply uT));first|done|fail)|(simp;first|done|omega|fail))[]))
   refine Sels.tw .nil (hL hlt () ?_)
   intro j y hj hy
   by_cases hji : j = i
   ·subst hji; rw [hx] at hy; cases hy; exact hb
   ·exact hpre j y (by omega) hy
 ·obtain rfl : i = l.length := by omega
  (have zz:=trivial;repeat((first|clear zz|with_reducible first|refine A3 ?_|refine A5 fun _=>?_|refine A4 fun _=>?_);try simp(disch:=first|omega|assumption|((repeat(first|exact A1|exact uH|apply A2|apply uT));first|done|fail)|(simp;first|done|omega|fail))[]))
  exact B0 (by rw [B0H fun j y hy => hpre j y (List.getElem?_eq_some_iff.1 hy).1 hy])
theorem B8k {α : Type} (p : α → Bool) (l : List α) : decide (0 ≤ A3c p l) = l.any p := by
 unfold A3c
 cases h : l.findIdx? p with
 | none =>
  have := List.findIdx?_eq_none_iff.1 h
  rw [Bool.eq_iff_iff]; simp [List.any_eq_true]; intro x hx; have := this x hx; simp_all
 | some i =>
  obtain ⟨hi, h1, _⟩ := List.findIdx?_eq_some_iff_getElem.1 h
  rw [Bool.eq_iff_iff]; simp only [List.any_eq_true, decide_eq_true_eq]
  exact ⟨fun _ => ⟨_, List.getElem_mem hi, h1⟩, fun _ => by omega⟩
theorem A78 (w : World) (v : Value) (l : List (Int × Int)) (p : Int × Int → Bool) (f : FuncId) (cap : List Value) (hn : l.length ≤ 1000000) (hv : G1 w v l.length (l.flatMap F7)) (he : A9 PR f)
  (hf : ∀ w', KS false [] w w' → ∀ x : Int × Int, Fn PR B5 f (.agg #[.int .i64 x.1, .int .i64 x.2] :: cap).toArray w' (fun r w'' => r = .bool (p x) ∧ C4 [] w' w'')) :
  Fn PR B5 121 #[v, .func (.func f) #[] cap.toArray] w (fun r w' => r = .bool (l.any p) ∧ C4 [] w w') := by
 refine Fn.pure (q5 (TW.go (κ := false) (S := []) ?_))
 unfold T6
 refine D2 u4 (fun w' hw' => B1M w' v l p f cap hn (hv.ks hw'.ks (by simp)) he fun w2 h => hf w2 (hw'.ks.trans h)) ?_
 (have zz:=trivial;repeat((first|clear zz|with_reducible first|refine A3 ?_|refine A5 fun _=>?_|refine A4 fun _=>?_);try simp(disch:=first|omega|assumption|((repeat(first|exact A1|exact uH|apply A2|apply uT));first|done|fail)|(simp;first|done|omega|fail))[]))
 exact B0 (by rw [B8k])
end Go.Proofs.YtpbmephflllolaaGreat
namespace Go.Proofs.YtpbmephflllolaaGreat
open Go
theorem B70 {t e : TypeId} {len n m n' m' : Nat} {z z' : Value} {d' : TypeDesc} {parts : Array (Nat × Value)} {cs : Array Value} {K : Value → WP} (h : TI PR t (.array len e) n m z) (he : TI PR e d' n' m' z')
  (hf : Instr.fill (fun i => some (i * n', n')) z.cells parts.toList = some cs) : A0 PR (Instr.build t parts) K = K (.agg cs) :=
 E6 (fun w => by
  simp only [Instr.build, Sem.run_bind, h.run_zero, Result.andThen_ok, h.run_und, he.run_size, hf, Sem.run_pure]) K
theorem bd2 {k0 k1 : IntKind} {a b : Int} (K : Value → WP) : A0 PR (Instr.build 153 #[(0, .int k0 a), (1, .int k1 b)]) K = K (.agg #[.int k0 a, .int k1 b]) :=
 B70 A8j H9 (by rw [show (#[(0, Value.int k0 a), (1, Value.int k1 b)] : Array (Nat × Value)).toList = [(0, Value.int k0 a), (1, Value.int k1 b)] from rfl, B8 rfl rfl (by simp), B8 rfl rfl (by simp [C1])]; rfl)
theorem B3m (w : World) (x : Int × Int) : Fn PR B5 122 #[.agg #[.int .i64 x.1, .int .i64 x.2]] w (fun r w' => r = .bool (decide (x.1 < 1 ∨ x.2 < x.1)) ∧ C4 [] w w') := by
 refine Fn.pure (A7J (TW.go (κ := false) (S := []) ?_))
 unfold A1a
 by_cases c1 : x.1 < 1
 ·(have zz:=trivial;repeat((first|clear zz|with_reducible first|refine A3 ?_|refine A5 fun _=>?_|refine A4 fun _=>?_);try simp(disch:=first|omega|assumption|((repeat(first|exact A1|exact uH|apply A2|apply uT));first|done|fail)|(simp;first|done|omega|fail))[c1]))
  exact B0 (by simp [c1])
 ·(have zz:=trivial;repeat((first|clear zz|with_reducible first|refine A3 ?_|refine A5 fun _=>?_|refine A4 fun _=>?_);try simp(disch:=first|omega|assumption|((repeat(first|exact A1|exact uH|apply A2|apply uT));first|done|fail)|(simp;first|done|omega|fail))[c1]))
  exact B0 (by simp [c1])
theorem B6w (w : World) (v : Value) (l : List (Int × Int)) (hn : l.length ≤ 1000000) (hv : G1 w v l.length (l.flatMap F7)) :
  Fn PR B5 70 #[v] w (fun r w' => r = .bool (!l.any fun x => decide (x.1 < 1 ∨ x.2 < x.1)) ∧ C4 [] w w') := by
 refine Fn.pure (A9Y (TW.go (κ := false) (S := []) ?_))
 unfold A4L
 refine D2 m6 (fun w' hw' => A78 w' v l (fun x => decide (x.1 < 1 ∨ x.2 < x.1)) 122 [] hn (hv.ks hw'.ks (by simp)) A6V fun w2 h x => B3m w2 x) ?_
 (have zz:=trivial;repeat((first|clear zz|with_reducible first|refine A3 ?_|refine A5 fun _=>?_|refine A4 fun _=>?_);try simp(disch:=first|omega|assumption|((repeat(first|exact A1|exact uH|apply A2|apply uT));first|done|fail)|(simp;first|done|omega|fail))[]))
 exact B0 rfl
theorem B52 (w : World) (x : F9) (id : Int) (b : Nat) (hb : w.cell? ⟨b, 0, none⟩ = some (.int .i64 id)) : Fn PR B5 239 #[.agg #[.int .i64 x.1, .int .i64 x.2], .pointer (some ⟨b, 0, none⟩)] w (fun r w' => r = .bool (decide (x.1 = id)) ∧ C4 [] w w') := by
 refine Fn.pure (A7m (TW.go (κ := false) (S := []) ?_))
 unfold A2a
 (have zz:=trivial;repeat((first|clear zz|with_reducible first|refine A3 ?_|refine A5 fun _=>?_|refine A4 fun _=>?_);try simp(disch:=first|omega|assumption|((repeat(first|exact A1|exact uH|apply A2|apply uT));first|done|fail)|(simp;first|done|omega|fail))[hb]))
 exact B0 rfl
theorem B8g (w : World) (id : Int) : Fn PR B5 223 #[.int .i64 id] w (Rn [] w (fun b v => v = .func (.func 239) #[] #[.pointer (some ⟨b, 0, none⟩)]) fun b => [.pt b (.cells #[.int .i64 id] 3)]) := by
 refine B07 (TW.go (κ := false) (S := []) ?_)
 unfold A47
 (have zz:=trivial;repeat((first|clear zz|with_reducible first|refine A3 ?_|refine A5 fun _=>?_|refine A4 fun _=>?_);try simp(disch:=first|omega|assumption|((repeat(first|exact A1|exact uH|apply A2|apply uT));first|done|fail)|(simp;first|done|omega|fail))[]))
 exact W9 _ rfl (by simp)
def A1s (l : List F9) (id : Int) : Int := A3c (fun x => decide (x.1 = id)) l
theorem B3s (w : World) (v : Value) (l : List F9) (id : Int) (hn : l.length ≤ 1000000) (hv : G1 w v l.length (l.flatMap F7)) :
  Fn PR B5 199 #[v, .int .i64 id] w (fun r w' => r = .int .i64 (A1s l id) ∧ C4 [] w w') := by
 refine Fn.pure (B1s (TW.go (κ := false) (S := []) ?_))
 unfold A5g
 refine N7 A9k (fun w' _ => B8g w' id) ?_
 rintro b _ rfl
 refine D2 Z5 (fun w' hw' => B0x w' v l (fun x => decide (x.1 = id)) 239 [.pointer (some ⟨b, 0, none⟩)] hn (hv.ks hw'.ks (by simp)) A68
  fun w2 h x => B52 w2 x id b (h.cell (by simp) (hw'.cell1 (by (repeat constructor))))) ?_
 exact B0 rfl
def B0E (b : F9) : Bool := decide (1 ≤ b.1 ∧ b.1 ≤ 65535 ∧ 1 ≤ b.2 ∧ b.2 ≤ 16)
def A0F : List F9 → Bool
 | [] => true
 | b :: l => B0E b && !(l.any fun x => decide (x.1 = b.1)) && A0F l
def b9 (l : List F9) : Int := if A0F l && decide (l.length ≤ 32) then 0 else 10
theorem A4W (l : List F9) : A0F l = true ↔ (∀ b ∈ l, B0E b = true) ∧ l.Pairwise fun a b => a.1 ≠ b.1 := by
 induction l with
 | nil => simp [A0F]
 | cons b l ih =>
  simp only [A0F, Bool.and_eq_true, ih, List.mem_cons, forall_eq_or_imp, List.pairwise_cons, Bool.not_eq_true', List.any_eq_false, decide_eq_true_eq]
  constructor
  ·rintro ⟨⟨h1, h2⟩, h3, h4⟩; exact ⟨⟨h1, h3⟩, fun a ha e => h2 a ha e.symm, h4⟩
  ·rintro ⟨⟨h1, h3⟩, h2, h4⟩; exact ⟨⟨h1, fun a ha e => h2 a ha e.symm⟩, h3, h4⟩
theorem C31 {α : Type} {R : α → α → Prop} {l : List α} (h : l.Pairwise R) {i j : Nat} {x y : α} (hij : i < j) (hx : l[i]? = some x) (hy : l[j]? = some y) : R x y := by
 obtain ⟨h1, rfl⟩ := List.getElem?_eq_some_iff.1 hx
 obtain ⟨h2, rfl⟩ := List.getElem?_eq_some_iff.1 hy
 exact List.pairwise_iff_getElem.1 h i j h1 h2 hij
theorem C0G {α : Type} {R : α → α → Prop} {l : List α} {i : Nat} {x : α} (hx : l[i]? = some x) : (l.take (i + 1)).Pairwise R ↔ (l.take i).Pairwise R ∧ ∀ y ∈ l.take i, R y x := by
 rw [List.take_add_one, hx]; simp [List.pairwise_append]
theorem B2N (w : World) (v : Value) (l : List F9) (hn : l.length ≤ 1000000) (hv : G1 w v l.length (l.flatMap F7)) :
  Fn PR B5 32 #[v] w (fun r w' => r = .int .i64 (b9 l) ∧ C4 [] w w') := by
 refine Fn.pure (B02 (TW.go (κ := false) (S := []) ?_))
 unfold A5G
 obtain ⟨a, c, rfl, hr⟩ := hv.form
 refine B4V (Value.int .i64) fun r => ?_
 (have zz:=trivial;repeat((first|clear zz|with_reducible first|refine A3 ?_|refine A5 fun _=>?_|refine A4 fun _=>?_);try simp(disch:=first|omega|assumption|((repeat(first|exact A1|exact uH|apply A2|apply uT));first|done|fail)|(simp;first|done|omega|fail))[]))
 refine r8 (α := List (Int × Value)) l.length (fun _ _ => .int .i64 0) (fun _ M => [.pt r (k4 (Value.int .i64) M)]) (fun i M => (∀ k, g7 k M = if (l.take i).any (fun x => decide (x.1 = k)) then some (.bool true) else none) ∧ A0F (l.take i) = true) [] (by simp [g7, A0F]) ?_
 rintro i M hi ⟨hM, hok⟩ L hL
 by_cases hlt : i < l.length
 ·obtain ⟨b, o, rfl, hrow⟩ := hr (by omega)
  obtain ⟨x, hx⟩ : ∃ x, l[i]? = some x := ⟨_, List.getElem?_eq_getElem (by omega)⟩
  have h1 := hrow.at (f := F7) (k := 2) (fun _ => rfl) hx
  rw [F7] at h1
  have hxm : x ∈ l := List.mem_of_getElem? hx
  (have zz:=trivial;repeat((first|clear zz|with_reducible first|refine A3 ?_|refine A5 fun _=>?_|refine A4 fun _=>?_);try simp(disch:=first|omega|assumption|((repeat(first|exact A1|exact uH|apply A2|apply uT));first|done|fail)|(simp;first|done|omega|fail))[hlt, h1]))
  rw [A79 B9U ty4 (KeyT.int H9) (l := M) (by (repeat constructor)), hM]
  cases hseen : (l.take i).any (fun y => decide (y.1 = x.1)) with
  | true =>
   have hbad : b9 l = 10 := by
    have : A0F l = false := by
     rw [← Bool.not_eq_true, A4W]
     rintro ⟨_, h⟩
     obtain ⟨y, hy, he⟩ := List.any_eq_true.1 hseen
     obtain ⟨j, hj, rfl⟩ := List.getElem_of_mem hy
     simp only [List.length_take] at hj
     exact C31 (i := j) (j := i) h (by omega) (List.getElem?_eq_getElem (by omega)) hx (by simpa using he)
    simp [b9, this]
   (have zz:=trivial;repeat((first|clear zz|with_reducible first|refine A3 ?_|refine A5 fun _=>?_|refine A4 fun _=>?_);try simp(disch:=first|omega|assumption|((repeat(first|exact A1|exact uH|apply A2|apply uT));first|done|fail)|(simp;first|done|omega|fail))[]))
   exact B0 (by rw [hbad])
  | false =>
   simp only [Bool.false_eq_true, if_false, Option.getD_none]
   (have zz:=trivial;repeat((first|clear zz|with_reducible first|refine A3 ?_|refine A5 fun _=>?_|refine A4 fun _=>?_|refine D0 fun _=>?_|refine C7 (hK:=fun _=>?_)|refine C9 (hK:=fun _=>?_)|refine D1 (hK:=fun _=>?_)|refine C8 (hK:=fun _=>?_)|refine C6 (hK:=fun _=>?_));try simp(disch:=first|omega|assumption|((repeat(first|exact A1|exact uH|apply A2|apply uT));first|done|fail)|(simp;first|done|omega|fail))[bd2]))
   rename_i bs bx
   refine D2 (u := .bool (B0E x)) A80 (fun w' hw' => ?_) ?_
   ·have := B6w w' (.slice (some ⟨bx, 0, none⟩) 2 2) [(x.1, 65535), (x.2, 16)] (by simp) (by simpa [F7] using P2.own (κ := false) (S := []) (w0 := w) (e := 153) (k := 2) (q := 2) (v := .slice (some ⟨bx, 0, none⟩) 2 2) (by (repeat constructor)) w' hw')
    have e : (!([(x.1, 65535), (x.2, 16)] : List (Int × Int)).any fun x => decide (x.1 < 1 ∨ x.2 < x.1)) = B0E x := by
     rw [Bool.eq_iff_iff]; simp [B0E]; omega
    rw [e] at this
    exact this
   ·cases hbk : B0E x with
    | false =>
     have hbad : b9 l = 10 := by
      have : A0F l = false := by
       rw [← Bool.not_eq_true, A4W]
       rintro ⟨h, _⟩
       rw [h x hxm] at hbk; cases hbk
      simp [b9, this]
     (have zz:=trivial;repeat((first|clear zz|with_reducible first|refine A3 ?_|refine A5 fun _=>?_|refine A4 fun _=>?_);try simp(disch:=first|omega|assumption|((repeat(first|exact A1|exact uH|apply A2|apply uT));first|done|fail)|(simp;first|done|omega|fail))[]))
     exact B0 (by rw [hbad])
    | true =>
     (have zz:=trivial;repeat((first|clear zz|with_reducible first|refine A3 ?_|refine A5 fun _=>?_|refine A4 fun _=>?_);try simp(disch:=first|omega|assumption|((repeat(first|exact A1|exact uH|apply A2|apply uT));first|done|fail)|(simp;first|done|omega|fail))[]))
     refine A7j B9U (KeyT.int H9) (k := x.1) (by (repeat constructor)) ?_
     (have zz:=trivial;repeat((first|clear zz|with_reducible first|refine A3 ?_|refine A5 fun _=>?_|refine A4 fun _=>?_);try simp(disch:=first|omega|assumption|((repeat(first|exact A1|exact uH|apply A2|apply uT));first|done|fail)|(simp;first|done|omega|fail))[]))
     refine Sels.tw (by (repeat' constructor)) (hL hlt _ ⟨?_, ?_⟩)
     ·intro k
      rw [B7l, hM, List.take_add_one, hx]
      by_cases hk : k = x.1
      ·subst hk; simp
      ·have hk' : ¬ x.1 = k := fun e => hk e.symm
       have hAB : (l.take i ++ (some x).toList).any (fun x => decide (x.1 = k)) = (l.take i).any (fun x => decide (x.1 = k)) := by
        rw [List.any_append]; simp only [Option.toList_some, List.any_cons, List.any_nil, decide_eq_false hk', Bool.or_false]
       rw [if_neg hk, hAB]
     ·rw [A4W] at hok ⊢
      refine ⟨fun y hy => ?_, (C0G hx).2 ⟨hok.2, fun y hy e => ?_⟩⟩
      ·rw [List.take_add_one, hx] at hy
       simp only [Option.toList_some, List.mem_append, List.mem_singleton] at hy
       rcases hy with hy | rfl
       ·exact hok.1 y hy
       ·exact hbk
      ·have := List.any_eq_false.1 hseen y hy
       simp [e] at this
 ·obtain rfl : i = l.length := by omega
  rw [List.take_length] at hok
  by_cases c1 : l.length ≤ 32
  ·have c1' : ¬ (32 : Int) < l.length := by omega
   (have zz:=trivial;repeat((first|clear zz|with_reducible first|refine A3 ?_|refine A5 fun _=>?_|refine A4 fun _=>?_);try simp(disch:=first|omega|assumption|((repeat(first|exact A1|exact uH|apply A2|apply uT));first|done|fail)|(simp;first|done|omega|fail))[c1']))
   exact B0 (by simp [b9, hok, c1])
  ·have c1' : (32 : Int) < l.length := by omega
   (have zz:=trivial;repeat((first|clear zz|with_reducible first|refine A3 ?_|refine A5 fun _=>?_|refine A4 fun _=>?_);try simp(disch:=first|omega|assumption|((repeat(first|exact A1|exact uH|apply A2|apply uT));first|done|fail)|(simp;first|done|omega|fail))[c1']))
   exact B0 (by simp [b9, c1])
end Go.Proofs.YtpbmephflllolaaGreat
namespace Go.Proofs.YtpbmephflllolaaGreat
open Go
structure CfgV where
 wk : Int
 sh : Int
 cp : Int
 idle : Int
 sl : Int
 deriving DecidableEq
def CfgV.val (c : CfgV) : Value := .agg #[.int .i64 c.wk, .int .i64 c.sh, .int .i64 c.cp, .int .i64 c.idle, .int .i64 c.sl]
def k6 (n lo hi : Int) : Bool := decide (lo ≤ n) && decide (n ≤ hi)
def Z0 (c : CfgV) : Bool := k6 c.wk 1 64 && k6 c.sh 1 16 && k6 c.cp 1 64 && k6 c.idle 0 1000000 && k6 c.sl 2 8
structure AnsV where
 err : Int
 bk : Int
 made : Bool
 count : Int
 deriving DecidableEq
def AnsV.val (a : AnsV) : Value := .agg #[.int .i64 a.err, .int .i64 a.bk, .bool a.made, .int .i64 a.count]
structure OpV where
 kind : Int
 packet : ByteArray
 pool : List F9
 shard : Int
def OpV.val (o : OpV) (v : Value) : Value := .agg #[.int .i64 o.kind, .string o.packet, v, .int .i64 o.shard]
end Go.Proofs.YtpbmephflllolaaGreat
namespace Go.Proofs.YtpbmephflllolaaGreat
open Go
def A30 (X : Nat → Prop) (t0 t1 : Value) (R : Value → WP) : WP :=
 B1 PR X (Instr.box 3 t1) fun t3 =>
 A0 PR (Instr.makeFunc (.func 165) #[] #[t3]) fun t6 =>
 B2 PR X 164 [t0, t6] fun t7 =>
 R t7
theorem A2w : A9 PR 113 := A7 Tryz.func113 (by kernel_rfl) rfl
theorem A9m {X : Nat → Prop} {t0 t1 : Value} {R : Value → WP} {w : World} (h : A30 X t0 t1 R w) : Fn PR X 113 #[t0, t1] w R := D5 (args := [t0, t1]) mixed Tryz.func113 (by kernel_rfl) h
def A5B (X : Nat → Prop) (t0 t1 : Value) (R : Value → WP) : WP :=
 B1 PR X (Instr.box 9 t1) fun t3 =>
 B1 PR X (Instr.alloc 3 true (.tuple #[])) fun t5 =>
 C3 PR X (Instr.storeAt 3 t5 (.int .i64 (-1))) <|
 jn (n := 0) (
 A6 PR (Instr.loadAt 3 t5) fun t28 =>
 V5 (R t28)) fun J1 =>
 A6 PR (Instr.loadAt 9 t3) fun t9 =>
 B2 PR X 198 [t0, t9] fun t10 =>
 rng (N := 2) PR X (fun t11 t12 K2 =>
 B1 PR (fun _ => False) (Instr.alloc 160 true (.tuple #[])) fun t7 =>
 C3 PR (fun _ => False) (Instr.storeAt 160 t7 t12) <|
 bgn <|
 A0 PR (Instr.fieldAt 160 t7 0) fun t14 =>
 A6 PR (Instr.loadAt 3 t14) fun t15 =>
 A0 PR (binOp .eql 3 t15 (.int .i64 0)) fun t16 =>
 C5 t16 (
 K2 (some (.exit 0))) (
 A0 PR (Instr.fieldAt 160 t7 0) fun t18 =>
 A6 PR (Instr.loadAt 3 t18) fun t19 =>
 A0 PR (binOp .eql 3 t19 (.int .i64 1)) fun t20 =>
 gj t20 true (fun J => A0 PR (Instr.fieldAt 160 t7 1) J) fun t22 =>
 gj t20 true (fun J => A6 PR (Instr.loadAt 9 t22) J) fun t23 =>
 gj t20 true (fun J => A6 PR (Instr.loadAt 9 t3) J) fun t24 =>
 gj t20 true (fun J => A0 PR (binOp .eql 9 t23 t24) J) fun t25 =>
 A0 PR (do pure (if ← asBool t20 then t25 else (.bool false))) fun t26 =>
 C5 t26 (
 C3 PR (fun _ => False) (Instr.storeAt 3 t5 t11) <|
 K2 (some (.exit 0))) (
 K2 none))) t10 (fun j => match j with | none => (J1) | some (.exit i) => (match Nat.beq i 0 with | true => (J1) | false => (E0)) | some .ret => (V5 (R (.int .i64 0))) | some _ => E0)
theorem n8 : A9 PR 150 := A7 Tryz.func150 (by kernel_rfl) rfl
theorem B1F {X : Nat → Prop} {t0 t1 : Value} {R : Value → WP} {w : World} (h : A5B X t0 t1 R w) : Fn PR X 150 #[t0, t1] w R := D5 (args := [t0, t1]) mixed Tryz.func150 (by kernel_rfl) h
def l0 (X : Nat → Prop) (t0 t1 : Value) (R : Value → WP) : WP :=
 jn (n := 2) (fun t5 t10 =>
 R t5) fun J1 =>
 A0 PR (A8 .len #[94] 0 [t0]) fun t9 =>
 lp (n := 2) (fun L2 t5_1 t10_1 =>
 A0 PR (binOp .lss 3 t10_1 t9) fun t11 =>
 jn (n := 0) (
 jn (n := 1) (fun t5_2 =>
 A0 PR (binOp .add 3 t10_1 (.int .i64 1)) fun t19 =>
 L2 t5_2 t19) fun J3 =>
 A0 PR (Instr.indexAt 94 t0 t10_1) fun t12 =>
 A6 PR (Instr.loadAt 160 t12) fun t13 =>
 B1 PR X (Instr.alloc 160 true (.tuple #[])) fun t7 =>
 C3 PR X (Instr.storeAt 160 t7 t13) <|
 A6 PR (Instr.loadAt 160 t7) fun t15 =>
 H3 PR X t1 [t15] fun t16 =>
 C5 t16 (
 A0 PR (binOp .add 3 t5_1 (.int .i64 1)) fun t18 =>
 J3 t18) (
 J3 t5_1)) fun J4 =>
 C5 t11 (
 J4) (
 J1 t5_1 t10_1)) (.int .i64 0) (.int .i64 0)
theorem A1w : A9 PR 164 := A7 Tryz.func164 (by kernel_rfl) rfl
theorem A2Y {X : Nat → Prop} {t0 t1 : Value} {R : Value → WP} {w : World} (h : l0 X t0 t1 R w) : Fn PR X 164 #[t0, t1] w R := D5 (args := [t0, t1]) mixed Tryz.func164 (by kernel_rfl) h
def A1d (X : Nat → Prop) (t0 t1 : Value) (R : Value → WP) : WP :=
 B1 PR X (Instr.box 160 t0) fun t2 =>
 A0 PR (Instr.fieldAt 160 t2 0) fun t4 =>
 A6 PR (Instr.loadAt 3 t4) fun t5 =>
 A6 PR (Instr.loadAt 3 t1) fun t6 =>
 A0 PR (binOp .eql 3 t5 t6) fun t7 =>
 R t7
theorem A5k : A9 PR 165 := A7 Tryz.func165 (by kernel_rfl) rfl
theorem A7B {X : Nat → Prop} {t0 t1 : Value} {R : Value → WP} {w : World} (h : A1d X t0 t1 R w) : Fn PR X 165 #[t0, t1] w R := D5 (args := [t0, t1]) mixed Tryz.func165 (by kernel_rfl) h
def A53 (X : Nat → Prop) (t0 t1 : Value) (R : Value → WP) : WP :=
 B1 PR X (Instr.box 94 t0) fun t2 =>
 B1 PR X (Instr.box 9 t1) fun t3 =>
 A0 PR (Instr.makeFunc (.func 220) #[] #[t3, t2]) fun t5 =>
 R t5
theorem A5A : A9 PR 198 := A7 Tryz.func198 (by kernel_rfl) rfl
theorem B2L {X : Nat → Prop} {t0 t1 : Value} {R : Value → WP} {w : World} (h : A53 X t0 t1 R w) : Fn PR X 198 #[t0, t1] w R := D5 (args := [t0, t1]) mixed Tryz.func198 (by kernel_rfl) h
def A48 (X : Nat → Prop) (t0 t1 : Value) (R : Value → WP) : WP :=
 B1 PR X (Instr.alloc 3 true (.tuple #[])) fun t4 =>
 jn (n := 0) (
 jn (n := 0) (
 C3 PR X (Instr.storeAt 3 t4 (.int .i64 (-1))) <|
 V5 (A6 PR (E3 [.c 3 t4]) R)) fun J1 =>
 B2 PR X 198 [t0, t1] fun t13 =>
 rng (N := 2) PR X (fun t14 t15 K2 =>
 B1 PR (fun _ => False) (Instr.alloc 160 true (.tuple #[])) fun t6 =>
 C3 PR (fun _ => False) (Instr.storeAt 160 t6 t15) <|
 bgn <|
 A0 PR (Instr.fieldAt 160 t6 0) fun t16 =>
 A6 PR (Instr.loadAt 3 t16) fun t17 =>
 A0 PR (binOp .neq 3 t17 (.int .i64 1)) fun t18 =>
 C5 t18 (
 C3 PR (fun _ => False) (Instr.storeAt 3 t4 t14) <|
 K2 (some .ret)) (
 K2 none)) t13 (fun j => match j with | none => (J1) | some (.exit i) => (match Nat.beq i 0 with | true => (J1) | false => (E0)) | some .ret => (V5 (A6 PR (E3 [.c 3 t4]) R)) | some _ => E0)) fun J3 =>
 B2 PR X 150 [t0, t1] fun t9 =>
 A0 PR (binOp .geq 3 t9 (.int .i64 0)) fun t10 =>
 C5 t10 (
 C3 PR X (Instr.storeAt 3 t4 (.int .i64 (-1))) <|
 V5 (A6 PR (E3 [.c 3 t4]) R)) (
 J3)
theorem A9f : A9 PR 201 := A7 Tryz.func201 (by kernel_rfl) rfl
theorem B1G {X : Nat → Prop} {t0 t1 : Value} {R : Value → WP} {w : World} (h : A48 X t0 t1 R w) : Fn PR X 201 #[t0, t1] w R := D5 (args := [t0, t1]) mixed Tryz.func201 (by kernel_rfl) h
def A3J (X : Nat → Prop) (t0 t1 t2 : Value) (R : Value → WP) : WP :=
 A6 PR (Instr.loadAt 9 t1) fun t7 =>
 A6 PR (Instr.loadAt 94 t2) fun t8 =>
 A0 PR (A8 .len #[94] 0 [t8]) fun t9 =>
 B2 PR X 221 [t7, t9] fun t10 =>
 A6 PR (Instr.loadAt 94 t2) fun t11 =>
 A0 PR (A8 .len #[94] 0 [t11]) fun t12 =>
 lp (n := 1) (fun L1 t13 =>
 A0 PR (binOp .lss 3 t13 t12) fun t14 =>
 jn (n := 0) (
 jn (n := 0) (
 A0 PR (binOp .add 3 t13 (.int .i64 1)) fun t30 =>
 L1 t30) fun J2 =>
 A0 PR (binOp .add 3 t10 t13) fun t18 =>
 A6 PR (Instr.loadAt 94 t2) fun t19 =>
 A0 PR (A8 .len #[94] 0 [t19]) fun t20 =>
 A0 PR (binOp .rem 3 t18 t20) fun t21 =>
 A6 PR (Instr.loadAt 94 t2) fun t24 =>
 A0 PR (Instr.indexAt 94 t24 t21) fun t26 =>
 A6 PR (Instr.loadAt 160 t26) fun t27 =>
 H3 PR X t0 [t21, t27] fun t28 =>
 A0 PR (Op.unary .not t28) fun t29 =>
 C5 t29 (
 R (.tuple #[])) (
 J2)) fun J3 =>
 C5 t14 (
 J3) (
 R (.tuple #[]))) (.int .i64 0)
theorem A7f : A9 PR 220 := A7 Tryz.func220 (by kernel_rfl) rfl
theorem A8Q {X : Nat → Prop} {t0 t1 t2 : Value} {R : Value → WP} {w : World} (h : A3J X t0 t1 t2 R w) : Fn PR X 220 #[t0, t1, t2] w R := D5 (args := [t0, t1, t2]) mixed Tryz.func220 (by kernel_rfl) h
theorem A8M {X : Nat → Prop} {t0 t1 t2 : Value} {K : Value → WP} {w : World} (h : Fn PR X 220 #[t0, t1, t2] w K) : s7 PR X 220 [t0, t1, t2] K w := ⟨A7f, h⟩
def A44 (X : Nat → Prop) (t0 t1 : Value) (R : Value → WP) : WP :=
 jn (n := 1) (fun t4 =>
 B2 PR X 102 [t0] fun t8 =>
 A0 PR (convert 3 129 t1) fun t10 =>
 A0 PR (binOp .rem 129 t8 t10) fun t11 =>
 A0 PR (convert 129 3 t11) fun t12 =>
 R t12) fun J1 =>
 A0 PR (binOp .lss 3 t1 (.int .i64 1)) fun t6 =>
 C5 t6 (
 R (.int .i64 0)) (
 J1 (.int .i64 0))
theorem A9g : A9 PR 221 := A7 Tryz.func221 (by kernel_rfl) rfl
theorem B1N {X : Nat → Prop} {t0 t1 : Value} {R : Value → WP} {w : World} (h : A44 X t0 t1 R w) : Fn PR X 221 #[t0, t1] w R := D5 (args := [t0, t1]) mixed Tryz.func221 (by kernel_rfl) h
end Go.Proofs.YtpbmephflllolaaGreat
namespace Go.Proofs.YtpbmephflllolaaGreat
open Go
def A9A (X : Nat → Prop) (t0 : Value) (R : Value → WP) : WP :=
 B2 PR X 149 [(.int .u64 14695981039346656037), t0] fun t4 =>
 R t4
theorem A0y : A9 PR 102 := A7 Tryz.func102 (by kernel_rfl) rfl
theorem B5x {X : Nat → Prop} {t0 : Value} {R : Value → WP} {w : World} (h : A9A X t0 R w) : Fn PR X 102 #[t0] w R := D5 (args := [t0]) mixed Tryz.func102 (by kernel_rfl) h
def A7M (X : Nat → Prop) (t0 t1 : Value) (R : Value → WP) : WP :=
 B1 PR X (Instr.alloc 300 true (.tuple #[])) fun t5 =>
 B1 PR X (Instr.alloc 302 true (.tuple #[])) fun t6 =>
 C3 PR X (Instr.storeAt 300 t5 (.func (.func 196) #[] #[])) <|
 C3 PR X (Instr.storeAt 302 t6 t0) <|
 jn (n := 0) (
 A6 PR (Instr.loadAt 302 t6) fun t16 =>
 V5 (R t16)) fun J1 =>
 B2 PR X 197 [t1] fun t10 =>
 rng (N := 1) PR X (fun t11 K2 =>
 bgn <|
 A6 PR (Instr.loadAt 300 t5) fun t12 =>
 A6 PR (Instr.loadAt 302 t6) fun t13 =>
 H3 PR (fun _ => False) t12 [t13, t11] fun t15 =>
 C3 PR (fun _ => False) (Instr.storeAt 302 t6 t15) <|
 K2 none) t10 (fun j => match j with | none => (J1) | some (.exit i) => (match Nat.beq i 0 with | true => (J1) | false => (E0)) | some .ret => (V5 (R (.int .u64 0))) | some _ => E0)
theorem A6j : A9 PR 149 := A7 Tryz.func149 (by kernel_rfl) rfl
theorem B3Y {X : Nat → Prop} {t0 t1 : Value} {R : Value → WP} {w : World} (h : A7M X t0 t1 R w) : Fn PR X 149 #[t0, t1] w R := D5 (args := [t0, t1]) mixed Tryz.func149 (by kernel_rfl) h
def A34 (X : Nat → Prop) (t0 t1 : Value) (R : Value → WP) : WP :=
 A0 PR (convert 5 302 t1) fun t7 =>
 A0 PR (binOp .xor 302 t0 t7) fun t8 =>
 A0 PR (binOp .mul 302 t8 (.int .u64 1099511628211)) fun t9 =>
 R t9
theorem A8w : A9 PR 196 := A7 Tryz.func196 (by kernel_rfl) rfl
theorem B0B {X : Nat → Prop} {t0 t1 : Value} {R : Value → WP} {w : World} (h : A34 X t0 t1 R w) : Fn PR X 196 #[t0, t1] w R := D5 (args := [t0, t1]) mixed Tryz.func196 (by kernel_rfl) h
def A7T (X : Nat → Prop) (t0 : Value) (R : Value → WP) : WP :=
 B1 PR X (Instr.box 9 t0) fun t1 =>
 A0 PR (Instr.makeFunc (.func 219) #[] #[t1]) fun t3 =>
 R t3
theorem B2x : A9 PR 197 := A7 Tryz.func197 (by kernel_rfl) rfl
theorem B3d {X : Nat → Prop} {t0 : Value} {R : Value → WP} {w : World} (h : A7T X t0 R w) : Fn PR X 197 #[t0] w R := D5 (args := [t0]) mixed Tryz.func197 (by kernel_rfl) h
def A3s (X : Nat → Prop) (t0 t1 : Value) (R : Value → WP) : WP :=
 A6 PR (Instr.loadAt 9 t1) fun t4 =>
 A0 PR (A8 .len #[9] 0 [t4]) fun t5 =>
 lp (n := 1) (fun L1 t6 =>
 A0 PR (binOp .lss 3 t6 t5) fun t7 =>
 jn (n := 0) (
 jn (n := 0) (
 A0 PR (binOp .add 3 t6 (.int .i64 1)) fun t15 =>
 L1 t15) fun J2 =>
 A6 PR (Instr.loadAt 9 t1) fun t10 =>
 A0 PR (Instr.index 9 t10 t6) fun t12 =>
 H3 PR X t0 [t12] fun t13 =>
 A0 PR (Op.unary .not t13) fun t14 =>
 C5 t14 (
 R (.tuple #[])) (
 J2)) fun J3 =>
 C5 t7 (
 J3) (
 R (.tuple #[]))) (.int .i64 0)
theorem A85 : A9 PR 219 := A7 Tryz.func219 (by kernel_rfl) rfl
theorem A9l {X : Nat → Prop} {t0 t1 : Value} {R : Value → WP} {w : World} (h : A3s X t0 t1 R w) : Fn PR X 219 #[t0, t1] w R := D5 (args := [t0, t1]) mixed Tryz.func219 (by kernel_rfl) h
theorem A90 {X : Nat → Prop} {t0 t1 : Value} {K : Value → WP} {w : World} (h : Fn PR X 219 #[t0, t1] w K) : s7 PR X 219 [t0, t1] K w := ⟨A85, h⟩
end Go.Proofs.YtpbmephflllolaaGreat
namespace Go.Proofs.YtpbmephflllolaaGreat
open Go
def A91 (h b : Nat) : Nat := ((h ^^^ b) * 1099511628211) % 18446744073709551616
def A9b (h : Nat) (s : ByteArray) : Nat → Nat
 | 0 => h
 | i + 1 => A91 (A9b h s i) (B6 s i)
def B4y (h : Nat) (s : ByteArray) : Nat := A9b h s s.size
def c9 (s : ByteArray) : Nat := B4y 14695981039346656037 s
theorem B97 (h b : Nat) : A91 h b < 2 ^ 64 := by unfold A91; omega
theorem B30 {h : Nat} (hh : h < 2 ^ 64) (s : ByteArray) (i : Nat) : A9b h s i < 2 ^ 64 := by
 cases i with
 | zero => exact hh
 | succ i => exact B97 _ _
theorem C3y (w : World) (h b : Nat) (hh : h < 2 ^ 64) (hb : b < 256) : Fn PR B5 196 #[.int .u64 (h : Int), .int .u8 (b : Int)] w (fun v w' => v = .int .u64 (A91 h b : Nat) ∧ C4 [] w w') := by
 refine Fn.pure (B0B (TW.go (κ := false) (S := []) ?_))
 unfold A34
 (have zz:=trivial;repeat((first|clear zz|with_reducible first|refine A3 ?_|refine A5 fun _=>?_|refine A4 fun _=>?_);try simp(disch:=first|omega|assumption|((repeat(first|exact A1|exact uH|apply A2|apply uT));first|done|fail)|(simp;first|done|omega|fail))[]))
 have e1 : (h % 2 ^ IntKind.u64.bits ^^^ b % 2 ^ IntKind.u64.bits) = h ^^^ b := by rw [show (2 : Nat) ^ IntKind.u64.bits = 2 ^ 64 from rfl, Nat.mod_eq_of_lt hh, Nat.mod_eq_of_lt (by omega)]
 have e2 : h ^^^ b < 2 ^ 64 := Nat.xor_lt_two_pow hh (by omega)
 rw [e1, A0a (n := ((h ^^^ b : Nat) : Int)) (by omega) (by omega)]
 refine B0 ?_
 have e3 : IntKind.u64.wrap (((h ^^^ b : Nat) : Int) * 1099511628211) = (A91 h b : Nat) := by
  simp only [IntKind.wrap, IntKind.bits, IntKind.signed, A91]
  simp
 rw [e3]
abbrev B9g (b : Nat) : Value := .func (.func 219) #[] #[.pointer (some ⟨b, 0, none⟩)]
theorem B99 (w : World) (s : ByteArray) : Fn PR B5 197 #[.string s] w (Rn [] w (fun b v => v = B9g b) fun b => [.pt b (.cells #[.string s] 9)]) := by
 refine B3d (TW.go (κ := false) (S := []) ?_)
 unfold A7T
 (have zz:=trivial;repeat((first|clear zz|with_reducible first|refine A3 ?_|refine A5 fun _=>?_|refine A4 fun _=>?_);try simp(disch:=first|omega|assumption|((repeat(first|exact A1|exact uH|apply A2|apply uT));first|done|fail)|(simp;first|done|omega|fail))[]))
 rename_i b
 exact W9 b rfl (by simp)
def B1d (s : ByteArray) (i : Nat) : List Value := [.int .u8 (B6 s i : Nat)]
theorem C0B (b : Nat) (s : ByteArray) (hs : s.size < 2 ^ 60) : A1u (B9g b) [.pt b (.cells #[.string s] 9)] (fun _ _ => True) ((List.range s.size).map (B1d s)) := by
 refine ⟨_, _, _, rfl, fun l J E hJ hE stJ stE hy w0 h0 => ?_⟩
 refine A90 (A9l (TW.at (κ := true) ?_ (hJ _ _ _ h0).1))
 unfold A3s
 (have zz:=trivial;repeat((first|clear zz|with_reducible first|refine A3 ?_|refine A5 fun _=>?_|refine A4 fun _=>?_);try simp(disch:=first|omega|assumption|((repeat(first|exact A1|exact uH|apply A2|apply uT));first|done|fail)|(simp;first|done|omega|fail))[]))
 refine A2c s.size (fun i => i) (fun _ => _) hJ stJ h0 fun i a hi hJi _ L hL => ?_
 by_cases hlt : i < s.size
 ·obtain ⟨by0, hb0, hb1⟩ := s9 (s := s) (i := i) hlt
  have hb0' : s[((i : Nat) : Int).toNat]? = some by0 := by rw [Int.toNat_natCast]; exact hb0
  (have zz:=trivial;repeat((first|clear zz|with_reducible first|refine A3 ?_|refine A5 fun _=>?_|refine A4 fun _=>?_);try simp(disch:=first|omega|assumption|((repeat(first|exact A1|exact uH|apply A2|apply uT));first|done|fail)|(simp;first|done|omega|fail))[hlt, Y1]))
  rw [hb1]
  refine A3H hJ hE stJ hy hJi (by simpa using hlt) (by simp [B1d]) (fun w3 h => ?_) (fun w3 h => ?_)
  ·(have zz:=trivial;repeat((first|clear zz|with_reducible first|refine A3 ?_|refine A5 fun _=>?_|refine A4 fun _=>?_);try simp(disch:=first|omega|assumption|((repeat(first|exact A1|exact uH|apply A2|apply uT));first|done|fail)|(simp;first|done|omega|fail))[]))
   exact fun w' hw' => hL hlt w' (stJ _ _ _ _ _ h hw')
  ·(have zz:=trivial;repeat((first|clear zz|with_reducible first|refine A3 ?_|refine A5 fun _=>?_|refine A4 fun _=>?_);try simp(disch:=first|omega|assumption|((repeat(first|exact A1|exact uH|apply A2|apply uT));first|done|fail)|(simp;first|done|omega|fail))[]))
   exact A1B stE h
 ·obtain rfl : i = s.size := by omega
  (have zz:=trivial;repeat((first|clear zz|with_reducible first|refine A3 ?_|refine A5 fun _=>?_|refine A4 fun _=>?_);try simp(disch:=first|omega|assumption|((repeat(first|exact A1|exact uH|apply A2|apply uT));first|done|fail)|(simp;first|done|omega|fail))[]))
  exact A1N stJ (by simpa using hJi)
theorem B31 (w : World) (h : Nat) (s : ByteArray) (hh : h < 2 ^ 64) (hs : s.size < 2 ^ 60) : Fn PR B5 149 #[.int .u64 (h : Int), .string s] w (fun v w' => v = .int .u64 (B4y h s : Nat) ∧ C4 [] w w') := by
 refine Fn.pure (B3Y (TW.go (κ := false) (S := []) ?_))
 unfold A7M
 (have zz:=trivial;repeat((first|clear zz|with_reducible first|refine A3 ?_|refine A5 fun _=>?_|refine A4 fun _=>?_);try simp(disch:=first|omega|assumption|((repeat(first|exact A1|exact uH|apply A2|apply uT));first|done|fail)|(simp;first|done|omega|fail))[]))
 rename_i bf bx
 refine N7 B2x (fun w' _ => B99 w' s) ?_
 rintro b v rfl
 refine y4 (C0B b s hs) (by simp [B1d]) (fun _ (_ : Unit) => True) (fun i _ => [.pt bx (.cells #[.int .u64 ((A9b h s i : Nat) : Int)] 302), .pt bf (.cells #[.func (.func 196) #[] #[]] 300)])
  (fun _ (_ : Unit) => False) (fun _ => []) () trivial ?_ ?_ ?_ ?_ (by simp [A9b])
 ·intros; trivial
 ·rintro i hi _ F _ K' hK _
  simp only [List.getElem_map, List.getElem_range, B1d, VF.app]
  (have zz:=trivial;repeat((first|clear zz|with_reducible first|refine A3 ?_|refine A5 fun _=>?_|refine A4 fun _=>?_);try simp(disch:=first|omega|assumption|((repeat(first|exact A1|exact uH|apply A2|apply uT));first|done|fail)|(simp;first|done|omega|fail))[]))
  refine D2 A8w (fun w' _ => C3y w' _ _ (B30 hh s i) (v7 s i)) ?_
  (have zz:=trivial;repeat((first|clear zz|with_reducible first|refine A3 ?_|refine A5 fun _=>?_|refine A4 fun _=>?_);try simp(disch:=first|omega|assumption|((repeat(first|exact A1|exact uH|apply A2|apply uT));first|done|fail)|(simp;first|done|omega|fail))[]))
  exact TW.eqH (by simp [A9b]) (hK () trivial)
 ·rintro _ _
  (have zz:=trivial;repeat((first|clear zz|with_reducible first|refine A3 ?_|refine A5 fun _=>?_|refine A4 fun _=>?_);try simp(disch:=first|omega|assumption|((repeat(first|exact A1|exact uH|apply A2|apply uT));first|done|fail)|(simp;first|done|omega|fail))[]))
  exact B0 (by simp [B4y])
 ·rintro _ _ h; exact h.elim
theorem A3C (w : World) (s : ByteArray) (hs : s.size < 2 ^ 60) : Fn PR B5 102 #[.string s] w (fun v w' => v = .int .u64 (c9 s : Nat) ∧ C4 [] w w') := by
 refine Fn.pure (B5x (TW.go (κ := false) (S := []) ?_))
 unfold A9A
 refine D2 A6j (fun w' _ => B31 w' 14695981039346656037 s (by omega) hs) ?_
 exact B0 rfl
end Go.Proofs.YtpbmephflllolaaGreat
namespace Go.Proofs.YtpbmephflllolaaGreat
open Go
def M3 (key : ByteArray) (n : Nat) : Nat := c9 key % n
theorem A9V (s : ByteArray) : c9 s < 2 ^ 64 := B30 (by omega) s _
theorem C0y (w : World) (key : ByteArray) (n : Nat) (hk : key.size < 2 ^ 60) (hn : n ≤ 1000000) : Fn PR B5 221 #[.string key, .int .i64 (n : Int)] w (fun v w' => v = .int .i64 (if n = 0 then 0 else M3 key n : Nat) ∧ C4 [] w w') := by
 refine Fn.pure (B1N (TW.go (κ := false) (S := []) ?_))
 unfold A44
 by_cases c1 : n = 0
 ·have c1' : (n : Int) < 1 := by omega
  (have zz:=trivial;repeat((first|clear zz|with_reducible first|refine A3 ?_|refine A5 fun _=>?_|refine A4 fun _=>?_);try simp(disch:=first|omega|assumption|((repeat(first|exact A1|exact uH|apply A2|apply uT));first|done|fail)|(simp;first|done|omega|fail))[c1']))
  exact B0 (by simp [c1])
 have c1' : ¬ (n : Int) < 1 := by omega
 have c1'' : ¬ (n : Int) = 0 := by omega
 (have zz:=trivial;repeat((first|clear zz|with_reducible first|refine A3 ?_|refine A5 fun _=>?_|refine A4 fun _=>?_);try simp(disch:=first|omega|assumption|((repeat(first|exact A1|exact uH|apply A2|apply uT));first|done|fail)|(simp;first|done|omega|fail))[c1']))
 refine D2 A0y (fun w' _ => A3C w' key hk) ?_
 have hl := A9V key
 have hm : M3 key n < n := Nat.mod_lt _ (by omega)
 have e1 : ((c9 key : Nat) : Int).tmod n = (M3 key n : Nat) := by unfold M3; rw [Int.tmod_eq_emod_of_nonneg (by omega)]; omega
 have e2 : ((c9 key : Nat) : Int) % n = (M3 key n : Nat) := by unfold M3; omega
 (have zz:=trivial;repeat((first|clear zz|with_reducible first|refine A3 ?_|refine A5 fun _=>?_|refine A4 fun _=>?_);try simp(disch:=first|omega|assumption|((repeat(first|exact A1|exact uH|apply A2|apply uT));first|done|fail)|(simp;first|done|omega|fail))[c1'', e1, A1z]))
 exact B0 (by simp [c1])
def d5 : EnV := ⟨0, P4, 0, 0⟩
def Q7 (l : List EnV) (key : ByteArray) : List (Nat × EnV) := (List.range l.length).map fun i => ((M3 key l.length + i) % l.length, l.getD ((M3 key l.length + i) % l.length) d5)
def A3l (p : Nat × EnV) : List Value := [.int .i64 (p.1 : Nat), .agg #[.int .i64 p.2.st, .string p.2.key, .int .i64 p.2.bk, .int .i64 p.2.dl]]
abbrev C1H (x : Nat × Nat) : Value := .func (.func 220) #[] #[.pointer (some ⟨x.1, 0, none⟩), .pointer (some ⟨x.2, 0, none⟩)]
abbrev B2H (x : Nat × Nat) (v : Value) (key : ByteArray) : List Res := [.pt x.1 (.cells #[.string key] 9), .pt x.2 (.cells #[v] 94)]
theorem B7Z (w : World) (v : Value) (key : ByteArray) (hv : ∃ a n c, v = .slice a n c) : Fn PR B5 198 #[v, .string key] w (Rn [] w (fun x u => u = C1H x) fun x => B2H x v key) := by
 obtain ⟨a, n, c, rfl⟩ := hv
 refine B2L (TW.go (κ := false) (S := []) ?_)
 unfold A53
 (have zz:=trivial;repeat((first|clear zz|with_reducible first|refine A3 ?_|refine A5 fun _=>?_|refine A4 fun _=>?_);try simp(disch:=first|omega|assumption|((repeat(first|exact A1|exact uH|apply A2|apply uT));first|done|fail)|(simp;first|done|omega|fail))[]))
 rename_i b1 b2
 exact D4 (b2, b1) rfl (by (repeat' constructor))
def RqS (v : Value) (n : Nat) (xs : List Value) (F : List Res) (w : World) : Prop := ∃ a c, v = .slice a n c ∧ (0 < n → ∃ b o, a = some ⟨b, o, none⟩ ∧ K8 w b o xs ∧ b ∉ B3 F)
theorem RqS.of {v : Value} {n : Nat} {xs : List Value} {w0 w : World} {A F : List Res} (h : G1 w0 v n xs) (hx : 0 < n → 0 < xs.length) (hw : LW false [] w0 (A ++ F) w) : RqS v n xs F w := by
 obtain ⟨a, c, rfl, hr⟩ := h.form
 refine ⟨a, c, rfl, fun hn => ?_⟩
 obtain ⟨b, o, rfl, hrow⟩ := hr hn
 refine ⟨b, o, rfl, hw.ks.row (by simp) hrow, hw.notin_old ?_ (by simp)⟩
 have h0 := hrow 0 (hx hn)
 rw [List.getElem?_eq_getElem (hx hn)] at h0
 obtain ⟨c', t', z', h1, h2⟩ := e9 h0
 exact G3 h1
theorem m5 (l : List EnV) : (l.flatMap F3).length = l.length * 4 := by
 induction l with
 | nil => rfl
 | cons x l ih => rw [List.flatMap_cons, List.length_append, ih]; simp [F3]; omega
theorem B68 (x : Nat × Nat) (v : Value) (l : List EnV) (key : ByteArray) (hk : key.size < 2 ^ 60) (hn : l.length ≤ 1000000) : A1u (C1H x) (B2H x v key) (RqS v l.length (l.flatMap F3)) ((Q7 l key).map A3l) := by
 obtain ⟨bk, bt⟩ := x
 refine ⟨_, _, _, rfl, fun y J E hJ hE stJ stE hy w0 h0 => ?_⟩
 obtain ⟨a, c, hv, hr⟩ := (hJ _ _ _ h0).2
 subst hv
 refine A8M (A8Q (TW.at (κ := true) ?_ (hJ _ _ _ h0).1))
 unfold A3J
 simp only [B2H]
 (have zz:=trivial;repeat((first|clear zz|with_reducible first|refine A3 ?_|refine A5 fun _=>?_|refine A4 fun _=>?_);try simp(disch:=first|omega|assumption|((repeat(first|exact A1|exact uH|apply A2|apply uT));first|done|fail)|(simp;first|done|omega|fail))[]))
 refine D2 A9g (fun w' _ => C0y w' key l.length hk hn) ?_
 (have zz:=trivial;repeat((first|clear zz|with_reducible first|refine A3 ?_|refine A5 fun _=>?_|refine A4 fun _=>?_);try simp(disch:=first|omega|assumption|((repeat(first|exact A1|exact uH|apply A2|apply uT));first|done|fail)|(simp;first|done|omega|fail))[]))
 refine A2c l.length (fun i => i) (fun _ => _) hJ stJ h0 fun i a' hi hJi hRi L hL => ?_
 by_cases hlt : i < l.length
 ·obtain ⟨_, _, hv, hr⟩ := hRi
  obtain ⟨b, o, hb, hrow, hnb⟩ := hr (by omega)
  cases hv
  have hh : M3 key l.length < l.length := Nat.mod_lt _ (by omega)
  have e0 : (if l.length = 0 then 0 else M3 key l.length) = M3 key l.length := if_neg (by omega)
  have hj : (M3 key l.length + i) % l.length < l.length := Nat.mod_lt _ (by omega)
  have hx : l[(M3 key l.length + i) % l.length]? = some (l.getD ((M3 key l.length + i) % l.length) d5) := by
   rw [List.getD_eq_getElem?_getD, List.getElem?_eq_getElem hj]; rfl
  have h1 := hrow.at (f := F3) (k := 4) (fun _ => rfl) hx
  have e1 : (((M3 key l.length : Nat) : Int) + (i : Nat)).tmod l.length = ((M3 key l.length + i) % l.length : Nat) := by rw [Int.tmod_eq_emod_of_nonneg (by omega), Int.natCast_emod, Int.natCast_add]
  have hwi : ∀ h, ((Q7 l key).map A3l)[i]'h = A3l ((M3 key l.length + i) % l.length, l.getD ((M3 key l.length + i) % l.length) d5) := by
   intro h; simp only [List.getElem_map, Q7, List.getElem_range]
  generalize hjd : (M3 key l.length + i) % l.length = j at *
  generalize hxd : l.getD j d5 = x at *
  rw [F3] at h1
  have hnz : ¬ (l.length : Int) = 0 := by omega
  subst hb
  rw [e0]
  (have zz:=trivial;repeat((first|clear zz|with_reducible first|refine A3 ?_|refine A5 fun _=>?_|refine A4 fun _=>?_);try simp(disch:=first|omega|assumption|((repeat(first|exact A1|exact uH|apply A2|apply uT));first|done|fail)|(simp;first|done|omega|fail))[hlt, e1, h1, hnz, A1z]))
  refine A3H hJ hE stJ hy hJi (by simpa [Q7] using hlt) (hwi _) (fun w3 h => ?_) (fun w3 h => ?_)
  ·(have zz:=trivial;repeat((first|clear zz|with_reducible first|refine A3 ?_|refine A5 fun _=>?_|refine A4 fun _=>?_);try simp(disch:=first|omega|assumption|((repeat(first|exact A1|exact uH|apply A2|apply uT));first|done|fail)|(simp;first|done|omega|fail))[]))
   exact fun w' hw' => hL hlt w' (stJ _ _ _ _ _ h hw')
  ·(have zz:=trivial;repeat((first|clear zz|with_reducible first|refine A3 ?_|refine A5 fun _=>?_|refine A4 fun _=>?_);try simp(disch:=first|omega|assumption|((repeat(first|exact A1|exact uH|apply A2|apply uT));first|done|fail)|(simp;first|done|omega|fail))[]))
   exact A1B stE h
 ·obtain rfl : i = l.length := by omega
  (have zz:=trivial;repeat((first|clear zz|with_reducible first|refine A3 ?_|refine A5 fun _=>?_|refine A4 fun _=>?_);try simp(disch:=first|omega|assumption|((repeat(first|exact A1|exact uH|apply A2|apply uT));first|done|fail)|(simp;first|done|omega|fail))[]))
  exact A1N stJ (by simpa [Q7] using hJi)
def G9 (key : ByteArray) : List (Nat × EnV) → Int
 | [] => -1
 | p :: r => if p.2.st = 0 then -1 else if p.2.st = 1 ∧ p.2.key = key then p.1 else G9 key r
def D6 (l : List EnV) (key : ByteArray) : Int := G9 key (Q7 l key)
theorem B4T {α : Type} {l : List α} {i : Nat} (h : i < l.length) : l.drop i = l[i] :: l.drop (i + 1) := List.drop_eq_getElem_cons h
theorem A4r (L : List (Nat × EnV)) : ∀ x ∈ L.map A3l, x.length = 2 := by
 intro x hx; obtain ⟨p, _, rfl⟩ := List.mem_map.1 hx; rfl
theorem y9 (w : World) (v : Value) (l : List EnV) (key : ByteArray) (hk : key.size < 2 ^ 60) (hn : l.length ≤ 1000000) (hv : G1 w v l.length (l.flatMap F3)) :
  Fn PR B5 150 #[v, .string key] w (fun r w' => r = .int .i64 (D6 l key) ∧ C4 [] w w') := by
 refine Fn.pure (B1F (TW.go (κ := false) (S := []) ?_))
 unfold A5B
 (have zz:=trivial;repeat((first|clear zz|with_reducible first|refine A3 ?_|refine A5 fun _=>?_|refine A4 fun _=>?_);try simp(disch:=first|omega|assumption|((repeat(first|exact A1|exact uH|apply A2|apply uT));first|done|fail)|(simp;first|done|omega|fail))[]))
 rename_i bk bf
 refine N7 A5A (fun w' _ => B7Z w' v key (by obtain ⟨a, c, rfl, _⟩ := hv.form; exact ⟨a, _, c, rfl⟩)) ?_
 rintro x u rfl
 refine y4 (B68 x v l key hk hn) (A4r _) (fun i (_ : Unit) => G9 key ((Q7 l key).drop i) = D6 l key) (fun _ _ => [.pt bf (.cells #[.int .i64 (-1)] 3), .pt bk (.cells #[.string key] 9)])
  (fun c (y : Unit) => c = .exit 0) (fun y => [.pt bf (.cells #[.int .i64 (D6 l key)] 3)]) () rfl ?_ ?_ ?_ ?_ (by simp [B2H])
 ·intro i _ F w1 _ hw
  exact RqS.of hv (fun h => by rw [m5]; omega) hw
 ·rintro i hi _ F hψ K' hK hE
  have hi' : i < (Q7 l key).length := by simpa using hi
  rw [B4T hi'] at hψ
  simp only [List.getElem_map]
  generalize (Q7 l key)[i] = p at *
  simp only [A3l, VF.app]
  by_cases c0 : p.2.st = 0
  ·(have zz:=trivial;repeat((first|clear zz|with_reducible first|refine A3 ?_|refine A5 fun _=>?_|refine A4 fun _=>?_);try simp(disch:=first|omega|assumption|((repeat(first|exact A1|exact uH|apply A2|apply uT));first|done|fail)|(simp;first|done|omega|fail))[c0]))
   refine TW.sub (hE (.exit 0) () rfl) ?_
   rw [← hψ]
   simp only [G9, c0, if_true]
   ((try simp only [List.cons_append, List.nil_append, List.append_assoc]); (repeat (first | exact List.Sublist.refl _ | exact List.nil_sublist _ | with_reducible apply List.Sublist.cons_cons | apply List.Sublist.cons)); first | done | fail)
  by_cases c1 : p.2.st = 1
  ·by_cases c2 : p.2.key = key
   ·(have zz:=trivial;repeat((first|clear zz|with_reducible first|refine A3 ?_|refine A5 fun _=>?_|refine A4 fun _=>?_);try simp(disch:=first|omega|assumption|((repeat(first|exact A1|exact uH|apply A2|apply uT));first|done|fail)|(simp;first|done|omega|fail))[c0, c1, c2]))
    refine TW.sub (hE (.exit 0) () rfl) ?_
    rw [← hψ]
    simp [G9, c1, c2]
    ((try simp only [List.cons_append, List.nil_append, List.append_assoc]); (repeat (first | exact List.Sublist.refl _ | exact List.nil_sublist _ | with_reducible apply List.Sublist.cons_cons | apply List.Sublist.cons)); first | done | fail)
   ·(have zz:=trivial;repeat((first|clear zz|with_reducible first|refine A3 ?_|refine A5 fun _=>?_|refine A4 fun _=>?_);try simp(disch:=first|omega|assumption|((repeat(first|exact A1|exact uH|apply A2|apply uT));first|done|fail)|(simp;first|done|omega|fail))[c0, c1, c2]))
    refine TW.sub (hK () ?_) (by ((try simp only [List.cons_append, List.nil_append, List.append_assoc]); (repeat (first | exact List.Sublist.refl _ | exact List.nil_sublist _ | with_reducible apply List.Sublist.cons_cons | apply List.Sublist.cons)); first | done | fail))
    rw [← hψ]
    simp [G9, c1, c2]
  ·(have zz:=trivial;repeat((first|clear zz|with_reducible first|refine A3 ?_|refine A5 fun _=>?_|refine A4 fun _=>?_);try simp(disch:=first|omega|assumption|((repeat(first|exact A1|exact uH|apply A2|apply uT));first|done|fail)|(simp;first|done|omega|fail))[c0, c1]))
   refine TW.sub (hK () ?_) (by ((try simp only [List.cons_append, List.nil_append, List.append_assoc]); (repeat (first | exact List.Sublist.refl _ | exact List.nil_sublist _ | with_reducible apply List.Sublist.cons_cons | apply List.Sublist.cons)); first | done | fail))
   rw [← hψ]
   simp [G9, c0, c1]
 ·intro _ hψ
  (have zz:=trivial;repeat((first|clear zz|with_reducible first|refine A3 ?_|refine A5 fun _=>?_|refine A4 fun _=>?_);try simp(disch:=first|omega|assumption|((repeat(first|exact A1|exact uH|apply A2|apply uT));first|done|fail)|(simp;first|done|omega|fail))[]))
  simp only [List.length_map, List.drop_length, G9] at hψ
  exact B0 (by rw [← hψ])
 ·rintro _ _ rfl
  (have zz:=trivial;repeat((first|clear zz|with_reducible first|refine A3 ?_|refine A5 fun _=>?_|refine A4 fun _=>?_);try simp(disch:=first|omega|assumption|((repeat(first|exact A1|exact uH|apply A2|apply uT));first|done|fail)|(simp;first|done|omega|fail))[]))
  exact B0 rfl
def N0 : List (Nat × EnV) → Int
 | [] => -1
 | p :: r => if p.2.st = 1 then N0 r else p.1
def W0 (l : List EnV) (key : ByteArray) : Int := if 0 ≤ D6 l key then -1 else N0 (Q7 l key)
theorem B2s (w : World) (v : Value) (l : List EnV) (key : ByteArray) (hk : key.size < 2 ^ 60) (hn : l.length ≤ 1000000) (hv : G1 w v l.length (l.flatMap F3)) :
  Fn PR B5 201 #[v, .string key] w (fun r w' => r = .int .i64 (W0 l key) ∧ C4 [] w w') := by
 refine Fn.pure (B1G (TW.go (κ := false) (S := []) ?_))
 unfold A48
 (have zz:=trivial;repeat((first|clear zz|with_reducible first|refine A3 ?_|refine A5 fun _=>?_|refine A4 fun _=>?_);try simp(disch:=first|omega|assumption|((repeat(first|exact A1|exact uH|apply A2|apply uT));first|done|fail)|(simp;first|done|omega|fail))[]))
 rename_i bf
 refine D2 n8 (fun w' hw' => y9 w' v l key hk hn (hv.ks hw'.ks (by simp))) ?_
 by_cases c1 : 0 ≤ D6 l key
 ·(have zz:=trivial;repeat((first|clear zz|with_reducible first|refine A3 ?_|refine A5 fun _=>?_|refine A4 fun _=>?_);try simp(disch:=first|omega|assumption|((repeat(first|exact A1|exact uH|apply A2|apply uT));first|done|fail)|(simp;first|done|omega|fail))[c1]))
  exact B0 (by simp [W0, c1])
 have e1 : W0 l key = N0 (Q7 l key) := if_neg c1
 (have zz:=trivial;repeat((first|clear zz|with_reducible first|refine A3 ?_|refine A5 fun _=>?_|refine A4 fun _=>?_);try simp(disch:=first|omega|assumption|((repeat(first|exact A1|exact uH|apply A2|apply uT));first|done|fail)|(simp;first|done|omega|fail))[c1]))
 refine N7 A5A (fun w' _ => B7Z w' v key (by obtain ⟨a, c, rfl, _⟩ := hv.form; exact ⟨a, _, c, rfl⟩)) ?_
 rintro x u rfl
 refine y4 (B68 x v l key hk hn) (A4r _) (fun i (_ : Unit) => N0 ((Q7 l key).drop i) = W0 l key) (fun _ _ => [.pt bf (.cells #[.int .i64 0] 3)])
  (fun c (y : Unit) => c = .ret) (fun y => [.pt bf (.cells #[.int .i64 (W0 l key)] 3)]) () (by rw [List.drop_zero, e1]) ?_ ?_ ?_ ?_ (by simp [B2H])
 ·intro i _ F w1 _ hw
  exact RqS.of hv (fun h => by rw [m5]; omega) hw
 ·rintro i hi _ F hψ K' hK hE
  have hi' : i < (Q7 l key).length := by simpa using hi
  rw [B4T hi'] at hψ
  simp only [List.getElem_map]
  generalize (Q7 l key)[i] = p at *
  simp only [A3l, VF.app]
  by_cases c1 : p.2.st = 1
  ·(have zz:=trivial;repeat((first|clear zz|with_reducible first|refine A3 ?_|refine A5 fun _=>?_|refine A4 fun _=>?_);try simp(disch:=first|omega|assumption|((repeat(first|exact A1|exact uH|apply A2|apply uT));first|done|fail)|(simp;first|done|omega|fail))[c1]))
   refine TW.sub (hK () ?_) (by ((try simp only [List.cons_append, List.nil_append, List.append_assoc]); (repeat (first | exact List.Sublist.refl _ | exact List.nil_sublist _ | with_reducible apply List.Sublist.cons_cons | apply List.Sublist.cons)); first | done | fail))
   rw [← hψ]
   simp [N0, c1]
  ·(have zz:=trivial;repeat((first|clear zz|with_reducible first|refine A3 ?_|refine A5 fun _=>?_|refine A4 fun _=>?_);try simp(disch:=first|omega|assumption|((repeat(first|exact A1|exact uH|apply A2|apply uT));first|done|fail)|(simp;first|done|omega|fail))[c1]))
   refine TW.sub (hE .ret () rfl) ?_
   rw [← hψ]
   simp only [N0, c1, if_false]
   ((try simp only [List.cons_append, List.nil_append, List.append_assoc]); (repeat (first | exact List.Sublist.refl _ | exact List.nil_sublist _ | with_reducible apply List.Sublist.cons_cons | apply List.Sublist.cons)); first | done | fail)
 ·intro _ hψ
  (have zz:=trivial;repeat((first|clear zz|with_reducible first|refine A3 ?_|refine A5 fun _=>?_|refine A4 fun _=>?_);try simp(disch:=first|omega|assumption|((repeat(first|exact A1|exact uH|apply A2|apply uT));first|done|fail)|(simp;first|done|omega|fail))[]))
  simp only [List.length_map, List.drop_length, N0] at hψ
  exact B0 (by rw [← hψ])
 ·rintro _ _ rfl
  (have zz:=trivial;repeat((first|clear zz|with_reducible first|refine A3 ?_|refine A5 fun _=>?_|refine A4 fun _=>?_);try simp(disch:=first|omega|assumption|((repeat(first|exact A1|exact uH|apply A2|apply uT));first|done|fail)|(simp;first|done|omega|fail))[]))
  exact B0 rfl
theorem B5n (w : World) (x : EnV) (st : Int) (b : Nat) (hb : w.cell? ⟨b, 0, none⟩ = some (.int .i64 st)) : Fn PR B5 165 #[.agg #[.int .i64 x.st, .string x.key, .int .i64 x.bk, .int .i64 x.dl], .pointer (some ⟨b, 0, none⟩)] w (fun r w' => r = .bool (decide (x.st = st)) ∧ C4 [] w w') := by
 refine Fn.pure (A7B (TW.go (κ := false) (S := []) ?_))
 unfold A1d
 (have zz:=trivial;repeat((first|clear zz|with_reducible first|refine A3 ?_|refine A5 fun _=>?_|refine A4 fun _=>?_);try simp(disch:=first|omega|assumption|((repeat(first|exact A1|exact uH|apply A2|apply uT));first|done|fail)|(simp;first|done|omega|fail))[hb]))
 exact B0 rfl
def L6 (l : List EnV) (st : Int) : Nat := l.countP fun x => decide (x.st = st)
theorem B3P {α : Type} {p : α → Bool} {l : List α} {i : Nat} {x : α} (hx : l[i]? = some x) : (l.take (i + 1)).countP p = (l.take i).countP p + if p x then 1 else 0 := by
 rw [List.take_add_one, hx, List.countP_append]; simp [List.countP_cons]
theorem B9F (w : World) (v : Value) (l : List EnV) (p : EnV → Bool) (f : FuncId) (cap : List Value) (hn : l.length ≤ 1000000) (hv : G1 w v l.length (l.flatMap F3)) (he : A9 PR f)
  (hf : ∀ w', KS false [] w w' → ∀ x : EnV, Fn PR B5 f (.agg #[.int .i64 x.st, .string x.key, .int .i64 x.bk, .int .i64 x.dl] :: cap).toArray w' (fun r w'' => r = .bool (p x) ∧ C4 [] w' w'')) :
  Fn PR B5 164 #[v, .func (.func f) #[] cap.toArray] w (fun r w' => r = .int .i64 (l.countP p : Nat) ∧ C4 [] w w') := by
 refine Fn.pure (A2Y (TW.go (κ := false) (S := []) ?_))
 unfold l0
 obtain ⟨a, c, rfl, hr⟩ := hv.form
 (have zz:=trivial;repeat((first|clear zz|with_reducible first|refine A3 ?_|refine A5 fun _=>?_|refine A4 fun _=>?_);try simp(disch:=first|omega|assumption|((repeat(first|exact A1|exact uH|apply A2|apply uT));first|done|fail)|(simp;first|done|omega|fail))[]))
 refine r8 (α := Unit) l.length (fun i _ => .int .i64 ((l.take i).countP p : Nat)) (fun _ _ => []) (fun i _ => True) () trivial ?_
 rintro i _ hi _ L hL
 by_cases hlt : i < l.length
 ·obtain ⟨b, o, rfl, hrow⟩ := hr (by omega)
  obtain ⟨x, hx⟩ : ∃ x, l[i]? = some x := ⟨_, List.getElem?_eq_getElem (by omega)⟩
  have h1 := hrow.at (f := F3) (k := 4) (fun _ => rfl) hx
  rw [F3] at h1
  (have zz:=trivial;repeat((first|clear zz|with_reducible first|refine A3 ?_|refine A5 fun _=>?_|refine A4 fun _=>?_);try simp(disch:=first|omega|assumption|((repeat(first|exact A1|exact uH|apply A2|apply uT));first|done|fail)|(simp;first|done|omega|fail))[hlt, h1]))
  refine A9x he (φ := fun r => r = .bool (p x)) (fun w' hw' => by simpa using hf w' hw'.ks x) ?_
  rintro _ rfl
  have hc := B3P (p := p) hx
  have hle : (l.take i).countP p ≤ i := Nat.le_trans List.countP_le_length (by simp; omega)
  have hL' := hL hlt () trivial
  rw [hc] at hL'
  cases hb : p x with
  | true =>
   rw [hb] at hL'
   (have zz:=trivial;repeat((first|clear zz|with_reducible first|refine A3 ?_|refine A5 fun _=>?_|refine A4 fun _=>?_);try simp(disch:=first|omega|assumption|((repeat(first|exact A1|exact uH|apply A2|apply uT));first|done|fail)|(simp;first|done|omega|fail))[]))
   exact Sels.tw .nil (by simpa using hL')
  | false =>
   rw [hb] at hL'
   (have zz:=trivial;repeat((first|clear zz|with_reducible first|refine A3 ?_|refine A5 fun _=>?_|refine A4 fun _=>?_);try simp(disch:=first|omega|assumption|((repeat(first|exact A1|exact uH|apply A2|apply uT));first|done|fail)|(simp;first|done|omega|fail))[]))
   exact Sels.tw .nil (by simpa using hL')
 ·obtain rfl : i = l.length := by omega
  (have zz:=trivial;repeat((first|clear zz|with_reducible first|refine A3 ?_|refine A5 fun _=>?_|refine A4 fun _=>?_);try simp(disch:=first|omega|assumption|((repeat(first|exact A1|exact uH|apply A2|apply uT));first|done|fail)|(simp;first|done|omega|fail))[]))
  exact B0 rfl
theorem B2p (w : World) (v : Value) (l : List EnV) (st : Int) (hn : l.length ≤ 1000000) (hv : G1 w v l.length (l.flatMap F3)) :
  Fn PR B5 113 #[v, .int .i64 st] w (fun r w' => r = .int .i64 (L6 l st : Nat) ∧ C4 [] w w') := by
 refine Fn.pure (A9m (TW.go (κ := false) (S := []) ?_))
 unfold A30
 (have zz:=trivial;repeat((first|clear zz|with_reducible first|refine A3 ?_|refine A5 fun _=>?_|refine A4 fun _=>?_);try simp(disch:=first|omega|assumption|((repeat(first|exact A1|exact uH|apply A2|apply uT));first|done|fail)|(simp;first|done|omega|fail))[]))
 rename_i b
 refine D2 A1w (fun w' hw' => B9F w' v l (fun x => decide (x.st = st)) 165 [.pointer (some ⟨b, 0, none⟩)] hn (hv.ks hw'.ks (by simp)) A5k
  fun w2 h x => B5n w2 x st b (h.cell (by simp) (hw'.cell1 (by (repeat constructor))))) ?_
 exact B0 rfl
end Go.Proofs.YtpbmephflllolaaGreat
