/- The proof of a given statement, a part of it (Packet Bytes Sl Pool Vals ShProbe ShFnv Fnv Probe). No condition but what each lemma says. -/
import Derived.Lib.SlBytesRow
import Derived.Test.YtjobgnabneddjaaGreatN11
set_option linter.unusedVariables false
set_option linter.unusedSimpArgs false
namespace Go.Proofs.YtjobgnabneddjaaGreat
open Go
structure KeyV where
 v : Int
 src : ByteArray
 dst : ByteArray
 fr : Int
 tp : Int
 proto : Int
 deriving DecidableEq
def KeyV.cs (k : KeyV) : List Value := [.int .i64 k.v, .string k.src, .string k.dst, .int .i64 k.fr, .int .i64 k.tp, .int .i64 k.proto]
def KeyV.val (k : KeyV) : Value := .agg #[.int .i64 k.v, .string k.src, .string k.dst, .int .i64 k.fr, .int .i64 k.tp, .int .i64 k.proto]
def noK : KeyV := ⟨0, H4, H4, 0, 0, 0⟩
def y0 (s : ByteArray) : KeyV × ByteArray × Nat :=
 if s.size = 0 then (noK, H4, 2) else if G3 s 0 / 16 = 4 then (⟨4, (A0z s).src, (A0z s).dst, 0, 0, (A0z s).proto⟩, (A0z s).rest, (A0z s).e)
 else if G3 s 0 / 16 = 6 then (⟨6, (u5 s).src, (u5 s).dst, 0, 0, (u5 s).proto⟩, (u5 s).rest, (u5 s).e) else (noK, H4, 3)
def keyed.val (x : KeyV × ByteArray × Nat) : Value := .tuple #[x.1.val, .string x.2.1, .int .i64 x.2.2]
theorem C1M (w : World) (src dst : ByteArray) (p : Int) : Fn PR C0 140 #[.agg #[.string src, .string dst, .int .i64 p]] w (fun v w' => v = KeyV.val ⟨4, src, dst, 0, 0, p⟩ ∧ D2 [] w w') := by
 refine Fn.pure (A99 (TW.go (κ := false) (S := []) ?_))
 unfold A3C
 (have zz:=trivial;repeat((first|clear zz|with_reducible first|refine A3 ?_|refine A5 fun _=>?_|refine A4 fun _=>?_);try simp(disch:=first|omega|assumption|((repeat(first|exact A1|exact uH|apply A2|apply uT));first|done|fail)|(simp;first|done|omega|fail))[]))
 exact B0 rfl
theorem C1T (w : World) (src dst : ByteArray) (p : Int) : Fn PR C0 143 #[.agg #[.string src, .string dst, .int .i64 p]] w (fun v w' => v = KeyV.val ⟨6, src, dst, 0, 0, p⟩ ∧ D2 [] w w') := by
 refine Fn.pure (B0e (TW.go (κ := false) (S := []) ?_))
 unfold A3d
 (have zz:=trivial;repeat((first|clear zz|with_reducible first|refine A3 ?_|refine A5 fun _=>?_|refine A4 fun _=>?_);try simp(disch:=first|omega|assumption|((repeat(first|exact A1|exact uH|apply A2|apply uT));first|done|fail)|(simp;first|done|omega|fail))[]))
 exact B0 rfl
theorem C5N (w : World) (s : ByteArray) (hs : s.size < 2 ^ 63) : Fn PR C0 138 #[.string s, .func (.func 139) #[] #[], .func (.func 140) #[] #[]] w
  (fun v w' => v = keyed.val (⟨4, (A0z s).src, (A0z s).dst, 0, 0, (A0z s).proto⟩, (A0z s).rest, (A0z s).e) ∧ D2 [] w w') := by
 refine Fn.pure (A5H (TW.go (κ := false) (S := []) ?_))
 unfold A0Q
 (have zz:=trivial;repeat((first|clear zz|with_reducible first|refine A3 ?_|refine A5 fun _=>?_|refine A4 fun _=>?_);try simp(disch:=first|omega|assumption|((repeat(first|exact A1|exact uH|apply A2|apply uT));first|done|fail)|(simp;first|done|omega|fail))[]))
 refine C4 B6U (fun w' _ => B89 w' s hs) ?_
 (have zz:=trivial;repeat((first|clear zz|with_reducible first|refine A3 ?_|refine A5 fun _=>?_|refine A4 fun _=>?_);try simp(disch:=first|omega|assumption|((repeat(first|exact A1|exact uH|apply A2|apply uT));first|done|fail)|(simp;first|done|omega|fail))[HeadV.val]))
 refine C4 A97 (fun w' _ => C1M w' _ _ _) ?_
 (have zz:=trivial;repeat((first|clear zz|with_reducible first|refine A3 ?_|refine A5 fun _=>?_|refine A4 fun _=>?_);try simp(disch:=first|omega|assumption|((repeat(first|exact A1|exact uH|apply A2|apply uT));first|done|fail)|(simp;first|done|omega|fail))[KeyV.val]))
 exact B0 (by simp [keyed.val, KeyV.val])
theorem C5n (w : World) (s : ByteArray) (hs : s.size < 2 ^ 63) : Fn PR C0 141 #[.string s, .func (.func 142) #[] #[], .func (.func 143) #[] #[]] w
  (fun v w' => v = keyed.val (⟨6, (u5 s).src, (u5 s).dst, 0, 0, (u5 s).proto⟩, (u5 s).rest, (u5 s).e) ∧ D2 [] w w') := by
 refine Fn.pure (A5J (TW.go (κ := false) (S := []) ?_))
 unfold A0L
 (have zz:=trivial;repeat((first|clear zz|with_reducible first|refine A3 ?_|refine A5 fun _=>?_|refine A4 fun _=>?_);try simp(disch:=first|omega|assumption|((repeat(first|exact A1|exact uH|apply A2|apply uT));first|done|fail)|(simp;first|done|omega|fail))[]))
 refine C4 B6y (fun w' _ => B9c w' s hs) ?_
 (have zz:=trivial;repeat((first|clear zz|with_reducible first|refine A3 ?_|refine A5 fun _=>?_|refine A4 fun _=>?_);try simp(disch:=first|omega|assumption|((repeat(first|exact A1|exact uH|apply A2|apply uT));first|done|fail)|(simp;first|done|omega|fail))[HeadV.val]))
 refine C4 A9u (fun w' _ => C1T w' _ _ _) ?_
 (have zz:=trivial;repeat((first|clear zz|with_reducible first|refine A3 ?_|refine A5 fun _=>?_|refine A4 fun _=>?_);try simp(disch:=first|omega|assumption|((repeat(first|exact A1|exact uH|apply A2|apply uT));first|done|fail)|(simp;first|done|omega|fail))[KeyV.val]))
 exact B0 (by simp [keyed.val, KeyV.val])
theorem C7d (w : World) (v : Int) : Fn PR C0 228 #[.int .i64 v] w (fun u w' => u = .int .i64 (if v = 4 then 4 else if v = 6 then 16 else 0) ∧ D2 [] w w') := by
 refine Fn.pure (B4r (TW.go (κ := false) (S := []) ?_))
 unfold A7m
 by_cases c1 : v = 4
 ·(have zz:=trivial;repeat((first|clear zz|with_reducible first|refine A3 ?_|refine A5 fun _=>?_|refine A4 fun _=>?_);try simp(disch:=first|omega|assumption|((repeat(first|exact A1|exact uH|apply A2|apply uT));first|done|fail)|(simp;first|done|omega|fail))[c1])); exact B0 (by simp)
 by_cases c2 : v = 6
 ·(have zz:=trivial;repeat((first|clear zz|with_reducible first|refine A3 ?_|refine A5 fun _=>?_|refine A4 fun _=>?_);try simp(disch:=first|omega|assumption|((repeat(first|exact A1|exact uH|apply A2|apply uT));first|done|fail)|(simp;first|done|omega|fail))[c1, c2])); exact B0 (by simp)
 ·(have zz:=trivial;repeat((first|clear zz|with_reducible first|refine A3 ?_|refine A5 fun _=>?_|refine A4 fun _=>?_);try simp(disch:=first|omega|assumption|((repeat(first|exact A1|exact uH|apply A2|apply uT));first|done|fail)|(simp;first|done|omega|fail))[c1, c2])); exact B0 (by simp)
theorem C4v (w : World) (s : ByteArray) (hs : s.size < 2 ^ 63) : Fn PR C0 86 #[.string s] w (fun u w' => u = keyed.val (y0 s) ∧ D2 [] w w') := by
 refine Fn.pure (B3U (TW.go (κ := false) (S := []) ?_))
 unfold A5v
 by_cases c0 : s.size = 0
 ·have e : s = ByteArray.mk #[] := by
   apply ByteArray.ext; exact Array.eq_empty_of_size_eq_zero c0
  (have zz:=trivial;repeat((first|clear zz|with_reducible first|refine A3 ?_|refine A5 fun _=>?_|refine A4 fun _=>?_);try simp(disch:=first|omega|assumption|((repeat(first|exact A1|exact uH|apply A2|apply uT));first|done|fail)|(simp;first|done|omega|fail))[e]))
  exact B0 (by simp [y0, keyed.val, noK, KeyV.val])
 have c0' : ¬ s = ByteArray.mk #[] := fun e => c0 (by rw [e]; rfl)
 obtain ⟨by0, hb0, hb1⟩ := A0u (s := s) (i := 0) (by omega)
 have hb0' : s[(0 : Int).toNat]? = some by0 := hb0
 have hl0 := A1F s 0
 have e1 : ((by0.toNat : Nat) : Int).fdiv (2 ^ min 4 IntKind.u8.bits) = (G3 s 0 / 16 : Nat) := by rw [show (2 : Int) ^ min 4 IntKind.u8.bits = 16 from rfl, Int.fdiv_eq_ediv_of_nonneg _ (by omega), hb1]; omega
 by_cases c1 : G3 s 0 / 16 = 4
 ·have c1' : ((G3 s 0 : Nat) : Int) / 16 = 4 := by omega
  (have zz:=trivial;repeat((first|clear zz|with_reducible first|refine A3 ?_|refine A5 fun _=>?_|refine A4 fun _=>?_);try simp(disch:=first|omega|assumption|((repeat(first|exact A1|exact uH|apply A2|apply uT));first|done|fail)|(simp;first|done|omega|fail))[c0', g6]))
  rw [e1]
  (have zz:=trivial;repeat((first|clear zz|with_reducible first|refine A3 ?_|refine A5 fun _=>?_|refine A4 fun _=>?_);try simp(disch:=first|omega|assumption|((repeat(first|exact A1|exact uH|apply A2|apply uT));first|done|fail)|(simp;first|done|omega|fail))[c1', c1]))
  refine C4 A4W (fun w' _ => C5N w' s hs) ?_
  (have zz:=trivial;repeat((first|clear zz|with_reducible first|refine A3 ?_|refine A5 fun _=>?_|refine A4 fun _=>?_);try simp(disch:=first|omega|assumption|((repeat(first|exact A1|exact uH|apply A2|apply uT));first|done|fail)|(simp;first|done|omega|fail))[keyed.val, KeyV.val]))
  exact B0 (by simp [y0, keyed.val, KeyV.val, c0, c1])
 have c1' : ¬ ((G3 s 0 : Nat) : Int) / 16 = 4 := by omega
 by_cases c2 : G3 s 0 / 16 = 6
 ·have c2' : ((G3 s 0 : Nat) : Int) / 16 = 6 := by omega
  (have zz:=trivial;repeat((first|clear zz|with_reducible first|refine A3 ?_|refine A5 fun _=>?_|refine A4 fun _=>?_);try simp(disch:=first|omega|assumption|((repeat(first|exact A1|exact uH|apply A2|apply uT));first|done|fail)|(simp;first|done|omega|fail))[c0', g6]))
  rw [e1]
  (have zz:=trivial;repeat((first|clear zz|with_reducible first|refine A3 ?_|refine A5 fun _=>?_|refine A4 fun _=>?_);try simp(disch:=first|omega|assumption|((repeat(first|exact A1|exact uH|apply A2|apply uT));first|done|fail)|(simp;first|done|omega|fail))[c1', c1, c2', c2, g6]))
  refine C4 A47 (fun w' _ => C5n w' s hs) ?_
  (have zz:=trivial;repeat((first|clear zz|with_reducible first|refine A3 ?_|refine A5 fun _=>?_|refine A4 fun _=>?_);try simp(disch:=first|omega|assumption|((repeat(first|exact A1|exact uH|apply A2|apply uT));first|done|fail)|(simp;first|done|omega|fail))[keyed.val, KeyV.val]))
  exact B0 (by simp [y0, keyed.val, KeyV.val, c0, c1, c2])
 have c2' : ¬ ((G3 s 0 : Nat) : Int) / 16 = 6 := by omega
 (have zz:=trivial;repeat((first|clear zz|with_reducible first|refine A3 ?_|refine A5 fun _=>?_|refine A4 fun _=>?_);try simp(disch:=first|omega|assumption|((repeat(first|exact A1|exact uH|apply A2|apply uT));first|done|fail)|(simp;first|done|omega|fail))[c0', g6]))
 rw [e1]
 (have zz:=trivial;repeat((first|clear zz|with_reducible first|refine A3 ?_|refine A5 fun _=>?_|refine A4 fun _=>?_);try simp(disch:=first|omega|assumption|((repeat(first|exact A1|exact uH|apply A2|apply uT));first|done|fail)|(simp;first|done|omega|fail))[c1', c1, c2', c2, g6]))
 exact B0 (by simp [y0, keyed.val, KeyV.val, c0, c1, c2, noK])
def B2 (s : ByteArray) : KeyV × Nat × Nat :=
 let x := y0 s
 if x.2.2 ≠ 0 then (noK, 0, x.2.2) else let y := d8 x.1.proto x.2.1; if y.2.2.2 ≠ 0 then (noK, 0, y.2.2.2) else ({ x.1 with fr := y.1, tp := y.2.1 }, y.2.2.1, 0)
def S2 (k : KeyV) (f : Int) : Value := .agg #[.int .i64 k.v, .string k.src, .string k.dst, .int .i64 k.fr, .int .i64 k.tp, .int .i64 k.proto, .int .i64 f]
def packet.val (x : KeyV × Nat × Nat) : Value := .tuple #[S2 x.1 x.2.1, .int .i64 x.2.2]
theorem C0a (s : ByteArray) : (y0 s).2.1.size ≤ 65535 := by
 have h1 : (A0z s).rest.size ≤ 65535 := by
  have := A3A s 2
  unfold A0z; split
  ·simp only [ByteArray.size_extract]; omega
  ·simp [HeadV.err]
 have h2 : (u5 s).rest.size ≤ 65535 := by
  have := A3A s 4
  unfold u5; split
  ·simp only [ByteArray.size_extract]; omega
  ·simp [HeadV.err]
 unfold y0
 split
 ·simp
 split
 ·exact h1
 split
 ·exact h2
 ·simp
theorem B3b (w : World) (s : ByteArray) (hs : s.size < 2 ^ 63) : Fn PR C0 21 #[.string s] w (fun u w' => u = packet.val (B2 s) ∧ D2 [] w w') := by
 refine Fn.pure (B4Z (TW.go (κ := false) (S := []) ?_))
 unfold A5a
 (have zz:=trivial;repeat((first|clear zz|with_reducible first|refine A3 ?_|refine A5 fun _=>?_|refine A4 fun _=>?_);try simp(disch:=first|omega|assumption|((repeat(first|exact A1|exact uH|apply A2|apply uT));first|done|fail)|(simp;first|done|omega|fail))[]))
 refine C4 B27 (fun w' _ => C4v w' s hs) ?_
 have hr := C0a s
 by_cases c1 : (y0 s).2.2 = 0
 ·(have zz:=trivial;repeat((first|clear zz|with_reducible first|refine A3 ?_|refine A5 fun _=>?_|refine A4 fun _=>?_);try simp(disch:=first|omega|assumption|((repeat(first|exact A1|exact uH|apply A2|apply uT));first|done|fail)|(simp;first|done|omega|fail))[keyed.val, KeyV.val, c1]))
  refine C4 B5j (fun w' _ => B8m w' _ (by omega) _) ?_
  by_cases c2 : (d8 (y0 s).1.proto (y0 s).2.1).2.2.2 = 0
  ·(have zz:=trivial;repeat((first|clear zz|with_reducible first|refine A3 ?_|refine A5 fun _=>?_|refine A4 fun _=>?_);try simp(disch:=first|omega|assumption|((repeat(first|exact A1|exact uH|apply A2|apply uT));first|done|fail)|(simp;first|done|omega|fail))[d8.val, c2]))
   exact B0 (by simp [B2, packet.val, S2, KeyV.val, c1, c2])
  ·(have zz:=trivial;repeat((first|clear zz|with_reducible first|refine A3 ?_|refine A5 fun _=>?_|refine A4 fun _=>?_);try simp(disch:=first|omega|assumption|((repeat(first|exact A1|exact uH|apply A2|apply uT));first|done|fail)|(simp;first|done|omega|fail))[d8.val, c2]))
   exact B0 (by simp [B2, packet.val, S2, KeyV.val, c1, c2, noK])
 ·(have zz:=trivial;repeat((first|clear zz|with_reducible first|refine A3 ?_|refine A5 fun _=>?_|refine A4 fun _=>?_);try simp(disch:=first|omega|assumption|((repeat(first|exact A1|exact uH|apply A2|apply uT));first|done|fail)|(simp;first|done|omega|fail))[keyed.val, KeyV.val, c1]))
  exact B0 (by simp [B2, packet.val, S2, KeyV.val, c1, noK])
theorem A7H (w : World) (s : ByteArray) (hs : s.size < 2 ^ 40) : Fn PR C0 21 #[.string s] w (fun u w' => u = packet.val (B2 s) ∧ D2 [] w w') := B3b w s (by omega)
def s4 (k : KeyV) (f : Int) : ByteArray × Nat :=
 if k.v ≠ 4 ∧ k.v ≠ 6 then (H4, 3) else let s := a7 k.proto k.fr k.tp f; if s.2 ≠ 0 then (H4, s.2) else if k.v = 6 then A8w k.src k.dst s.1 k.proto else A8P k.src k.dst s.1 k.proto
theorem C1N (number x y f : Int) : (a7 number x y f).1.size ≤ 1000 := by
 have h6 := x8 6
 have h8 := x8 8
 unfold a7 A4Z A4s A6g
 repeat' split
 all_goals simp [h6, h8]
theorem B7j (w : World) (k : KeyV) (f : Int) : Fn PR C0 64 #[S2 k f] w (fun u w' => u = .tuple #[.string (s4 k f).1, .int .i64 (s4 k f).2] ∧ D2 [] w w') := by
 refine Fn.pure (B6s (TW.go (κ := false) (S := []) ?_))
 unfold A9T
 have hz := C1N k.proto k.fr k.tp f
 by_cases c0 : k.v = 4
 ·(have zz:=trivial;repeat((first|clear zz|with_reducible first|refine A3 ?_|refine A5 fun _=>?_|refine A4 fun _=>?_);try simp(disch:=first|omega|assumption|((repeat(first|exact A1|exact uH|apply A2|apply uT));first|done|fail)|(simp;first|done|omega|fail))[S2, KeyV.val, c0]))
  refine C4 A4j (fun w' _ => A89 w' _ _ _ _) ?_
  by_cases c1 : (a7 k.proto k.fr k.tp f).2 = 0
  ·(have zz:=trivial;repeat((first|clear zz|with_reducible first|refine A3 ?_|refine A5 fun _=>?_|refine A4 fun _=>?_);try simp(disch:=first|omega|assumption|((repeat(first|exact A1|exact uH|apply A2|apply uT));first|done|fail)|(simp;first|done|omega|fail))[c1, c0]))
   refine C4 B9C (fun w' _ => C2a w' _ _ _ _ (by omega)) ?_
   (have zz:=trivial;repeat((first|clear zz|with_reducible first|refine A3 ?_|refine A5 fun _=>?_|refine A4 fun _=>?_);try simp(disch:=first|omega|assumption|((repeat(first|exact A1|exact uH|apply A2|apply uT));first|done|fail)|(simp;first|done|omega|fail))[]))
   exact B0 (by simp [s4, c0, c1])
  ·(have zz:=trivial;repeat((first|clear zz|with_reducible first|refine A3 ?_|refine A5 fun _=>?_|refine A4 fun _=>?_);try simp(disch:=first|omega|assumption|((repeat(first|exact A1|exact uH|apply A2|apply uT));first|done|fail)|(simp;first|done|omega|fail))[c1, c0]))
   exact B0 (by simp [s4, c0, c1])
 by_cases c6 : k.v = 6
 ·(have zz:=trivial;repeat((first|clear zz|with_reducible first|refine A3 ?_|refine A5 fun _=>?_|refine A4 fun _=>?_);try simp(disch:=first|omega|assumption|((repeat(first|exact A1|exact uH|apply A2|apply uT));first|done|fail)|(simp;first|done|omega|fail))[S2, KeyV.val, c6]))
  refine C4 A4j (fun w' _ => A89 w' _ _ _ _) ?_
  by_cases c1 : (a7 k.proto k.fr k.tp f).2 = 0
  ·(have zz:=trivial;repeat((first|clear zz|with_reducible first|refine A3 ?_|refine A5 fun _=>?_|refine A4 fun _=>?_);try simp(disch:=first|omega|assumption|((repeat(first|exact A1|exact uH|apply A2|apply uT));first|done|fail)|(simp;first|done|omega|fail))[c1, c6]))
   refine C4 B9e (fun w' _ => C3F w' _ _ _ _ (by omega)) ?_
   (have zz:=trivial;repeat((first|clear zz|with_reducible first|refine A3 ?_|refine A5 fun _=>?_|refine A4 fun _=>?_);try simp(disch:=first|omega|assumption|((repeat(first|exact A1|exact uH|apply A2|apply uT));first|done|fail)|(simp;first|done|omega|fail))[]))
   exact B0 (by simp [s4, c6, c1])
  ·(have zz:=trivial;repeat((first|clear zz|with_reducible first|refine A3 ?_|refine A5 fun _=>?_|refine A4 fun _=>?_);try simp(disch:=first|omega|assumption|((repeat(first|exact A1|exact uH|apply A2|apply uT));first|done|fail)|(simp;first|done|omega|fail))[c1, c6]))
   exact B0 (by simp [s4, c6, c1])
 ·(have zz:=trivial;repeat((first|clear zz|with_reducible first|refine A3 ?_|refine A5 fun _=>?_|refine A4 fun _=>?_);try simp(disch:=first|omega|assumption|((repeat(first|exact A1|exact uH|apply A2|apply uT));first|done|fail)|(simp;first|done|omega|fail))[S2, KeyV.val, c0, c6]))
  exact B0 (by simp [s4, c0, c6])
def M3 (k : KeyV) (f : Int) : Bool := decide (k.proto = 6) && !decide (IntKind.i64.wrap ((f % 2 ^ IntKind.i64.bits).toNat &&& 5 % 2 ^ IntKind.i64.bits : Nat) = 0)
theorem A71 (w : World) (k : KeyV) (f : Int) : Fn PR C0 58 #[S2 k f] w (fun u w' => u = .bool (M3 k f) ∧ D2 [] w w') := by
 refine Fn.pure (B2E (TW.go (κ := false) (S := []) ?_))
 unfold A3u
 by_cases c0 : k.proto = 6
 ·(have zz:=trivial;repeat((first|clear zz|with_reducible first|refine A3 ?_|refine A5 fun _=>?_|refine A4 fun _=>?_);try simp(disch:=first|omega|assumption|((repeat(first|exact A1|exact uH|apply A2|apply uT));first|done|fail)|(simp;first|done|omega|fail))[S2, KeyV.val, c0]))
  exact B0 (by simp [M3, c0])
 ·(have zz:=trivial;repeat((first|clear zz|with_reducible first|refine A3 ?_|refine A5 fun _=>?_|refine A4 fun _=>?_);try simp(disch:=first|omega|assumption|((repeat(first|exact A1|exact uH|apply A2|apply uT));first|done|fail)|(simp;first|done|omega|fail))[S2, KeyV.val, c0]))
  exact B0 (by simp [M3, c0])
end Go.Proofs.YtjobgnabneddjaaGreat
namespace Go.Proofs.YtjobgnabneddjaaGreat
open Go
section
variable {κ : Bool} {X : Nat → Prop} {S : List Nat} {w0 : World} {H H' : List Res} {K : Value → WP}
theorem C3S {P : Program} {g : Sem Value} {u : Value} {b : Nat} {c c' : Array Value} {T : TypeId} (hrun : ∀ w, bl w b = some (.cells c T (0, 0)) → g.run P w = .ok u (World.putb w b (.cells c' T (0, 0))))
  (hu : Up (.pt b (.cells c T (0, 0))) (.pt b (.cells c' T (0, 0))) H H') (hK : TW κ S w0 H' (K u)) : TW κ S w0 H (B3 P X g K) := fun w hw => by
 have hm : Res.pt b (.cells c T (0, 0)) ∈ H := by obtain ⟨A, B, rfl, _⟩ := hu.parts; simp
 have hb := hw.pt hm
 rw [W6 (hrun w hb) (Sk.putb X hb)]
 refine hK _ (hw.up hu ⟨KS.putb hb (by simp [Res.foot]), ?_, ?_, by simp⟩)
 ·simp only [List.mem_singleton, forall_eq, Res.holds]; exact ⟨T0 (L0 hb), rfl⟩
 ·simp only [List.mem_singleton, forall_eq, Res.foot]; exact ⟨Or.inl (by simp), by have := L0 hb; simpa using this⟩
theorem C0N (w : World) : (underlying 301).run PR w = .ok (.slice 5) w := A4F.run_und
theorem D08 (w : World) : (underlying 355).run PR w = .ok (.array 38 5) w := C1E.run_und
def j9 (s : ByteArray) (o : Nat) (t : ByteArray) : ByteArray := s.extract 0 o ++ t ++ s.extract (o + t.size) s.size
theorem B1W {s t : ByteArray} {o : Nat} (h : o + t.size ≤ s.size) : (j9 s o t).size = s.size := by simp [j9]; omega
theorem B5u (s t : ByteArray) (o : Nat) (h : o + t.size ≤ s.size) : F4 (G2 s).toArray o (G2 t) = (G2 (j9 s o t)).toArray := by
 apply Array.toList_inj.1
 rw [A1z _ _ _ (by simpa using h)]
 simp [G2, j9, List.map_take, List.map_drop]
 rw [List.take_of_length_le (by simp)]
theorem B4z {b o n c : Nat} {s t : ByteArray} {T : TypeId} (hu : Up (.pt b (.cells (G2 s).toArray T)) (.pt b (.cells (G2 (j9 s o t)).toArray T)) H H') (hn : t.size ≤ n) (hs : o + t.size ≤ s.size)
  (hK : TW κ S w0 H' (K (.int .i64 t.size))) : TW κ S w0 H (B3 PR X (A8 .copy #[301, 9] 3 [.slice (some ⟨b, o, none⟩) n c, .string t]) K) := by
 refine C3S (u := .int .i64 t.size) (fun w hb => ?_) hu hK
 have hst := m5 (P := PR) (o0 := o) (G2 t) 0 w (G2 s).toArray hb (by simpa using hs) (A6k t)
 rw [Nat.add_zero, B5u s t o hs] at hst
 have hl : Nat.min t.size n = t.size := Nat.min_eq_left hn
 have htk : List.take t.size (List.map (fun b : UInt8 => Value.int IntKind.u8 (b.toNat : Int)) t.data.toList) = G2 t := by
  rw [List.take_of_length_le (by simp)]; rfl
 show (Builtin.copy_ #[301, 9] 3 #[.slice (some ⟨b, o, none⟩) n c, .string t]).run PR w = _
 simp [Builtin.copy_, C0N, ty5.run_size, Builtin.lenOf, Builtin.firstCells, hl]
 rw [htk, hst]
 simp [goInt, Result.andThen]
def z38 : ByteArray := B2z z1 38
theorem A8F : z38.size = 38 := x8 38
theorem C4B : (Builtin.zeroCells (Value.int .u8 0).cells 38).toList = G2 z38 := by kernel_rfl
theorem C8J : (G2 z38).toArray = #[.int .u8 0, .int .u8 0, .int .u8 0, .int .u8 0, .int .u8 0, .int .u8 0, .int .u8 0, .int .u8 0, .int .u8 0, .int .u8 0, .int .u8 0, .int .u8 0, .int .u8 0, .int .u8 0, .int .u8 0, .int .u8 0, .int .u8 0, .int .u8 0, .int .u8 0, .int .u8 0, .int .u8 0, .int .u8 0, .int .u8 0, .int .u8 0, .int .u8 0, .int .u8 0, .int .u8 0, .int .u8 0, .int .u8 0, .int .u8 0, .int .u8 0, .int .u8 0, .int .u8 0, .int .u8 0, .int .u8 0, .int .u8 0, .int .u8 0, .int .u8 0] := by kernel_rfl
theorem C3M {b : Nat} {s : ByteArray} {T : TypeId} (hs : s.size = 38) (hu : Up (.pt b (.cells (G2 s).toArray T)) (.pt b (.cells (G2 z38).toArray T)) H H')
  (hK : TW κ S w0 H' (K (.tuple #[]))) : TW κ S w0 H (B3 PR X (A8 .clear #[301] 0 [.slice (some ⟨b, 0, none⟩) 38 38]) K) := by
 refine C3S (u := .tuple #[]) (fun w hb => ?_) hu hK
 have h38 := A8F
 have hst := m5 (P := PR) (o0 := 0) (G2 z38) 0 w (G2 s).toArray hb (by simp [hs, h38]) (A6k _)
 rw [Nat.add_zero, B5u s z38 0 (by omega)] at hst
 have e : j9 s 0 z38 = z38 := by
  apply ByteArray.ext
  simp [j9, h38, hs]
 rw [e] at hst
 show (Builtin.clear_ #[301] 0 #[.slice (some ⟨b, 0, none⟩) 38 38]).run PR w = _
 simp only [Builtin.clear_, List.getElem?_toArray, List.getElem?_cons_zero, Sem.run_bind, C0N, Result.andThen_ok, ty5.run_zero, C4B, hst, Sem.run_pure]
theorem C9a {b : Nat} {s : ByteArray} {T : TypeId} (hm : Res.pt b (.cells (G2 s).toArray T) ∈ H) (c n : Nat) (hn : n = s.size) :
  TW κ S w0 H (A6 PR (convert 301 9 (.slice (some ⟨b, 0, none⟩) n c)) K) = TW κ S w0 H (K (.string s)) := TW.congr fun w hw => by
 refine T1 ?_ K
 subst hn
 have hb := hw.pt hm
 have hB : Lib.Bytes w b 0 s := fun i hi => by
  rw [F3 hb]; simp [G2, hi]; rfl
 exact Lib.run_convert_whole w _ _ _ A4F.und ty5.und x5.und b 0 s hB c
end
theorem C3W {lo : Nat} (b : Nat) (h : lo < 38) (K : Value → WP) : A0 PR (Instr.sliceAt 355 (.pointer (some ⟨b, 0, none⟩)) (some (.int .i64 (lo : Int))) none none) K = K (.slice (some ⟨b, lo, none⟩) (38 - lo) (38 - lo)) :=
 F8 (fun w => by
  have h1 : ¬ ((38 : Int) < lo) := by omega
  have h2 : ¬ (38 = lo) := by omega
  simp [Instr.sliceAt, D08, Instr.sliceBounds, Instr.sliceBound, asIntOf, h1, h2, ty5.run_size, Instr.sureAddr, f7]
  omega) K
def f8 (v : Int) : Nat := if v = 4 then 4 else if v = 6 then 16 else 0
theorem C5U (w : World) (v : Int) : Fn PR C0 228 #[.int .i64 v] w (fun u w' => u = .int .i64 (f8 v : Nat) ∧ D2 [] w w') := by
 have := C7d w v
 have e : ((f8 v : Nat) : Int) = if v = 4 then 4 else if v = 6 then 16 else 0 := by (unfold f8; repeat' split) <;> rfl
 rw [e]; exact this
def Z2 (k : KeyV) : Bool := decide (f8 k.v ≠ 0 ∧ k.src.size = f8 k.v ∧ k.dst.size = f8 k.v ∧ (a7 k.proto k.fr k.tp 0).2 = 0)
def A3P (k : KeyV) : ByteArray := j9 (j9 (j9 z38 0 (G0 (k.v * 256 + k.proto) 2 ++ G0 k.fr 2 ++ G0 k.tp 2)) 6 k.src) 22 k.dst
def A29 (k : KeyV) : Value := .tuple #[.string (if Z2 k then A3P k else H4), .bool (Z2 k)]
theorem C77 {n x y f : Int} (h : (a7 n x y f).2 = 0) : (n = 6 ∨ n = 17) ∧ W1 x y = true := by
 unfold a7 at h
 split at h
 ·simp at h
 split at h
 ·simp at h
 ·rename_i h1 h2
  refine ⟨by omega, ?_⟩
  cases hp : W1 x y with
  | true => rfl
  | false => exact absurd (Or.inl hp) h2
theorem B7P (w : World) (k : KeyV) : Fn PR C0 166 #[k.val] w (fun u w' => u = A29 k ∧ D2 [] w w') := by
 refine Fn.pure (B4Q (TW.go (κ := false) (S := []) ?_))
 unfold A5g KeyV.val
 (have zz:=trivial;repeat((first|clear zz|with_reducible first|refine A3 ?_|refine A5 fun _=>?_|refine A4 fun _=>?_);try simp(disch:=first|omega|assumption|((repeat(first|exact A1|exact uH|apply A2|apply uT));first|done|fail)|(simp;first|done|omega|fail))[]))
 refine C4 B3S (fun w' _ => C5U w' _) ?_
 (have zz:=trivial;repeat((first|clear zz|with_reducible first|refine A3 ?_|refine A5 fun _=>?_|refine A4 fun _=>?_);try simp(disch:=first|omega|assumption|((repeat(first|exact A1|exact uH|apply A2|apply uT));first|done|fail)|(simp;first|done|omega|fail))[]))
 refine C4 A4j (fun w' _ => A89 w' _ _ _ _) ?_
 have bad : Z2 k = false → A29 k = .tuple #[.string H4, .bool false] := fun h => by simp [A29, h]
 by_cases c1 : f8 k.v = 0
 ·(have zz:=trivial;repeat((first|clear zz|with_reducible first|refine A3 ?_|refine A5 fun _=>?_|refine A4 fun _=>?_);try simp(disch:=first|omega|assumption|((repeat(first|exact A1|exact uH|apply A2|apply uT));first|done|fail)|(simp;first|done|omega|fail))[c1]))
  exact B0 (bad (by simp [Z2, c1])).symm
 have c1' : ¬ ((f8 k.v : Nat) : Int) = 0 := by omega
 by_cases c2 : k.src.size = f8 k.v
 case neg =>
  have c2' : ¬ ((k.src.size : Nat) : Int) = f8 k.v := by omega
  (have zz:=trivial;repeat((first|clear zz|with_reducible first|refine A3 ?_|refine A5 fun _=>?_|refine A4 fun _=>?_);try simp(disch:=first|omega|assumption|((repeat(first|exact A1|exact uH|apply A2|apply uT));first|done|fail)|(simp;first|done|omega|fail))[c1, c1', c2, c2']))
  exact B0 (bad (by simp [Z2, c2])).symm
 by_cases c3 : k.dst.size = f8 k.v
 case neg =>
  have c3' : ¬ ((k.dst.size : Nat) : Int) = f8 k.v := by omega
  (have zz:=trivial;repeat((first|clear zz|with_reducible first|refine A3 ?_|refine A5 fun _=>?_|refine A4 fun _=>?_);try simp(disch:=first|omega|assumption|((repeat(first|exact A1|exact uH|apply A2|apply uT));first|done|fail)|(simp;first|done|omega|fail))[c1, c1', c2, c3, c3']))
  exact B0 (bad (by simp [Z2, c3])).symm
 by_cases c4 : (a7 k.proto k.fr k.tp 0).2 = 0
 case neg =>
  (have zz:=trivial;repeat((first|clear zz|with_reducible first|refine A3 ?_|refine A5 fun _=>?_|refine A4 fun _=>?_);try simp(disch:=first|omega|assumption|((repeat(first|exact A1|exact uH|apply A2|apply uT));first|done|fail)|(simp;first|done|omega|fail))[c1, c1', c2, c3, c4]))
  exact B0 (bad (by simp [Z2, c4])).symm
 (have zz:=trivial;repeat((first|clear zz|with_reducible first|refine A3 ?_|refine A5 fun _=>?_|refine A4 fun _=>?_);try simp(disch:=first|omega|assumption|((repeat(first|exact A1|exact uH|apply A2|apply uT));first|done|fail)|(simp;first|done|omega|fail))[c1, c1', c2, c3, c4]))
 rename_i bk ba
 refine TW.eqH (H' := [.pt ba (.cells (G2 z38).toArray 355), .pt bk (.cells #[.int .i64 k.v, .string k.src, .string k.dst, .int .i64 k.fr, .int .i64 k.tp, .int .i64 k.proto] 45)]) (by rw [C8J]) ?_
 refine C3M A8F .here ?_
 obtain ⟨hp, hq⟩ := C77 c4
 simp only [W1, decide_eq_true_eq] at hq
 have hv : k.v = 4 ∨ k.v = 6 := by unfold f8 at c1; split at c1 <;> (try split at c1) <;> omega
 have hh : (G0 (k.v * 256 + k.proto) 2 ++ G0 k.fr 2 ++ G0 k.tp 2).size = 6 := by simp
 have h38 := A8F
 have s1 : (j9 z38 0 (G0 (k.v * 256 + k.proto) 2 ++ G0 k.fr 2 ++ G0 k.tp 2)).size = 38 := by rw [B1W (by omega), h38]
 have hl : f8 k.v ≤ 16 := by unfold f8; split <;> (try split) <;> omega
 have s2 : (j9 (j9 z38 0 (G0 (k.v * 256 + k.proto) 2 ++ G0 k.fr 2 ++ G0 k.tp 2)) 6 k.src).size = 38 := by rw [B1W (by omega), s1]
 have s3 : (A3P k).size = 38 := by unfold A3P; rw [B1W (by omega), s2]
 have i6 := fun K => C3W (lo := 6) ba (by omega) K
 have i22 := fun K => C3W (lo := 22) ba (by omega) K
 simp at i6 i22
 have ok : Z2 k = true := by simp [Z2, c1, c2, c3, c4]
 have q1 := hq.1
 have q2 := hq.2.1
 have q3 := hq.2.2.1
 have q4 := hq.2.2.2
 have eor : IntKind.u64.wrap ((IntKind.u64.wrap (k.v * 2 ^ min 8 IntKind.u64.bits) % 2 ^ IntKind.u64.bits).toNat ||| (k.proto % 2 ^ IntKind.u64.bits).toNat : Nat) = k.v * 256 + k.proto := by
  rcases hv with hv | hv <;> rcases hp with hp | hp <;> (rw [hv, hp]; decide)
 have ew1 : IntKind.u64.wrap k.fr = k.fr := A2g (by omega) (by omega)
 have ew2 : IntKind.u64.wrap k.tp = k.tp := A2g (by omega) (by omega)
 (have zz:=trivial;repeat((first|clear zz|with_reducible first|refine A3 ?_|refine A5 fun _=>?_|refine A4 fun _=>?_);try simp(disch:=first|omega|assumption|((repeat(first|exact A1|exact uH|apply A2|apply uT));first|done|fail)|(simp;first|done|omega|fail))[]))
 rw [eor, ew1, ew2]
 refine C4 J0 (fun w' hw' => Z4 w' _ _) ?_
 (have zz:=trivial;repeat((first|clear zz|with_reducible first|refine A3 ?_|refine A5 fun _=>?_|refine A4 fun _=>?_);try simp(disch:=first|omega|assumption|((repeat(first|exact A1|exact uH|apply A2|apply uT));first|done|fail)|(simp;first|done|omega|fail))[]))
 refine C4 J0 (fun w' hw' => Z4 w' _ _) ?_
 (have zz:=trivial;repeat((first|clear zz|with_reducible first|refine A3 ?_|refine A5 fun _=>?_|refine A4 fun _=>?_);try simp(disch:=first|omega|assumption|((repeat(first|exact A1|exact uH|apply A2|apply uT));first|done|fail)|(simp;first|done|omega|fail))[W7]))
 refine C4 J0 (fun w' hw' => Z4 w' _ _) ?_
 (have zz:=trivial;repeat((first|clear zz|with_reducible first|refine A3 ?_|refine A5 fun _=>?_|refine A4 fun _=>?_);try simp(disch:=first|omega|assumption|((repeat(first|exact A1|exact uH|apply A2|apply uT));first|done|fail)|(simp;first|done|omega|fail))[W7]))
 refine B4z (o := 0) (s := z38) (by (repeat constructor)) (by omega) (by omega) ?_
 (have zz:=trivial;repeat((first|clear zz|with_reducible first|refine A3 ?_|refine A5 fun _=>?_|refine A4 fun _=>?_);try simp(disch:=first|omega|assumption|((repeat(first|exact A1|exact uH|apply A2|apply uT));first|done|fail)|(simp;first|done|omega|fail))[i6]))
 refine B4z (o := 6) (s := j9 z38 0 (G0 (k.v * 256 + k.proto) 2 ++ G0 k.fr 2 ++ G0 k.tp 2)) (by (repeat constructor)) (by omega) (by omega) ?_
 (have zz:=trivial;repeat((first|clear zz|with_reducible first|refine A3 ?_|refine A5 fun _=>?_|refine A4 fun _=>?_);try simp(disch:=first|omega|assumption|((repeat(first|exact A1|exact uH|apply A2|apply uT));first|done|fail)|(simp;first|done|omega|fail))[i22]))
 refine B4z (o := 22) (s := j9 (j9 z38 0 (G0 (k.v * 256 + k.proto) 2 ++ G0 k.fr 2 ++ G0 k.tp 2)) 6 k.src) (by (repeat constructor)) (by omega) (by omega) ?_
 (have zz:=trivial;repeat((first|clear zz|with_reducible first|refine A3 ?_|refine A5 fun _=>?_|refine A4 fun _=>?_);try simp(disch:=first|omega|assumption|((repeat(first|exact A1|exact uH|apply A2|apply uT));first|done|fail)|(simp;first|done|omega|fail))[]))
 rw [C9a (s := A3P k) (by (repeat constructor)) _ _ s3.symm]
 exact B0 (by simp [A29, ok])
end Go.Proofs.YtjobgnabneddjaaGreat
namespace Go.Proofs.YtjobgnabneddjaaGreat
open Go
@[simp] theorem D5k {κ : Bool} {S : List Nat} {w0 : World} {H : List Res} {K : Value → WP} {t : TypeId} {z : Value} [h : TS t z] {b o : Nat} {c : Array Value} {T : TypeId} {f : Nat × Nat} (hm : Res.pt b (.cells c T f) ∈ H) :
  TW κ S w0 H (A6 PR (F5 [.c t (.pointer (some ⟨b, o, none⟩))]) K) = TW κ S w0 H (rdc c[o]? K (A6 PR (F5 [.c t (.pointer (some ⟨b, o, none⟩))]) K)) := by
 cases hc : c[o]? with
 | none => rfl
 | some v => rw [C9N hm hc]; rfl
abbrev E9 := Int × Int
def H3 (b : E9) : List Value := [.int .i64 b.1, .int .i64 b.2]
structure EnV where
 st : Int
 key : ByteArray
 bk : Int
 dl : Int
 deriving DecidableEq
def F6 (x : EnV) : List Value := [.int .i64 x.st, .string x.key, .int .i64 x.bk, .int .i64 x.dl]
theorem C9S {t u : TypeId} {n m : Nat} {z : Value} {a : Option Addr} {l c e : Nat} (h : TI PR t (.slice u) n m z) : EqV PR (e + 1) t (.slice a l c) (.slice none 0 0) a.isNone := by
 intro w
 cases a with
 | none => simp only [Op.equalIn, Sem.run_bind, h.run_und, Result.andThen_ok, Sem.run_pure, Option.isNone]
 | some a => simp only [Op.equalIn, Sem.run_bind, h.run_und, Result.andThen_ok, Sem.run_pure]; rfl
theorem C8b {t u : TypeId} {n m : Nat} {z : Value} (h : TI PR t (.slice u) n m z) (x y : Operand) (a : Option Addr) (l c : Nat) (K : Value → WP) :
  A6 PR (H0 .eql t x y (.slice a l c) (.slice none 0 0)) K = K (.bool a.isNone) := by
 funext w
 refine T1 ?_ K
 have h1 : (eqGuard .eql t x y (.slice a l c) (.slice none 0 0)).run PR w = .ok () w := by simp [eqGuard]
 have h2 : (Op.equalIn 10000 t (.slice a l c) (.slice none 0 0)).run PR w = .ok a.isNone w := C9S (e := 9999) h w
 simp [H0, h1, binOp, Op.equal, Op.maxDepth, h2]
theorem C6l (x y : Operand) (a : Option Addr) (l c : Nat) (K : Value → WP) : A6 PR (H0 .eql 58 x y (.slice a l c) (.slice none 0 0)) K = K (.bool a.isNone) := C8b B08 x y a l c K
theorem C6d (x y : Operand) (a : Option Addr) (l c : Nat) (K : Value → WP) : A6 PR (H0 .eql 84 x y (.slice a l c) (.slice none 0 0)) K = K (.bool a.isNone) := C8b A8l x y a l c K
theorem B5n (w : World) (v : Value) (n : Nat) (xs : List Value) (hn : n ≤ 1000000) (hx : xs.length = n * 2) (hp : xs.all plain = true) (hv : F9 w v n xs) :
  Fn PR C0 123 #[v] w (Rn [] w (fun r u => u = r) fun r => [.own 155 2 r n xs]) := by
 obtain ⟨a, c, rfl, hr⟩ := hv.form
 refine q9 (TW.go (κ := false) (S := []) ?_)
 unfold T6
 cases a with
 | none =>
  obtain rfl : n = 0 := by
   rcases Nat.eq_zero_or_pos n with h | h
   ·exact h
   ·obtain ⟨_, _, h, _⟩ := hr h; cases h
  obtain rfl : xs = [] := List.length_eq_zero_iff.1 (by omega)
  (have zz:=trivial;repeat((first|clear zz|with_reducible first|refine A3 ?_|refine A5 fun _=>?_|refine A4 fun _=>?_);try simp(disch:=first|omega|assumption|((repeat(first|exact A1|exact uH|apply A2|apply uT));first|done|fail)|(simp;first|done|omega|fail))[C6l]))
  refine l3 155 2 ?_
  exact m7 (.slice none 0 0) rfl (by simp)
 | some a =>
  (have zz:=trivial;repeat((first|clear zz|with_reducible first|refine A3 ?_|refine A5 fun _=>?_|refine A4 fun _=>?_|refine E2 fun _=>?_|refine D9 (hK:=fun _=>?_)|refine E4 (hK:=fun _=>?_)|refine E1 (hK:=fun _=>?_)|refine E0 (hK:=fun _=>?_)|refine E3 (hK:=fun _=>?_));try simp(disch:=first|omega|assumption|((repeat(first|exact A1|exact uH|apply A2|apply uT));first|done|fail)|(simp;first|done|omega|fail))[C6l]))
  refine A1W (by (repeat constructor)) (N9.old0 hv) (by decide) hx hp (by simp only [maxLen]; omega) (by omega) fun a' c' => ?_
  simp only [Nat.zero_add, List.nil_append]
  exact B1 _ rfl (by (repeat' constructor))
theorem B1K (w : World) (v : Value) (n : Nat) (xs : List Value) (hn : n ≤ 1000000) (hx : xs.length = n * 4) (hp : xs.all plain = true) (hv : F9 w v n xs) :
  Fn PR C0 122 #[v] w (Rn [] w (fun r u => u = r) fun r => [.own 218 4 r n xs]) := by
 obtain ⟨a, c, rfl, hr⟩ := hv.form
 refine A0A (TW.go (κ := false) (S := []) ?_)
 unfold W2
 cases a with
 | none =>
  obtain rfl : n = 0 := by
   rcases Nat.eq_zero_or_pos n with h | h
   ·exact h
   ·obtain ⟨_, _, h, _⟩ := hr h; cases h
  obtain rfl : xs = [] := List.length_eq_zero_iff.1 (by omega)
  (have zz:=trivial;repeat((first|clear zz|with_reducible first|refine A3 ?_|refine A5 fun _=>?_|refine A4 fun _=>?_);try simp(disch:=first|omega|assumption|((repeat(first|exact A1|exact uH|apply A2|apply uT));first|done|fail)|(simp;first|done|omega|fail))[C6d]))
  refine l3 218 4 ?_
  exact m7 (.slice none 0 0) rfl (by simp)
 | some a =>
  (have zz:=trivial;repeat((first|clear zz|with_reducible first|refine A3 ?_|refine A5 fun _=>?_|refine A4 fun _=>?_|refine E2 fun _=>?_|refine D9 (hK:=fun _=>?_)|refine E4 (hK:=fun _=>?_)|refine E1 (hK:=fun _=>?_)|refine E0 (hK:=fun _=>?_)|refine E3 (hK:=fun _=>?_));try simp(disch:=first|omega|assumption|((repeat(first|exact A1|exact uH|apply A2|apply uT));first|done|fail)|(simp;first|done|omega|fail))[C6d]))
  refine A1W (by (repeat constructor)) (N9.old0 hv) (by decide) hx hp (by simp only [maxLen]; omega) (by omega) fun a' c' => ?_
  simp only [Nat.zero_add, List.nil_append]
  exact B1 _ rfl (by (repeat' constructor))
theorem C9s {α : Type} {l m : List α} (hl : l.length = m.length) (h : ∀ j, j < l.length → l[j]? = m[j]?) : l = m := List.ext_getElem? fun i => by
 by_cases hi : i < l.length
 ·exact h i hi
 ·rw [List.getElem?_eq_none (by omega), List.getElem?_eq_none (by omega)]
def A8r {α : Type} (p : α → Bool) (l : List α) : Int := match l.findIdx? p with | some i => i | none => -1
theorem A5j {α : Type} {p : α → Bool} {l : List α} {i : Nat} {x : α} (hx : l[i]? = some x) (hp : p x = true) (h : ∀ j y, j < i → l[j]? = some y → p y = false) : A8r p l = i := by
 have : l.findIdx? p = some i := by
  rw [List.findIdx?_eq_some_iff_getElem]
  obtain ⟨hi, e⟩ := List.getElem?_eq_some_iff.1 hx
  exact ⟨hi, by rw [e]; exact hp, fun j hj => by rw [h j l[j] hj (List.getElem?_eq_getElem (by omega))]; simp⟩
 simp [A8r, this]
theorem B1C {α : Type} {p : α → Bool} {l : List α} (h : ∀ (j : Nat) y, l[j]? = some y → p y = false) : A8r p l = -1 := by
 have : l.findIdx? p = none := by
  rw [List.findIdx?_eq_none_iff]; intro x hx; obtain ⟨i, hi, rfl⟩ := List.getElem_of_mem hx; exact h i _ (List.getElem?_eq_getElem hi)
 simp [A8r, this]
theorem B6l (w : World) (v : Value) (l : List E9) (p : E9 → Bool) (f : FuncId) (cap : List Value) (hn : l.length ≤ 1000000) (hv : F9 w v l.length (l.flatMap H3)) (he : A9 PR f)
  (hf : ∀ w', KS false [] w w' → ∀ x : E9, Fn PR C0 f (.agg #[.int .i64 x.1, .int .i64 x.2] :: cap).toArray w' (fun r w'' => r = .bool (p x) ∧ D2 [] w' w'')) :
  Fn PR C0 266 #[v, .func (.func f) #[] cap.toArray] w (fun r w' => r = .int .i64 (A8r p l) ∧ D2 [] w w') := by
 refine Fn.pure (l2 (TW.go (κ := false) (S := []) ?_))
 unfold S0
 obtain ⟨a, c, rfl, hr⟩ := hv.form
 (have zz:=trivial;repeat((first|clear zz|with_reducible first|refine A3 ?_|refine A5 fun _=>?_|refine A4 fun _=>?_);try simp(disch:=first|omega|assumption|((repeat(first|exact A1|exact uH|apply A2|apply uT));first|done|fail)|(simp;first|done|omega|fail))[]))
 refine w7 (α := Unit) l.length (fun _ _ => .int .i64 0) (fun _ _ => []) (fun i _ => ∀ j y, j < i → l[j]? = some y → p y = false) () (by intro j _ hj; omega) ?_
 rintro i _ hi hpre L hL
 by_cases hlt : i < l.length
 ·obtain ⟨b, o, rfl, hrow⟩ := hr (by omega)
  obtain ⟨x, hx⟩ : ∃ x, l[i]? = some x := ⟨_, List.getElem?_eq_getElem (by omega)⟩
  have h1 := hrow.at (f := H3) (k := 2) (fun _ => rfl) hx
  rw [H3] at h1
  (have zz:=trivial;repeat((first|clear zz|with_reducible first|refine A3 ?_|refine A5 fun _=>?_|refine A4 fun _=>?_);try simp(disch:=first|omega|assumption|((repeat(first|exact A1|exact uH|apply A2|apply uT));first|done|fail)|(simp;first|done|omega|fail))[hlt, h1]))
  refine B5P he (φ := fun r => r = .bool (p x)) (fun w' hw' => by simpa using hf w' hw'.ks x) ?_
  rintro _ rfl
  cases hb : p x with
  | true =>
   (have zz:=trivial;repeat((first|clear zz|with_reducible first|refine A3 ?_|refine A5 fun _=>?_|refine A4 fun _=>?_);try simp(disch:=first|omega|assumption|((repeat(first|exact A1|exact uH|apply A2|apply uT));first|done|fail)|(simp;first|done|omega|fail))[]))
   exact B0 (by rw [A5j hx hb hpre])
  | false =>
   (have zz:=trivial;repeat((first|clear zz|with_reducible first|refine A3 ?_|refine A5 fun _=>?_|refine A4 fun _=>?_);try simp(disch:=first|omega|assumption|((repeat(first|exact A1|exact uH|apply A2|apply uT));first|done|fail)|(simp;first|done|omega|fail))[]))
   refine Sels.tw .nil (hL hlt () ?_)
   intro j y hj hy
   by_cases hji : j = i
   ·subst hji; rw [hx] at hy; cases hy; exact hb
   ·exact hpre j y (by omega) hy
 ·obtain rfl : i = l.length := by omega
  (have zz:=trivial;repeat((first|clear zz|with_reducible first|refine A3 ?_|refine A5 fun _=>?_|refine A4 fun _=>?_);try simp(disch:=first|omega|assumption|((repeat(first|exact A1|exact uH|apply A2|apply uT));first|done|fail)|(simp;first|done|omega|fail))[]))
  exact B0 (by rw [B1C fun j y hy => hpre j y (List.getElem?_eq_some_iff.1 hy).1 hy])
theorem B6T (w : World) (v : Value) (l : List (Int × Int)) (p : Int × Int → Bool) (f : FuncId) (cap : List Value) (hn : l.length ≤ 1000000) (hv : F9 w v l.length (l.flatMap H3)) (he : A9 PR f)
  (hf : ∀ w', KS false [] w w' → ∀ x : Int × Int, Fn PR C0 f (.agg #[.int .i64 x.1, .int .i64 x.2] :: cap).toArray w' (fun r w'' => r = .bool (p x) ∧ D2 [] w' w'')) :
  Fn PR C0 201 #[v, .func (.func f) #[] cap.toArray] w (fun r w' => r = .int .i64 (A8r p l) ∧ D2 [] w w') := by
 refine Fn.pure (A1T (TW.go (κ := false) (S := []) ?_))
 unfold b8
 obtain ⟨a, c, rfl, hr⟩ := hv.form
 (have zz:=trivial;repeat((first|clear zz|with_reducible first|refine A3 ?_|refine A5 fun _=>?_|refine A4 fun _=>?_);try simp(disch:=first|omega|assumption|((repeat(first|exact A1|exact uH|apply A2|apply uT));first|done|fail)|(simp;first|done|omega|fail))[]))
 refine w7 (α := Unit) l.length (fun _ _ => .int .i64 0) (fun _ _ => []) (fun i _ => ∀ j y, j < i → l[j]? = some y → p y = false) () (by intro j _ hj; omega) ?_
 rintro i _ hi hpre L hL
 by_cases hlt : i < l.length
 ·obtain ⟨b, o, rfl, hrow⟩ := hr (by omega)
  obtain ⟨x, hx⟩ : ∃ x, l[i]? = some x := ⟨_, List.getElem?_eq_getElem (by omega)⟩
  have h1 := hrow.at (f := H3) (k := 2) (fun _ => rfl) hx
  rw [H3] at h1
  (have zz:=trivial;repeat((first|clear zz|with_reducible first|refine A3 ?_|refine A5 fun _=>?_|refine A4 fun _=>?_);try simp(disch:=first|omega|assumption|((repeat(first|exact A1|exact uH|apply A2|apply uT));first|done|fail)|(simp;first|done|omega|fail))[hlt, h1]))
  refine B5P he (φ := fun r => r = .bool (p x)) (fun w' hw' => by simpa using hf w' hw'.ks x) ?_
  rintro _ rfl
  cases hb : p x with
  | true =>
   (have zz:=trivial;repeat((first|clear zz|with_reducible first|refine A3 ?_|refine A5 fun _=>?_|refine A4 fun _=>?_);try simp(disch:=first|omega|assumption|((repeat(first|exact A1|exact uH|apply A2|apply uT));first|done|fail)|(simp;first|done|omega|fail))[]))
   exact B0 (by rw [A5j hx hb hpre])
  | false =>
   (have zz:=trivial;repeat((first|clear zz|with_reducible first|refine A3 ?_|refine A5 fun _=>?_|refine A4 fun _=>?_);try simp(disch:=first|omega|assumption|((repeat(first|exact A1|exact uH|apply A2|apply uT));first|done|fail)|(simp;first|done|omega|fail))[]))
   refine Sels.tw .nil (hL hlt () ?_)
   intro j y hj hy
   by_cases hji : j = i
   ·subst hji; rw [hx] at hy; cases hy; exact hb
   ·exact hpre j y (by omega) hy
 ·obtain rfl : i = l.length := by omega
  (have zz:=trivial;repeat((first|clear zz|with_reducible first|refine A3 ?_|refine A5 fun _=>?_|refine A4 fun _=>?_);try simp(disch:=first|omega|assumption|((repeat(first|exact A1|exact uH|apply A2|apply uT));first|done|fail)|(simp;first|done|omega|fail))[]))
  exact B0 (by rw [B1C fun j y hy => hpre j y (List.getElem?_eq_some_iff.1 hy).1 hy])
theorem C5L {α : Type} (p : α → Bool) (l : List α) : decide (0 ≤ A8r p l) = l.any p := by
 unfold A8r
 cases h : l.findIdx? p with
 | none =>
  have := List.findIdx?_eq_none_iff.1 h
  rw [Bool.eq_iff_iff]; simp [List.any_eq_true]; intro x hx; have := this x hx; simp_all
 | some i =>
  obtain ⟨hi, h1, _⟩ := List.findIdx?_eq_some_iff_getElem.1 h
  rw [Bool.eq_iff_iff]; simp only [List.any_eq_true, decide_eq_true_eq]
  exact ⟨fun _ => ⟨_, List.getElem_mem hi, h1⟩, fun _ => by omega⟩
theorem B2a (w : World) (v : Value) (l : List (Int × Int)) (p : Int × Int → Bool) (f : FuncId) (cap : List Value) (hn : l.length ≤ 1000000) (hv : F9 w v l.length (l.flatMap H3)) (he : A9 PR f)
  (hf : ∀ w', KS false [] w w' → ∀ x : Int × Int, Fn PR C0 f (.agg #[.int .i64 x.1, .int .i64 x.2] :: cap).toArray w' (fun r w'' => r = .bool (p x) ∧ D2 [] w' w'')) :
  Fn PR C0 148 #[v, .func (.func f) #[] cap.toArray] w (fun r w' => r = .bool (l.any p) ∧ D2 [] w w') := by
 refine Fn.pure (A0T (TW.go (κ := false) (S := []) ?_))
 unfold W9
 refine C4 A0v (fun w' hw' => B6T w' v l p f cap hn (hv.ks hw'.ks (by simp)) he fun w2 h => hf w2 (hw'.ks.trans h)) ?_
 (have zz:=trivial;repeat((first|clear zz|with_reducible first|refine A3 ?_|refine A5 fun _=>?_|refine A4 fun _=>?_);try simp(disch:=first|omega|assumption|((repeat(first|exact A1|exact uH|apply A2|apply uT));first|done|fail)|(simp;first|done|omega|fail))[]))
 exact B0 (by rw [C5L])
end Go.Proofs.YtjobgnabneddjaaGreat
namespace Go.Proofs.YtjobgnabneddjaaGreat
open Go
theorem B7d {t e : TypeId} {len n m n' m' : Nat} {z z' : Value} {d' : TypeDesc} {parts : Array (Nat × Value)} {cs : Array Value} {K : Value → WP} (h : TI PR t (.array len e) n m z) (he : TI PR e d' n' m' z')
  (hf : Instr.fill (fun i => some (i * n', n')) z.cells parts.toList = some cs) : A0 PR (Instr.build t parts) K = K (.agg cs) :=
 F8 (fun w => by
  simp only [Instr.build, Sem.run_bind, h.run_zero, Result.andThen_ok, h.run_und, he.run_size, hf, Sem.run_pure]) K
theorem bd2 {k0 k1 : IntKind} {a b : Int} (K : Value → WP) : A0 PR (Instr.build 158 #[(0, .int k0 a), (1, .int k1 b)]) K = K (.agg #[.int k0 a, .int k1 b]) :=
 B7d B33 G9 (by rw [show (#[(0, Value.int k0 a), (1, Value.int k1 b)] : Array (Nat × Value)).toList = [(0, Value.int k0 a), (1, Value.int k1 b)] from rfl, B7 rfl rfl (by simp), B7 rfl rfl (by simp [B9])]; rfl)
theorem B9W (w : World) (x : Int × Int) : Fn PR C0 149 #[.agg #[.int .i64 x.1, .int .i64 x.2]] w (fun r w' => r = .bool (decide (x.1 < 1 ∨ x.2 < x.1)) ∧ D2 [] w w') := by
 refine Fn.pure (B2C (TW.go (κ := false) (S := []) ?_))
 unfold A3x
 by_cases c1 : x.1 < 1
 ·(have zz:=trivial;repeat((first|clear zz|with_reducible first|refine A3 ?_|refine A5 fun _=>?_|refine A4 fun _=>?_);try simp(disch:=first|omega|assumption|((repeat(first|exact A1|exact uH|apply A2|apply uT));first|done|fail)|(simp;first|done|omega|fail))[c1]))
  exact B0 (by simp [c1])
 ·(have zz:=trivial;repeat((first|clear zz|with_reducible first|refine A3 ?_|refine A5 fun _=>?_|refine A4 fun _=>?_);try simp(disch:=first|omega|assumption|((repeat(first|exact A1|exact uH|apply A2|apply uT));first|done|fail)|(simp;first|done|omega|fail))[c1]))
  exact B0 (by simp [c1])
theorem C39 (w : World) (v : Value) (l : List (Int × Int)) (hn : l.length ≤ 1000000) (hv : F9 w v l.length (l.flatMap H3)) :
  Fn PR C0 89 #[v] w (fun r w' => r = .bool (!l.any fun x => decide (x.1 < 1 ∨ x.2 < x.1)) ∧ D2 [] w w') := by
 refine Fn.pure (B5Z (TW.go (κ := false) (S := []) ?_))
 unfold A7S
 refine C4 z7 (fun w' hw' => B2a w' v l (fun x => decide (x.1 < 1 ∨ x.2 < x.1)) 149 [] hn (hv.ks hw'.ks (by simp)) B1D fun w2 h x => B9W w2 x) ?_
 (have zz:=trivial;repeat((first|clear zz|with_reducible first|refine A3 ?_|refine A5 fun _=>?_|refine A4 fun _=>?_);try simp(disch:=first|omega|assumption|((repeat(first|exact A1|exact uH|apply A2|apply uT));first|done|fail)|(simp;first|done|omega|fail))[]))
 exact B0 rfl
theorem C1n (w : World) (x : E9) (id : Int) (b : Nat) (hb : w.cell? ⟨b, 0, none⟩ = some (.int .i64 id)) : Fn PR C0 286 #[.agg #[.int .i64 x.1, .int .i64 x.2], .pointer (some ⟨b, 0, none⟩)] w (fun r w' => r = .bool (decide (x.1 = id)) ∧ D2 [] w w') := by
 refine Fn.pure (B3D (TW.go (κ := false) (S := []) ?_))
 unfold A43
 (have zz:=trivial;repeat((first|clear zz|with_reducible first|refine A3 ?_|refine A5 fun _=>?_|refine A4 fun _=>?_);try simp(disch:=first|omega|assumption|((repeat(first|exact A1|exact uH|apply A2|apply uT));first|done|fail)|(simp;first|done|omega|fail))[hb]))
 exact B0 rfl
theorem C5u (w : World) (id : Int) : Fn PR C0 267 #[.int .i64 id] w (Rn [] w (fun b v => v = .func (.func 286) #[] #[.pointer (some ⟨b, 0, none⟩)]) fun b => [.pt b (.cells #[.int .i64 id] 3)]) := by
 refine B6z (TW.go (κ := false) (S := []) ?_)
 unfold A9J
 (have zz:=trivial;repeat((first|clear zz|with_reducible first|refine A3 ?_|refine A5 fun _=>?_|refine A4 fun _=>?_);try simp(disch:=first|omega|assumption|((repeat(first|exact A1|exact uH|apply A2|apply uT));first|done|fail)|(simp;first|done|omega|fail))[]))
 exact m7 _ rfl (by simp)
def Q9 (l : List E9) (id : Int) : Int := A8r (fun x => decide (x.1 = id)) l
theorem B2Y (w : World) (v : Value) (l : List E9) (id : Int) (hn : l.length ≤ 1000000) (hv : F9 w v l.length (l.flatMap H3)) :
  Fn PR C0 237 #[v, .int .i64 id] w (fun r w' => r = .int .i64 (Q9 l id) ∧ D2 [] w w') := by
 refine Fn.pure (B8g (TW.go (κ := false) (S := []) ?_))
 unfold B1H
 refine G4 B5J (fun w' _ => C5u w' id) ?_
 rintro b _ rfl
 refine C4 j7 (fun w' hw' => B6l w' v l (fun x => decide (x.1 = id)) 286 [.pointer (some ⟨b, 0, none⟩)] hn (hv.ks hw'.ks (by simp)) B18
  fun w2 h x => C1n w2 x id b (h.cell (by simp) (hw'.cell1 (by (repeat constructor))))) ?_
 exact B0 rfl
def A1d (b : E9) : Bool := decide (1 ≤ b.1 ∧ b.1 ≤ 65535 ∧ 1 ≤ b.2 ∧ b.2 ≤ 16)
def m0 : List E9 → Bool
 | [] => true
 | b :: l => A1d b && !(l.any fun x => decide (x.1 = b.1)) && m0 l
def L5 (l : List E9) : Int := if m0 l && decide (l.length ≤ 32) then 0 else 10
theorem A4G (l : List E9) : m0 l = true ↔ (∀ b ∈ l, A1d b = true) ∧ l.Pairwise fun a b => a.1 ≠ b.1 := by
 induction l with
 | nil => simp [m0]
 | cons b l ih =>
  simp only [m0, Bool.and_eq_true, ih, List.mem_cons, forall_eq_or_imp, List.pairwise_cons, Bool.not_eq_true', List.any_eq_false, decide_eq_true_eq]
  constructor
  ·rintro ⟨⟨h1, h2⟩, h3, h4⟩; exact ⟨⟨h1, h3⟩, fun a ha e => h2 a ha e.symm, h4⟩
  ·rintro ⟨⟨h1, h3⟩, h2, h4⟩; exact ⟨⟨h1, fun a ha e => h2 a ha e.symm⟩, h3, h4⟩
theorem C6Y {α : Type} {R : α → α → Prop} {l : List α} (h : l.Pairwise R) {i j : Nat} {x y : α} (hij : i < j) (hx : l[i]? = some x) (hy : l[j]? = some y) : R x y := by
 obtain ⟨h1, rfl⟩ := List.getElem?_eq_some_iff.1 hx
 obtain ⟨h2, rfl⟩ := List.getElem?_eq_some_iff.1 hy
 exact List.pairwise_iff_getElem.1 h i j h1 h2 hij
theorem C8F {α : Type} {R : α → α → Prop} {l : List α} {i : Nat} {x : α} (hx : l[i]? = some x) : (l.take (i + 1)).Pairwise R ↔ (l.take i).Pairwise R ∧ ∀ y ∈ l.take i, R y x := by
 rw [List.take_add_one, hx]; simp [List.pairwise_append]
theorem A4U (w : World) (v : Value) (l : List E9) (hn : l.length ≤ 1000000) (hv : F9 w v l.length (l.flatMap H3)) :
  Fn PR C0 29 #[v] w (fun r w' => r = .int .i64 (L5 l) ∧ D2 [] w w') := by
 refine Fn.pure (B6f (TW.go (κ := false) (S := []) ?_))
 unfold A9Y
 obtain ⟨a, c, rfl, hr⟩ := hv.form
 refine C0Y (Value.int .i64) fun r => ?_
 (have zz:=trivial;repeat((first|clear zz|with_reducible first|refine A3 ?_|refine A5 fun _=>?_|refine A4 fun _=>?_);try simp(disch:=first|omega|assumption|((repeat(first|exact A1|exact uH|apply A2|apply uT));first|done|fail)|(simp;first|done|omega|fail))[]))
 refine w7 (α := List (Int × Value)) l.length (fun _ _ => .int .i64 0) (fun _ M => [.pt r (s9 (Value.int .i64) M)]) (fun i M => (∀ k, p8 k M = if (l.take i).any (fun x => decide (x.1 = k)) then some (.bool true) else none) ∧ m0 (l.take i) = true) [] (by simp [p8, m0]) ?_
 rintro i M hi ⟨hM, hok⟩ L hL
 by_cases hlt : i < l.length
 ·obtain ⟨b, o, rfl, hrow⟩ := hr (by omega)
  obtain ⟨x, hx⟩ : ∃ x, l[i]? = some x := ⟨_, List.getElem?_eq_getElem (by omega)⟩
  have h1 := hrow.at (f := H3) (k := 2) (fun _ => rfl) hx
  rw [H3] at h1
  have hxm : x ∈ l := List.mem_of_getElem? hx
  (have zz:=trivial;repeat((first|clear zz|with_reducible first|refine A3 ?_|refine A5 fun _=>?_|refine A4 fun _=>?_);try simp(disch:=first|omega|assumption|((repeat(first|exact A1|exact uH|apply A2|apply uT));first|done|fail)|(simp;first|done|omega|fail))[hlt, h1]))
  rw [B2f C6N ty4 (KeyT.int G9) (l := M) (by (repeat constructor)), hM]
  cases hseen : (l.take i).any (fun y => decide (y.1 = x.1)) with
  | true =>
   have hbad : L5 l = 10 := by
    have : m0 l = false := by
     rw [← Bool.not_eq_true, A4G]
     rintro ⟨_, h⟩
     obtain ⟨y, hy, he⟩ := List.any_eq_true.1 hseen
     obtain ⟨j, hj, rfl⟩ := List.getElem_of_mem hy
     simp only [List.length_take] at hj
     exact C6Y (i := j) (j := i) h (by omega) (List.getElem?_eq_getElem (by omega)) hx (by simpa using he)
    simp [L5, this]
   (have zz:=trivial;repeat((first|clear zz|with_reducible first|refine A3 ?_|refine A5 fun _=>?_|refine A4 fun _=>?_);try simp(disch:=first|omega|assumption|((repeat(first|exact A1|exact uH|apply A2|apply uT));first|done|fail)|(simp;first|done|omega|fail))[]))
   exact B0 (by rw [hbad])
  | false =>
   simp only [Bool.false_eq_true, if_false, Option.getD_none]
   (have zz:=trivial;repeat((first|clear zz|with_reducible first|refine A3 ?_|refine A5 fun _=>?_|refine A4 fun _=>?_|refine E2 fun _=>?_|refine D9 (hK:=fun _=>?_)|refine E4 (hK:=fun _=>?_)|refine E1 (hK:=fun _=>?_)|refine E0 (hK:=fun _=>?_)|refine E3 (hK:=fun _=>?_));try simp(disch:=first|omega|assumption|((repeat(first|exact A1|exact uH|apply A2|apply uT));first|done|fail)|(simp;first|done|omega|fail))[bd2]))
   rename_i bs bx
   refine C4 (u := .bool (A1d x)) B3m (fun w' hw' => ?_) ?_
   ·have := C39 w' (.slice (some ⟨bx, 0, none⟩) 2 2) [(x.1, 65535), (x.2, 16)] (by simp) (by simpa [H3] using N9.own (κ := false) (S := []) (w0 := w) (e := 158) (k := 2) (q := 2) (v := .slice (some ⟨bx, 0, none⟩) 2 2) (by (repeat constructor)) w' hw')
    have e : (!([(x.1, 65535), (x.2, 16)] : List (Int × Int)).any fun x => decide (x.1 < 1 ∨ x.2 < x.1)) = A1d x := by
     rw [Bool.eq_iff_iff]; simp [A1d]; omega
    rw [e] at this
    exact this
   ·cases hbk : A1d x with
    | false =>
     have hbad : L5 l = 10 := by
      have : m0 l = false := by
       rw [← Bool.not_eq_true, A4G]
       rintro ⟨h, _⟩
       rw [h x hxm] at hbk; cases hbk
      simp [L5, this]
     (have zz:=trivial;repeat((first|clear zz|with_reducible first|refine A3 ?_|refine A5 fun _=>?_|refine A4 fun _=>?_);try simp(disch:=first|omega|assumption|((repeat(first|exact A1|exact uH|apply A2|apply uT));first|done|fail)|(simp;first|done|omega|fail))[]))
     exact B0 (by rw [hbad])
    | true =>
     (have zz:=trivial;repeat((first|clear zz|with_reducible first|refine A3 ?_|refine A5 fun _=>?_|refine A4 fun _=>?_);try simp(disch:=first|omega|assumption|((repeat(first|exact A1|exact uH|apply A2|apply uT));first|done|fail)|(simp;first|done|omega|fail))[]))
     refine B2m C6N (KeyT.int G9) (k := x.1) (by (repeat constructor)) ?_
     (have zz:=trivial;repeat((first|clear zz|with_reducible first|refine A3 ?_|refine A5 fun _=>?_|refine A4 fun _=>?_);try simp(disch:=first|omega|assumption|((repeat(first|exact A1|exact uH|apply A2|apply uT));first|done|fail)|(simp;first|done|omega|fail))[]))
     refine Sels.tw (by (repeat' constructor)) (hL hlt _ ⟨?_, ?_⟩)
     ·intro k
      rw [C29, hM, List.take_add_one, hx]
      by_cases hk : k = x.1
      ·subst hk; simp
      ·have hk' : ¬ x.1 = k := fun e => hk e.symm
       have hAB : (l.take i ++ (some x).toList).any (fun x => decide (x.1 = k)) = (l.take i).any (fun x => decide (x.1 = k)) := by
        rw [List.any_append]; simp only [Option.toList_some, List.any_cons, List.any_nil, decide_eq_false hk', Bool.or_false]
       rw [if_neg hk, hAB]
     ·rw [A4G] at hok ⊢
      refine ⟨fun y hy => ?_, (C8F hx).2 ⟨hok.2, fun y hy e => ?_⟩⟩
      ·rw [List.take_add_one, hx] at hy
       simp only [Option.toList_some, List.mem_append, List.mem_singleton] at hy
       rcases hy with hy | rfl
       ·exact hok.1 y hy
       ·exact hbk
      ·have := List.any_eq_false.1 hseen y hy
       simp [e] at this
 ·obtain rfl : i = l.length := by omega
  rw [List.take_length] at hok
  by_cases c1 : l.length ≤ 32
  ·have c1' : ¬ (32 : Int) < l.length := by omega
   (have zz:=trivial;repeat((first|clear zz|with_reducible first|refine A3 ?_|refine A5 fun _=>?_|refine A4 fun _=>?_);try simp(disch:=first|omega|assumption|((repeat(first|exact A1|exact uH|apply A2|apply uT));first|done|fail)|(simp;first|done|omega|fail))[c1']))
   exact B0 (by simp [L5, hok, c1])
  ·have c1' : (32 : Int) < l.length := by omega
   (have zz:=trivial;repeat((first|clear zz|with_reducible first|refine A3 ?_|refine A5 fun _=>?_|refine A4 fun _=>?_);try simp(disch:=first|omega|assumption|((repeat(first|exact A1|exact uH|apply A2|apply uT));first|done|fail)|(simp;first|done|omega|fail))[c1']))
   exact B0 (by simp [L5, c1])
end Go.Proofs.YtjobgnabneddjaaGreat
namespace Go.Proofs.YtjobgnabneddjaaGreat
open Go
structure CfgV where
 wk : Int
 sh : Int
 cp : Int
 idle : Int
 sl : Int
 deriving DecidableEq
def CfgV.val (c : CfgV) : Value := .agg #[.int .i64 c.wk, .int .i64 c.sh, .int .i64 c.cp, .int .i64 c.idle, .int .i64 c.sl]
def Y7 (n lo hi : Int) : Bool := decide (lo ≤ n) && decide (n ≤ hi)
def M1 (c : CfgV) : Bool := Y7 c.wk 1 64 && Y7 c.sh 1 16 && Y7 c.cp 1 64 && Y7 c.idle 0 1000000 && Y7 c.sl 2 8
structure AnsV where
 err : Int
 bk : Int
 made : Bool
 count : Int
 deriving DecidableEq
def AnsV.val (a : AnsV) : Value := .agg #[.int .i64 a.err, .int .i64 a.bk, .bool a.made, .int .i64 a.count]
structure OpV where
 kind : Int
 packet : ByteArray
 pool : List E9
 shard : Int
def OpV.val (o : OpV) (v : Value) : Value := .agg #[.int .i64 o.kind, .string o.packet, v, .int .i64 o.shard]
end Go.Proofs.YtjobgnabneddjaaGreat
namespace Go.Proofs.YtjobgnabneddjaaGreat
open Go
def A9V (X : Nat → Prop) (t0 t1 : Value) (R : Value → WP) : WP :=
 B3 PR X (Instr.box 9 t1) fun t3 =>
 B3 PR X (Instr.alloc 3 true (.tuple #[])) fun t5 =>
 C3 PR X (Instr.storeAt 3 t5 (.int .i64 (-1))) <|
 jn (n := 0) (
 A6 PR (Instr.loadAt 3 t5) fun t28 =>
 n0 (R t28)) fun J1 =>
 A6 PR (Instr.loadAt 9 t3) fun t9 =>
 B5 PR X 179 [t0, t9] fun t10 =>
 rng (N := 2) PR X (fun t11 t12 K2 =>
 B3 PR (fun _ => False) (Instr.alloc 218 true (.tuple #[])) fun t7 =>
 C3 PR (fun _ => False) (Instr.storeAt 218 t7 t12) <|
 bgn <|
 A0 PR (Instr.fieldAt 218 t7 0) fun t14 =>
 A6 PR (Instr.loadAt 3 t14) fun t15 =>
 A0 PR (binOp .eql 3 t15 (.int .i64 0)) fun t16 =>
 C6 t16 (
 K2 (some (.exit 0))) (
 A0 PR (Instr.fieldAt 218 t7 0) fun t18 =>
 A6 PR (Instr.loadAt 3 t18) fun t19 =>
 A0 PR (binOp .eql 3 t19 (.int .i64 1)) fun t20 =>
 gj t20 true (fun J => A0 PR (Instr.fieldAt 218 t7 1) J) fun t22 =>
 gj t20 true (fun J => A6 PR (Instr.loadAt 9 t22) J) fun t23 =>
 gj t20 true (fun J => A6 PR (Instr.loadAt 9 t3) J) fun t24 =>
 gj t20 true (fun J => A0 PR (binOp .eql 9 t23 t24) J) fun t25 =>
 A0 PR (do pure (if ← asBool t20 then t25 else (.bool false))) fun t26 =>
 C6 t26 (
 C3 PR (fun _ => False) (Instr.storeAt 3 t5 t11) <|
 K2 (some (.exit 0))) (
 K2 none))) t10 (fun j => match j with | none => (J1) | some (.exit i) => (match Nat.beq i 0 with | true => (J1) | false => (H5)) | some .ret => (n0 (R (.int .i64 0))) | some _ => H5)
theorem m6 : A9 PR 133 := A7 Tryz.func133 (by kernel_rfl) rfl
theorem B6g {X : Nat → Prop} {t0 t1 : Value} {R : Value → WP} {w : World} (h : A9V X t0 t1 R w) : Fn PR X 133 #[t0, t1] w R := C8 (args := [t0, t1]) mixed Tryz.func133 (by kernel_rfl) h
def B1Q (X : Nat → Prop) (t0 t1 : Value) (R : Value → WP) : WP :=
 B3 PR X (Instr.box 84 t0) fun t2 =>
 B3 PR X (Instr.box 9 t1) fun t3 =>
 A0 PR (Instr.makeFunc (.func 235) #[] #[t3, t2]) fun t5 =>
 R t5
theorem A9a : A9 PR 179 := A7 Tryz.func179 (by kernel_rfl) rfl
theorem B8d {X : Nat → Prop} {t0 t1 : Value} {R : Value → WP} {w : World} (h : B1Q X t0 t1 R w) : Fn PR X 179 #[t0, t1] w R := C8 (args := [t0, t1]) mixed Tryz.func179 (by kernel_rfl) h
def A68 (X : Nat → Prop) (t0 t1 : Value) (R : Value → WP) : WP :=
 B3 PR X (Instr.box 3 t1) fun t3 =>
 A0 PR (Instr.makeFunc (.func 241) #[] #[t3]) fun t6 =>
 B5 PR X 240 [t0, t6] fun t7 =>
 R t7
theorem A14 : A9 PR 186 := A7 Tryz.func186 (by kernel_rfl) rfl
theorem B5L {X : Nat → Prop} {t0 t1 : Value} {R : Value → WP} {w : World} (h : A68 X t0 t1 R w) : Fn PR X 186 #[t0, t1] w R := C8 (args := [t0, t1]) mixed Tryz.func186 (by kernel_rfl) h
def A6D (X : Nat → Prop) (t0 t1 t2 : Value) (R : Value → WP) : WP :=
 A6 PR (Instr.loadAt 9 t1) fun t7 =>
 A6 PR (Instr.loadAt 84 t2) fun t8 =>
 A0 PR (A8 .len #[84] 0 [t8]) fun t9 =>
 B5 PR X 236 [t7, t9] fun t10 =>
 A6 PR (Instr.loadAt 84 t2) fun t11 =>
 A0 PR (A8 .len #[84] 0 [t11]) fun t12 =>
 lp (n := 1) (fun L1 t13 =>
 A0 PR (binOp .lss 3 t13 t12) fun t14 =>
 jn (n := 0) (
 jn (n := 0) (
 A0 PR (binOp .add 3 t13 (.int .i64 1)) fun t30 =>
 L1 t30) fun J2 =>
 A0 PR (binOp .add 3 t10 t13) fun t18 =>
 A6 PR (Instr.loadAt 84 t2) fun t19 =>
 A0 PR (A8 .len #[84] 0 [t19]) fun t20 =>
 A0 PR (binOp .rem 3 t18 t20) fun t21 =>
 A6 PR (Instr.loadAt 84 t2) fun t24 =>
 A0 PR (Instr.indexAt 84 t24 t21) fun t26 =>
 A6 PR (Instr.loadAt 218 t26) fun t27 =>
 L8 PR X t0 [t21, t27] fun t28 =>
 A0 PR (Op.unary .not t28) fun t29 =>
 C6 t29 (
 R (.tuple #[])) (
 J2)) fun J3 =>
 C6 t14 (
 J3) (
 R (.tuple #[]))) (.int .i64 0)
theorem B2s : A9 PR 235 := A7 Tryz.func235 (by kernel_rfl) rfl
theorem B32 {X : Nat → Prop} {t0 t1 t2 : Value} {R : Value → WP} {w : World} (h : A6D X t0 t1 t2 R w) : Fn PR X 235 #[t0, t1, t2] w R := C8 (args := [t0, t1, t2]) mixed Tryz.func235 (by kernel_rfl) h
theorem B34 {X : Nat → Prop} {t0 t1 t2 : Value} {K : Value → WP} {w : World} (h : Fn PR X 235 #[t0, t1, t2] w K) : A1v PR X 235 [t0, t1, t2] K w := ⟨B2s, h⟩
def A9L (X : Nat → Prop) (t0 t1 : Value) (R : Value → WP) : WP :=
 jn (n := 1) (fun t4 =>
 B5 PR X 135 [t0] fun t8 =>
 A0 PR (convert 3 89 t1) fun t10 =>
 A0 PR (binOp .rem 89 t8 t10) fun t11 =>
 A0 PR (convert 89 3 t11) fun t12 =>
 R t12) fun J1 =>
 A0 PR (binOp .lss 3 t1 (.int .i64 1)) fun t6 =>
 C6 t6 (
 R (.int .i64 0)) (
 J1 (.int .i64 0))
theorem B43 : A9 PR 236 := A7 Tryz.func236 (by kernel_rfl) rfl
theorem B6V {X : Nat → Prop} {t0 t1 : Value} {R : Value → WP} {w : World} (h : A9L X t0 t1 R w) : Fn PR X 236 #[t0, t1] w R := C8 (args := [t0, t1]) mixed Tryz.func236 (by kernel_rfl) h
def x4 (X : Nat → Prop) (t0 t1 : Value) (R : Value → WP) : WP :=
 jn (n := 2) (fun t5 t10 =>
 R t5) fun J1 =>
 A0 PR (A8 .len #[84] 0 [t0]) fun t9 =>
 lp (n := 2) (fun L2 t5_1 t10_1 =>
 A0 PR (binOp .lss 3 t10_1 t9) fun t11 =>
 jn (n := 0) (
 jn (n := 1) (fun t5_2 =>
 A0 PR (binOp .add 3 t10_1 (.int .i64 1)) fun t19 =>
 L2 t5_2 t19) fun J3 =>
 A0 PR (Instr.indexAt 84 t0 t10_1) fun t12 =>
 A6 PR (Instr.loadAt 218 t12) fun t13 =>
 B3 PR X (Instr.alloc 218 true (.tuple #[])) fun t7 =>
 C3 PR X (Instr.storeAt 218 t7 t13) <|
 A6 PR (Instr.loadAt 218 t7) fun t15 =>
 L8 PR X t1 [t15] fun t16 =>
 C6 t16 (
 A0 PR (binOp .add 3 t5_1 (.int .i64 1)) fun t18 =>
 J3 t18) (
 J3 t5_1)) fun J4 =>
 C6 t11 (
 J4) (
 J1 t5_1 t10_1)) (.int .i64 0) (.int .i64 0)
theorem A36 : A9 PR 240 := A7 Tryz.func240 (by kernel_rfl) rfl
theorem A4p {X : Nat → Prop} {t0 t1 : Value} {R : Value → WP} {w : World} (h : x4 X t0 t1 R w) : Fn PR X 240 #[t0, t1] w R := C8 (args := [t0, t1]) mixed Tryz.func240 (by kernel_rfl) h
def A34 (X : Nat → Prop) (t0 t1 : Value) (R : Value → WP) : WP :=
 B3 PR X (Instr.box 218 t0) fun t2 =>
 A0 PR (Instr.fieldAt 218 t2 0) fun t4 =>
 A6 PR (Instr.loadAt 3 t4) fun t5 =>
 A6 PR (Instr.loadAt 3 t1) fun t6 =>
 A0 PR (binOp .eql 3 t5 t6) fun t7 =>
 R t7
theorem B1V : A9 PR 241 := A7 Tryz.func241 (by kernel_rfl) rfl
theorem B1z {X : Nat → Prop} {t0 t1 : Value} {R : Value → WP} {w : World} (h : A34 X t0 t1 R w) : Fn PR X 241 #[t0, t1] w R := C8 (args := [t0, t1]) mixed Tryz.func241 (by kernel_rfl) h
def A9E (X : Nat → Prop) (t0 t1 : Value) (R : Value → WP) : WP :=
 B3 PR X (Instr.alloc 3 true (.tuple #[])) fun t4 =>
 jn (n := 0) (
 jn (n := 0) (
 C3 PR X (Instr.storeAt 3 t4 (.int .i64 (-1))) <|
 n0 (A6 PR (F5 [.c 3 t4]) R)) fun J1 =>
 B5 PR X 179 [t0, t1] fun t13 =>
 rng (N := 2) PR X (fun t14 t15 K2 =>
 B3 PR (fun _ => False) (Instr.alloc 218 true (.tuple #[])) fun t6 =>
 C3 PR (fun _ => False) (Instr.storeAt 218 t6 t15) <|
 bgn <|
 A0 PR (Instr.fieldAt 218 t6 0) fun t16 =>
 A6 PR (Instr.loadAt 3 t16) fun t17 =>
 A0 PR (binOp .neq 3 t17 (.int .i64 1)) fun t18 =>
 C6 t18 (
 C3 PR (fun _ => False) (Instr.storeAt 3 t4 t14) <|
 K2 (some .ret)) (
 K2 none)) t13 (fun j => match j with | none => (J1) | some (.exit i) => (match Nat.beq i 0 with | true => (J1) | false => (H5)) | some .ret => (n0 (A6 PR (F5 [.c 3 t4]) R)) | some _ => H5)) fun J3 =>
 B5 PR X 133 [t0, t1] fun t9 =>
 A0 PR (binOp .geq 3 t9 (.int .i64 0)) fun t10 =>
 C6 t10 (
 C3 PR X (Instr.storeAt 3 t4 (.int .i64 (-1))) <|
 n0 (A6 PR (F5 [.c 3 t4]) R)) (
 J3)
theorem B4w : A9 PR 242 := A7 Tryz.func242 (by kernel_rfl) rfl
theorem B6L {X : Nat → Prop} {t0 t1 : Value} {R : Value → WP} {w : World} (h : A9E X t0 t1 R w) : Fn PR X 242 #[t0, t1] w R := C8 (args := [t0, t1]) mixed Tryz.func242 (by kernel_rfl) h
end Go.Proofs.YtjobgnabneddjaaGreat
namespace Go.Proofs.YtjobgnabneddjaaGreat
open Go
def B3c (X : Nat → Prop) (t0 : Value) (R : Value → WP) : WP :=
 B5 PR X 183 [(.int .u64 14695981039346656037), t0] fun t4 =>
 R t4
theorem A0V : A9 PR 135 := A7 Tryz.func135 (by kernel_rfl) rfl
theorem C1S {X : Nat → Prop} {t0 : Value} {R : Value → WP} {w : World} (h : B3c X t0 R w) : Fn PR X 135 #[t0] w R := C8 (args := [t0]) mixed Tryz.func135 (by kernel_rfl) h
def B2J (X : Nat → Prop) (t0 t1 : Value) (R : Value → WP) : WP :=
 B3 PR X (Instr.alloc 368 true (.tuple #[])) fun t5 =>
 B3 PR X (Instr.alloc 370 true (.tuple #[])) fun t6 =>
 C3 PR X (Instr.storeAt 368 t5 (.func (.func 238) #[] #[])) <|
 C3 PR X (Instr.storeAt 370 t6 t0) <|
 jn (n := 0) (
 A6 PR (Instr.loadAt 370 t6) fun t16 =>
 n0 (R t16)) fun J1 =>
 B5 PR X 239 [t1] fun t10 =>
 rng (N := 1) PR X (fun t11 K2 =>
 bgn <|
 A6 PR (Instr.loadAt 368 t5) fun t12 =>
 A6 PR (Instr.loadAt 370 t6) fun t13 =>
 L8 PR (fun _ => False) t12 [t13, t11] fun t15 =>
 C3 PR (fun _ => False) (Instr.storeAt 370 t6 t15) <|
 K2 none) t10 (fun j => match j with | none => (J1) | some (.exit i) => (match Nat.beq i 0 with | true => (J1) | false => (H5)) | some .ret => (n0 (R (.int .u64 0))) | some _ => H5)
theorem B0P : A9 PR 183 := A7 Tryz.func183 (by kernel_rfl) rfl
theorem B9Y {X : Nat → Prop} {t0 t1 : Value} {R : Value → WP} {w : World} (h : B2J X t0 t1 R w) : Fn PR X 183 #[t0, t1] w R := C8 (args := [t0, t1]) mixed Tryz.func183 (by kernel_rfl) h
def A7K (X : Nat → Prop) (t0 t1 : Value) (R : Value → WP) : WP :=
 A0 PR (convert 5 370 t1) fun t7 =>
 A0 PR (binOp .xor 370 t0 t7) fun t8 =>
 A0 PR (binOp .mul 370 t8 (.int .u64 1099511628211)) fun t9 =>
 R t9
theorem B3Z : A9 PR 238 := A7 Tryz.func238 (by kernel_rfl) rfl
theorem B5B {X : Nat → Prop} {t0 t1 : Value} {R : Value → WP} {w : World} (h : A7K X t0 t1 R w) : Fn PR X 238 #[t0, t1] w R := C8 (args := [t0, t1]) mixed Tryz.func238 (by kernel_rfl) h
def B2W (X : Nat → Prop) (t0 : Value) (R : Value → WP) : WP :=
 B3 PR X (Instr.box 9 t0) fun t1 =>
 A0 PR (Instr.makeFunc (.func 268) #[] #[t1]) fun t3 =>
 R t3
theorem B7H : A9 PR 239 := A7 Tryz.func239 (by kernel_rfl) rfl
theorem B9l {X : Nat → Prop} {t0 : Value} {R : Value → WP} {w : World} (h : B2W X t0 R w) : Fn PR X 239 #[t0] w R := C8 (args := [t0]) mixed Tryz.func239 (by kernel_rfl) h
def A6v (X : Nat → Prop) (t0 t1 : Value) (R : Value → WP) : WP :=
 A6 PR (Instr.loadAt 9 t1) fun t4 =>
 A0 PR (A8 .len #[9] 0 [t4]) fun t5 =>
 lp (n := 1) (fun L1 t6 =>
 A0 PR (binOp .lss 3 t6 t5) fun t7 =>
 jn (n := 0) (
 jn (n := 0) (
 A0 PR (binOp .add 3 t6 (.int .i64 1)) fun t15 =>
 L1 t15) fun J2 =>
 A6 PR (Instr.loadAt 9 t1) fun t10 =>
 A0 PR (Instr.index 9 t10 t6) fun t12 =>
 L8 PR X t0 [t12] fun t13 =>
 A0 PR (Op.unary .not t13) fun t14 =>
 C6 t14 (
 R (.tuple #[])) (
 J2)) fun J3 =>
 C6 t7 (
 J3) (
 R (.tuple #[]))) (.int .i64 0)
theorem B4S : A9 PR 268 := A7 Tryz.func268 (by kernel_rfl) rfl
theorem B5H {X : Nat → Prop} {t0 t1 : Value} {R : Value → WP} {w : World} (h : A6v X t0 t1 R w) : Fn PR X 268 #[t0, t1] w R := C8 (args := [t0, t1]) mixed Tryz.func268 (by kernel_rfl) h
theorem B5Y {X : Nat → Prop} {t0 t1 : Value} {K : Value → WP} {w : World} (h : Fn PR X 268 #[t0, t1] w K) : A1v PR X 268 [t0, t1] K w := ⟨B4S, h⟩
end Go.Proofs.YtjobgnabneddjaaGreat
namespace Go.Proofs.YtjobgnabneddjaaGreat
open Go
def B5K (h b : Nat) : Nat := ((h ^^^ b) * 1099511628211) % 18446744073709551616
def B5g (h : Nat) (s : ByteArray) : Nat → Nat
 | 0 => h
 | i + 1 => B5K (B5g h s i) (G3 s i)
def C01 (h : Nat) (s : ByteArray) : Nat := B5g h s s.size
def c7 (s : ByteArray) : Nat := C01 14695981039346656037 s
theorem C7r (h b : Nat) : B5K h b < 2 ^ 64 := by unfold B5K; omega
theorem B9y {h : Nat} (hh : h < 2 ^ 64) (s : ByteArray) (i : Nat) : B5g h s i < 2 ^ 64 := by
 cases i with
 | zero => exact hh
 | succ i => exact C7r _ _
theorem D1f (w : World) (h b : Nat) (hh : h < 2 ^ 64) (hb : b < 256) : Fn PR C0 238 #[.int .u64 (h : Int), .int .u8 (b : Int)] w (fun v w' => v = .int .u64 (B5K h b : Nat) ∧ D2 [] w w') := by
 refine Fn.pure (B5B (TW.go (κ := false) (S := []) ?_))
 unfold A7K
 (have zz:=trivial;repeat((first|clear zz|with_reducible first|refine A3 ?_|refine A5 fun _=>?_|refine A4 fun _=>?_);try simp(disch:=first|omega|assumption|((repeat(first|exact A1|exact uH|apply A2|apply uT));first|done|fail)|(simp;first|done|omega|fail))[]))
 have e1 : (h % 2 ^ IntKind.u64.bits ^^^ b % 2 ^ IntKind.u64.bits) = h ^^^ b := by rw [show (2 : Nat) ^ IntKind.u64.bits = 2 ^ 64 from rfl, Nat.mod_eq_of_lt hh, Nat.mod_eq_of_lt (by omega)]
 have e2 : h ^^^ b < 2 ^ 64 := Nat.xor_lt_two_pow hh (by omega)
 rw [e1, A2g (n := ((h ^^^ b : Nat) : Int)) (by omega) (by omega)]
 refine B0 ?_
 have e3 : IntKind.u64.wrap (((h ^^^ b : Nat) : Int) * 1099511628211) = (B5K h b : Nat) := by
  simp only [IntKind.wrap, IntKind.bits, IntKind.signed, B5K]
  simp
 rw [e3]
abbrev C61 (b : Nat) : Value := .func (.func 268) #[] #[.pointer (some ⟨b, 0, none⟩)]
theorem C7N (w : World) (s : ByteArray) : Fn PR C0 239 #[.string s] w (Rn [] w (fun b v => v = C61 b) fun b => [.pt b (.cells #[.string s] 9)]) := by
 refine B9l (TW.go (κ := false) (S := []) ?_)
 unfold B2W
 (have zz:=trivial;repeat((first|clear zz|with_reducible first|refine A3 ?_|refine A5 fun _=>?_|refine A4 fun _=>?_);try simp(disch:=first|omega|assumption|((repeat(first|exact A1|exact uH|apply A2|apply uT));first|done|fail)|(simp;first|done|omega|fail))[]))
 rename_i b
 exact m7 b rfl (by simp)
def B7G (s : ByteArray) (i : Nat) : List Value := [.int .u8 (G3 s i : Nat)]
theorem C7E (b : Nat) (s : ByteArray) (hs : s.size < 2 ^ 60) : A5y (C61 b) [.pt b (.cells #[.string s] 9)] (fun _ _ => True) ((List.range s.size).map (B7G s)) := by
 refine ⟨_, _, _, rfl, fun l J E hJ hE stJ stE hy w0 h0 => ?_⟩
 refine B5Y (B5H (TW.at (κ := true) ?_ (hJ _ _ _ h0).1))
 unfold A6v
 (have zz:=trivial;repeat((first|clear zz|with_reducible first|refine A3 ?_|refine A5 fun _=>?_|refine A4 fun _=>?_);try simp(disch:=first|omega|assumption|((repeat(first|exact A1|exact uH|apply A2|apply uT));first|done|fail)|(simp;first|done|omega|fail))[]))
 refine A4g s.size (fun i => i) (fun _ => _) hJ stJ h0 fun i a hi hJi _ L hL => ?_
 by_cases hlt : i < s.size
 ·obtain ⟨by0, hb0, hb1⟩ := A0u (s := s) (i := i) hlt
  have hb0' : s[((i : Nat) : Int).toNat]? = some by0 := by rw [Int.toNat_natCast]; exact hb0
  (have zz:=trivial;repeat((first|clear zz|with_reducible first|refine A3 ?_|refine A5 fun _=>?_|refine A4 fun _=>?_);try simp(disch:=first|omega|assumption|((repeat(first|exact A1|exact uH|apply A2|apply uT));first|done|fail)|(simp;first|done|omega|fail))[hlt, g6]))
  rw [hb1]
  refine A8D hJ hE stJ hy hJi (by simpa using hlt) (by simp [B7G]) (fun w3 h => ?_) (fun w3 h => ?_)
  ·(have zz:=trivial;repeat((first|clear zz|with_reducible first|refine A3 ?_|refine A5 fun _=>?_|refine A4 fun _=>?_);try simp(disch:=first|omega|assumption|((repeat(first|exact A1|exact uH|apply A2|apply uT));first|done|fail)|(simp;first|done|omega|fail))[]))
   exact fun w' hw' => hL hlt w' (stJ _ _ _ _ _ h hw')
  ·(have zz:=trivial;repeat((first|clear zz|with_reducible first|refine A3 ?_|refine A5 fun _=>?_|refine A4 fun _=>?_);try simp(disch:=first|omega|assumption|((repeat(first|exact A1|exact uH|apply A2|apply uT));first|done|fail)|(simp;first|done|omega|fail))[]))
   exact A4z stE h
 ·obtain rfl : i = s.size := by omega
  (have zz:=trivial;repeat((first|clear zz|with_reducible first|refine A3 ?_|refine A5 fun _=>?_|refine A4 fun _=>?_);try simp(disch:=first|omega|assumption|((repeat(first|exact A1|exact uH|apply A2|apply uT));first|done|fail)|(simp;first|done|omega|fail))[]))
  exact A4v stJ (by simpa using hJi)
theorem B92 (w : World) (h : Nat) (s : ByteArray) (hh : h < 2 ^ 64) (hs : s.size < 2 ^ 60) : Fn PR C0 183 #[.int .u64 (h : Int), .string s] w (fun v w' => v = .int .u64 (C01 h s : Nat) ∧ D2 [] w w') := by
 refine Fn.pure (B9Y (TW.go (κ := false) (S := []) ?_))
 unfold B2J
 (have zz:=trivial;repeat((first|clear zz|with_reducible first|refine A3 ?_|refine A5 fun _=>?_|refine A4 fun _=>?_);try simp(disch:=first|omega|assumption|((repeat(first|exact A1|exact uH|apply A2|apply uT));first|done|fail)|(simp;first|done|omega|fail))[]))
 rename_i bf bx
 refine G4 B7H (fun w' _ => C7N w' s) ?_
 rintro b v rfl
 refine A4H (C7E b s hs) (by simp [B7G]) (fun _ (_ : Unit) => True) (fun i _ => [.pt bx (.cells #[.int .u64 ((B5g h s i : Nat) : Int)] 370), .pt bf (.cells #[.func (.func 238) #[] #[]] 368)])
  (fun _ (_ : Unit) => False) (fun _ => []) () trivial ?_ ?_ ?_ ?_ (by simp [B5g])
 ·intros; trivial
 ·rintro i hi _ F _ K' hK _
  simp only [List.getElem_map, List.getElem_range, B7G, VF.app]
  (have zz:=trivial;repeat((first|clear zz|with_reducible first|refine A3 ?_|refine A5 fun _=>?_|refine A4 fun _=>?_);try simp(disch:=first|omega|assumption|((repeat(first|exact A1|exact uH|apply A2|apply uT));first|done|fail)|(simp;first|done|omega|fail))[]))
  refine C4 B3Z (fun w' _ => D1f w' _ _ (B9y hh s i) (A1F s i)) ?_
  (have zz:=trivial;repeat((first|clear zz|with_reducible first|refine A3 ?_|refine A5 fun _=>?_|refine A4 fun _=>?_);try simp(disch:=first|omega|assumption|((repeat(first|exact A1|exact uH|apply A2|apply uT));first|done|fail)|(simp;first|done|omega|fail))[]))
  exact TW.eqH (by simp [B5g]) (hK () trivial)
 ·rintro _ _
  (have zz:=trivial;repeat((first|clear zz|with_reducible first|refine A3 ?_|refine A5 fun _=>?_|refine A4 fun _=>?_);try simp(disch:=first|omega|assumption|((repeat(first|exact A1|exact uH|apply A2|apply uT));first|done|fail)|(simp;first|done|omega|fail))[]))
  exact B0 (by simp [C01])
 ·rintro _ _ h; exact h.elim
theorem A3N (w : World) (s : ByteArray) (hs : s.size < 2 ^ 60) : Fn PR C0 135 #[.string s] w (fun v w' => v = .int .u64 (c7 s : Nat) ∧ D2 [] w w') := by
 refine Fn.pure (C1S (TW.go (κ := false) (S := []) ?_))
 unfold B3c
 refine C4 B0P (fun w' _ => B92 w' 14695981039346656037 s (by omega) hs) ?_
 exact B0 rfl
end Go.Proofs.YtjobgnabneddjaaGreat
namespace Go.Proofs.YtjobgnabneddjaaGreat
open Go
def Q0 (key : ByteArray) (n : Nat) : Nat := c7 key % n
theorem B5D (s : ByteArray) : c7 s < 2 ^ 64 := B9y (by omega) s _
theorem C7e (w : World) (key : ByteArray) (n : Nat) (hk : key.size < 2 ^ 60) (hn : n ≤ 1000000) : Fn PR C0 236 #[.string key, .int .i64 (n : Int)] w (fun v w' => v = .int .i64 (if n = 0 then 0 else Q0 key n : Nat) ∧ D2 [] w w') := by
 refine Fn.pure (B6V (TW.go (κ := false) (S := []) ?_))
 unfold A9L
 by_cases c1 : n = 0
 ·have c1' : (n : Int) < 1 := by omega
  (have zz:=trivial;repeat((first|clear zz|with_reducible first|refine A3 ?_|refine A5 fun _=>?_|refine A4 fun _=>?_);try simp(disch:=first|omega|assumption|((repeat(first|exact A1|exact uH|apply A2|apply uT));first|done|fail)|(simp;first|done|omega|fail))[c1']))
  exact B0 (by simp [c1])
 have c1' : ¬ (n : Int) < 1 := by omega
 have c1'' : ¬ (n : Int) = 0 := by omega
 (have zz:=trivial;repeat((first|clear zz|with_reducible first|refine A3 ?_|refine A5 fun _=>?_|refine A4 fun _=>?_);try simp(disch:=first|omega|assumption|((repeat(first|exact A1|exact uH|apply A2|apply uT));first|done|fail)|(simp;first|done|omega|fail))[c1']))
 refine C4 A0V (fun w' _ => A3N w' key hk) ?_
 have hl := B5D key
 have hm : Q0 key n < n := Nat.mod_lt _ (by omega)
 have e1 : ((c7 key : Nat) : Int).tmod n = (Q0 key n : Nat) := by unfold Q0; rw [Int.tmod_eq_emod_of_nonneg (by omega)]; omega
 have e2 : ((c7 key : Nat) : Int) % n = (Q0 key n : Nat) := by unfold Q0; omega
 (have zz:=trivial;repeat((first|clear zz|with_reducible first|refine A3 ?_|refine A5 fun _=>?_|refine A4 fun _=>?_);try simp(disch:=first|omega|assumption|((repeat(first|exact A1|exact uH|apply A2|apply uT));first|done|fail)|(simp;first|done|omega|fail))[c1'', e1, A37]))
 exact B0 (by simp [c1])
def noE : EnV := ⟨0, H4, 0, 0⟩
def W5 (l : List EnV) (key : ByteArray) : List (Nat × EnV) := (List.range l.length).map fun i => ((Q0 key l.length + i) % l.length, l.getD ((Q0 key l.length + i) % l.length) noE)
def A8E (p : Nat × EnV) : List Value := [.int .i64 (p.1 : Nat), .agg #[.int .i64 p.2.st, .string p.2.key, .int .i64 p.2.bk, .int .i64 p.2.dl]]
abbrev C8v (x : Nat × Nat) : Value := .func (.func 235) #[] #[.pointer (some ⟨x.1, 0, none⟩), .pointer (some ⟨x.2, 0, none⟩)]
abbrev B78 (x : Nat × Nat) (v : Value) (key : ByteArray) : List Res := [.pt x.1 (.cells #[.string key] 9), .pt x.2 (.cells #[v] 84)]
theorem C3y (w : World) (v : Value) (key : ByteArray) (hv : ∃ a n c, v = .slice a n c) : Fn PR C0 179 #[v, .string key] w (Rn [] w (fun x u => u = C8v x) fun x => B78 x v key) := by
 obtain ⟨a, n, c, rfl⟩ := hv
 refine B8d (TW.go (κ := false) (S := []) ?_)
 unfold B1Q
 (have zz:=trivial;repeat((first|clear zz|with_reducible first|refine A3 ?_|refine A5 fun _=>?_|refine A4 fun _=>?_);try simp(disch:=first|omega|assumption|((repeat(first|exact A1|exact uH|apply A2|apply uT));first|done|fail)|(simp;first|done|omega|fail))[]))
 rename_i b1 b2
 exact B1 (b2, b1) rfl (by (repeat' constructor))
def RqS (v : Value) (n : Nat) (xs : List Value) (F : List Res) (w : World) : Prop := ∃ a c, v = .slice a n c ∧ (0 < n → ∃ b o, a = some ⟨b, o, none⟩ ∧ N8 w b o xs ∧ b ∉ B6 F)
theorem RqS.of {v : Value} {n : Nat} {xs : List Value} {w0 w : World} {A F : List Res} (h : F9 w0 v n xs) (hx : 0 < n → 0 < xs.length) (hw : LW false [] w0 (A ++ F) w) : RqS v n xs F w := by
 obtain ⟨a, c, rfl, hr⟩ := h.form
 refine ⟨a, c, rfl, fun hn => ?_⟩
 obtain ⟨b, o, rfl, hrow⟩ := hr hn
 refine ⟨b, o, rfl, hw.ks.row (by simp) hrow, hw.notin_old ?_ (by simp)⟩
 have h0 := hrow 0 (hx hn)
 rw [List.getElem?_eq_getElem (hx hn)] at h0
 obtain ⟨c', t', z', h1, h2⟩ := n4 h0
 exact L0 h1
theorem y6 (l : List EnV) : (l.flatMap F6).length = l.length * 4 := by
 induction l with
 | nil => rfl
 | cons x l ih => rw [List.flatMap_cons, List.length_append, ih]; simp [F6]; omega
theorem C30 (x : Nat × Nat) (v : Value) (l : List EnV) (key : ByteArray) (hk : key.size < 2 ^ 60) (hn : l.length ≤ 1000000) : A5y (C8v x) (B78 x v key) (RqS v l.length (l.flatMap F6)) ((W5 l key).map A8E) := by
 obtain ⟨bk, bt⟩ := x
 refine ⟨_, _, _, rfl, fun y J E hJ hE stJ stE hy w0 h0 => ?_⟩
 obtain ⟨a, c, hv, hr⟩ := (hJ _ _ _ h0).2
 subst hv
 refine B34 (B32 (TW.at (κ := true) ?_ (hJ _ _ _ h0).1))
 unfold A6D
 simp only [B78]
 (have zz:=trivial;repeat((first|clear zz|with_reducible first|refine A3 ?_|refine A5 fun _=>?_|refine A4 fun _=>?_);try simp(disch:=first|omega|assumption|((repeat(first|exact A1|exact uH|apply A2|apply uT));first|done|fail)|(simp;first|done|omega|fail))[]))
 refine C4 B43 (fun w' _ => C7e w' key l.length hk hn) ?_
 (have zz:=trivial;repeat((first|clear zz|with_reducible first|refine A3 ?_|refine A5 fun _=>?_|refine A4 fun _=>?_);try simp(disch:=first|omega|assumption|((repeat(first|exact A1|exact uH|apply A2|apply uT));first|done|fail)|(simp;first|done|omega|fail))[]))
 refine A4g l.length (fun i => i) (fun _ => _) hJ stJ h0 fun i a' hi hJi hRi L hL => ?_
 by_cases hlt : i < l.length
 ·obtain ⟨_, _, hv, hr⟩ := hRi
  obtain ⟨b, o, hb, hrow, hnb⟩ := hr (by omega)
  cases hv
  have hh : Q0 key l.length < l.length := Nat.mod_lt _ (by omega)
  have e0 : (if l.length = 0 then 0 else Q0 key l.length) = Q0 key l.length := if_neg (by omega)
  have hj : (Q0 key l.length + i) % l.length < l.length := Nat.mod_lt _ (by omega)
  have hx : l[(Q0 key l.length + i) % l.length]? = some (l.getD ((Q0 key l.length + i) % l.length) noE) := by
   rw [List.getD_eq_getElem?_getD, List.getElem?_eq_getElem hj]; rfl
  have h1 := hrow.at (f := F6) (k := 4) (fun _ => rfl) hx
  have e1 : (((Q0 key l.length : Nat) : Int) + (i : Nat)).tmod l.length = ((Q0 key l.length + i) % l.length : Nat) := by rw [Int.tmod_eq_emod_of_nonneg (by omega), Int.natCast_emod, Int.natCast_add]
  have hwi : ∀ h, ((W5 l key).map A8E)[i]'h = A8E ((Q0 key l.length + i) % l.length, l.getD ((Q0 key l.length + i) % l.length) noE) := by
   intro h; simp only [List.getElem_map, W5, List.getElem_range]
  generalize hjd : (Q0 key l.length + i) % l.length = j at *
  generalize hxd : l.getD j noE = x at *
  rw [F6] at h1
  have hnz : ¬ (l.length : Int) = 0 := by omega
  subst hb
  rw [e0]
  (have zz:=trivial;repeat((first|clear zz|with_reducible first|refine A3 ?_|refine A5 fun _=>?_|refine A4 fun _=>?_);try simp(disch:=first|omega|assumption|((repeat(first|exact A1|exact uH|apply A2|apply uT));first|done|fail)|(simp;first|done|omega|fail))[hlt, e1, h1, hnz, A37]))
  refine A8D hJ hE stJ hy hJi (by simpa [W5] using hlt) (hwi _) (fun w3 h => ?_) (fun w3 h => ?_)
  ·(have zz:=trivial;repeat((first|clear zz|with_reducible first|refine A3 ?_|refine A5 fun _=>?_|refine A4 fun _=>?_);try simp(disch:=first|omega|assumption|((repeat(first|exact A1|exact uH|apply A2|apply uT));first|done|fail)|(simp;first|done|omega|fail))[]))
   exact fun w' hw' => hL hlt w' (stJ _ _ _ _ _ h hw')
  ·(have zz:=trivial;repeat((first|clear zz|with_reducible first|refine A3 ?_|refine A5 fun _=>?_|refine A4 fun _=>?_);try simp(disch:=first|omega|assumption|((repeat(first|exact A1|exact uH|apply A2|apply uT));first|done|fail)|(simp;first|done|omega|fail))[]))
   exact A4z stE h
 ·obtain rfl : i = l.length := by omega
  (have zz:=trivial;repeat((first|clear zz|with_reducible first|refine A3 ?_|refine A5 fun _=>?_|refine A4 fun _=>?_);try simp(disch:=first|omega|assumption|((repeat(first|exact A1|exact uH|apply A2|apply uT));first|done|fail)|(simp;first|done|omega|fail))[]))
  exact A4v stJ (by simpa [W5] using hJi)
def M4 (key : ByteArray) : List (Nat × EnV) → Int
 | [] => -1
 | p :: r => if p.2.st = 0 then -1 else if p.2.st = 1 ∧ p.2.key = key then p.1 else M4 key r
def F2 (l : List EnV) (key : ByteArray) : Int := M4 key (W5 l key)
theorem C0T {α : Type} {l : List α} {i : Nat} (h : i < l.length) : l.drop i = l[i] :: l.drop (i + 1) := List.drop_eq_getElem_cons h
theorem B26 (L : List (Nat × EnV)) : ∀ x ∈ L.map A8E, x.length = 2 := by
 intro x hx; obtain ⟨p, _, rfl⟩ := List.mem_map.1 hx; rfl
theorem v8 (w : World) (v : Value) (l : List EnV) (key : ByteArray) (hk : key.size < 2 ^ 60) (hn : l.length ≤ 1000000) (hv : F9 w v l.length (l.flatMap F6)) :
  Fn PR C0 133 #[v, .string key] w (fun r w' => r = .int .i64 (F2 l key) ∧ D2 [] w w') := by
 refine Fn.pure (B6g (TW.go (κ := false) (S := []) ?_))
 unfold A9V
 (have zz:=trivial;repeat((first|clear zz|with_reducible first|refine A3 ?_|refine A5 fun _=>?_|refine A4 fun _=>?_);try simp(disch:=first|omega|assumption|((repeat(first|exact A1|exact uH|apply A2|apply uT));first|done|fail)|(simp;first|done|omega|fail))[]))
 rename_i bk bf
 refine G4 A9a (fun w' _ => C3y w' v key (by obtain ⟨a, c, rfl, _⟩ := hv.form; exact ⟨a, _, c, rfl⟩)) ?_
 rintro x u rfl
 refine A4H (C30 x v l key hk hn) (B26 _) (fun i (_ : Unit) => M4 key ((W5 l key).drop i) = F2 l key) (fun _ _ => [.pt bf (.cells #[.int .i64 (-1)] 3), .pt bk (.cells #[.string key] 9)])
  (fun c (y : Unit) => c = .exit 0) (fun y => [.pt bf (.cells #[.int .i64 (F2 l key)] 3)]) () rfl ?_ ?_ ?_ ?_ (by simp [B78])
 ·intro i _ F w1 _ hw
  exact RqS.of hv (fun h => by rw [y6]; omega) hw
 ·rintro i hi _ F hψ K' hK hE
  have hi' : i < (W5 l key).length := by simpa using hi
  rw [C0T hi'] at hψ
  simp only [List.getElem_map]
  generalize (W5 l key)[i] = p at *
  simp only [A8E, VF.app]
  by_cases c0 : p.2.st = 0
  ·(have zz:=trivial;repeat((first|clear zz|with_reducible first|refine A3 ?_|refine A5 fun _=>?_|refine A4 fun _=>?_);try simp(disch:=first|omega|assumption|((repeat(first|exact A1|exact uH|apply A2|apply uT));first|done|fail)|(simp;first|done|omega|fail))[c0]))
   refine TW.sub (hE (.exit 0) () rfl) ?_
   rw [← hψ]
   simp only [M4, c0, if_true]
   ((try simp only [List.cons_append, List.nil_append, List.append_assoc]); (repeat (first | exact List.Sublist.refl _ | exact List.nil_sublist _ | with_reducible apply List.Sublist.cons_cons | apply List.Sublist.cons)); first | done | fail)
  by_cases c1 : p.2.st = 1
  ·by_cases c2 : p.2.key = key
   ·(have zz:=trivial;repeat((first|clear zz|with_reducible first|refine A3 ?_|refine A5 fun _=>?_|refine A4 fun _=>?_);try simp(disch:=first|omega|assumption|((repeat(first|exact A1|exact uH|apply A2|apply uT));first|done|fail)|(simp;first|done|omega|fail))[c0, c1, c2]))
    refine TW.sub (hE (.exit 0) () rfl) ?_
    rw [← hψ]
    simp [M4, c1, c2]
    ((try simp only [List.cons_append, List.nil_append, List.append_assoc]); (repeat (first | exact List.Sublist.refl _ | exact List.nil_sublist _ | with_reducible apply List.Sublist.cons_cons | apply List.Sublist.cons)); first | done | fail)
   ·(have zz:=trivial;repeat((first|clear zz|with_reducible first|refine A3 ?_|refine A5 fun _=>?_|refine A4 fun _=>?_);try simp(disch:=first|omega|assumption|((repeat(first|exact A1|exact uH|apply A2|apply uT));first|done|fail)|(simp;first|done|omega|fail))[c0, c1, c2]))
    refine TW.sub (hK () ?_) (by ((try simp only [List.cons_append, List.nil_append, List.append_assoc]); (repeat (first | exact List.Sublist.refl _ | exact List.nil_sublist _ | with_reducible apply List.Sublist.cons_cons | apply List.Sublist.cons)); first | done | fail))
    rw [← hψ]
    simp [M4, c1, c2]
  ·(have zz:=trivial;repeat((first|clear zz|with_reducible first|refine A3 ?_|refine A5 fun _=>?_|refine A4 fun _=>?_);try simp(disch:=first|omega|assumption|((repeat(first|exact A1|exact uH|apply A2|apply uT));first|done|fail)|(simp;first|done|omega|fail))[c0, c1]))
   refine TW.sub (hK () ?_) (by ((try simp only [List.cons_append, List.nil_append, List.append_assoc]); (repeat (first | exact List.Sublist.refl _ | exact List.nil_sublist _ | with_reducible apply List.Sublist.cons_cons | apply List.Sublist.cons)); first | done | fail))
   rw [← hψ]
   simp [M4, c0, c1]
 ·intro _ hψ
  (have zz:=trivial;repeat((first|clear zz|with_reducible first|refine A3 ?_|refine A5 fun _=>?_|refine A4 fun _=>?_);try simp(disch:=first|omega|assumption|((repeat(first|exact A1|exact uH|apply A2|apply uT));first|done|fail)|(simp;first|done|omega|fail))[]))
  simp only [List.length_map, List.drop_length, M4] at hψ
  exact B0 (by rw [← hψ])
 ·rintro _ _ rfl
  (have zz:=trivial;repeat((first|clear zz|with_reducible first|refine A3 ?_|refine A5 fun _=>?_|refine A4 fun _=>?_);try simp(disch:=first|omega|assumption|((repeat(first|exact A1|exact uH|apply A2|apply uT));first|done|fail)|(simp;first|done|omega|fail))[]))
  exact B0 rfl
def Q8 : List (Nat × EnV) → Int
 | [] => -1
 | p :: r => if p.2.st = 1 then Q8 r else p.1
def d7 (l : List EnV) (key : ByteArray) : Int := if 0 ≤ F2 l key then -1 else Q8 (W5 l key)
theorem B7a (w : World) (v : Value) (l : List EnV) (key : ByteArray) (hk : key.size < 2 ^ 60) (hn : l.length ≤ 1000000) (hv : F9 w v l.length (l.flatMap F6)) :
  Fn PR C0 242 #[v, .string key] w (fun r w' => r = .int .i64 (d7 l key) ∧ D2 [] w w') := by
 refine Fn.pure (B6L (TW.go (κ := false) (S := []) ?_))
 unfold A9E
 (have zz:=trivial;repeat((first|clear zz|with_reducible first|refine A3 ?_|refine A5 fun _=>?_|refine A4 fun _=>?_);try simp(disch:=first|omega|assumption|((repeat(first|exact A1|exact uH|apply A2|apply uT));first|done|fail)|(simp;first|done|omega|fail))[]))
 rename_i bf
 refine C4 m6 (fun w' hw' => v8 w' v l key hk hn (hv.ks hw'.ks (by simp))) ?_
 by_cases c1 : 0 ≤ F2 l key
 ·(have zz:=trivial;repeat((first|clear zz|with_reducible first|refine A3 ?_|refine A5 fun _=>?_|refine A4 fun _=>?_);try simp(disch:=first|omega|assumption|((repeat(first|exact A1|exact uH|apply A2|apply uT));first|done|fail)|(simp;first|done|omega|fail))[c1]))
  exact B0 (by simp [d7, c1])
 have e1 : d7 l key = Q8 (W5 l key) := if_neg c1
 (have zz:=trivial;repeat((first|clear zz|with_reducible first|refine A3 ?_|refine A5 fun _=>?_|refine A4 fun _=>?_);try simp(disch:=first|omega|assumption|((repeat(first|exact A1|exact uH|apply A2|apply uT));first|done|fail)|(simp;first|done|omega|fail))[c1]))
 refine G4 A9a (fun w' _ => C3y w' v key (by obtain ⟨a, c, rfl, _⟩ := hv.form; exact ⟨a, _, c, rfl⟩)) ?_
 rintro x u rfl
 refine A4H (C30 x v l key hk hn) (B26 _) (fun i (_ : Unit) => Q8 ((W5 l key).drop i) = d7 l key) (fun _ _ => [.pt bf (.cells #[.int .i64 0] 3)])
  (fun c (y : Unit) => c = .ret) (fun y => [.pt bf (.cells #[.int .i64 (d7 l key)] 3)]) () (by rw [List.drop_zero, e1]) ?_ ?_ ?_ ?_ (by simp [B78])
 ·intro i _ F w1 _ hw
  exact RqS.of hv (fun h => by rw [y6]; omega) hw
 ·rintro i hi _ F hψ K' hK hE
  have hi' : i < (W5 l key).length := by simpa using hi
  rw [C0T hi'] at hψ
  simp only [List.getElem_map]
  generalize (W5 l key)[i] = p at *
  simp only [A8E, VF.app]
  by_cases c1 : p.2.st = 1
  ·(have zz:=trivial;repeat((first|clear zz|with_reducible first|refine A3 ?_|refine A5 fun _=>?_|refine A4 fun _=>?_);try simp(disch:=first|omega|assumption|((repeat(first|exact A1|exact uH|apply A2|apply uT));first|done|fail)|(simp;first|done|omega|fail))[c1]))
   refine TW.sub (hK () ?_) (by ((try simp only [List.cons_append, List.nil_append, List.append_assoc]); (repeat (first | exact List.Sublist.refl _ | exact List.nil_sublist _ | with_reducible apply List.Sublist.cons_cons | apply List.Sublist.cons)); first | done | fail))
   rw [← hψ]
   simp [Q8, c1]
  ·(have zz:=trivial;repeat((first|clear zz|with_reducible first|refine A3 ?_|refine A5 fun _=>?_|refine A4 fun _=>?_);try simp(disch:=first|omega|assumption|((repeat(first|exact A1|exact uH|apply A2|apply uT));first|done|fail)|(simp;first|done|omega|fail))[c1]))
   refine TW.sub (hE .ret () rfl) ?_
   rw [← hψ]
   simp only [Q8, c1, if_false]
   ((try simp only [List.cons_append, List.nil_append, List.append_assoc]); (repeat (first | exact List.Sublist.refl _ | exact List.nil_sublist _ | with_reducible apply List.Sublist.cons_cons | apply List.Sublist.cons)); first | done | fail)
 ·intro _ hψ
  (have zz:=trivial;repeat((first|clear zz|with_reducible first|refine A3 ?_|refine A5 fun _=>?_|refine A4 fun _=>?_);try simp(disch:=first|omega|assumption|((repeat(first|exact A1|exact uH|apply A2|apply uT));first|done|fail)|(simp;first|done|omega|fail))[]))
  simp only [List.length_map, List.drop_length, Q8] at hψ
  exact B0 (by rw [← hψ])
 ·rintro _ _ rfl
  (have zz:=trivial;repeat((first|clear zz|with_reducible first|refine A3 ?_|refine A5 fun _=>?_|refine A4 fun _=>?_);try simp(disch:=first|omega|assumption|((repeat(first|exact A1|exact uH|apply A2|apply uT));first|done|fail)|(simp;first|done|omega|fail))[]))
  exact B0 rfl
theorem C0w (w : World) (x : EnV) (st : Int) (b : Nat) (hb : w.cell? ⟨b, 0, none⟩ = some (.int .i64 st)) : Fn PR C0 241 #[.agg #[.int .i64 x.st, .string x.key, .int .i64 x.bk, .int .i64 x.dl], .pointer (some ⟨b, 0, none⟩)] w (fun r w' => r = .bool (decide (x.st = st)) ∧ D2 [] w w') := by
 refine Fn.pure (B1z (TW.go (κ := false) (S := []) ?_))
 unfold A34
 (have zz:=trivial;repeat((first|clear zz|with_reducible first|refine A3 ?_|refine A5 fun _=>?_|refine A4 fun _=>?_);try simp(disch:=first|omega|assumption|((repeat(first|exact A1|exact uH|apply A2|apply uT));first|done|fail)|(simp;first|done|omega|fail))[hb]))
 exact B0 rfl
def U1 (l : List EnV) (st : Int) : Nat := l.countP fun x => decide (x.st = st)
theorem B87 {α : Type} {p : α → Bool} {l : List α} {i : Nat} {x : α} (hx : l[i]? = some x) : (l.take (i + 1)).countP p = (l.take i).countP p + if p x then 1 else 0 := by
 rw [List.take_add_one, hx, List.countP_append]; simp [List.countP_cons]
theorem C4l (w : World) (v : Value) (l : List EnV) (p : EnV → Bool) (f : FuncId) (cap : List Value) (hn : l.length ≤ 1000000) (hv : F9 w v l.length (l.flatMap F6)) (he : A9 PR f)
  (hf : ∀ w', KS false [] w w' → ∀ x : EnV, Fn PR C0 f (.agg #[.int .i64 x.st, .string x.key, .int .i64 x.bk, .int .i64 x.dl] :: cap).toArray w' (fun r w'' => r = .bool (p x) ∧ D2 [] w' w'')) :
  Fn PR C0 240 #[v, .func (.func f) #[] cap.toArray] w (fun r w' => r = .int .i64 (l.countP p : Nat) ∧ D2 [] w w') := by
 refine Fn.pure (A4p (TW.go (κ := false) (S := []) ?_))
 unfold x4
 obtain ⟨a, c, rfl, hr⟩ := hv.form
 (have zz:=trivial;repeat((first|clear zz|with_reducible first|refine A3 ?_|refine A5 fun _=>?_|refine A4 fun _=>?_);try simp(disch:=first|omega|assumption|((repeat(first|exact A1|exact uH|apply A2|apply uT));first|done|fail)|(simp;first|done|omega|fail))[]))
 refine w7 (α := Unit) l.length (fun i _ => .int .i64 ((l.take i).countP p : Nat)) (fun _ _ => []) (fun i _ => True) () trivial ?_
 rintro i _ hi _ L hL
 by_cases hlt : i < l.length
 ·obtain ⟨b, o, rfl, hrow⟩ := hr (by omega)
  obtain ⟨x, hx⟩ : ∃ x, l[i]? = some x := ⟨_, List.getElem?_eq_getElem (by omega)⟩
  have h1 := hrow.at (f := F6) (k := 4) (fun _ => rfl) hx
  rw [F6] at h1
  (have zz:=trivial;repeat((first|clear zz|with_reducible first|refine A3 ?_|refine A5 fun _=>?_|refine A4 fun _=>?_);try simp(disch:=first|omega|assumption|((repeat(first|exact A1|exact uH|apply A2|apply uT));first|done|fail)|(simp;first|done|omega|fail))[hlt, h1]))
  refine B5P he (φ := fun r => r = .bool (p x)) (fun w' hw' => by simpa using hf w' hw'.ks x) ?_
  rintro _ rfl
  have hc := B87 (p := p) hx
  have hle : (l.take i).countP p ≤ i := Nat.le_trans List.countP_le_length (by simp; omega)
  have hL' := hL hlt () trivial
  rw [hc] at hL'
  cases hb : p x with
  | true =>
   rw [hb] at hL'
   (have zz:=trivial;repeat((first|clear zz|with_reducible first|refine A3 ?_|refine A5 fun _=>?_|refine A4 fun _=>?_);try simp(disch:=first|omega|assumption|((repeat(first|exact A1|exact uH|apply A2|apply uT));first|done|fail)|(simp;first|done|omega|fail))[]))
   exact Sels.tw .nil (by simpa using hL')
  | false =>
   rw [hb] at hL'
   (have zz:=trivial;repeat((first|clear zz|with_reducible first|refine A3 ?_|refine A5 fun _=>?_|refine A4 fun _=>?_);try simp(disch:=first|omega|assumption|((repeat(first|exact A1|exact uH|apply A2|apply uT));first|done|fail)|(simp;first|done|omega|fail))[]))
   exact Sels.tw .nil (by simpa using hL')
 ·obtain rfl : i = l.length := by omega
  (have zz:=trivial;repeat((first|clear zz|with_reducible first|refine A3 ?_|refine A5 fun _=>?_|refine A4 fun _=>?_);try simp(disch:=first|omega|assumption|((repeat(first|exact A1|exact uH|apply A2|apply uT));first|done|fail)|(simp;first|done|omega|fail))[]))
  exact B0 rfl
theorem B2l (w : World) (v : Value) (l : List EnV) (st : Int) (hn : l.length ≤ 1000000) (hv : F9 w v l.length (l.flatMap F6)) :
  Fn PR C0 186 #[v, .int .i64 st] w (fun r w' => r = .int .i64 (U1 l st : Nat) ∧ D2 [] w w') := by
 refine Fn.pure (B5L (TW.go (κ := false) (S := []) ?_))
 unfold A68
 (have zz:=trivial;repeat((first|clear zz|with_reducible first|refine A3 ?_|refine A5 fun _=>?_|refine A4 fun _=>?_);try simp(disch:=first|omega|assumption|((repeat(first|exact A1|exact uH|apply A2|apply uT));first|done|fail)|(simp;first|done|omega|fail))[]))
 rename_i b
 refine C4 A36 (fun w' hw' => C4l w' v l (fun x => decide (x.st = st)) 241 [.pointer (some ⟨b, 0, none⟩)] hn (hv.ks hw'.ks (by simp)) B1V
  fun w2 h x => C0w w2 x st b (h.cell (by simp) (hw'.cell1 (by (repeat constructor))))) ?_
 exact B0 rfl
end Go.Proofs.YtjobgnabneddjaaGreat
