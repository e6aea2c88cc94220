/- The proof of a given statement, a part of it (Packet Bytes Sl Pool Vals Fnv Probe). No condition but what each lemma says. -/
import Derived.Lib.SlBytesRow
import Derived.Test.YtlplkjgcfjdinaaI11
set_option linter.unusedVariables false
set_option linter.unusedSimpArgs false
namespace Go.Proofs.Ytlplkjgcfjdinaa
open Go
structure KeyV where
 v : Int
 src : ByteArray
 dst : ByteArray
 fr : Int
 tp : Int
 proto : Int
 deriving DecidableEq
def KeyV.cs (k : KeyV) : List Value := [.int .i64 k.v, .string k.src, .string k.dst, .int .i64 k.fr, .int .i64 k.tp, .int .i64 k.proto]
def KeyV.val (k : KeyV) : Value := .agg #[.int .i64 k.v, .string k.src, .string k.dst, .int .i64 k.fr, .int .i64 k.tp, .int .i64 k.proto]
def noK : KeyV := ⟨0, G4, G4, 0, 0, 0⟩
def V9 (s : ByteArray) : KeyV × ByteArray × Nat :=
 if s.size = 0 then (noK, G4, 2) else if D4 s 0 / 16 = 4 then (⟨4, (d5 s).src, (d5 s).dst, 0, 0, (d5 s).proto⟩, (d5 s).rest, (d5 s).e)
 else if D4 s 0 / 16 = 6 then (⟨6, (W5 s).src, (W5 s).dst, 0, 0, (W5 s).proto⟩, (W5 s).rest, (W5 s).e) else (noK, G4, 3)
def keyed.val (x : KeyV × ByteArray × Nat) : Value := .tuple #[x.1.val, .string x.2.1, .int .i64 x.2.2]
theorem A85 (w : World) (src dst : ByteArray) (p : Int) : Fn PR C5 68 #[.agg #[.string src, .string dst, .int .i64 p]] w (fun v w' => v = KeyV.val ⟨4, src, dst, 0, 0, p⟩ ∧ B5 [] w w') := by
 refine Fn.pure (A2p (TW.go (κ := false) (S := []) ?_))
 unfold n9
 (have zz:=trivial;repeat((first|clear zz|with_reducible first|refine A3 ?_|refine A5 fun _=>?_|refine A4 fun _=>?_);try simp(disch:=first|omega|assumption|((repeat(first|exact A1|exact uH|apply A2|apply uT));first|done|fail)|(simp;first|done|omega|fail))[]))
 exact A8 rfl
theorem A9S (w : World) (src dst : ByteArray) (p : Int) : Fn PR C5 71 #[.agg #[.string src, .string dst, .int .i64 p]] w (fun v w' => v = KeyV.val ⟨6, src, dst, 0, 0, p⟩ ∧ B5 [] w w') := by
 refine Fn.pure (A23 (TW.go (κ := false) (S := []) ?_))
 unfold p7
 (have zz:=trivial;repeat((first|clear zz|with_reducible first|refine A3 ?_|refine A5 fun _=>?_|refine A4 fun _=>?_);try simp(disch:=first|omega|assumption|((repeat(first|exact A1|exact uH|apply A2|apply uT));first|done|fail)|(simp;first|done|omega|fail))[]))
 exact A8 rfl
theorem B2V (w : World) (s : ByteArray) (hs : s.size < 2 ^ 40) : Fn PR C5 66 #[.string s, .func (.func 67) #[] #[], .func (.func 68) #[] #[]] w
  (fun v w' => v = keyed.val (⟨4, (d5 s).src, (d5 s).dst, 0, 0, (d5 s).proto⟩, (d5 s).rest, (d5 s).e) ∧ B5 [] w w') := by
 refine Fn.pure (A0L (TW.go (κ := false) (S := []) ?_))
 unfold Y6
 (have zz:=trivial;repeat((first|clear zz|with_reducible first|refine A3 ?_|refine A5 fun _=>?_|refine A4 fun _=>?_);try simp(disch:=first|omega|assumption|((repeat(first|exact A1|exact uH|apply A2|apply uT));first|done|fail)|(simp;first|done|omega|fail))[]))
 refine C7 A6V (fun w' _ => A79 w' s hs) ?_
 (have zz:=trivial;repeat((first|clear zz|with_reducible first|refine A3 ?_|refine A5 fun _=>?_|refine A4 fun _=>?_);try simp(disch:=first|omega|assumption|((repeat(first|exact A1|exact uH|apply A2|apply uT));first|done|fail)|(simp;first|done|omega|fail))[HeadV.val]))
 refine C7 A2F (fun w' _ => A85 w' _ _ _) ?_
 (have zz:=trivial;repeat((first|clear zz|with_reducible first|refine A3 ?_|refine A5 fun _=>?_|refine A4 fun _=>?_);try simp(disch:=first|omega|assumption|((repeat(first|exact A1|exact uH|apply A2|apply uT));first|done|fail)|(simp;first|done|omega|fail))[KeyV.val]))
 exact A8 (by simp [keyed.val, KeyV.val])
theorem B2F (w : World) (s : ByteArray) (hs : s.size < 2 ^ 40) : Fn PR C5 69 #[.string s, .func (.func 70) #[] #[], .func (.func 71) #[] #[]] w
  (fun v w' => v = keyed.val (⟨6, (W5 s).src, (W5 s).dst, 0, 0, (W5 s).proto⟩, (W5 s).rest, (W5 s).e) ∧ B5 [] w w') := by
 refine Fn.pure (A0K (TW.go (κ := false) (S := []) ?_))
 unfold Y3
 (have zz:=trivial;repeat((first|clear zz|with_reducible first|refine A3 ?_|refine A5 fun _=>?_|refine A4 fun _=>?_);try simp(disch:=first|omega|assumption|((repeat(first|exact A1|exact uH|apply A2|apply uT));first|done|fail)|(simp;first|done|omega|fail))[]))
 refine C7 A6U (fun w' _ => A8K w' s hs) ?_
 (have zz:=trivial;repeat((first|clear zz|with_reducible first|refine A3 ?_|refine A5 fun _=>?_|refine A4 fun _=>?_);try simp(disch:=first|omega|assumption|((repeat(first|exact A1|exact uH|apply A2|apply uT));first|done|fail)|(simp;first|done|omega|fail))[HeadV.val]))
 refine C7 A2G (fun w' _ => A9S w' _ _ _) ?_
 (have zz:=trivial;repeat((first|clear zz|with_reducible first|refine A3 ?_|refine A5 fun _=>?_|refine A4 fun _=>?_);try simp(disch:=first|omega|assumption|((repeat(first|exact A1|exact uH|apply A2|apply uT));first|done|fail)|(simp;first|done|omega|fail))[KeyV.val]))
 exact A8 (by simp [keyed.val, KeyV.val])
theorem B3S (w : World) (v : Int) : Fn PR C5 50 #[.int .i64 v] w (fun u w' => u = .int .i64 (if v = 4 then 4 else if v = 6 then 16 else 0) ∧ B5 [] w w') := by
 refine Fn.pure (A5F (TW.go (κ := false) (S := []) ?_))
 unfold A1K
 by_cases c1 : v = 4
 ·(have zz:=trivial;repeat((first|clear zz|with_reducible first|refine A3 ?_|refine A5 fun _=>?_|refine A4 fun _=>?_);try simp(disch:=first|omega|assumption|((repeat(first|exact A1|exact uH|apply A2|apply uT));first|done|fail)|(simp;first|done|omega|fail))[c1])); exact A8 (by simp)
 by_cases c2 : v = 6
 ·(have zz:=trivial;repeat((first|clear zz|with_reducible first|refine A3 ?_|refine A5 fun _=>?_|refine A4 fun _=>?_);try simp(disch:=first|omega|assumption|((repeat(first|exact A1|exact uH|apply A2|apply uT));first|done|fail)|(simp;first|done|omega|fail))[c1, c2])); exact A8 (by simp)
 ·(have zz:=trivial;repeat((first|clear zz|with_reducible first|refine A3 ?_|refine A5 fun _=>?_|refine A4 fun _=>?_);try simp(disch:=first|omega|assumption|((repeat(first|exact A1|exact uH|apply A2|apply uT));first|done|fail)|(simp;first|done|omega|fail))[c1, c2])); exact A8 (by simp)
theorem B14 (w : World) (s : ByteArray) (hs : s.size < 2 ^ 40) : Fn PR C5 59 #[.string s] w (fun u w' => u = keyed.val (V9 s) ∧ B5 [] w w') := by
 refine Fn.pure (A4H (TW.go (κ := false) (S := []) ?_))
 unfold A0a
 by_cases c0 : s.size = 0
 ·have e : s = ByteArray.mk #[] := by
   apply ByteArray.ext; exact Array.eq_empty_of_size_eq_zero c0
  (have zz:=trivial;repeat((first|clear zz|with_reducible first|refine A3 ?_|refine A5 fun _=>?_|refine A4 fun _=>?_);try simp(disch:=first|omega|assumption|((repeat(first|exact A1|exact uH|apply A2|apply uT));first|done|fail)|(simp;first|done|omega|fail))[e]))
  exact A8 (by simp [V9, keyed.val, noK, KeyV.val])
 have c0' : ¬ s = ByteArray.mk #[] := fun e => c0 (by rw [e]; rfl)
 obtain ⟨by0, hb0, hb1⟩ := m6 (s := s) (i := 0) (by omega)
 have hb0' : s[(0 : Int).toNat]? = some by0 := hb0
 have hl0 := q8 s 0
 have e1 : ((by0.toNat : Nat) : Int).fdiv (2 ^ min 4 IntKind.u8.bits) = (D4 s 0 / 16 : Nat) := by rw [show (2 : Int) ^ min 4 IntKind.u8.bits = 16 from rfl, Int.fdiv_eq_ediv_of_nonneg _ (by omega), hb1]; omega
 by_cases c1 : D4 s 0 / 16 = 4
 ·have c1' : ((D4 s 0 : Nat) : Int) / 16 = 4 := by omega
  (have zz:=trivial;repeat((first|clear zz|with_reducible first|refine A3 ?_|refine A5 fun _=>?_|refine A4 fun _=>?_);try simp(disch:=first|omega|assumption|((repeat(first|exact A1|exact uH|apply A2|apply uT));first|done|fail)|(simp;first|done|omega|fail))[c0', T6]))
  rw [e1]
  (have zz:=trivial;repeat((first|clear zz|with_reducible first|refine A3 ?_|refine A5 fun _=>?_|refine A4 fun _=>?_);try simp(disch:=first|omega|assumption|((repeat(first|exact A1|exact uH|apply A2|apply uT));first|done|fail)|(simp;first|done|omega|fail))[c1', c1]))
  refine C7 y5 (fun w' _ => B2V w' s hs) ?_
  (have zz:=trivial;repeat((first|clear zz|with_reducible first|refine A3 ?_|refine A5 fun _=>?_|refine A4 fun _=>?_);try simp(disch:=first|omega|assumption|((repeat(first|exact A1|exact uH|apply A2|apply uT));first|done|fail)|(simp;first|done|omega|fail))[keyed.val, KeyV.val]))
  exact A8 (by simp [V9, keyed.val, KeyV.val, c0, c1])
 have c1' : ¬ ((D4 s 0 : Nat) : Int) / 16 = 4 := by omega
 by_cases c2 : D4 s 0 / 16 = 6
 ·have c2' : ((D4 s 0 : Nat) : Int) / 16 = 6 := by omega
  (have zz:=trivial;repeat((first|clear zz|with_reducible first|refine A3 ?_|refine A5 fun _=>?_|refine A4 fun _=>?_);try simp(disch:=first|omega|assumption|((repeat(first|exact A1|exact uH|apply A2|apply uT));first|done|fail)|(simp;first|done|omega|fail))[c0', T6]))
  rw [e1]
  (have zz:=trivial;repeat((first|clear zz|with_reducible first|refine A3 ?_|refine A5 fun _=>?_|refine A4 fun _=>?_);try simp(disch:=first|omega|assumption|((repeat(first|exact A1|exact uH|apply A2|apply uT));first|done|fail)|(simp;first|done|omega|fail))[c1', c1, c2', c2, T6]))
  refine C7 A0B (fun w' _ => B2F w' s hs) ?_
  (have zz:=trivial;repeat((first|clear zz|with_reducible first|refine A3 ?_|refine A5 fun _=>?_|refine A4 fun _=>?_);try simp(disch:=first|omega|assumption|((repeat(first|exact A1|exact uH|apply A2|apply uT));first|done|fail)|(simp;first|done|omega|fail))[keyed.val, KeyV.val]))
  exact A8 (by simp [V9, keyed.val, KeyV.val, c0, c1, c2])
 have c2' : ¬ ((D4 s 0 : Nat) : Int) / 16 = 6 := by omega
 (have zz:=trivial;repeat((first|clear zz|with_reducible first|refine A3 ?_|refine A5 fun _=>?_|refine A4 fun _=>?_);try simp(disch:=first|omega|assumption|((repeat(first|exact A1|exact uH|apply A2|apply uT));first|done|fail)|(simp;first|done|omega|fail))[c0', T6]))
 rw [e1]
 (have zz:=trivial;repeat((first|clear zz|with_reducible first|refine A3 ?_|refine A5 fun _=>?_|refine A4 fun _=>?_);try simp(disch:=first|omega|assumption|((repeat(first|exact A1|exact uH|apply A2|apply uT));first|done|fail)|(simp;first|done|omega|fail))[c1', c1, c2', c2, T6]))
 exact A8 (by simp [V9, keyed.val, KeyV.val, c0, c1, c2, noK])
def T3 (s : ByteArray) : KeyV × Nat × Nat :=
 let x := V9 s
 if x.2.2 ≠ 0 then (noK, 0, x.2.2) else let y := Q2 x.1.proto x.2.1; if y.2.2.2 ≠ 0 then (noK, 0, y.2.2.2) else ({ x.1 with fr := y.1, tp := y.2.1 }, y.2.2.1, 0)
def F6 (k : KeyV) (f : Int) : Value := .agg #[.int .i64 k.v, .string k.src, .string k.dst, .int .i64 k.fr, .int .i64 k.tp, .int .i64 k.proto, .int .i64 f]
def packet.val (x : KeyV × Nat × Nat) : Value := .tuple #[F6 x.1 x.2.1, .int .i64 x.2.2]
theorem B1E (s : ByteArray) : (d5 s).rest.size ≤ s.size := by
 unfold d5; split
 ·simp only [ByteArray.size_extract]; omega
 ·simp [HeadV.err]
theorem A99 (s : ByteArray) : (W5 s).rest.size ≤ s.size := by
 unfold W5; split
 ·simp only [ByteArray.size_extract]; omega
 ·simp [HeadV.err]
theorem A8D (s : ByteArray) : (V9 s).2.1.size ≤ s.size := by
 unfold V9
 split
 ·simp
 split
 ·exact B1E s
 split
 ·exact A99 s
 ·simp
theorem A5b (w : World) (s : ByteArray) (hs : s.size < 2 ^ 40) : Fn PR C5 49 #[.string s] w (fun u w' => u = packet.val (T3 s) ∧ B5 [] w w') := by
 refine Fn.pure (A4Q (TW.go (κ := false) (S := []) ?_))
 unfold A0c
 (have zz:=trivial;repeat((first|clear zz|with_reducible first|refine A3 ?_|refine A5 fun _=>?_|refine A4 fun _=>?_);try simp(disch:=first|omega|assumption|((repeat(first|exact A1|exact uH|apply A2|apply uT));first|done|fail)|(simp;first|done|omega|fail))[]))
 refine C7 A3r (fun w' _ => B14 w' s hs) ?_
 have hr := A8D s
 by_cases c1 : (V9 s).2.2 = 0
 ·(have zz:=trivial;repeat((first|clear zz|with_reducible first|refine A3 ?_|refine A5 fun _=>?_|refine A4 fun _=>?_);try simp(disch:=first|omega|assumption|((repeat(first|exact A1|exact uH|apply A2|apply uT));first|done|fail)|(simp;first|done|omega|fail))[keyed.val, KeyV.val, c1]))
  refine C7 A5E (fun w' _ => A7V w' _ (by omega) _) ?_
  by_cases c2 : (Q2 (V9 s).1.proto (V9 s).2.1).2.2.2 = 0
  ·(have zz:=trivial;repeat((first|clear zz|with_reducible first|refine A3 ?_|refine A5 fun _=>?_|refine A4 fun _=>?_);try simp(disch:=first|omega|assumption|((repeat(first|exact A1|exact uH|apply A2|apply uT));first|done|fail)|(simp;first|done|omega|fail))[Q2.val, c2]))
   exact A8 (by simp [T3, packet.val, F6, KeyV.val, c1, c2])
  ·(have zz:=trivial;repeat((first|clear zz|with_reducible first|refine A3 ?_|refine A5 fun _=>?_|refine A4 fun _=>?_);try simp(disch:=first|omega|assumption|((repeat(first|exact A1|exact uH|apply A2|apply uT));first|done|fail)|(simp;first|done|omega|fail))[Q2.val, c2]))
   exact A8 (by simp [T3, packet.val, F6, KeyV.val, c1, c2, noK])
 ·(have zz:=trivial;repeat((first|clear zz|with_reducible first|refine A3 ?_|refine A5 fun _=>?_|refine A4 fun _=>?_);try simp(disch:=first|omega|assumption|((repeat(first|exact A1|exact uH|apply A2|apply uT));first|done|fail)|(simp;first|done|omega|fail))[keyed.val, KeyV.val, c1]))
  exact A8 (by simp [T3, packet.val, F6, KeyV.val, c1, noK])
def V2 (k : KeyV) (f : Int) : ByteArray × Nat :=
 if k.v ≠ 4 ∧ k.v ≠ 6 then (G4, 3) else let s := P1 k.proto k.fr k.tp f; if s.2 ≠ 0 then (G4, s.2) else if k.v = 6 then A1w k.src k.dst s.1 k.proto else A1a k.src k.dst s.1 k.proto
theorem A9G (number x y f : Int) : (P1 number x y f).1.size ≤ 1000 := by
 have h6 := W6 6
 have h8 := W6 8
 unfold P1 A0D x6 A0u
 repeat' split
 all_goals simp [h6, h8]
theorem A6v (w : World) (k : KeyV) (f : Int) : Fn PR C5 14 #[F6 k f] w (fun u w' => u = .tuple #[.string (V2 k f).1, .int .i64 (V2 k f).2] ∧ B5 [] w w') := by
 refine Fn.pure (A6Q (TW.go (κ := false) (S := []) ?_))
 unfold A2E
 have hz := A9G k.proto k.fr k.tp f
 by_cases c0 : k.v = 4
 ·(have zz:=trivial;repeat((first|clear zz|with_reducible first|refine A3 ?_|refine A5 fun _=>?_|refine A4 fun _=>?_);try simp(disch:=first|omega|assumption|((repeat(first|exact A1|exact uH|apply A2|apply uT));first|done|fail)|(simp;first|done|omega|fail))[F6, KeyV.val, c0]))
  refine C7 y1 (fun w' _ => A1v w' _ _ _ _) ?_
  by_cases c1 : (P1 k.proto k.fr k.tp f).2 = 0
  ·(have zz:=trivial;repeat((first|clear zz|with_reducible first|refine A3 ?_|refine A5 fun _=>?_|refine A4 fun _=>?_);try simp(disch:=first|omega|assumption|((repeat(first|exact A1|exact uH|apply A2|apply uT));first|done|fail)|(simp;first|done|omega|fail))[c1, c0]))
   refine C7 A8W (fun w' _ => B0e w' _ _ _ _ (by omega)) ?_
   (have zz:=trivial;repeat((first|clear zz|with_reducible first|refine A3 ?_|refine A5 fun _=>?_|refine A4 fun _=>?_);try simp(disch:=first|omega|assumption|((repeat(first|exact A1|exact uH|apply A2|apply uT));first|done|fail)|(simp;first|done|omega|fail))[]))
   exact A8 (by simp [V2, c0, c1])
  ·(have zz:=trivial;repeat((first|clear zz|with_reducible first|refine A3 ?_|refine A5 fun _=>?_|refine A4 fun _=>?_);try simp(disch:=first|omega|assumption|((repeat(first|exact A1|exact uH|apply A2|apply uT));first|done|fail)|(simp;first|done|omega|fail))[c1, c0]))
   exact A8 (by simp [V2, c0, c1])
 by_cases c6 : k.v = 6
 ·(have zz:=trivial;repeat((first|clear zz|with_reducible first|refine A3 ?_|refine A5 fun _=>?_|refine A4 fun _=>?_);try simp(disch:=first|omega|assumption|((repeat(first|exact A1|exact uH|apply A2|apply uT));first|done|fail)|(simp;first|done|omega|fail))[F6, KeyV.val, c6]))
  refine C7 y1 (fun w' _ => A1v w' _ _ _ _) ?_
  by_cases c1 : (P1 k.proto k.fr k.tp f).2 = 0
  ·(have zz:=trivial;repeat((first|clear zz|with_reducible first|refine A3 ?_|refine A5 fun _=>?_|refine A4 fun _=>?_);try simp(disch:=first|omega|assumption|((repeat(first|exact A1|exact uH|apply A2|apply uT));first|done|fail)|(simp;first|done|omega|fail))[c1, c6]))
   refine C7 A71 (fun w' _ => B0u w' _ _ _ _ (by omega)) ?_
   (have zz:=trivial;repeat((first|clear zz|with_reducible first|refine A3 ?_|refine A5 fun _=>?_|refine A4 fun _=>?_);try simp(disch:=first|omega|assumption|((repeat(first|exact A1|exact uH|apply A2|apply uT));first|done|fail)|(simp;first|done|omega|fail))[]))
   exact A8 (by simp [V2, c6, c1])
  ·(have zz:=trivial;repeat((first|clear zz|with_reducible first|refine A3 ?_|refine A5 fun _=>?_|refine A4 fun _=>?_);try simp(disch:=first|omega|assumption|((repeat(first|exact A1|exact uH|apply A2|apply uT));first|done|fail)|(simp;first|done|omega|fail))[c1, c6]))
   exact A8 (by simp [V2, c6, c1])
 ·(have zz:=trivial;repeat((first|clear zz|with_reducible first|refine A3 ?_|refine A5 fun _=>?_|refine A4 fun _=>?_);try simp(disch:=first|omega|assumption|((repeat(first|exact A1|exact uH|apply A2|apply uT));first|done|fail)|(simp;first|done|omega|fail))[F6, KeyV.val, c0, c6]))
  exact A8 (by simp [V2, c0, c6])
def A1p (k : KeyV) (f : Int) : Bool := decide (k.proto = 6) && !decide (IntKind.i64.wrap ((f % 2 ^ IntKind.i64.bits).toNat &&& 5 % 2 ^ IntKind.i64.bits : Nat) = 0)
theorem A9F (w : World) (k : KeyV) (f : Int) : Fn PR C5 51 #[F6 k f] w (fun u w' => u = .bool (A1p k f) ∧ B5 [] w w') := by
 refine Fn.pure (A3Q (TW.go (κ := false) (S := []) ?_))
 unfold s9
 by_cases c0 : k.proto = 6
 ·(have zz:=trivial;repeat((first|clear zz|with_reducible first|refine A3 ?_|refine A5 fun _=>?_|refine A4 fun _=>?_);try simp(disch:=first|omega|assumption|((repeat(first|exact A1|exact uH|apply A2|apply uT));first|done|fail)|(simp;first|done|omega|fail))[F6, KeyV.val, c0]))
  exact A8 (by simp [A1p, c0])
 ·(have zz:=trivial;repeat((first|clear zz|with_reducible first|refine A3 ?_|refine A5 fun _=>?_|refine A4 fun _=>?_);try simp(disch:=first|omega|assumption|((repeat(first|exact A1|exact uH|apply A2|apply uT));first|done|fail)|(simp;first|done|omega|fail))[F6, KeyV.val, c0]))
  exact A8 (by simp [A1p, c0])
end Go.Proofs.Ytlplkjgcfjdinaa
namespace Go.Proofs.Ytlplkjgcfjdinaa
open Go
section
variable {κ : Bool} {X : Nat → Prop} {S : List Nat} {w0 : World} {H H' : List Res} {K : Value → WP}
theorem B0x {P : Program} {g : Sem Value} {u : Value} {b : Nat} {c c' : Array Value} {T : TypeId} (hrun : ∀ w, bl w b = some (.cells c T (0, 0)) → g.run P w = .ok u (World.putb w b (.cells c' T (0, 0))))
  (hu : Up (.pt b (.cells c T (0, 0))) (.pt b (.cells c' T (0, 0))) H H') (hK : TW κ S w0 H' (K u)) : TW κ S w0 H (B1 P X g K) := fun w hw => by
 have hm : Res.pt b (.cells c T (0, 0)) ∈ H := by obtain ⟨A, B, rfl, _⟩ := hu.parts; simp
 have hb := hw.pt hm
 rw [M9 (hrun w hb) (Sk.putb X hb)]
 refine hK _ (hw.up hu ⟨KS.putb hb (by simp [Res.foot]), ?_, ?_, by simp⟩)
 ·simp only [List.mem_singleton, forall_eq, Res.holds]; exact ⟨K9 (G3 hb), rfl⟩
 ·simp only [List.mem_singleton, forall_eq, Res.foot]; exact ⟨Or.inl (by simp), by have := G3 hb; simpa using this⟩
theorem A8e (w : World) : (underlying 99).run PR w = .ok (.slice 5) w := A1j.run_und
theorem B4m (w : World) : (underlying 118).run PR w = .ok (.array 38 5) w := A9j.run_und
def Y7 (s : ByteArray) (o : Nat) (t : ByteArray) : ByteArray := s.extract 0 o ++ t ++ s.extract (o + t.size) s.size
theorem A2z {s t : ByteArray} {o : Nat} (h : o + t.size ≤ s.size) : (Y7 s o t).size = s.size := by simp [Y7]; omega
theorem A57 (s t : ByteArray) (o : Nat) (h : o + t.size ≤ s.size) : D5 (D2 s).toArray o (D2 t) = (D2 (Y7 s o t)).toArray := by
 apply Array.toList_inj.1
 rw [g5 _ _ _ (by simpa using h)]
 simp [D2, Y7, List.map_take, List.map_drop]
 rw [List.take_of_length_le (by simp)]
theorem A5P {b o n c : Nat} {s t : ByteArray} {T : TypeId} (hu : Up (.pt b (.cells (D2 s).toArray T)) (.pt b (.cells (D2 (Y7 s o t)).toArray T)) H H') (hn : t.size ≤ n) (hs : o + t.size ≤ s.size)
  (hK : TW κ S w0 H' (K (.int .i64 t.size))) : TW κ S w0 H (B1 PR X (A7 .copy #[99, 9] 3 [.slice (some ⟨b, o, none⟩) n c, .string t]) K) := by
 refine B0x (u := .int .i64 t.size) (fun w hb => ?_) hu hK
 have hst := S9 (P := PR) (o0 := o) (D2 t) 0 w (D2 s).toArray hb (by simpa using hs) (A0y t)
 rw [Nat.add_zero, A57 s t o hs] at hst
 have hl : Nat.min t.size n = t.size := Nat.min_eq_left hn
 have htk : List.take t.size (List.map (fun b : UInt8 => Value.int IntKind.u8 (b.toNat : Int)) t.data.toList) = D2 t := by
  rw [List.take_of_length_le (by simp)]; rfl
 show (Builtin.copy_ #[99, 9] 3 #[.slice (some ⟨b, o, none⟩) n c, .string t]).run PR w = _
 simp [Builtin.copy_, A8e, ty5.run_size, Builtin.lenOf, Builtin.firstCells, hl]
 rw [htk, hst]
 simp [goInt, Result.andThen]
def z38 : ByteArray := A3m z1 38
theorem A4D : z38.size = 38 := W6 38
theorem A91 : (Builtin.zeroCells (Value.int .u8 0).cells 38).toList = D2 z38 := by kernel_rfl
theorem B2u : (D2 z38).toArray = #[.int .u8 0, .int .u8 0, .int .u8 0, .int .u8 0, .int .u8 0, .int .u8 0, .int .u8 0, .int .u8 0, .int .u8 0, .int .u8 0, .int .u8 0, .int .u8 0, .int .u8 0, .int .u8 0, .int .u8 0, .int .u8 0, .int .u8 0, .int .u8 0, .int .u8 0, .int .u8 0, .int .u8 0, .int .u8 0, .int .u8 0, .int .u8 0, .int .u8 0, .int .u8 0, .int .u8 0, .int .u8 0, .int .u8 0, .int .u8 0, .int .u8 0, .int .u8 0, .int .u8 0, .int .u8 0, .int .u8 0, .int .u8 0, .int .u8 0, .int .u8 0] := by kernel_rfl
theorem B04 {b : Nat} {s : ByteArray} {T : TypeId} (hs : s.size = 38) (hu : Up (.pt b (.cells (D2 s).toArray T)) (.pt b (.cells (D2 z38).toArray T)) H H')
  (hK : TW κ S w0 H' (K (.tuple #[]))) : TW κ S w0 H (B1 PR X (A7 .clear #[99] 0 [.slice (some ⟨b, 0, none⟩) 38 38]) K) := by
 refine B0x (u := .tuple #[]) (fun w hb => ?_) hu hK
 have h38 := A4D
 have hst := S9 (P := PR) (o0 := 0) (D2 z38) 0 w (D2 s).toArray hb (by simp [hs, h38]) (A0y _)
 rw [Nat.add_zero, A57 s z38 0 (by omega)] at hst
 have e : Y7 s 0 z38 = z38 := by
  apply ByteArray.ext
  simp [Y7, h38, hs]
 rw [e] at hst
 show (Builtin.clear_ #[99] 0 #[.slice (some ⟨b, 0, none⟩) 38 38]).run PR w = _
 simp only [Builtin.clear_, List.getElem?_toArray, List.getElem?_cons_zero, Sem.run_bind, A8e, Result.andThen_ok, ty5.run_zero, A91, hst, Sem.run_pure]
theorem B30 {b : Nat} {s : ByteArray} {T : TypeId} (hm : Res.pt b (.cells (D2 s).toArray T) ∈ H) (c n : Nat) (hn : n = s.size) :
  TW κ S w0 H (A6 PR (convert 99 9 (.slice (some ⟨b, 0, none⟩) n c)) K) = TW κ S w0 H (K (.string s)) := TW.congr fun w hw => by
 refine P8 ?_ K
 subst hn
 have hb := hw.pt hm
 have hB : Lib.Bytes w b 0 s := fun i hi => by
  rw [P4 hb]; simp [D2, hi]; rfl
 exact Lib.run_convert_whole w _ _ _ A1j.und ty5.und Z4.und b 0 s hB c
end
theorem B0S {lo : Nat} (b : Nat) (h : lo < 38) (K : Value → WP) : A0 PR (Instr.sliceAt 118 (.pointer (some ⟨b, 0, none⟩)) (some (.int .i64 (lo : Int))) none none) K = K (.slice (some ⟨b, lo, none⟩) (38 - lo) (38 - lo)) :=
 D6 (fun w => by
  have h1 : ¬ ((38 : Int) < lo) := by omega
  have h2 : ¬ (38 = lo) := by omega
  simp [Instr.sliceAt, B4m, Instr.sliceBounds, Instr.sliceBound, asIntOf, h1, h2, ty5.run_size, Instr.sureAddr, Q1]
  omega) K
def U0 (v : Int) : Nat := if v = 4 then 4 else if v = 6 then 16 else 0
theorem B1p (w : World) (v : Int) : Fn PR C5 50 #[.int .i64 v] w (fun u w' => u = .int .i64 (U0 v : Nat) ∧ B5 [] w w') := by
 have := B3S w v
 have e : ((U0 v : Nat) : Int) = if v = 4 then 4 else if v = 6 then 16 else 0 := by (unfold U0; repeat' split) <;> rfl
 rw [e]; exact this
def S8 (k : KeyV) : Bool := decide (U0 k.v ≠ 0 ∧ k.src.size = U0 k.v ∧ k.dst.size = U0 k.v ∧ (P1 k.proto k.fr k.tp 0).2 = 0)
def p9 (k : KeyV) : ByteArray := Y7 (Y7 (Y7 z38 0 (D7 (k.v * 256 + k.proto) 2 ++ D7 k.fr 2 ++ D7 k.tp 2)) 6 k.src) 22 k.dst
def A2U (k : KeyV) : Value := .tuple #[.string (if S8 k then p9 k else G4), .bool (S8 k)]
theorem B3T {n x y f : Int} (h : (P1 n x y f).2 = 0) : (n = 6 ∨ n = 17) ∧ L6 x y = true := by
 unfold P1 at h
 split at h
 ·simp at h
 split at h
 ·simp at h
 ·rename_i h1 h2
  refine ⟨by omega, ?_⟩
  cases hp : L6 x y with
  | true => rfl
  | false => exact absurd (Or.inl hp) h2
theorem B1W (w : World) (k : KeyV) : Fn PR C5 28 #[k.val] w (fun u w' => u = A2U k ∧ B5 [] w w') := by
 refine Fn.pure (A4q (TW.go (κ := false) (S := []) ?_))
 unfold A0r KeyV.val
 (have zz:=trivial;repeat((first|clear zz|with_reducible first|refine A3 ?_|refine A5 fun _=>?_|refine A4 fun _=>?_);try simp(disch:=first|omega|assumption|((repeat(first|exact A1|exact uH|apply A2|apply uT));first|done|fail)|(simp;first|done|omega|fail))[]))
 refine C7 A4z (fun w' _ => B1p w' _) ?_
 (have zz:=trivial;repeat((first|clear zz|with_reducible first|refine A3 ?_|refine A5 fun _=>?_|refine A4 fun _=>?_);try simp(disch:=first|omega|assumption|((repeat(first|exact A1|exact uH|apply A2|apply uT));first|done|fail)|(simp;first|done|omega|fail))[]))
 refine C7 y1 (fun w' _ => A1v w' _ _ _ _) ?_
 have bad : S8 k = false → A2U k = .tuple #[.string G4, .bool false] := fun h => by simp [A2U, h]
 by_cases c1 : U0 k.v = 0
 ·(have zz:=trivial;repeat((first|clear zz|with_reducible first|refine A3 ?_|refine A5 fun _=>?_|refine A4 fun _=>?_);try simp(disch:=first|omega|assumption|((repeat(first|exact A1|exact uH|apply A2|apply uT));first|done|fail)|(simp;first|done|omega|fail))[c1]))
  exact A8 (bad (by simp [S8, c1])).symm
 have c1' : ¬ ((U0 k.v : Nat) : Int) = 0 := by omega
 by_cases c2 : k.src.size = U0 k.v
 case neg =>
  have c2' : ¬ ((k.src.size : Nat) : Int) = U0 k.v := by omega
  (have zz:=trivial;repeat((first|clear zz|with_reducible first|refine A3 ?_|refine A5 fun _=>?_|refine A4 fun _=>?_);try simp(disch:=first|omega|assumption|((repeat(first|exact A1|exact uH|apply A2|apply uT));first|done|fail)|(simp;first|done|omega|fail))[c1, c1', c2, c2']))
  exact A8 (bad (by simp [S8, c2])).symm
 by_cases c3 : k.dst.size = U0 k.v
 case neg =>
  have c3' : ¬ ((k.dst.size : Nat) : Int) = U0 k.v := by omega
  (have zz:=trivial;repeat((first|clear zz|with_reducible first|refine A3 ?_|refine A5 fun _=>?_|refine A4 fun _=>?_);try simp(disch:=first|omega|assumption|((repeat(first|exact A1|exact uH|apply A2|apply uT));first|done|fail)|(simp;first|done|omega|fail))[c1, c1', c2, c3, c3']))
  exact A8 (bad (by simp [S8, c3])).symm
 by_cases c4 : (P1 k.proto k.fr k.tp 0).2 = 0
 case neg =>
  (have zz:=trivial;repeat((first|clear zz|with_reducible first|refine A3 ?_|refine A5 fun _=>?_|refine A4 fun _=>?_);try simp(disch:=first|omega|assumption|((repeat(first|exact A1|exact uH|apply A2|apply uT));first|done|fail)|(simp;first|done|omega|fail))[c1, c1', c2, c3, c4]))
  exact A8 (bad (by simp [S8, c4])).symm
 (have zz:=trivial;repeat((first|clear zz|with_reducible first|refine A3 ?_|refine A5 fun _=>?_|refine A4 fun _=>?_);try simp(disch:=first|omega|assumption|((repeat(first|exact A1|exact uH|apply A2|apply uT));first|done|fail)|(simp;first|done|omega|fail))[c1, c1', c2, c3, c4]))
 rename_i bk ba
 refine TW.eqH (H' := [.pt ba (.cells (D2 z38).toArray 118), .pt bk (.cells #[.int .i64 k.v, .string k.src, .string k.dst, .int .i64 k.fr, .int .i64 k.tp, .int .i64 k.proto] 48)]) (by rw [B2u]) ?_
 refine B04 A4D .here ?_
 obtain ⟨hp, hq⟩ := B3T c4
 simp only [L6, decide_eq_true_eq] at hq
 have hv : k.v = 4 ∨ k.v = 6 := by unfold U0 at c1; split at c1 <;> (try split at c1) <;> omega
 have hh : (D7 (k.v * 256 + k.proto) 2 ++ D7 k.fr 2 ++ D7 k.tp 2).size = 6 := by simp
 have h38 := A4D
 have s1 : (Y7 z38 0 (D7 (k.v * 256 + k.proto) 2 ++ D7 k.fr 2 ++ D7 k.tp 2)).size = 38 := by rw [A2z (by omega), h38]
 have hl : U0 k.v ≤ 16 := by unfold U0; split <;> (try split) <;> omega
 have s2 : (Y7 (Y7 z38 0 (D7 (k.v * 256 + k.proto) 2 ++ D7 k.fr 2 ++ D7 k.tp 2)) 6 k.src).size = 38 := by rw [A2z (by omega), s1]
 have s3 : (p9 k).size = 38 := by unfold p9; rw [A2z (by omega), s2]
 have i6 := fun K => B0S (lo := 6) ba (by omega) K
 have i22 := fun K => B0S (lo := 22) ba (by omega) K
 simp at i6 i22
 have ok : S8 k = true := by simp [S8, c1, c2, c3, c4]
 have q1 := hq.1
 have q2 := hq.2.1
 have q3 := hq.2.2.1
 have q4 := hq.2.2.2
 have eor : IntKind.u64.wrap ((IntKind.u64.wrap (k.v * 2 ^ min 8 IntKind.u64.bits) % 2 ^ IntKind.u64.bits).toNat ||| (k.proto % 2 ^ IntKind.u64.bits).toNat : Nat) = k.v * 256 + k.proto := by
  rcases hv with hv | hv <;> rcases hp with hp | hp <;> (rw [hv, hp]; decide)
 have ew1 : IntKind.u64.wrap k.fr = k.fr := w5 (by omega) (by omega)
 have ew2 : IntKind.u64.wrap k.tp = k.tp := w5 (by omega) (by omega)
 (have zz:=trivial;repeat((first|clear zz|with_reducible first|refine A3 ?_|refine A5 fun _=>?_|refine A4 fun _=>?_);try simp(disch:=first|omega|assumption|((repeat(first|exact A1|exact uH|apply A2|apply uT));first|done|fail)|(simp;first|done|omega|fail))[]))
 rw [eor, ew1, ew2]
 refine C7 E2 (fun w' hw' => U7 w' _ _) ?_
 (have zz:=trivial;repeat((first|clear zz|with_reducible first|refine A3 ?_|refine A5 fun _=>?_|refine A4 fun _=>?_);try simp(disch:=first|omega|assumption|((repeat(first|exact A1|exact uH|apply A2|apply uT));first|done|fail)|(simp;first|done|omega|fail))[]))
 refine C7 E2 (fun w' hw' => U7 w' _ _) ?_
 (have zz:=trivial;repeat((first|clear zz|with_reducible first|refine A3 ?_|refine A5 fun _=>?_|refine A4 fun _=>?_);try simp(disch:=first|omega|assumption|((repeat(first|exact A1|exact uH|apply A2|apply uT));first|done|fail)|(simp;first|done|omega|fail))[P0]))
 refine C7 E2 (fun w' hw' => U7 w' _ _) ?_
 (have zz:=trivial;repeat((first|clear zz|with_reducible first|refine A3 ?_|refine A5 fun _=>?_|refine A4 fun _=>?_);try simp(disch:=first|omega|assumption|((repeat(first|exact A1|exact uH|apply A2|apply uT));first|done|fail)|(simp;first|done|omega|fail))[P0]))
 refine A5P (o := 0) (s := z38) (by (repeat constructor)) (by omega) (by omega) ?_
 (have zz:=trivial;repeat((first|clear zz|with_reducible first|refine A3 ?_|refine A5 fun _=>?_|refine A4 fun _=>?_);try simp(disch:=first|omega|assumption|((repeat(first|exact A1|exact uH|apply A2|apply uT));first|done|fail)|(simp;first|done|omega|fail))[i6]))
 refine A5P (o := 6) (s := Y7 z38 0 (D7 (k.v * 256 + k.proto) 2 ++ D7 k.fr 2 ++ D7 k.tp 2)) (by (repeat constructor)) (by omega) (by omega) ?_
 (have zz:=trivial;repeat((first|clear zz|with_reducible first|refine A3 ?_|refine A5 fun _=>?_|refine A4 fun _=>?_);try simp(disch:=first|omega|assumption|((repeat(first|exact A1|exact uH|apply A2|apply uT));first|done|fail)|(simp;first|done|omega|fail))[i22]))
 refine A5P (o := 22) (s := Y7 (Y7 z38 0 (D7 (k.v * 256 + k.proto) 2 ++ D7 k.fr 2 ++ D7 k.tp 2)) 6 k.src) (by (repeat constructor)) (by omega) (by omega) ?_
 (have zz:=trivial;repeat((first|clear zz|with_reducible first|refine A3 ?_|refine A5 fun _=>?_|refine A4 fun _=>?_);try simp(disch:=first|omega|assumption|((repeat(first|exact A1|exact uH|apply A2|apply uT));first|done|fail)|(simp;first|done|omega|fail))[]))
 rw [B30 (s := p9 k) (by (repeat constructor)) _ _ s3.symm]
 exact A8 (by simp [A2U, ok])
end Go.Proofs.Ytlplkjgcfjdinaa
namespace Go.Proofs.Ytlplkjgcfjdinaa
open Go
abbrev BkV := Int × Int
def f9 (b : BkV) : List Value := [.int .i64 b.1, .int .i64 b.2]
def A5A {α : Type} (p : α → Bool) (l : List α) : Int := match l.findIdx? p with | some i => i | none => -1
theorem B0C {α : Type} {p : α → Bool} {l : List α} {i : Nat} {x : α} (hx : l[i]? = some x) (hp : p x = true) (h : ∀ j y, j < i → l[j]? = some y → p y = false) : A5A p l = i := by
 have : l.findIdx? p = some i := by
  rw [List.findIdx?_eq_some_iff_getElem]
  obtain ⟨hi, e⟩ := List.getElem?_eq_some_iff.1 hx
  exact ⟨hi, by rw [e]; exact hp, fun j hj => by rw [h j l[j] hj (List.getElem?_eq_getElem (by omega))]; simp⟩
 simp [A5A, this]
theorem A92 {α : Type} {p : α → Bool} {l : List α} (h : ∀ (j : Nat) y, l[j]? = some y → p y = false) : A5A p l = -1 := by
 have : l.findIdx? p = none := by
  rw [List.findIdx?_eq_none_iff]; intro x hx; obtain ⟨i, hi, rfl⟩ := List.getElem_of_mem hx; exact h i _ (List.getElem?_eq_getElem hi)
 simp [A5A, this]
theorem A6J (w : World) (v : Value) (l : List BkV) (p : BkV → Bool) (f : FuncId) (cap : List Value) (hn : l.length ≤ 1000000) (hv : E9 w v l.length (l.flatMap f9)) (he : B0 PR f)
  (hf : ∀ w', KS false [] w w' → ∀ x : BkV, Fn PR C5 f (.agg #[.int .i64 x.1, .int .i64 x.2] :: cap).toArray w' (fun r w'' => r = .bool (p x) ∧ B5 [] w' w'')) :
  Fn PR C5 52 #[v, .func (.func f) #[] cap.toArray] w (fun r w' => r = .int .i64 (A5A p l) ∧ B5 [] w w') := by
 refine Fn.pure (S1 (TW.go (κ := false) (S := []) ?_))
 unfold G5
 obtain ⟨a, c, rfl, hr⟩ := hv.form
 (have zz:=trivial;repeat((first|clear zz|with_reducible first|refine A3 ?_|refine A5 fun _=>?_|refine A4 fun _=>?_);try simp(disch:=first|omega|assumption|((repeat(first|exact A1|exact uH|apply A2|apply uT));first|done|fail)|(simp;first|done|omega|fail))[]))
 refine q7 (α := Unit) l.length (fun _ _ => .int .i64 0) (fun _ _ => []) (fun i _ => ∀ j y, j < i → l[j]? = some y → p y = false) () (by intro j _ hj; omega) ?_
 rintro i _ hi hpre L hL
 by_cases hlt : i < l.length
 ·obtain ⟨b, o, rfl, hrow⟩ := hr (by omega)
  obtain ⟨x, hx⟩ : ∃ x, l[i]? = some x := ⟨_, List.getElem?_eq_getElem (by omega)⟩
  have h1 := hrow.at (f := f9) (k := 2) (fun _ => rfl) hx
  rw [f9] at h1
  (have zz:=trivial;repeat((first|clear zz|with_reducible first|refine A3 ?_|refine A5 fun _=>?_|refine A4 fun _=>?_);try simp(disch:=first|omega|assumption|((repeat(first|exact A1|exact uH|apply A2|apply uT));first|done|fail)|(simp;first|done|omega|fail))[hlt, h1]))
  refine A6u he (φ := fun r => r = .bool (p x)) (fun w' hw' => by simpa using hf w' hw'.ks x) ?_
  rintro _ rfl
  cases hb : p x with
  | true =>
   (have zz:=trivial;repeat((first|clear zz|with_reducible first|refine A3 ?_|refine A5 fun _=>?_|refine A4 fun _=>?_);try simp(disch:=first|omega|assumption|((repeat(first|exact A1|exact uH|apply A2|apply uT));first|done|fail)|(simp;first|done|omega|fail))[]))
   exact A8 (by rw [B0C hx hb hpre])
  | false =>
   (have zz:=trivial;repeat((first|clear zz|with_reducible first|refine A3 ?_|refine A5 fun _=>?_|refine A4 fun _=>?_);try simp(disch:=first|omega|assumption|((repeat(first|exact A1|exact uH|apply A2|apply uT));first|done|fail)|(simp;first|done|omega|fail))[]))
   refine Sels.tw .nil (hL hlt () ?_)
   intro j y hj hy
   by_cases hji : j = i
   ·subst hji; rw [hx] at hy; cases hy; exact hb
   ·exact hpre j y (by omega) hy
 ·obtain rfl : i = l.length := by omega
  (have zz:=trivial;repeat((first|clear zz|with_reducible first|refine A3 ?_|refine A5 fun _=>?_|refine A4 fun _=>?_);try simp(disch:=first|omega|assumption|((repeat(first|exact A1|exact uH|apply A2|apply uT));first|done|fail)|(simp;first|done|omega|fail))[]))
  exact A8 (by rw [A92 fun j y hy => hpre j y (List.getElem?_eq_some_iff.1 hy).1 hy])
end Go.Proofs.Ytlplkjgcfjdinaa
namespace Go.Proofs.Ytlplkjgcfjdinaa
open Go
theorem B1f {t e : TypeId} {len n m n' m' : Nat} {z z' : Value} {d' : TypeDesc} {parts : Array (Nat × Value)} {cs : Array Value} {K : Value → WP} (h : TI PR t (.array len e) n m z) (he : TI PR e d' n' m' z')
  (hf : Instr.fill (fun i => some (i * n', n')) z.cells parts.toList = some cs) : A0 PR (Instr.build t parts) K = K (.agg cs) :=
 D6 (fun w => by
  simp only [Instr.build, Sem.run_bind, h.run_zero, Result.andThen_ok, h.run_und, he.run_size, hf, Sem.run_pure]) K
theorem bd2 {k0 k1 : IntKind} {a b : Int} (K : Value → WP) : A0 PR (Instr.build 39 #[(0, .int k0 a), (1, .int k1 b)]) K = K (.agg #[.int k0 a, .int k1 b]) :=
 B1f A48 H5 (by rw [show (#[(0, Value.int k0 a), (1, Value.int k1 b)] : Array (Nat × Value)).toList = [(0, Value.int k0 a), (1, Value.int k1 b)] from rfl, B2 rfl rfl (by simp), B2 rfl rfl (by simp [B6])]; rfl)
theorem A9n (w : World) (x : BkV) (id : Int) (b : Nat) (hb : w.cell? ⟨b, 0, none⟩ = some (.int .i64 id)) : Fn PR C5 61 #[.agg #[.int .i64 x.1, .int .i64 x.2], .pointer (some ⟨b, 0, none⟩)] w (fun r w' => r = .bool (decide (x.1 = id)) ∧ B5 [] w w') := by
 refine Fn.pure (A3l (TW.go (κ := false) (S := []) ?_))
 unfold z6
 (have zz:=trivial;repeat((first|clear zz|with_reducible first|refine A3 ?_|refine A5 fun _=>?_|refine A4 fun _=>?_);try simp(disch:=first|omega|assumption|((repeat(first|exact A1|exact uH|apply A2|apply uT));first|done|fail)|(simp;first|done|omega|fail))[hb]))
 exact A8 rfl
theorem B10 (w : World) (id : Int) : Fn PR C5 53 #[.int .i64 id] w (Rn [] w (fun b v => v = .func (.func 61) #[] #[.pointer (some ⟨b, 0, none⟩)]) fun b => [.pt b (.cells #[.int .i64 id] 3)]) := by
 refine A6M (TW.go (κ := false) (S := []) ?_)
 unfold A18
 (have zz:=trivial;repeat((first|clear zz|with_reducible first|refine A3 ?_|refine A5 fun _=>?_|refine A4 fun _=>?_);try simp(disch:=first|omega|assumption|((repeat(first|exact A1|exact uH|apply A2|apply uT));first|done|fail)|(simp;first|done|omega|fail))[]))
 exact y8 _ rfl (by simp)
def B2k (l : List BkV) (id : Int) : Int := A5A (fun x => decide (x.1 = id)) l
theorem A8Y (w : World) (v : Value) (l : List BkV) (id : Int) (hn : l.length ≤ 1000000) (hv : E9 w v l.length (l.flatMap f9)) :
  Fn PR C5 38 #[v, .int .i64 id] w (fun r w' => r = .int .i64 (B2k l id) ∧ B5 [] w w') := by
 refine Fn.pure (A64 (TW.go (κ := false) (S := []) ?_))
 unfold A22
 refine M4 A5D (fun w' _ => B10 w' id) ?_
 rintro b _ rfl
 refine C7 Q9 (fun w' hw' => A6J w' v l (fun x => decide (x.1 = id)) 61 [.pointer (some ⟨b, 0, none⟩)] hn (hv.ks hw'.ks (by simp)) A3U
  fun w2 h x => A9n w2 x id b (h.cell (by simp) (hw'.cell1 (by (repeat constructor))))) ?_
 exact A8 rfl
end Go.Proofs.Ytlplkjgcfjdinaa
namespace Go.Proofs.Ytlplkjgcfjdinaa
open Go
structure CfgV where
 wk : Int
 sh : Int
 cp : Int
 idle : Int
 sl : Int
 deriving DecidableEq
def CfgV.val (c : CfgV) : Value := .agg #[.int .i64 c.wk, .int .i64 c.sh, .int .i64 c.cp, .int .i64 c.idle, .int .i64 c.sl]
structure AnsV where
 err : Int
 bk : Int
 made : Bool
 count : Int
 deriving DecidableEq
def AnsV.val (a : AnsV) : Value := .agg #[.int .i64 a.err, .int .i64 a.bk, .bool a.made, .int .i64 a.count]
structure OpV where
 kind : Int
 packet : ByteArray
 pool : List BkV
 shard : Int
def OpV.val (o : OpV) (v : Value) : Value := .agg #[.int .i64 o.kind, .string o.packet, v, .int .i64 o.shard]
end Go.Proofs.Ytlplkjgcfjdinaa
namespace Go.Proofs.Ytlplkjgcfjdinaa
open Go
end Go.Proofs.Ytlplkjgcfjdinaa
namespace Go.Proofs.Ytlplkjgcfjdinaa
open Go
def RqS (v : Value) (n : Nat) (xs : List Value) (F : List Res) (w : World) : Prop := ∃ a c, v = .slice a n c ∧ (0 < n → ∃ b o, a = some ⟨b, o, none⟩ ∧ F1 w b o xs ∧ b ∉ B7 F)
theorem RqS.of {v : Value} {n : Nat} {xs : List Value} {w0 w : World} {A F : List Res} (h : E9 w0 v n xs) (hx : 0 < n → 0 < xs.length) (hw : LW false [] w0 (A ++ F) w) : RqS v n xs F w := by
 obtain ⟨a, c, rfl, hr⟩ := h.form
 refine ⟨a, c, rfl, fun hn => ?_⟩
 obtain ⟨b, o, rfl, hrow⟩ := hr hn
 refine ⟨b, o, rfl, hw.ks.row (by simp) hrow, hw.notin_old ?_ (by simp)⟩
 have h0 := hrow 0 (hx hn)
 rw [List.getElem?_eq_getElem (hx hn)] at h0
 obtain ⟨c', t', z', h1, h2⟩ := q5 h0
 exact G3 h1
end Go.Proofs.Ytlplkjgcfjdinaa
