/- The proof of a given statement, a part of it (Packet Bytes Sl ShFnv Fnv Probe Flows Flows2 ShPoints Points). No condition but what each lemma says. -/
import Derived.Lib.SlBytesRow
import Derived.Test.YtggakcpabomliaaGreatG13
set_option linter.unusedVariables false
set_option linter.unusedSimpArgs false
namespace Go.Proofs.YtggakcpabomliaaGreat
open Go
structure KeyV where
 v : Int
 src : ByteArray
 dst : ByteArray
 fr : Int
 tp : Int
 proto : Int
 deriving DecidableEq
def KeyV.cs (k : KeyV) : List Value := [.int .i64 k.v, .string k.src, .string k.dst, .int .i64 k.fr, .int .i64 k.tp, .int .i64 k.proto]
def KeyV.val (k : KeyV) : Value := .agg #[.int .i64 k.v, .string k.src, .string k.dst, .int .i64 k.fr, .int .i64 k.tp, .int .i64 k.proto]
def noK : KeyV := ⟨0, P6, P6, 0, 0, 0⟩
def M3 (s : ByteArray) : KeyV × ByteArray × Nat :=
 if s.size = 0 then (noK, P6, 2) else if C4 s 0 / 16 = 4 then (⟨4, (Q1 s).src, (Q1 s).dst, 0, 0, (Q1 s).proto⟩, (Q1 s).rest, (Q1 s).e)
 else if C4 s 0 / 16 = 6 then (⟨6, (S1 s).src, (S1 s).dst, 0, 0, (S1 s).proto⟩, (S1 s).rest, (S1 s).e) else (noK, P6, 3)
def keyed.val (x : KeyV × ByteArray × Nat) : Value := .tuple #[x.1.val, .string x.2.1, .int .i64 x.2.2]
theorem B8p (w : World) (src dst : ByteArray) (p : Int) : Fn PR B5 188 #[.agg #[.string src, .string dst, .int .i64 p]] w (fun v w' => v = KeyV.val ⟨4, src, dst, 0, 0, p⟩ ∧ C0 [] w w') := by
 refine Fn.pure (A8U (TW.go (κ := false) (S := []) ?_))
 unfold A2k
 (have hQq := trivial; repeat ((first | clear hQq | (with_reducible first | refine A3 ?_ | refine A4 fun _ => ?_ | refine A5 fun _ => ?_)); (try simp (disch := first | omega | assumption | ((repeat (first | exact A0 | exact Up.here | apply A1 | apply Up.there)); first | done | fail) | (simp; first | done | omega | fail)) [])))
 exact A9 rfl
theorem B8y (w : World) (src dst : ByteArray) (p : Int) : Fn PR B5 191 #[.agg #[.string src, .string dst, .int .i64 p]] w (fun v w' => v = KeyV.val ⟨6, src, dst, 0, 0, p⟩ ∧ C0 [] w w') := by
 refine Fn.pure (A89 (TW.go (κ := false) (S := []) ?_))
 unfold A2b
 (have hQq := trivial; repeat ((first | clear hQq | (with_reducible first | refine A3 ?_ | refine A4 fun _ => ?_ | refine A5 fun _ => ?_)); (try simp (disch := first | omega | assumption | ((repeat (first | exact A0 | exact Up.here | apply A1 | apply Up.there)); first | done | fail) | (simp; first | done | omega | fail)) [])))
 exact A9 rfl
theorem C1Z (w : World) (s : ByteArray) (hs : s.size < 2 ^ 40) : Fn PR B5 186 #[.string s, .func (.func 187) #[] #[], .func (.func 188) #[] #[]] w
  (fun v w' => v = keyed.val (⟨4, (Q1 s).src, (Q1 s).dst, 0, 0, (Q1 s).proto⟩, (Q1 s).rest, (Q1 s).e) ∧ C0 [] w w') := by
 refine Fn.pure (A4W (TW.go (κ := false) (S := []) ?_))
 unfold y5
 (have hQq := trivial; repeat ((first | clear hQq | (with_reducible first | refine A3 ?_ | refine A4 fun _ => ?_ | refine A5 fun _ => ?_)); (try simp (disch := first | omega | assumption | ((repeat (first | exact A0 | exact Up.here | apply A1 | apply Up.there)); first | done | fail) | (simp; first | done | omega | fail)) [])))
 refine B7 B3w (fun w' _ => B6H w' s hs) ?_
 (have hQq := trivial; repeat ((first | clear hQq | (with_reducible first | refine A3 ?_ | refine A4 fun _ => ?_ | refine A5 fun _ => ?_)); (try simp (disch := first | omega | assumption | ((repeat (first | exact A0 | exact Up.here | apply A1 | apply Up.there)); first | done | fail) | (simp; first | done | omega | fail)) [HeadV.val])))
 refine B7 A8K (fun w' _ => B8p w' _ _ _) ?_
 (have hQq := trivial; repeat ((first | clear hQq | (with_reducible first | refine A3 ?_ | refine A4 fun _ => ?_ | refine A5 fun _ => ?_)); (try simp (disch := first | omega | assumption | ((repeat (first | exact A0 | exact Up.here | apply A1 | apply Up.there)); first | done | fail) | (simp; first | done | omega | fail)) [KeyV.val])))
 exact A9 (by simp [keyed.val, KeyV.val])
theorem C1s (w : World) (s : ByteArray) (hs : s.size < 2 ^ 40) : Fn PR B5 189 #[.string s, .func (.func 190) #[] #[], .func (.func 191) #[] #[]] w
  (fun v w' => v = keyed.val (⟨6, (S1 s).src, (S1 s).dst, 0, 0, (S1 s).proto⟩, (S1 s).rest, (S1 s).e) ∧ C0 [] w w') := by
 refine Fn.pure (A4D (TW.go (κ := false) (S := []) ?_))
 unfold x6
 (have hQq := trivial; repeat ((first | clear hQq | (with_reducible first | refine A3 ?_ | refine A4 fun _ => ?_ | refine A5 fun _ => ?_)); (try simp (disch := first | omega | assumption | ((repeat (first | exact A0 | exact Up.here | apply A1 | apply Up.there)); first | done | fail) | (simp; first | done | omega | fail)) [])))
 refine B7 B31 (fun w' _ => B6T w' s hs) ?_
 (have hQq := trivial; repeat ((first | clear hQq | (with_reducible first | refine A3 ?_ | refine A4 fun _ => ?_ | refine A5 fun _ => ?_)); (try simp (disch := first | omega | assumption | ((repeat (first | exact A0 | exact Up.here | apply A1 | apply Up.there)); first | done | fail) | (simp; first | done | omega | fail)) [HeadV.val])))
 refine B7 A8F (fun w' _ => B8y w' _ _ _) ?_
 (have hQq := trivial; repeat ((first | clear hQq | (with_reducible first | refine A3 ?_ | refine A4 fun _ => ?_ | refine A5 fun _ => ?_)); (try simp (disch := first | omega | assumption | ((repeat (first | exact A0 | exact Up.here | apply A1 | apply Up.there)); first | done | fail) | (simp; first | done | omega | fail)) [KeyV.val])))
 exact A9 (by simp [keyed.val, KeyV.val])
theorem C4j (w : World) (v : Int) : Fn PR B5 155 #[.int .i64 v] w (fun u w' => u = .int .i64 (if v = 4 then 4 else if v = 6 then 16 else 0) ∧ C0 [] w w') := by
 refine Fn.pure (B2j (TW.go (κ := false) (S := []) ?_))
 unfold A6T
 by_cases c1 : v = 4
 ·(have hQq := trivial; repeat ((first | clear hQq | (with_reducible first | refine A3 ?_ | refine A4 fun _ => ?_ | refine A5 fun _ => ?_)); (try simp (disch := first | omega | assumption | ((repeat (first | exact A0 | exact Up.here | apply A1 | apply Up.there)); first | done | fail) | (simp; first | done | omega | fail)) [c1]))); exact A9 (by simp)
 by_cases c2 : v = 6
 ·(have hQq := trivial; repeat ((first | clear hQq | (with_reducible first | refine A3 ?_ | refine A4 fun _ => ?_ | refine A5 fun _ => ?_)); (try simp (disch := first | omega | assumption | ((repeat (first | exact A0 | exact Up.here | apply A1 | apply Up.there)); first | done | fail) | (simp; first | done | omega | fail)) [c1, c2]))); exact A9 (by simp)
 ·(have hQq := trivial; repeat ((first | clear hQq | (with_reducible first | refine A3 ?_ | refine A4 fun _ => ?_ | refine A5 fun _ => ?_)); (try simp (disch := first | omega | assumption | ((repeat (first | exact A0 | exact Up.here | apply A1 | apply Up.there)); first | done | fail) | (simp; first | done | omega | fail)) [c1, c2]))); exact A9 (by simp)
theorem C1p (w : World) (s : ByteArray) (hs : s.size < 2 ^ 40) : Fn PR B5 153 #[.string s] w (fun u w' => u = keyed.val (M3 s) ∧ C0 [] w w') := by
 refine Fn.pure (B1N (TW.go (κ := false) (S := []) ?_))
 unfold A4m
 by_cases c0 : s.size = 0
 ·have e : s = ByteArray.mk #[] := by
   apply ByteArray.ext; exact Array.eq_empty_of_size_eq_zero c0
  (have hQq := trivial; repeat ((first | clear hQq | (with_reducible first | refine A3 ?_ | refine A4 fun _ => ?_ | refine A5 fun _ => ?_)); (try simp (disch := first | omega | assumption | ((repeat (first | exact A0 | exact Up.here | apply A1 | apply Up.there)); first | done | fail) | (simp; first | done | omega | fail)) [e])))
  exact A9 (by simp [M3, keyed.val, noK, KeyV.val])
 have c0' : ¬ s = ByteArray.mk #[] := fun e => c0 (by rw [e]; rfl)
 obtain ⟨by0, hb0, hb1⟩ := m4 (s := s) (i := 0) (by omega)
 have hb0' : s[(0 : Int).toNat]? = some by0 := hb0
 have hl0 := L9 s 0
 have e1 : ((by0.toNat : Nat) : Int).fdiv (2 ^ min 4 IntKind.u8.bits) = (C4 s 0 / 16 : Nat) := by rw [show (2 : Int) ^ min 4 IntKind.u8.bits = 16 from rfl, Int.fdiv_eq_ediv_of_nonneg _ (by omega), hb1]; omega
 by_cases c1 : C4 s 0 / 16 = 4
 ·have c1' : ((C4 s 0 : Nat) : Int) / 16 = 4 := by omega
  (have hQq := trivial; repeat ((first | clear hQq | (with_reducible first | refine A3 ?_ | refine A4 fun _ => ?_ | refine A5 fun _ => ?_)); (try simp (disch := first | omega | assumption | ((repeat (first | exact A0 | exact Up.here | apply A1 | apply Up.there)); first | done | fail) | (simp; first | done | omega | fail)) [c0', Y0])))
  rw [e1]
  (have hQq := trivial; repeat ((first | clear hQq | (with_reducible first | refine A3 ?_ | refine A4 fun _ => ?_ | refine A5 fun _ => ?_)); (try simp (disch := first | omega | assumption | ((repeat (first | exact A0 | exact Up.here | apply A1 | apply Up.there)); first | done | fail) | (simp; first | done | omega | fail)) [c1', c1])))
  refine B7 A3b (fun w' _ => C1Z w' s hs) ?_
  (have hQq := trivial; repeat ((first | clear hQq | (with_reducible first | refine A3 ?_ | refine A4 fun _ => ?_ | refine A5 fun _ => ?_)); (try simp (disch := first | omega | assumption | ((repeat (first | exact A0 | exact Up.here | apply A1 | apply Up.there)); first | done | fail) | (simp; first | done | omega | fail)) [keyed.val, KeyV.val])))
  exact A9 (by simp [M3, keyed.val, KeyV.val, c0, c1])
 have c1' : ¬ ((C4 s 0 : Nat) : Int) / 16 = 4 := by omega
 by_cases c2 : C4 s 0 / 16 = 6
 ·have c2' : ((C4 s 0 : Nat) : Int) / 16 = 6 := by omega
  (have hQq := trivial; repeat ((first | clear hQq | (with_reducible first | refine A3 ?_ | refine A4 fun _ => ?_ | refine A5 fun _ => ?_)); (try simp (disch := first | omega | assumption | ((repeat (first | exact A0 | exact Up.here | apply A1 | apply Up.there)); first | done | fail) | (simp; first | done | omega | fail)) [c0', Y0])))
  rw [e1]
  (have hQq := trivial; repeat ((first | clear hQq | (with_reducible first | refine A3 ?_ | refine A4 fun _ => ?_ | refine A5 fun _ => ?_)); (try simp (disch := first | omega | assumption | ((repeat (first | exact A0 | exact Up.here | apply A1 | apply Up.there)); first | done | fail) | (simp; first | done | omega | fail)) [c1', c1, c2', c2, Y0])))
  refine B7 A34 (fun w' _ => C1s w' s hs) ?_
  (have hQq := trivial; repeat ((first | clear hQq | (with_reducible first | refine A3 ?_ | refine A4 fun _ => ?_ | refine A5 fun _ => ?_)); (try simp (disch := first | omega | assumption | ((repeat (first | exact A0 | exact Up.here | apply A1 | apply Up.there)); first | done | fail) | (simp; first | done | omega | fail)) [keyed.val, KeyV.val])))
  exact A9 (by simp [M3, keyed.val, KeyV.val, c0, c1, c2])
 have c2' : ¬ ((C4 s 0 : Nat) : Int) / 16 = 6 := by omega
 (have hQq := trivial; repeat ((first | clear hQq | (with_reducible first | refine A3 ?_ | refine A4 fun _ => ?_ | refine A5 fun _ => ?_)); (try simp (disch := first | omega | assumption | ((repeat (first | exact A0 | exact Up.here | apply A1 | apply Up.there)); first | done | fail) | (simp; first | done | omega | fail)) [c0', Y0])))
 rw [e1]
 (have hQq := trivial; repeat ((first | clear hQq | (with_reducible first | refine A3 ?_ | refine A4 fun _ => ?_ | refine A5 fun _ => ?_)); (try simp (disch := first | omega | assumption | ((repeat (first | exact A0 | exact Up.here | apply A1 | apply Up.there)); first | done | fail) | (simp; first | done | omega | fail)) [c1', c1, c2', c2, Y0])))
 exact A9 (by simp [M3, keyed.val, KeyV.val, c0, c1, c2, noK])
def C3 (s : ByteArray) : KeyV × Nat × Nat :=
 let x := M3 s
 if x.2.2 ≠ 0 then (noK, 0, x.2.2) else let y := J0 x.1.proto x.2.1; if y.2.2.2 ≠ 0 then (noK, 0, y.2.2.2) else ({ x.1 with fr := y.1, tp := y.2.1 }, y.2.2.1, 0)
def N7 (k : KeyV) (f : Int) : Value := .agg #[.int .i64 k.v, .string k.src, .string k.dst, .int .i64 k.fr, .int .i64 k.tp, .int .i64 k.proto, .int .i64 f]
def packet.val (x : KeyV × Nat × Nat) : Value := .tuple #[N7 x.1 x.2.1, .int .i64 x.2.2]
theorem B95 (s : ByteArray) : (Q1 s).rest.size ≤ s.size := by
 unfold Q1; split
 ·simp only [ByteArray.size_extract]; omega
 ·simp [HeadV.err]
theorem B9U (s : ByteArray) : (S1 s).rest.size ≤ s.size := by
 unfold S1; split
 ·simp only [ByteArray.size_extract]; omega
 ·simp [HeadV.err]
theorem B0B (s : ByteArray) : (M3 s).2.1.size ≤ s.size := by
 unfold M3
 split
 ·simp
 split
 ·exact B95 s
 split
 ·exact B9U s
 ·simp
theorem B2s (w : World) (s : ByteArray) (hs : s.size < 2 ^ 40) : Fn PR B5 104 #[.string s] w (fun u w' => u = packet.val (C3 s) ∧ C0 [] w w') := by
 refine Fn.pure (B1S (TW.go (κ := false) (S := []) ?_))
 unfold A5J
 (have hQq := trivial; repeat ((first | clear hQq | (with_reducible first | refine A3 ?_ | refine A4 fun _ => ?_ | refine A5 fun _ => ?_)); (try simp (disch := first | omega | assumption | ((repeat (first | exact A0 | exact Up.here | apply A1 | apply Up.there)); first | done | fail) | (simp; first | done | omega | fail)) [])))
 refine B7 B0u (fun w' _ => C1p w' s hs) ?_
 have hr := B0B s
 by_cases c1 : (M3 s).2.2 = 0
 ·(have hQq := trivial; repeat ((first | clear hQq | (with_reducible first | refine A3 ?_ | refine A4 fun _ => ?_ | refine A5 fun _ => ?_)); (try simp (disch := first | omega | assumption | ((repeat (first | exact A0 | exact Up.here | apply A1 | apply Up.there)); first | done | fail) | (simp; first | done | omega | fail)) [keyed.val, KeyV.val, c1])))
  refine B7 B2d (fun w' _ => B5E w' _ (by omega) _) ?_
  by_cases c2 : (J0 (M3 s).1.proto (M3 s).2.1).2.2.2 = 0
  ·(have hQq := trivial; repeat ((first | clear hQq | (with_reducible first | refine A3 ?_ | refine A4 fun _ => ?_ | refine A5 fun _ => ?_)); (try simp (disch := first | omega | assumption | ((repeat (first | exact A0 | exact Up.here | apply A1 | apply Up.there)); first | done | fail) | (simp; first | done | omega | fail)) [J0.val, c2])))
   exact A9 (by simp [C3, packet.val, N7, KeyV.val, c1, c2])
  ·(have hQq := trivial; repeat ((first | clear hQq | (with_reducible first | refine A3 ?_ | refine A4 fun _ => ?_ | refine A5 fun _ => ?_)); (try simp (disch := first | omega | assumption | ((repeat (first | exact A0 | exact Up.here | apply A1 | apply Up.there)); first | done | fail) | (simp; first | done | omega | fail)) [J0.val, c2])))
   exact A9 (by simp [C3, packet.val, N7, KeyV.val, c1, c2, noK])
 ·(have hQq := trivial; repeat ((first | clear hQq | (with_reducible first | refine A3 ?_ | refine A4 fun _ => ?_ | refine A5 fun _ => ?_)); (try simp (disch := first | omega | assumption | ((repeat (first | exact A0 | exact Up.here | apply A1 | apply Up.there)); first | done | fail) | (simp; first | done | omega | fail)) [keyed.val, KeyV.val, c1])))
  exact A9 (by simp [C3, packet.val, N7, KeyV.val, c1, noK])
def M9 (k : KeyV) (f : Int) : ByteArray × Nat :=
 if k.v ≠ 4 ∧ k.v ≠ 6 then (P6, 3) else let s := V7 k.proto k.fr k.tp f; if s.2 ≠ 0 then (P6, s.2) else if k.v = 6 then A7W k.src k.dst s.1 k.proto else A7P k.src k.dst s.1 k.proto
theorem B75 (number x y f : Int) : (V7 number x y f).1.size ≤ 1000 := by
 have h6 := S2 6
 have h8 := S2 8
 unfold V7 A2T A3U A5Z
 repeat' split
 all_goals simp [h6, h8]
theorem B41 (w : World) (k : KeyV) (f : Int) : Fn PR B5 54 #[N7 k f] w (fun u w' => u = .tuple #[.string (M9 k f).1, .int .i64 (M9 k f).2] ∧ C0 [] w w') := by
 refine Fn.pure (B4P (TW.go (κ := false) (S := []) ?_))
 unfold A7z
 have hz := B75 k.proto k.fr k.tp f
 by_cases c0 : k.v = 4
 ·(have hQq := trivial; repeat ((first | clear hQq | (with_reducible first | refine A3 ?_ | refine A4 fun _ => ?_ | refine A5 fun _ => ?_)); (try simp (disch := first | omega | assumption | ((repeat (first | exact A0 | exact Up.here | apply A1 | apply Up.there)); first | done | fail) | (simp; first | done | omega | fail)) [N7, KeyV.val, c0])))
  refine B7 A3Y (fun w' _ => A7J w' _ _ _ _) ?_
  by_cases c1 : (V7 k.proto k.fr k.tp f).2 = 0
  ·(have hQq := trivial; repeat ((first | clear hQq | (with_reducible first | refine A3 ?_ | refine A4 fun _ => ?_ | refine A5 fun _ => ?_)); (try simp (disch := first | omega | assumption | ((repeat (first | exact A0 | exact Up.here | apply A1 | apply Up.there)); first | done | fail) | (simp; first | done | omega | fail)) [c1, c0])))
   refine B7 B6J (fun w' _ => B9D w' _ _ _ _ (by omega)) ?_
   (have hQq := trivial; repeat ((first | clear hQq | (with_reducible first | refine A3 ?_ | refine A4 fun _ => ?_ | refine A5 fun _ => ?_)); (try simp (disch := first | omega | assumption | ((repeat (first | exact A0 | exact Up.here | apply A1 | apply Up.there)); first | done | fail) | (simp; first | done | omega | fail)) [])))
   exact A9 (by simp [M9, c0, c1])
  ·(have hQq := trivial; repeat ((first | clear hQq | (with_reducible first | refine A3 ?_ | refine A4 fun _ => ?_ | refine A5 fun _ => ?_)); (try simp (disch := first | omega | assumption | ((repeat (first | exact A0 | exact Up.here | apply A1 | apply Up.there)); first | done | fail) | (simp; first | done | omega | fail)) [c1, c0])))
   exact A9 (by simp [M9, c0, c1])
 by_cases c6 : k.v = 6
 ·(have hQq := trivial; repeat ((first | clear hQq | (with_reducible first | refine A3 ?_ | refine A4 fun _ => ?_ | refine A5 fun _ => ?_)); (try simp (disch := first | omega | assumption | ((repeat (first | exact A0 | exact Up.here | apply A1 | apply Up.there)); first | done | fail) | (simp; first | done | omega | fail)) [N7, KeyV.val, c6])))
  refine B7 A3Y (fun w' _ => A7J w' _ _ _ _) ?_
  by_cases c1 : (V7 k.proto k.fr k.tp f).2 = 0
  ·(have hQq := trivial; repeat ((first | clear hQq | (with_reducible first | refine A3 ?_ | refine A4 fun _ => ?_ | refine A5 fun _ => ?_)); (try simp (disch := first | omega | assumption | ((repeat (first | exact A0 | exact Up.here | apply A1 | apply Up.there)); first | done | fail) | (simp; first | done | omega | fail)) [c1, c6])))
   refine B7 B7A (fun w' _ => B9r w' _ _ _ _ (by omega)) ?_
   (have hQq := trivial; repeat ((first | clear hQq | (with_reducible first | refine A3 ?_ | refine A4 fun _ => ?_ | refine A5 fun _ => ?_)); (try simp (disch := first | omega | assumption | ((repeat (first | exact A0 | exact Up.here | apply A1 | apply Up.there)); first | done | fail) | (simp; first | done | omega | fail)) [])))
   exact A9 (by simp [M9, c6, c1])
  ·(have hQq := trivial; repeat ((first | clear hQq | (with_reducible first | refine A3 ?_ | refine A4 fun _ => ?_ | refine A5 fun _ => ?_)); (try simp (disch := first | omega | assumption | ((repeat (first | exact A0 | exact Up.here | apply A1 | apply Up.there)); first | done | fail) | (simp; first | done | omega | fail)) [c1, c6])))
   exact A9 (by simp [M9, c6, c1])
 ·(have hQq := trivial; repeat ((first | clear hQq | (with_reducible first | refine A3 ?_ | refine A4 fun _ => ?_ | refine A5 fun _ => ?_)); (try simp (disch := first | omega | assumption | ((repeat (first | exact A0 | exact Up.here | apply A1 | apply Up.there)); first | done | fail) | (simp; first | done | omega | fail)) [N7, KeyV.val, c0, c6])))
  exact A9 (by simp [M9, c0, c6])
def S0 (k : KeyV) (f : Int) : Bool := decide (k.proto = 6) && !decide (IntKind.i64.wrap ((f % 2 ^ IntKind.i64.bits).toNat &&& 5 % 2 ^ IntKind.i64.bits : Nat) = 0)
theorem B1H (w : World) (k : KeyV) (f : Int) : Fn PR B5 106 #[N7 k f] w (fun u w' => u = .bool (S0 k f) ∧ C0 [] w w') := by
 refine Fn.pure (A9n (TW.go (κ := false) (S := []) ?_))
 unfold A20
 by_cases c0 : k.proto = 6
 ·(have hQq := trivial; repeat ((first | clear hQq | (with_reducible first | refine A3 ?_ | refine A4 fun _ => ?_ | refine A5 fun _ => ?_)); (try simp (disch := first | omega | assumption | ((repeat (first | exact A0 | exact Up.here | apply A1 | apply Up.there)); first | done | fail) | (simp; first | done | omega | fail)) [N7, KeyV.val, c0])))
  exact A9 (by simp [S0, c0])
 ·(have hQq := trivial; repeat ((first | clear hQq | (with_reducible first | refine A3 ?_ | refine A4 fun _ => ?_ | refine A5 fun _ => ?_)); (try simp (disch := first | omega | assumption | ((repeat (first | exact A0 | exact Up.here | apply A1 | apply Up.there)); first | done | fail) | (simp; first | done | omega | fail)) [N7, KeyV.val, c0])))
  exact A9 (by simp [S0, c0])
end Go.Proofs.YtggakcpabomliaaGreat
namespace Go.Proofs.YtggakcpabomliaaGreat
open Go
section
variable {κ : Bool} {X : Nat → Prop} {S : List Nat} {w0 : World} {H H' : List Res} {K : Value → WP}
theorem C0C {P : Program} {g : Sem Value} {u : Value} {b : Nat} {c c' : Array Value} {T : TypeId} (hrun : ∀ w, bl w b = some (.cells c T (0, 0)) → g.run P w = .ok u (World.putb w b (.cells c' T (0, 0))))
  (hu : Up (.pt b (.cells c T (0, 0))) (.pt b (.cells c' T (0, 0))) H H') (hK : TW κ S w0 H' (K u)) : TW κ S w0 H (B1 P X g K) := fun w hw => by
 have hm : Res.pt b (.cells c T (0, 0)) ∈ H := by obtain ⟨A, B, rfl, _⟩ := hu.parts; simp
 have hb := hw.pt hm
 rw [W5 (hrun w hb) (Sk.putb X hb)]
 refine hK _ (hw.up hu ⟨KS.putb hb (by simp [Res.foot]), ?_, ?_, by simp⟩)
 ·simp only [List.mem_singleton, forall_eq, Res.holds]; exact ⟨U8 (K1 hb), rfl⟩
 ·simp only [List.mem_singleton, forall_eq, Res.foot]; exact ⟨Or.inl (by simp), by have := K1 hb; simpa using this⟩
theorem B7k (w : World) : (underlying 218).run PR w = .ok (.slice 5) w := A3B.run_und
theorem C6K (w : World) : (underlying 237).run PR w = .ok (.array 38 5) w := B8Z.run_und
def W4 (s : ByteArray) (o : Nat) (t : ByteArray) : ByteArray := s.extract 0 o ++ t ++ s.extract (o + t.size) s.size
theorem A8Q {s t : ByteArray} {o : Nat} (h : o + t.size ≤ s.size) : (W4 s o t).size = s.size := by simp [W4]; omega
theorem B3m (s t : ByteArray) (o : Nat) (h : o + t.size ≤ s.size) : E7 (F7 s).toArray o (F7 t) = (F7 (W4 s o t)).toArray := by
 apply Array.toList_inj.1
 rw [A1b _ _ _ (by simpa using h)]
 simp [F7, W4, List.map_take, List.map_drop]
 rw [List.take_of_length_le (by simp)]
theorem B2w {b o n c : Nat} {s t : ByteArray} {T : TypeId} (hu : Up (.pt b (.cells (F7 s).toArray T)) (.pt b (.cells (F7 (W4 s o t)).toArray T)) H H') (hn : t.size ≤ n) (hs : o + t.size ≤ s.size)
  (hK : TW κ S w0 H' (K (.int .i64 t.size))) : TW κ S w0 H (B1 PR X (A7 .copy #[218, 9] 3 [.slice (some ⟨b, o, none⟩) n c, .string t]) K) := by
 refine C0C (u := .int .i64 t.size) (fun w hb => ?_) hu hK
 have hst := j4 (P := PR) (o0 := o) (F7 t) 0 w (F7 s).toArray hb (by simpa using hs) (A50 t)
 rw [Nat.add_zero, B3m s t o hs] at hst
 have hl : Nat.min t.size n = t.size := Nat.min_eq_left hn
 have htk : List.take t.size (List.map (fun b : UInt8 => Value.int IntKind.u8 (b.toNat : Int)) t.data.toList) = F7 t := by
  rw [List.take_of_length_le (by simp)]; rfl
 show (Builtin.copy_ #[218, 9] 3 #[.slice (some ⟨b, o, none⟩) n c, .string t]).run PR w = _
 simp [Builtin.copy_, B7k, ty5.run_size, Builtin.lenOf, Builtin.firstCells, hl]
 rw [htk, hst]
 simp [goInt, Result.andThen]
def z38 : ByteArray := P7 z1 38
theorem A7F : z38.size = 38 := S2 38
theorem B99 : (Builtin.zeroCells (Value.int .u8 0).cells 38).toList = F7 z38 := by kernel_rfl
theorem C3s : (F7 z38).toArray = #[.int .u8 0, .int .u8 0, .int .u8 0, .int .u8 0, .int .u8 0, .int .u8 0, .int .u8 0, .int .u8 0, .int .u8 0, .int .u8 0, .int .u8 0, .int .u8 0, .int .u8 0, .int .u8 0, .int .u8 0, .int .u8 0, .int .u8 0, .int .u8 0, .int .u8 0, .int .u8 0, .int .u8 0, .int .u8 0, .int .u8 0, .int .u8 0, .int .u8 0, .int .u8 0, .int .u8 0, .int .u8 0, .int .u8 0, .int .u8 0, .int .u8 0, .int .u8 0, .int .u8 0, .int .u8 0, .int .u8 0, .int .u8 0, .int .u8 0, .int .u8 0] := by kernel_rfl
theorem B9v {b : Nat} {s : ByteArray} {T : TypeId} (hs : s.size = 38) (hu : Up (.pt b (.cells (F7 s).toArray T)) (.pt b (.cells (F7 z38).toArray T)) H H')
  (hK : TW κ S w0 H' (K (.tuple #[]))) : TW κ S w0 H (B1 PR X (A7 .clear #[218] 0 [.slice (some ⟨b, 0, none⟩) 38 38]) K) := by
 refine C0C (u := .tuple #[]) (fun w hb => ?_) hu hK
 have h38 := A7F
 have hst := j4 (P := PR) (o0 := 0) (F7 z38) 0 w (F7 s).toArray hb (by simp [hs, h38]) (A50 _)
 rw [Nat.add_zero, B3m s z38 0 (by omega)] at hst
 have e : W4 s 0 z38 = z38 := by
  apply ByteArray.ext
  simp [W4, h38, hs]
 rw [e] at hst
 show (Builtin.clear_ #[218] 0 #[.slice (some ⟨b, 0, none⟩) 38 38]).run PR w = _
 simp only [Builtin.clear_, List.getElem?_toArray, List.getElem?_cons_zero, Sem.run_bind, B7k, Result.andThen_ok, ty5.run_zero, B99, hst, Sem.run_pure]
theorem C5N {b : Nat} {s : ByteArray} {T : TypeId} (hm : Res.pt b (.cells (F7 s).toArray T) ∈ H) (c n : Nat) (hn : n = s.size) :
  TW κ S w0 H (A6 PR (convert 218 9 (.slice (some ⟨b, 0, none⟩) n c)) K) = TW κ S w0 H (K (.string s)) := TW.congr fun w hw => by
 refine T0 ?_ K
 subst hn
 have hb := hw.pt hm
 have hB : Lib.Bytes w b 0 s := fun i hi => by
  rw [N0 hb]; simp [F7, hi]; rfl
 exact Lib.run_convert_whole w _ _ _ A3B.und ty5.und a6.und b 0 s hB c
end
theorem C0J {lo : Nat} (b : Nat) (h : lo < 38) (K : Value → WP) : A2 PR (Instr.sliceAt 237 (.pointer (some ⟨b, 0, none⟩)) (some (.int .i64 (lo : Int))) none none) K = K (.slice (some ⟨b, lo, none⟩) (38 - lo) (38 - lo)) :=
 F4 (fun w => by
  have h1 : ¬ ((38 : Int) < lo) := by omega
  have h2 : ¬ (38 = lo) := by omega
  simp [Instr.sliceAt, C6K, Instr.sliceBounds, Instr.sliceBound, asIntOf, h1, h2, ty5.run_size, Instr.sureAddr, W6]
  omega) K
def T3 (v : Int) : Nat := if v = 4 then 4 else if v = 6 then 16 else 0
theorem C1k (w : World) (v : Int) : Fn PR B5 155 #[.int .i64 v] w (fun u w' => u = .int .i64 (T3 v : Nat) ∧ C0 [] w w') := by
 have := C4j w v
 have e : ((T3 v : Nat) : Int) = if v = 4 then 4 else if v = 6 then 16 else 0 := by (unfold T3; repeat' split) <;> rfl
 rw [e]; exact this
def Q4 (k : KeyV) : Bool := decide (T3 k.v ≠ 0 ∧ k.src.size = T3 k.v ∧ k.dst.size = T3 k.v ∧ (V7 k.proto k.fr k.tp 0).2 = 0)
def A0e (k : KeyV) : ByteArray := W4 (W4 (W4 z38 0 (E4 (k.v * 256 + k.proto) 2 ++ E4 k.fr 2 ++ E4 k.tp 2)) 6 k.src) 22 k.dst
def r9 (k : KeyV) : Value := .tuple #[.string (if Q4 k then A0e k else P6), .bool (Q4 k)]
theorem B2V {n x y f : Int} (h : (V7 n x y f).2 = 0) : (n = 6 ∨ n = 17) ∧ G7 x y = true := by
 unfold V7 at h
 split at h
 ·simp at h
 split at h
 ·simp at h
 ·rename_i h1 h2
  refine ⟨by omega, ?_⟩
  cases hp : G7 x y with
  | true => rfl
  | false => exact absurd (Or.inl hp) h2
theorem C2J (w : World) (k : KeyV) : Fn PR B5 105 #[k.val] w (fun u w' => u = r9 k ∧ C0 [] w w') := by
 refine Fn.pure (B2C (TW.go (κ := false) (S := []) ?_))
 unfold A48 KeyV.val
 (have hQq := trivial; repeat ((first | clear hQq | (with_reducible first | refine A3 ?_ | refine A4 fun _ => ?_ | refine A5 fun _ => ?_)); (try simp (disch := first | omega | assumption | ((repeat (first | exact A0 | exact Up.here | apply A1 | apply Up.there)); first | done | fail) | (simp; first | done | omega | fail)) [])))
 refine B7 B07 (fun w' _ => C1k w' _) ?_
 (have hQq := trivial; repeat ((first | clear hQq | (with_reducible first | refine A3 ?_ | refine A4 fun _ => ?_ | refine A5 fun _ => ?_)); (try simp (disch := first | omega | assumption | ((repeat (first | exact A0 | exact Up.here | apply A1 | apply Up.there)); first | done | fail) | (simp; first | done | omega | fail)) [])))
 refine B7 A3Y (fun w' _ => A7J w' _ _ _ _) ?_
 have bad : Q4 k = false → r9 k = .tuple #[.string P6, .bool false] := fun h => by simp [r9, h]
 by_cases c1 : T3 k.v = 0
 ·(have hQq := trivial; repeat ((first | clear hQq | (with_reducible first | refine A3 ?_ | refine A4 fun _ => ?_ | refine A5 fun _ => ?_)); (try simp (disch := first | omega | assumption | ((repeat (first | exact A0 | exact Up.here | apply A1 | apply Up.there)); first | done | fail) | (simp; first | done | omega | fail)) [c1])))
  exact A9 (bad (by simp [Q4, c1])).symm
 have c1' : ¬ ((T3 k.v : Nat) : Int) = 0 := by omega
 by_cases c2 : k.src.size = T3 k.v
 case neg =>
  have c2' : ¬ ((k.src.size : Nat) : Int) = T3 k.v := by omega
  (have hQq := trivial; repeat ((first | clear hQq | (with_reducible first | refine A3 ?_ | refine A4 fun _ => ?_ | refine A5 fun _ => ?_)); (try simp (disch := first | omega | assumption | ((repeat (first | exact A0 | exact Up.here | apply A1 | apply Up.there)); first | done | fail) | (simp; first | done | omega | fail)) [c1, c1', c2, c2'])))
  exact A9 (bad (by simp [Q4, c2])).symm
 by_cases c3 : k.dst.size = T3 k.v
 case neg =>
  have c3' : ¬ ((k.dst.size : Nat) : Int) = T3 k.v := by omega
  (have hQq := trivial; repeat ((first | clear hQq | (with_reducible first | refine A3 ?_ | refine A4 fun _ => ?_ | refine A5 fun _ => ?_)); (try simp (disch := first | omega | assumption | ((repeat (first | exact A0 | exact Up.here | apply A1 | apply Up.there)); first | done | fail) | (simp; first | done | omega | fail)) [c1, c1', c2, c3, c3'])))
  exact A9 (bad (by simp [Q4, c3])).symm
 by_cases c4 : (V7 k.proto k.fr k.tp 0).2 = 0
 case neg =>
  (have hQq := trivial; repeat ((first | clear hQq | (with_reducible first | refine A3 ?_ | refine A4 fun _ => ?_ | refine A5 fun _ => ?_)); (try simp (disch := first | omega | assumption | ((repeat (first | exact A0 | exact Up.here | apply A1 | apply Up.there)); first | done | fail) | (simp; first | done | omega | fail)) [c1, c1', c2, c3, c4])))
  exact A9 (bad (by simp [Q4, c4])).symm
 (have hQq := trivial; repeat ((first | clear hQq | (with_reducible first | refine A3 ?_ | refine A4 fun _ => ?_ | refine A5 fun _ => ?_)); (try simp (disch := first | omega | assumption | ((repeat (first | exact A0 | exact Up.here | apply A1 | apply Up.there)); first | done | fail) | (simp; first | done | omega | fail)) [c1, c1', c2, c3, c4])))
 rename_i bk ba
 refine TW.eqH (H' := [.pt ba (.cells (F7 z38).toArray 237), .pt bk (.cells #[.int .i64 k.v, .string k.src, .string k.dst, .int .i64 k.fr, .int .i64 k.tp, .int .i64 k.proto] 99)]) (by rw [C3s]) ?_
 refine B9v A7F .here ?_
 obtain ⟨hp, hq⟩ := B2V c4
 simp only [G7, decide_eq_true_eq] at hq
 have hv : k.v = 4 ∨ k.v = 6 := by unfold T3 at c1; split at c1 <;> (try split at c1) <;> omega
 have hh : (E4 (k.v * 256 + k.proto) 2 ++ E4 k.fr 2 ++ E4 k.tp 2).size = 6 := by simp
 have h38 := A7F
 have s1 : (W4 z38 0 (E4 (k.v * 256 + k.proto) 2 ++ E4 k.fr 2 ++ E4 k.tp 2)).size = 38 := by rw [A8Q (by omega), h38]
 have hl : T3 k.v ≤ 16 := by unfold T3; split <;> (try split) <;> omega
 have s2 : (W4 (W4 z38 0 (E4 (k.v * 256 + k.proto) 2 ++ E4 k.fr 2 ++ E4 k.tp 2)) 6 k.src).size = 38 := by rw [A8Q (by omega), s1]
 have s3 : (A0e k).size = 38 := by unfold A0e; rw [A8Q (by omega), s2]
 have i6 := fun K => C0J (lo := 6) ba (by omega) K
 have i22 := fun K => C0J (lo := 22) ba (by omega) K
 simp at i6 i22
 have ok : Q4 k = true := by simp [Q4, c1, c2, c3, c4]
 have q1 := hq.1
 have q2 := hq.2.1
 have q3 := hq.2.2.1
 have q4 := hq.2.2.2
 have eor : IntKind.u64.wrap ((IntKind.u64.wrap (k.v * 2 ^ min 8 IntKind.u64.bits) % 2 ^ IntKind.u64.bits).toNat ||| (k.proto % 2 ^ IntKind.u64.bits).toNat : Nat) = k.v * 256 + k.proto := by
  rcases hv with hv | hv <;> rcases hp with hp | hp <;> (rw [hv, hp]; decide)
 have ew1 : IntKind.u64.wrap k.fr = k.fr := u6 (by omega) (by omega)
 have ew2 : IntKind.u64.wrap k.tp = k.tp := u6 (by omega) (by omega)
 (have hQq := trivial; repeat ((first | clear hQq | (with_reducible first | refine A3 ?_ | refine A4 fun _ => ?_ | refine A5 fun _ => ?_)); (try simp (disch := first | omega | assumption | ((repeat (first | exact A0 | exact Up.here | apply A1 | apply Up.there)); first | done | fail) | (simp; first | done | omega | fail)) [])))
 rw [eor, ew1, ew2]
 refine B7 G8 (fun w' hw' => Z0 w' _ _) ?_
 (have hQq := trivial; repeat ((first | clear hQq | (with_reducible first | refine A3 ?_ | refine A4 fun _ => ?_ | refine A5 fun _ => ?_)); (try simp (disch := first | omega | assumption | ((repeat (first | exact A0 | exact Up.here | apply A1 | apply Up.there)); first | done | fail) | (simp; first | done | omega | fail)) [])))
 refine B7 G8 (fun w' hw' => Z0 w' _ _) ?_
 (have hQq := trivial; repeat ((first | clear hQq | (with_reducible first | refine A3 ?_ | refine A4 fun _ => ?_ | refine A5 fun _ => ?_)); (try simp (disch := first | omega | assumption | ((repeat (first | exact A0 | exact Up.here | apply A1 | apply Up.there)); first | done | fail) | (simp; first | done | omega | fail)) [P1])))
 refine B7 G8 (fun w' hw' => Z0 w' _ _) ?_
 (have hQq := trivial; repeat ((first | clear hQq | (with_reducible first | refine A3 ?_ | refine A4 fun _ => ?_ | refine A5 fun _ => ?_)); (try simp (disch := first | omega | assumption | ((repeat (first | exact A0 | exact Up.here | apply A1 | apply Up.there)); first | done | fail) | (simp; first | done | omega | fail)) [P1])))
 refine B2w (o := 0) (s := z38) (by ((repeat (first | exact A0 | exact Up.here | exact Sel.here | apply A1 | apply Up.there | apply Sel.there)); first | done | fail)) (by omega) (by omega) ?_
 (have hQq := trivial; repeat ((first | clear hQq | (with_reducible first | refine A3 ?_ | refine A4 fun _ => ?_ | refine A5 fun _ => ?_)); (try simp (disch := first | omega | assumption | ((repeat (first | exact A0 | exact Up.here | apply A1 | apply Up.there)); first | done | fail) | (simp; first | done | omega | fail)) [i6])))
 refine B2w (o := 6) (s := W4 z38 0 (E4 (k.v * 256 + k.proto) 2 ++ E4 k.fr 2 ++ E4 k.tp 2)) (by ((repeat (first | exact A0 | exact Up.here | exact Sel.here | apply A1 | apply Up.there | apply Sel.there)); first | done | fail)) (by omega) (by omega) ?_
 (have hQq := trivial; repeat ((first | clear hQq | (with_reducible first | refine A3 ?_ | refine A4 fun _ => ?_ | refine A5 fun _ => ?_)); (try simp (disch := first | omega | assumption | ((repeat (first | exact A0 | exact Up.here | apply A1 | apply Up.there)); first | done | fail) | (simp; first | done | omega | fail)) [i22])))
 refine B2w (o := 22) (s := W4 (W4 z38 0 (E4 (k.v * 256 + k.proto) 2 ++ E4 k.fr 2 ++ E4 k.tp 2)) 6 k.src) (by ((repeat (first | exact A0 | exact Up.here | exact Sel.here | apply A1 | apply Up.there | apply Sel.there)); first | done | fail)) (by omega) (by omega) ?_
 (have hQq := trivial; repeat ((first | clear hQq | (with_reducible first | refine A3 ?_ | refine A4 fun _ => ?_ | refine A5 fun _ => ?_)); (try simp (disch := first | omega | assumption | ((repeat (first | exact A0 | exact Up.here | apply A1 | apply Up.there)); first | done | fail) | (simp; first | done | omega | fail)) [])))
 rw [C5N (s := A0e k) (by ((repeat (first | exact A0 | exact Up.here | exact Sel.here | apply A1 | apply Up.there | apply Sel.there)); first | done | fail)) _ _ s3.symm]
 exact A9 (by simp [r9, ok])
end Go.Proofs.YtggakcpabomliaaGreat
namespace Go.Proofs.YtggakcpabomliaaGreat
open Go
@[simp] theorem D0y {κ : Bool} {S : List Nat} {w0 : World} {H : List Res} {K : Value → WP} {t : TypeId} {z : Value} [h : TS t z] {b o : Nat} {c : Array Value} {T : TypeId} {f : Nat × Nat} (hm : Res.pt b (.cells c T f) ∈ H) :
  TW κ S w0 H (A6 PR (E0 [.c t (.pointer (some ⟨b, o, none⟩))]) K) = TW κ S w0 H (rdc c[o]? K (A6 PR (E0 [.c t (.pointer (some ⟨b, o, none⟩))]) K)) := by
 cases hc : c[o]? with
 | none => rfl
 | some v => rw [C5M hm hc]; rfl
abbrev G5 := Int × Int
def E8 (b : G5) : List Value := [.int .i64 b.1, .int .i64 b.2]
structure EnV where
 st : Int
 key : ByteArray
 bk : Int
 dl : Int
 deriving DecidableEq
def E1 (x : EnV) : List Value := [.int .i64 x.st, .string x.key, .int .i64 x.bk, .int .i64 x.dl]
theorem C40 {t u : TypeId} {n m : Nat} {z : Value} {a : Option Addr} {l c e : Nat} (h : TI PR t (.slice u) n m z) : EqV PR (e + 1) t (.slice a l c) (.slice none 0 0) a.isNone := by
 intro w
 cases a with
 | none => simp only [Op.equalIn, Sem.run_bind, h.run_und, Result.andThen_ok, Sem.run_pure, Option.isNone]
 | some a => simp only [Op.equalIn, Sem.run_bind, h.run_und, Result.andThen_ok, Sem.run_pure]; rfl
theorem C5a {t u : TypeId} {n m : Nat} {z : Value} (h : TI PR t (.slice u) n m z) (x y : Operand) (a : Option Addr) (l c : Nat) (K : Value → WP) :
  A6 PR (N2 .eql t x y (.slice a l c) (.slice none 0 0)) K = K (.bool a.isNone) := by
 funext w
 refine T0 ?_ K
 have h1 : (eqGuard .eql t x y (.slice a l c) (.slice none 0 0)).run PR w = .ok () w := by simp [eqGuard]
 have h2 : (Op.equalIn 10000 t (.slice a l c) (.slice none 0 0)).run PR w = .ok a.isNone w := C40 (e := 9999) h w
 simp [N2, h1, binOp, Op.equal, Op.maxDepth, h2]
theorem C3P (x y : Operand) (a : Option Addr) (l c : Nat) (K : Value → WP) : A6 PR (N2 .eql 32 x y (.slice a l c) (.slice none 0 0)) K = K (.bool a.isNone) := C5a A8M x y a l c K
theorem C3T (x y : Operand) (a : Option Addr) (l c : Nat) (K : Value → WP) : A6 PR (N2 .eql 50 x y (.slice a l c) (.slice none 0 0)) K = K (.bool a.isNone) := C5a A8W x y a l c K
theorem B3r (w : World) (v : Value) (n : Nat) (xs : List Value) (hn : n ≤ 1000000) (hx : xs.length = n * 2) (hp : xs.all plain = true) (hv : E3 w v n xs) :
  Fn PR B5 70 #[v] w (Rn [] w (fun r u => u = r) fun r => [.own 103 2 r n xs]) := by
 obtain ⟨a, c, rfl, hr⟩ := hv.form
 refine m8 (TW.go (κ := false) (S := []) ?_)
 unfold T5
 cases a with
 | none =>
  obtain rfl : n = 0 := by
   rcases Nat.eq_zero_or_pos n with h | h
   ·exact h
   ·obtain ⟨_, _, h, _⟩ := hr h; cases h
  obtain rfl : xs = [] := List.length_eq_zero_iff.1 (by omega)
  (have hQq := trivial; repeat ((first | clear hQq | (with_reducible first | refine A3 ?_ | refine A4 fun _ => ?_ | refine A5 fun _ => ?_)); (try simp (disch := first | omega | assumption | ((repeat (first | exact A0 | exact Up.here | apply A1 | apply Up.there)); first | done | fail) | (simp; first | done | omega | fail)) [C3P])))
  refine l6 103 2 ?_
  exact g6 (.slice none 0 0) rfl (by simp)
 | some a =>
  (have hQq := trivial; repeat ((first | clear hQq | (with_reducible first | refine A3 ?_ | refine A4 fun _ => ?_ | refine A5 fun _ => ?_ | refine D4 fun _ => ?_ | refine D3 (hK := fun _ => ?_) | refine D1 (hK := fun _ => ?_) | refine D2 (hK := fun _ => ?_) | refine D6 (hK := fun _ => ?_) | refine D5 (hK := fun _ => ?_))); (try simp (disch := first | omega | assumption | ((repeat (first | exact A0 | exact Up.here | apply A1 | apply Up.there)); first | done | fail) | (simp; first | done | omega | fail)) [C3P])))
  refine l0 (by ((repeat (first | exact A0 | exact Up.here | exact Sel.here | apply A1 | apply Up.there | apply Sel.there)); first | done | fail)) (K6.old0 hv) (by decide) hx hp (by simp only [maxLen]; omega) (by omega) fun a' c' => ?_
  simp only [Nat.zero_add, List.nil_append]
  exact C6 _ rfl (by ((repeat (first | exact Sels.nil | (apply Sels.cons; · ((repeat (first | exact A0 | exact Up.here | exact Sel.here | apply A1 | apply Up.there | apply Sel.there)); first | done | fail)))); first | done | fail))
theorem A82 (w : World) (v : Value) (n : Nat) (xs : List Value) (hn : n ≤ 1000000) (hx : xs.length = n * 4) (hp : xs.all plain = true) (hv : E3 w v n xs) :
  Fn PR B5 71 #[v] w (Rn [] w (fun r u => u = r) fun r => [.own 71 4 r n xs]) := by
 obtain ⟨a, c, rfl, hr⟩ := hv.form
 refine u5 (TW.go (κ := false) (S := []) ?_)
 unfold V0
 cases a with
 | none =>
  obtain rfl : n = 0 := by
   rcases Nat.eq_zero_or_pos n with h | h
   ·exact h
   ·obtain ⟨_, _, h, _⟩ := hr h; cases h
  obtain rfl : xs = [] := List.length_eq_zero_iff.1 (by omega)
  (have hQq := trivial; repeat ((first | clear hQq | (with_reducible first | refine A3 ?_ | refine A4 fun _ => ?_ | refine A5 fun _ => ?_)); (try simp (disch := first | omega | assumption | ((repeat (first | exact A0 | exact Up.here | apply A1 | apply Up.there)); first | done | fail) | (simp; first | done | omega | fail)) [C3T])))
  refine l6 71 4 ?_
  exact g6 (.slice none 0 0) rfl (by simp)
 | some a =>
  (have hQq := trivial; repeat ((first | clear hQq | (with_reducible first | refine A3 ?_ | refine A4 fun _ => ?_ | refine A5 fun _ => ?_ | refine D4 fun _ => ?_ | refine D3 (hK := fun _ => ?_) | refine D1 (hK := fun _ => ?_) | refine D2 (hK := fun _ => ?_) | refine D6 (hK := fun _ => ?_) | refine D5 (hK := fun _ => ?_))); (try simp (disch := first | omega | assumption | ((repeat (first | exact A0 | exact Up.here | apply A1 | apply Up.there)); first | done | fail) | (simp; first | done | omega | fail)) [C3T])))
  refine l0 (by ((repeat (first | exact A0 | exact Up.here | exact Sel.here | apply A1 | apply Up.there | apply Sel.there)); first | done | fail)) (K6.old0 hv) (by decide) hx hp (by simp only [maxLen]; omega) (by omega) fun a' c' => ?_
  simp only [Nat.zero_add, List.nil_append]
  exact C6 _ rfl (by ((repeat (first | exact Sels.nil | (apply Sels.cons; · ((repeat (first | exact A0 | exact Up.here | exact Sel.here | apply A1 | apply Up.there | apply Sel.there)); first | done | fail)))); first | done | fail))
theorem C0q {α : Type} {l m : List α} (hl : l.length = m.length) (h : ∀ j, j < l.length → l[j]? = m[j]?) : l = m := List.ext_getElem? fun i => by
 by_cases hi : i < l.length
 ·exact h i hi
 ·rw [List.getElem?_eq_none (by omega), List.getElem?_eq_none (by omega)]
def A64 {α : Type} (p : α → Bool) (l : List α) : Int := match l.findIdx? p with | some i => i | none => -1
theorem A42 {α : Type} {p : α → Bool} {l : List α} {i : Nat} {x : α} (hx : l[i]? = some x) (hp : p x = true) (h : ∀ j y, j < i → l[j]? = some y → p y = false) : A64 p l = i := by
 have : l.findIdx? p = some i := by
  rw [List.findIdx?_eq_some_iff_getElem]
  obtain ⟨hi, e⟩ := List.getElem?_eq_some_iff.1 hx
  exact ⟨hi, by rw [e]; exact hp, fun j hj => by rw [h j l[j] hj (List.getElem?_eq_getElem (by omega))]; simp⟩
 simp [A64, this]
theorem A8a {α : Type} {p : α → Bool} {l : List α} (h : ∀ (j : Nat) y, l[j]? = some y → p y = false) : A64 p l = -1 := by
 have : l.findIdx? p = none := by
  rw [List.findIdx?_eq_none_iff]; intro x hx; obtain ⟨i, hi, rfl⟩ := List.getElem_of_mem hx; exact h i _ (List.getElem?_eq_getElem hi)
 simp [A64, this]
theorem B4N (w : World) (v : Value) (l : List G5) (p : G5 → Bool) (f : FuncId) (cap : List Value) (hn : l.length ≤ 1000000) (hv : E3 w v l.length (l.flatMap E8)) (he : B0 PR f)
  (hf : ∀ w', KS false [] w w' → ∀ x : G5, Fn PR B5 f (.agg #[.int .i64 x.1, .int .i64 x.2] :: cap).toArray w' (fun r w'' => r = .bool (p x) ∧ C0 [] w' w'')) :
  Fn PR B5 86 #[v, .func (.func f) #[] cap.toArray] w (fun r w' => r = .int .i64 (A64 p l) ∧ C0 [] w w') := by
 refine Fn.pure (g4 (TW.go (κ := false) (S := []) ?_))
 unfold Q9
 obtain ⟨a, c, rfl, hr⟩ := hv.form
 (have hQq := trivial; repeat ((first | clear hQq | (with_reducible first | refine A3 ?_ | refine A4 fun _ => ?_ | refine A5 fun _ => ?_)); (try simp (disch := first | omega | assumption | ((repeat (first | exact A0 | exact Up.here | apply A1 | apply Up.there)); first | done | fail) | (simp; first | done | omega | fail)) [])))
 refine K3 (α := Unit) l.length (fun _ _ => .int .i64 0) (fun _ _ => []) (fun i _ => ∀ j y, j < i → l[j]? = some y → p y = false) () (by intro j _ hj; omega) ?_
 rintro i _ hi hpre L hL
 by_cases hlt : i < l.length
 ·obtain ⟨b, o, rfl, hrow⟩ := hr (by omega)
  obtain ⟨x, hx⟩ : ∃ x, l[i]? = some x := ⟨_, List.getElem?_eq_getElem (by omega)⟩
  have h1 := hrow.at (f := E8) (k := 2) (fun _ => rfl) hx
  rw [E8] at h1
  (have hQq := trivial; repeat ((first | clear hQq | (with_reducible first | refine A3 ?_ | refine A4 fun _ => ?_ | refine A5 fun _ => ?_)); (try simp (disch := first | omega | assumption | ((repeat (first | exact A0 | exact Up.here | apply A1 | apply Up.there)); first | done | fail) | (simp; first | done | omega | fail)) [hlt, h1])))
  refine B2q he (φ := fun r => r = .bool (p x)) (fun w' hw' => by simpa using hf w' hw'.ks x) ?_
  rintro _ rfl
  cases hb : p x with
  | true =>
   (have hQq := trivial; repeat ((first | clear hQq | (with_reducible first | refine A3 ?_ | refine A4 fun _ => ?_ | refine A5 fun _ => ?_)); (try simp (disch := first | omega | assumption | ((repeat (first | exact A0 | exact Up.here | apply A1 | apply Up.there)); first | done | fail) | (simp; first | done | omega | fail)) [])))
   exact A9 (by rw [A42 hx hb hpre])
  | false =>
   (have hQq := trivial; repeat ((first | clear hQq | (with_reducible first | refine A3 ?_ | refine A4 fun _ => ?_ | refine A5 fun _ => ?_)); (try simp (disch := first | omega | assumption | ((repeat (first | exact A0 | exact Up.here | apply A1 | apply Up.there)); first | done | fail) | (simp; first | done | omega | fail)) [])))
   refine Sels.tw .nil (hL hlt () ?_)
   intro j y hj hy
   by_cases hji : j = i
   ·subst hji; rw [hx] at hy; cases hy; exact hb
   ·exact hpre j y (by omega) hy
 ·obtain rfl : i = l.length := by omega
  (have hQq := trivial; repeat ((first | clear hQq | (with_reducible first | refine A3 ?_ | refine A4 fun _ => ?_ | refine A5 fun _ => ?_)); (try simp (disch := first | omega | assumption | ((repeat (first | exact A0 | exact Up.here | apply A1 | apply Up.there)); first | done | fail) | (simp; first | done | omega | fail)) [])))
  exact A9 (by rw [A8a fun j y hy => hpre j y (List.getElem?_eq_some_iff.1 hy).1 hy])
theorem B3z (w : World) (v : Value) (l : List (Int × Int)) (p : Int × Int → Bool) (f : FuncId) (cap : List Value) (hn : l.length ≤ 1000000) (hv : E3 w v l.length (l.flatMap E8)) (he : B0 PR f)
  (hf : ∀ w', KS false [] w w' → ∀ x : Int × Int, Fn PR B5 f (.agg #[.int .i64 x.1, .int .i64 x.2] :: cap).toArray w' (fun r w'' => r = .bool (p x) ∧ C0 [] w' w'')) :
  Fn PR B5 169 #[v, .func (.func f) #[] cap.toArray] w (fun r w' => r = .int .i64 (A64 p l) ∧ C0 [] w w') := by
 refine Fn.pure (A1M (TW.go (κ := false) (S := []) ?_))
 unfold Z4
 obtain ⟨a, c, rfl, hr⟩ := hv.form
 (have hQq := trivial; repeat ((first | clear hQq | (with_reducible first | refine A3 ?_ | refine A4 fun _ => ?_ | refine A5 fun _ => ?_)); (try simp (disch := first | omega | assumption | ((repeat (first | exact A0 | exact Up.here | apply A1 | apply Up.there)); first | done | fail) | (simp; first | done | omega | fail)) [])))
 refine K3 (α := Unit) l.length (fun _ _ => .int .i64 0) (fun _ _ => []) (fun i _ => ∀ j y, j < i → l[j]? = some y → p y = false) () (by intro j _ hj; omega) ?_
 rintro i _ hi hpre L hL
 by_cases hlt : i < l.length
 ·obtain ⟨b, o, rfl, hrow⟩ := hr (by omega)
  obtain ⟨x, hx⟩ : ∃ x, l[i]? = some x := ⟨_, List.getElem?_eq_getElem (by omega)⟩
  have h1 := hrow.at (f := E8) (k := 2) (fun _ => rfl) hx
  rw [E8] at h1
  (have hQq := trivial; repeat ((first | clear hQq | (with_reducible first | refine A3 ?_ | refine A4 fun _ => ?_ | refine A5 fun _ => ?_)); (try simp (disch := first | omega | assumption | ((repeat (first | exact A0 | exact Up.here | apply A1 | apply Up.there)); first | done | fail) | (simp; first | done | omega | fail)) [hlt, h1])))
  refine B2q he (φ := fun r => r = .bool (p x)) (fun w' hw' => by simpa using hf w' hw'.ks x) ?_
  rintro _ rfl
  cases hb : p x with
  | true =>
   (have hQq := trivial; repeat ((first | clear hQq | (with_reducible first | refine A3 ?_ | refine A4 fun _ => ?_ | refine A5 fun _ => ?_)); (try simp (disch := first | omega | assumption | ((repeat (first | exact A0 | exact Up.here | apply A1 | apply Up.there)); first | done | fail) | (simp; first | done | omega | fail)) [])))
   exact A9 (by rw [A42 hx hb hpre])
  | false =>
   (have hQq := trivial; repeat ((first | clear hQq | (with_reducible first | refine A3 ?_ | refine A4 fun _ => ?_ | refine A5 fun _ => ?_)); (try simp (disch := first | omega | assumption | ((repeat (first | exact A0 | exact Up.here | apply A1 | apply Up.there)); first | done | fail) | (simp; first | done | omega | fail)) [])))
   refine Sels.tw .nil (hL hlt () ?_)
   intro j y hj hy
   by_cases hji : j = i
   ·subst hji; rw [hx] at hy; cases hy; exact hb
   ·exact hpre j y (by omega) hy
 ·obtain rfl : i = l.length := by omega
  (have hQq := trivial; repeat ((first | clear hQq | (with_reducible first | refine A3 ?_ | refine A4 fun _ => ?_ | refine A5 fun _ => ?_)); (try simp (disch := first | omega | assumption | ((repeat (first | exact A0 | exact Up.here | apply A1 | apply Up.there)); first | done | fail) | (simp; first | done | omega | fail)) [])))
  exact A9 (by rw [A8a fun j y hy => hpre j y (List.getElem?_eq_some_iff.1 hy).1 hy])
theorem C2N {α : Type} (p : α → Bool) (l : List α) : decide (0 ≤ A64 p l) = l.any p := by
 unfold A64
 cases h : l.findIdx? p with
 | none =>
  have := List.findIdx?_eq_none_iff.1 h
  rw [Bool.eq_iff_iff]; simp [List.any_eq_true]; intro x hx; have := this x hx; simp_all
 | some i =>
  obtain ⟨hi, h1, _⟩ := List.findIdx?_eq_some_iff_getElem.1 h
  rw [Bool.eq_iff_iff]; simp only [List.any_eq_true, decide_eq_true_eq]
  exact ⟨fun _ => ⟨_, List.getElem_mem hi, h1⟩, fun _ => by omega⟩
theorem B00 (w : World) (v : Value) (l : List (Int × Int)) (p : Int × Int → Bool) (f : FuncId) (cap : List Value) (hn : l.length ≤ 1000000) (hv : E3 w v l.length (l.flatMap E8)) (he : B0 PR f)
  (hf : ∀ w', KS false [] w w' → ∀ x : Int × Int, Fn PR B5 f (.agg #[.int .i64 x.1, .int .i64 x.2] :: cap).toArray w' (fun r w'' => r = .bool (p x) ∧ C0 [] w' w'')) :
  Fn PR B5 129 #[v, .func (.func f) #[] cap.toArray] w (fun r w' => r = .bool (l.any p) ∧ C0 [] w w') := by
 refine Fn.pure (A0H (TW.go (κ := false) (S := []) ?_))
 unfold W8
 refine B7 A0y (fun w' hw' => B3z w' v l p f cap hn (hv.ks hw'.ks (by simp)) he fun w2 h => hf w2 (hw'.ks.trans h)) ?_
 (have hQq := trivial; repeat ((first | clear hQq | (with_reducible first | refine A3 ?_ | refine A4 fun _ => ?_ | refine A5 fun _ => ?_)); (try simp (disch := first | omega | assumption | ((repeat (first | exact A0 | exact Up.here | apply A1 | apply Up.there)); first | done | fail) | (simp; first | done | omega | fail)) [])))
 exact A9 (by rw [C2N])
end Go.Proofs.YtggakcpabomliaaGreat
namespace Go.Proofs.YtggakcpabomliaaGreat
open Go
def B1Z (X : Nat → Prop) (t0 : Value) (R : Value → WP) : WP :=
 B2 PR X 90 [(.int .u64 14695981039346656037), t0] fun t4 =>
 R t4
theorem A2G : B0 PR 39 := A8 Tryz.func39 (by kernel_rfl) rfl
theorem B7r {X : Nat → Prop} {t0 : Value} {R : Value → WP} {w : World} (h : B1Z X t0 R w) : Fn PR X 39 #[t0] w R := C7 (args := [t0]) mixed Tryz.func39 (by kernel_rfl) h
def A91 (X : Nat → Prop) (t0 t1 : Value) (R : Value → WP) : WP :=
 B1 PR X (Instr.alloc 200 true (.tuple #[])) fun t5 =>
 B1 PR X (Instr.alloc 202 true (.tuple #[])) fun t6 =>
 B4 PR X (Instr.storeAt 200 t5 (.func (.func 138) #[] #[])) <|
 B4 PR X (Instr.storeAt 202 t6 t0) <|
 jn (n := 0) (
 A6 PR (Instr.loadAt 202 t6) fun t16 =>
 j9 (R t16)) fun J1 =>
 B2 PR X 139 [t1] fun t10 =>
 rng (N := 1) PR X (fun t11 K2 =>
 bgn <|
 A6 PR (Instr.loadAt 200 t5) fun t12 =>
 A6 PR (Instr.loadAt 202 t6) fun t13 =>
 L5 PR (fun _ => False) t12 [t13, t11] fun t15 =>
 B4 PR (fun _ => False) (Instr.storeAt 202 t6 t15) <|
 K2 none) t10 (fun j => match j with | none => (J1) | some (.exit i) => (match Nat.beq i 0 with | true => (J1) | false => (G4)) | some .ret => (j9 (R (.int .u64 0))) | some _ => G4)
theorem A8b : B0 PR 90 := A8 Tryz.func90 (by kernel_rfl) rfl
theorem B64 {X : Nat → Prop} {t0 t1 : Value} {R : Value → WP} {w : World} (h : A91 X t0 t1 R w) : Fn PR X 90 #[t0, t1] w R := C7 (args := [t0, t1]) mixed Tryz.func90 (by kernel_rfl) h
def A6Y (X : Nat → Prop) (t0 t1 : Value) (R : Value → WP) : WP :=
 A2 PR (convert 5 202 t1) fun t7 =>
 A2 PR (binOp .xor 202 t0 t7) fun t8 =>
 A2 PR (binOp .mul 202 t8 (.int .u64 1099511628211)) fun t9 =>
 R t9
theorem B1w : B0 PR 138 := A8 Tryz.func138 (by kernel_rfl) rfl
theorem B2n {X : Nat → Prop} {t0 t1 : Value} {R : Value → WP} {w : World} (h : A6Y X t0 t1 R w) : Fn PR X 138 #[t0, t1] w R := C7 (args := [t0, t1]) mixed Tryz.func138 (by kernel_rfl) h
def A98 (X : Nat → Prop) (t0 : Value) (R : Value → WP) : WP :=
 B1 PR X (Instr.box 9 t0) fun t1 =>
 A2 PR (Instr.makeFunc (.func 178) #[] #[t1]) fun t3 =>
 R t3
theorem B5b : B0 PR 139 := A8 Tryz.func139 (by kernel_rfl) rfl
theorem B6n {X : Nat → Prop} {t0 : Value} {R : Value → WP} {w : World} (h : A98 X t0 R w) : Fn PR X 139 #[t0] w R := C7 (args := [t0]) mixed Tryz.func139 (by kernel_rfl) h
def A6b (X : Nat → Prop) (t0 t1 : Value) (R : Value → WP) : WP :=
 A6 PR (Instr.loadAt 9 t1) fun t4 =>
 A2 PR (A7 .len #[9] 0 [t4]) fun t5 =>
 lp (n := 1) (fun L1 t6 =>
 A2 PR (binOp .lss 3 t6 t5) fun t7 =>
 jn (n := 0) (
 jn (n := 0) (
 A2 PR (binOp .add 3 t6 (.int .i64 1)) fun t15 =>
 L1 t15) fun J2 =>
 A6 PR (Instr.loadAt 9 t1) fun t10 =>
 A2 PR (Instr.index 9 t10 t6) fun t12 =>
 L5 PR X t0 [t12] fun t13 =>
 A2 PR (Op.unary .not t13) fun t14 =>
 B6 t14 (
 R (.tuple #[])) (
 J2)) fun J3 =>
 B6 t7 (
 J3) (
 R (.tuple #[]))) (.int .i64 0)
theorem B06 : B0 PR 178 := A8 Tryz.func178 (by kernel_rfl) rfl
theorem B27 {X : Nat → Prop} {t0 t1 : Value} {R : Value → WP} {w : World} (h : A6b X t0 t1 R w) : Fn PR X 178 #[t0, t1] w R := C7 (args := [t0, t1]) mixed Tryz.func178 (by kernel_rfl) h
theorem B23 {X : Nat → Prop} {t0 t1 : Value} {K : Value → WP} {w : World} (h : Fn PR X 178 #[t0, t1] w K) : A1a PR X 178 [t0, t1] K w := ⟨B06, h⟩
end Go.Proofs.YtggakcpabomliaaGreat
namespace Go.Proofs.YtggakcpabomliaaGreat
open Go
def A3q (h b : Nat) : Nat := ((h ^^^ b) * 1099511628211) % 18446744073709551616
def A0G (h : Nat) (s : ByteArray) : Nat → Nat
 | 0 => h
 | i + 1 => A3q (A0G h s i) (C4 s i)
def A7p (h : Nat) (s : ByteArray) : Nat := A0G h s s.size
def Q6 (s : ByteArray) : Nat := A7p 14695981039346656037 s
theorem C3p (h b : Nat) : A3q h b < 2 ^ 64 := by unfold A3q; omega
theorem B29 {h : Nat} (hh : h < 2 ^ 64) (s : ByteArray) (i : Nat) : A0G h s i < 2 ^ 64 := by
 cases i with
 | zero => exact hh
 | succ i => exact C3p _ _
theorem C7P (w : World) (h b : Nat) (hh : h < 2 ^ 64) (hb : b < 256) : Fn PR B5 138 #[.int .u64 (h : Int), .int .u8 (b : Int)] w (fun v w' => v = .int .u64 (A3q h b : Nat) ∧ C0 [] w w') := by
 refine Fn.pure (B2n (TW.go (κ := false) (S := []) ?_))
 unfold A6Y
 (have hQq := trivial; repeat ((first | clear hQq | (with_reducible first | refine A3 ?_ | refine A4 fun _ => ?_ | refine A5 fun _ => ?_)); (try simp (disch := first | omega | assumption | ((repeat (first | exact A0 | exact Up.here | apply A1 | apply Up.there)); first | done | fail) | (simp; first | done | omega | fail)) [])))
 have e1 : (h % 2 ^ IntKind.u64.bits ^^^ b % 2 ^ IntKind.u64.bits) = h ^^^ b := by rw [show (2 : Nat) ^ IntKind.u64.bits = 2 ^ 64 from rfl, Nat.mod_eq_of_lt hh, Nat.mod_eq_of_lt (by omega)]
 have e2 : h ^^^ b < 2 ^ 64 := Nat.xor_lt_two_pow hh (by omega)
 rw [e1, u6 (n := ((h ^^^ b : Nat) : Int)) (by omega) (by omega)]
 refine A9 ?_
 have e3 : IntKind.u64.wrap (((h ^^^ b : Nat) : Int) * 1099511628211) = (A3q h b : Nat) := by
  simp only [IntKind.wrap, IntKind.bits, IntKind.signed, A3q]
  simp
 rw [e3]
abbrev C3S (b : Nat) : Value := .func (.func 178) #[] #[.pointer (some ⟨b, 0, none⟩)]
theorem C31 (w : World) (s : ByteArray) : Fn PR B5 139 #[.string s] w (Rn [] w (fun b v => v = C3S b) fun b => [.pt b (.cells #[.string s] 9)]) := by
 refine B6n (TW.go (κ := false) (S := []) ?_)
 unfold A98
 (have hQq := trivial; repeat ((first | clear hQq | (with_reducible first | refine A3 ?_ | refine A4 fun _ => ?_ | refine A5 fun _ => ?_)); (try simp (disch := first | omega | assumption | ((repeat (first | exact A0 | exact Up.here | apply A1 | apply Up.there)); first | done | fail) | (simp; first | done | omega | fail)) [])))
 rename_i b
 exact g6 b rfl (by simp)
def B4a (s : ByteArray) (i : Nat) : List Value := [.int .u8 (C4 s i : Nat)]
theorem C3m (b : Nat) (s : ByteArray) (hs : s.size < 2 ^ 60) : A5B (C3S b) [.pt b (.cells #[.string s] 9)] (fun _ _ => True) ((List.range s.size).map (B4a s)) := by
 refine ⟨_, _, _, rfl, fun l J E hJ hE stJ stE hy w0 h0 => ?_⟩
 refine B23 (B27 (TW.at (κ := true) ?_ (hJ _ _ _ h0).1))
 unfold A6b
 (have hQq := trivial; repeat ((first | clear hQq | (with_reducible first | refine A3 ?_ | refine A4 fun _ => ?_ | refine A5 fun _ => ?_)); (try simp (disch := first | omega | assumption | ((repeat (first | exact A0 | exact Up.here | apply A1 | apply Up.there)); first | done | fail) | (simp; first | done | omega | fail)) [])))
 refine A3k s.size (fun i => i) (fun _ => _) hJ stJ h0 fun i a hi hJi _ L hL => ?_
 by_cases hlt : i < s.size
 ·obtain ⟨by0, hb0, hb1⟩ := m4 (s := s) (i := i) hlt
  have hb0' : s[((i : Nat) : Int).toNat]? = some by0 := by rw [Int.toNat_natCast]; exact hb0
  (have hQq := trivial; repeat ((first | clear hQq | (with_reducible first | refine A3 ?_ | refine A4 fun _ => ?_ | refine A5 fun _ => ?_)); (try simp (disch := first | omega | assumption | ((repeat (first | exact A0 | exact Up.here | apply A1 | apply Up.there)); first | done | fail) | (simp; first | done | omega | fail)) [hlt, Y0])))
  rw [hb1]
  refine A7C hJ hE stJ hy hJi (by simpa using hlt) (by simp [B4a]) (fun w3 h => ?_) (fun w3 h => ?_)
  ·(have hQq := trivial; repeat ((first | clear hQq | (with_reducible first | refine A3 ?_ | refine A4 fun _ => ?_ | refine A5 fun _ => ?_)); (try simp (disch := first | omega | assumption | ((repeat (first | exact A0 | exact Up.here | apply A1 | apply Up.there)); first | done | fail) | (simp; first | done | omega | fail)) [])))
   exact fun w' hw' => hL hlt w' (stJ _ _ _ _ _ h hw')
  ·(have hQq := trivial; repeat ((first | clear hQq | (with_reducible first | refine A3 ?_ | refine A4 fun _ => ?_ | refine A5 fun _ => ?_)); (try simp (disch := first | omega | assumption | ((repeat (first | exact A0 | exact Up.here | apply A1 | apply Up.there)); first | done | fail) | (simp; first | done | omega | fail)) [])))
   exact A3l stE h
 ·obtain rfl : i = s.size := by omega
  (have hQq := trivial; repeat ((first | clear hQq | (with_reducible first | refine A3 ?_ | refine A4 fun _ => ?_ | refine A5 fun _ => ?_)); (try simp (disch := first | omega | assumption | ((repeat (first | exact A0 | exact Up.here | apply A1 | apply Up.there)); first | done | fail) | (simp; first | done | omega | fail)) [])))
  exact A3s stJ (by simpa using hJi)
theorem B7K (w : World) (h : Nat) (s : ByteArray) (hh : h < 2 ^ 64) (hs : s.size < 2 ^ 60) : Fn PR B5 90 #[.int .u64 (h : Int), .string s] w (fun v w' => v = .int .u64 (A7p h s : Nat) ∧ C0 [] w w') := by
 refine Fn.pure (B64 (TW.go (κ := false) (S := []) ?_))
 unfold A91
 (have hQq := trivial; repeat ((first | clear hQq | (with_reducible first | refine A3 ?_ | refine A4 fun _ => ?_ | refine A5 fun _ => ?_)); (try simp (disch := first | omega | assumption | ((repeat (first | exact A0 | exact Up.here | apply A1 | apply Up.there)); first | done | fail) | (simp; first | done | omega | fail)) [])))
 rename_i bf bx
 refine F8 B5b (fun w' _ => C31 w' s) ?_
 rintro b v rfl
 refine A3A (C3m b s hs) (by simp [B4a]) (fun _ (_ : Unit) => True) (fun i _ => [.pt bx (.cells #[.int .u64 ((A0G h s i : Nat) : Int)] 202), .pt bf (.cells #[.func (.func 138) #[] #[]] 200)])
  (fun _ (_ : Unit) => False) (fun _ => []) () trivial ?_ ?_ ?_ ?_ (by simp [A0G])
 ·intros; trivial
 ·rintro i hi _ F _ K' hK _
  simp only [List.getElem_map, List.getElem_range, B4a, VF.app]
  (have hQq := trivial; repeat ((first | clear hQq | (with_reducible first | refine A3 ?_ | refine A4 fun _ => ?_ | refine A5 fun _ => ?_)); (try simp (disch := first | omega | assumption | ((repeat (first | exact A0 | exact Up.here | apply A1 | apply Up.there)); first | done | fail) | (simp; first | done | omega | fail)) [])))
  refine B7 B1w (fun w' _ => C7P w' _ _ (B29 hh s i) (L9 s i)) ?_
  (have hQq := trivial; repeat ((first | clear hQq | (with_reducible first | refine A3 ?_ | refine A4 fun _ => ?_ | refine A5 fun _ => ?_)); (try simp (disch := first | omega | assumption | ((repeat (first | exact A0 | exact Up.here | apply A1 | apply Up.there)); first | done | fail) | (simp; first | done | omega | fail)) [])))
  exact TW.eqH (by simp [A0G]) (hK () trivial)
 ·rintro _ _
  (have hQq := trivial; repeat ((first | clear hQq | (with_reducible first | refine A3 ?_ | refine A4 fun _ => ?_ | refine A5 fun _ => ?_)); (try simp (disch := first | omega | assumption | ((repeat (first | exact A0 | exact Up.here | apply A1 | apply Up.there)); first | done | fail) | (simp; first | done | omega | fail)) [])))
  exact A9 (by simp [A7p])
 ·rintro _ _ h; exact h.elim
theorem A4p (w : World) (s : ByteArray) (hs : s.size < 2 ^ 60) : Fn PR B5 39 #[.string s] w (fun v w' => v = .int .u64 (Q6 s : Nat) ∧ C0 [] w w') := by
 refine Fn.pure (B7r (TW.go (κ := false) (S := []) ?_))
 unfold B1Z
 refine B7 A8b (fun w' _ => B7K w' 14695981039346656037 s (by omega) hs) ?_
 exact A9 rfl
end Go.Proofs.YtggakcpabomliaaGreat
namespace Go.Proofs.YtggakcpabomliaaGreat
open Go
def G2 (key : ByteArray) (n : Nat) : Nat := Q6 key % n
theorem A6F (s : ByteArray) : Q6 s < 2 ^ 64 := B29 (by omega) s _
theorem C38 (w : World) (key : ByteArray) (n : Nat) (hk : key.size < 2 ^ 60) (hn : n ≤ 1000000) : Fn PR B5 132 #[.string key, .int .i64 (n : Int)] w (fun v w' => v = .int .i64 (if n = 0 then 0 else G2 key n : Nat) ∧ C0 [] w w') := by
 refine Fn.pure (B35 (TW.go (κ := false) (S := []) ?_))
 unfold A7s
 by_cases c1 : n = 0
 ·have c1' : (n : Int) < 1 := by omega
  (have hQq := trivial; repeat ((first | clear hQq | (with_reducible first | refine A3 ?_ | refine A4 fun _ => ?_ | refine A5 fun _ => ?_)); (try simp (disch := first | omega | assumption | ((repeat (first | exact A0 | exact Up.here | apply A1 | apply Up.there)); first | done | fail) | (simp; first | done | omega | fail)) [c1'])))
  exact A9 (by simp [c1])
 have c1' : ¬ (n : Int) < 1 := by omega
 have c1'' : ¬ (n : Int) = 0 := by omega
 (have hQq := trivial; repeat ((first | clear hQq | (with_reducible first | refine A3 ?_ | refine A4 fun _ => ?_ | refine A5 fun _ => ?_)); (try simp (disch := first | omega | assumption | ((repeat (first | exact A0 | exact Up.here | apply A1 | apply Up.there)); first | done | fail) | (simp; first | done | omega | fail)) [c1'])))
 refine B7 A2G (fun w' _ => A4p w' key hk) ?_
 have hl := A6F key
 have hm : G2 key n < n := Nat.mod_lt _ (by omega)
 have e1 : ((Q6 key : Nat) : Int).tmod n = (G2 key n : Nat) := by unfold G2; rw [Int.tmod_eq_emod_of_nonneg (by omega)]; omega
 have e2 : ((Q6 key : Nat) : Int) % n = (G2 key n : Nat) := by unfold G2; omega
 (have hQq := trivial; repeat ((first | clear hQq | (with_reducible first | refine A3 ?_ | refine A4 fun _ => ?_ | refine A5 fun _ => ?_)); (try simp (disch := first | omega | assumption | ((repeat (first | exact A0 | exact Up.here | apply A1 | apply Up.there)); first | done | fail) | (simp; first | done | omega | fail)) [c1'', e1, N3])))
 exact A9 (by simp [c1])
def W9 : EnV := ⟨0, P6, 0, 0⟩
def L8 (l : List EnV) (key : ByteArray) : List (Nat × EnV) := (List.range l.length).map fun i => ((G2 key l.length + i) % l.length, l.getD ((G2 key l.length + i) % l.length) W9)
def A7A (p : Nat × EnV) : List Value := [.int .i64 (p.1 : Nat), .agg #[.int .i64 p.2.st, .string p.2.key, .int .i64 p.2.bk, .int .i64 p.2.dl]]
abbrev C5J (x : Nat × Nat) : Value := .func (.func 131) #[] #[.pointer (some ⟨x.1, 0, none⟩), .pointer (some ⟨x.2, 0, none⟩)]
abbrev B49 (x : Nat × Nat) (v : Value) (key : ByteArray) : List Res := [.pt x.1 (.cells #[.string key] 9), .pt x.2 (.cells #[v] 50)]
theorem C0Y (w : World) (v : Value) (key : ByteArray) (hv : ∃ a n c, v = .slice a n c) : Fn PR B5 84 #[v, .string key] w (Rn [] w (fun x u => u = C5J x) fun x => B49 x v key) := by
 obtain ⟨a, n, c, rfl⟩ := hv
 refine B54 (TW.go (κ := false) (S := []) ?_)
 unfold A9K
 (have hQq := trivial; repeat ((first | clear hQq | (with_reducible first | refine A3 ?_ | refine A4 fun _ => ?_ | refine A5 fun _ => ?_)); (try simp (disch := first | omega | assumption | ((repeat (first | exact A0 | exact Up.here | apply A1 | apply Up.there)); first | done | fail) | (simp; first | done | omega | fail)) [])))
 rename_i b1 b2
 exact C6 (b2, b1) rfl (by ((repeat (first | exact Sels.nil | (apply Sels.cons; · ((repeat (first | exact A0 | exact Up.here | exact Sel.here | apply A1 | apply Up.there | apply Sel.there)); first | done | fail)))); first | done | fail))
def RqS (v : Value) (n : Nat) (xs : List Value) (F : List Res) (w : World) : Prop := ∃ a c, v = .slice a n c ∧ (0 < n → ∃ b o, a = some ⟨b, o, none⟩ ∧ M4 w b o xs ∧ b ∉ E2 F)
theorem RqS.of {v : Value} {n : Nat} {xs : List Value} {w0 w : World} {A F : List Res} (h : E3 w0 v n xs) (hx : 0 < n → 0 < xs.length) (hw : LW false [] w0 (A ++ F) w) : RqS v n xs F w := by
 obtain ⟨a, c, rfl, hr⟩ := h.form
 refine ⟨a, c, rfl, fun hn => ?_⟩
 obtain ⟨b, o, rfl, hrow⟩ := hr hn
 refine ⟨b, o, rfl, hw.ks.row (by simp) hrow, hw.notin_old ?_ (by simp)⟩
 have h0 := hrow 0 (hx hn)
 rw [List.getElem?_eq_getElem (hx hn)] at h0
 obtain ⟨c', t', z', h1, h2⟩ := j7 h0
 exact K1 h1
theorem s9 (l : List EnV) : (l.flatMap E1).length = l.length * 4 := by
 induction l with
 | nil => rfl
 | cons x l ih => rw [List.flatMap_cons, List.length_append, ih]; simp [E1]; omega
theorem C0Q (x : Nat × Nat) (v : Value) (l : List EnV) (key : ByteArray) (hk : key.size < 2 ^ 60) (hn : l.length ≤ 1000000) : A5B (C5J x) (B49 x v key) (RqS v l.length (l.flatMap E1)) ((L8 l key).map A7A) := by
 obtain ⟨bk, bt⟩ := x
 refine ⟨_, _, _, rfl, fun y J E hJ hE stJ stE hy w0 h0 => ?_⟩
 obtain ⟨a, c, hv, hr⟩ := (hJ _ _ _ h0).2
 subst hv
 refine B1T (B1f (TW.at (κ := true) ?_ (hJ _ _ _ h0).1))
 unfold A4q
 simp only [B49]
 (have hQq := trivial; repeat ((first | clear hQq | (with_reducible first | refine A3 ?_ | refine A4 fun _ => ?_ | refine A5 fun _ => ?_)); (try simp (disch := first | omega | assumption | ((repeat (first | exact A0 | exact Up.here | apply A1 | apply Up.there)); first | done | fail) | (simp; first | done | omega | fail)) [])))
 refine B7 B3A (fun w' _ => C38 w' key l.length hk hn) ?_
 (have hQq := trivial; repeat ((first | clear hQq | (with_reducible first | refine A3 ?_ | refine A4 fun _ => ?_ | refine A5 fun _ => ?_)); (try simp (disch := first | omega | assumption | ((repeat (first | exact A0 | exact Up.here | apply A1 | apply Up.there)); first | done | fail) | (simp; first | done | omega | fail)) [])))
 refine A3k l.length (fun i => i) (fun _ => _) hJ stJ h0 fun i a' hi hJi hRi L hL => ?_
 by_cases hlt : i < l.length
 ·obtain ⟨_, _, hv, hr⟩ := hRi
  obtain ⟨b, o, hb, hrow, hnb⟩ := hr (by omega)
  cases hv
  have hh : G2 key l.length < l.length := Nat.mod_lt _ (by omega)
  have e0 : (if l.length = 0 then 0 else G2 key l.length) = G2 key l.length := if_neg (by omega)
  have hj : (G2 key l.length + i) % l.length < l.length := Nat.mod_lt _ (by omega)
  have hx : l[(G2 key l.length + i) % l.length]? = some (l.getD ((G2 key l.length + i) % l.length) W9) := by
   rw [List.getD_eq_getElem?_getD, List.getElem?_eq_getElem hj]; rfl
  have h1 := hrow.at (f := E1) (k := 4) (fun _ => rfl) hx
  have e1 : (((G2 key l.length : Nat) : Int) + (i : Nat)).tmod l.length = ((G2 key l.length + i) % l.length : Nat) := by rw [Int.tmod_eq_emod_of_nonneg (by omega), Int.natCast_emod, Int.natCast_add]
  have hwi : ∀ h, ((L8 l key).map A7A)[i]'h = A7A ((G2 key l.length + i) % l.length, l.getD ((G2 key l.length + i) % l.length) W9) := by
   intro h; simp only [List.getElem_map, L8, List.getElem_range]
  generalize hjd : (G2 key l.length + i) % l.length = j at *
  generalize hxd : l.getD j W9 = x at *
  rw [E1] at h1
  have hnz : ¬ (l.length : Int) = 0 := by omega
  subst hb
  rw [e0]
  (have hQq := trivial; repeat ((first | clear hQq | (with_reducible first | refine A3 ?_ | refine A4 fun _ => ?_ | refine A5 fun _ => ?_)); (try simp (disch := first | omega | assumption | ((repeat (first | exact A0 | exact Up.here | apply A1 | apply Up.there)); first | done | fail) | (simp; first | done | omega | fail)) [hlt, e1, h1, hnz, N3])))
  refine A7C hJ hE stJ hy hJi (by simpa [L8] using hlt) (hwi _) (fun w3 h => ?_) (fun w3 h => ?_)
  ·(have hQq := trivial; repeat ((first | clear hQq | (with_reducible first | refine A3 ?_ | refine A4 fun _ => ?_ | refine A5 fun _ => ?_)); (try simp (disch := first | omega | assumption | ((repeat (first | exact A0 | exact Up.here | apply A1 | apply Up.there)); first | done | fail) | (simp; first | done | omega | fail)) [])))
   exact fun w' hw' => hL hlt w' (stJ _ _ _ _ _ h hw')
  ·(have hQq := trivial; repeat ((first | clear hQq | (with_reducible first | refine A3 ?_ | refine A4 fun _ => ?_ | refine A5 fun _ => ?_)); (try simp (disch := first | omega | assumption | ((repeat (first | exact A0 | exact Up.here | apply A1 | apply Up.there)); first | done | fail) | (simp; first | done | omega | fail)) [])))
   exact A3l stE h
 ·obtain rfl : i = l.length := by omega
  (have hQq := trivial; repeat ((first | clear hQq | (with_reducible first | refine A3 ?_ | refine A4 fun _ => ?_ | refine A5 fun _ => ?_)); (try simp (disch := first | omega | assumption | ((repeat (first | exact A0 | exact Up.here | apply A1 | apply Up.there)); first | done | fail) | (simp; first | done | omega | fail)) [])))
  exact A3s stJ (by simpa [L8] using hJi)
def H4 (key : ByteArray) : List (Nat × EnV) → Int
 | [] => -1
 | p :: r => if p.2.st = 0 then -1 else if p.2.st = 1 ∧ p.2.key = key then p.1 else H4 key r
def D9 (l : List EnV) (key : ByteArray) : Int := H4 key (L8 l key)
theorem B7F {α : Type} {l : List α} {i : Nat} (h : i < l.length) : l.drop i = l[i] :: l.drop (i + 1) := List.drop_eq_getElem_cons h
theorem B0P (L : List (Nat × EnV)) : ∀ x ∈ L.map A7A, x.length = 2 := by
 intro x hx; obtain ⟨p, _, rfl⟩ := List.mem_map.1 hx; rfl
theorem A1r (w : World) (v : Value) (l : List EnV) (key : ByteArray) (hk : key.size < 2 ^ 60) (hn : l.length ≤ 1000000) (hv : E3 w v l.length (l.flatMap E1)) :
  Fn PR B5 35 #[v, .string key] w (fun r w' => r = .int .i64 (D9 l key) ∧ C0 [] w w') := by
 refine Fn.pure (B39 (TW.go (κ := false) (S := []) ?_))
 unfold A71
 (have hQq := trivial; repeat ((first | clear hQq | (with_reducible first | refine A3 ?_ | refine A4 fun _ => ?_ | refine A5 fun _ => ?_)); (try simp (disch := first | omega | assumption | ((repeat (first | exact A0 | exact Up.here | apply A1 | apply Up.there)); first | done | fail) | (simp; first | done | omega | fail)) [])))
 rename_i bk bf
 refine F8 A7r (fun w' _ => C0Y w' v key (by obtain ⟨a, c, rfl, _⟩ := hv.form; exact ⟨a, _, c, rfl⟩)) ?_
 rintro x u rfl
 refine A3A (C0Q x v l key hk hn) (B0P _) (fun i (_ : Unit) => H4 key ((L8 l key).drop i) = D9 l key) (fun _ _ => [.pt bf (.cells #[.int .i64 (-1)] 3), .pt bk (.cells #[.string key] 9)])
  (fun c (y : Unit) => c = .exit 0) (fun y => [.pt bf (.cells #[.int .i64 (D9 l key)] 3)]) () rfl ?_ ?_ ?_ ?_ (by simp [B49])
 ·intro i _ F w1 _ hw
  exact RqS.of hv (fun h => by rw [s9]; omega) hw
 ·rintro i hi _ F hψ K' hK hE
  have hi' : i < (L8 l key).length := by simpa using hi
  rw [B7F hi'] at hψ
  simp only [List.getElem_map]
  generalize (L8 l key)[i] = p at *
  simp only [A7A, VF.app]
  by_cases c0 : p.2.st = 0
  ·(have hQq := trivial; repeat ((first | clear hQq | (with_reducible first | refine A3 ?_ | refine A4 fun _ => ?_ | refine A5 fun _ => ?_)); (try simp (disch := first | omega | assumption | ((repeat (first | exact A0 | exact Up.here | apply A1 | apply Up.there)); first | done | fail) | (simp; first | done | omega | fail)) [c0])))
   refine TW.sub (hE (.exit 0) () rfl) ?_
   rw [← hψ]
   simp only [H4, c0, if_true]
   ((try simp only [List.cons_append, List.nil_append, List.append_assoc]); (repeat (first | exact List.Sublist.refl _ | exact List.nil_sublist _ | with_reducible apply List.Sublist.cons_cons | apply List.Sublist.cons)); first | done | fail)
  by_cases c1 : p.2.st = 1
  ·by_cases c2 : p.2.key = key
   ·(have hQq := trivial; repeat ((first | clear hQq | (with_reducible first | refine A3 ?_ | refine A4 fun _ => ?_ | refine A5 fun _ => ?_)); (try simp (disch := first | omega | assumption | ((repeat (first | exact A0 | exact Up.here | apply A1 | apply Up.there)); first | done | fail) | (simp; first | done | omega | fail)) [c0, c1, c2])))
    refine TW.sub (hE (.exit 0) () rfl) ?_
    rw [← hψ]
    simp [H4, c1, c2]
    ((try simp only [List.cons_append, List.nil_append, List.append_assoc]); (repeat (first | exact List.Sublist.refl _ | exact List.nil_sublist _ | with_reducible apply List.Sublist.cons_cons | apply List.Sublist.cons)); first | done | fail)
   ·(have hQq := trivial; repeat ((first | clear hQq | (with_reducible first | refine A3 ?_ | refine A4 fun _ => ?_ | refine A5 fun _ => ?_)); (try simp (disch := first | omega | assumption | ((repeat (first | exact A0 | exact Up.here | apply A1 | apply Up.there)); first | done | fail) | (simp; first | done | omega | fail)) [c0, c1, c2])))
    refine TW.sub (hK () ?_) (by ((try simp only [List.cons_append, List.nil_append, List.append_assoc]); (repeat (first | exact List.Sublist.refl _ | exact List.nil_sublist _ | with_reducible apply List.Sublist.cons_cons | apply List.Sublist.cons)); first | done | fail))
    rw [← hψ]
    simp [H4, c1, c2]
  ·(have hQq := trivial; repeat ((first | clear hQq | (with_reducible first | refine A3 ?_ | refine A4 fun _ => ?_ | refine A5 fun _ => ?_)); (try simp (disch := first | omega | assumption | ((repeat (first | exact A0 | exact Up.here | apply A1 | apply Up.there)); first | done | fail) | (simp; first | done | omega | fail)) [c0, c1])))
   refine TW.sub (hK () ?_) (by ((try simp only [List.cons_append, List.nil_append, List.append_assoc]); (repeat (first | exact List.Sublist.refl _ | exact List.nil_sublist _ | with_reducible apply List.Sublist.cons_cons | apply List.Sublist.cons)); first | done | fail))
   rw [← hψ]
   simp [H4, c0, c1]
 ·intro _ hψ
  (have hQq := trivial; repeat ((first | clear hQq | (with_reducible first | refine A3 ?_ | refine A4 fun _ => ?_ | refine A5 fun _ => ?_)); (try simp (disch := first | omega | assumption | ((repeat (first | exact A0 | exact Up.here | apply A1 | apply Up.there)); first | done | fail) | (simp; first | done | omega | fail)) [])))
  simp only [List.length_map, List.drop_length, H4] at hψ
  exact A9 (by rw [← hψ])
 ·rintro _ _ rfl
  (have hQq := trivial; repeat ((first | clear hQq | (with_reducible first | refine A3 ?_ | refine A4 fun _ => ?_ | refine A5 fun _ => ?_)); (try simp (disch := first | omega | assumption | ((repeat (first | exact A0 | exact Up.here | apply A1 | apply Up.there)); first | done | fail) | (simp; first | done | omega | fail)) [])))
  exact A9 rfl
def M5 : List (Nat × EnV) → Int
 | [] => -1
 | p :: r => if p.2.st = 1 then M5 r else p.1
def Q8 (l : List EnV) (key : ByteArray) : Int := if 0 ≤ D9 l key then -1 else M5 (L8 l key)
theorem B5F (w : World) (v : Value) (l : List EnV) (key : ByteArray) (hk : key.size < 2 ^ 60) (hn : l.length ≤ 1000000) (hv : E3 w v l.length (l.flatMap E1)) :
  Fn PR B5 164 #[v, .string key] w (fun r w' => r = .int .i64 (Q8 l key) ∧ C0 [] w w') := by
 refine Fn.pure (B3s (TW.go (κ := false) (S := []) ?_))
 unfold A78
 (have hQq := trivial; repeat ((first | clear hQq | (with_reducible first | refine A3 ?_ | refine A4 fun _ => ?_ | refine A5 fun _ => ?_)); (try simp (disch := first | omega | assumption | ((repeat (first | exact A0 | exact Up.here | apply A1 | apply Up.there)); first | done | fail) | (simp; first | done | omega | fail)) [])))
 rename_i bf
 refine B7 s7 (fun w' hw' => A1r w' v l key hk hn (hv.ks hw'.ks (by simp))) ?_
 by_cases c1 : 0 ≤ D9 l key
 ·(have hQq := trivial; repeat ((first | clear hQq | (with_reducible first | refine A3 ?_ | refine A4 fun _ => ?_ | refine A5 fun _ => ?_)); (try simp (disch := first | omega | assumption | ((repeat (first | exact A0 | exact Up.here | apply A1 | apply Up.there)); first | done | fail) | (simp; first | done | omega | fail)) [c1])))
  exact A9 (by simp [Q8, c1])
 have e1 : Q8 l key = M5 (L8 l key) := if_neg c1
 (have hQq := trivial; repeat ((first | clear hQq | (with_reducible first | refine A3 ?_ | refine A4 fun _ => ?_ | refine A5 fun _ => ?_)); (try simp (disch := first | omega | assumption | ((repeat (first | exact A0 | exact Up.here | apply A1 | apply Up.there)); first | done | fail) | (simp; first | done | omega | fail)) [c1])))
 refine F8 A7r (fun w' _ => C0Y w' v key (by obtain ⟨a, c, rfl, _⟩ := hv.form; exact ⟨a, _, c, rfl⟩)) ?_
 rintro x u rfl
 refine A3A (C0Q x v l key hk hn) (B0P _) (fun i (_ : Unit) => M5 ((L8 l key).drop i) = Q8 l key) (fun _ _ => [.pt bf (.cells #[.int .i64 0] 3)])
  (fun c (y : Unit) => c = .ret) (fun y => [.pt bf (.cells #[.int .i64 (Q8 l key)] 3)]) () (by rw [List.drop_zero, e1]) ?_ ?_ ?_ ?_ (by simp [B49])
 ·intro i _ F w1 _ hw
  exact RqS.of hv (fun h => by rw [s9]; omega) hw
 ·rintro i hi _ F hψ K' hK hE
  have hi' : i < (L8 l key).length := by simpa using hi
  rw [B7F hi'] at hψ
  simp only [List.getElem_map]
  generalize (L8 l key)[i] = p at *
  simp only [A7A, VF.app]
  by_cases c1 : p.2.st = 1
  ·(have hQq := trivial; repeat ((first | clear hQq | (with_reducible first | refine A3 ?_ | refine A4 fun _ => ?_ | refine A5 fun _ => ?_)); (try simp (disch := first | omega | assumption | ((repeat (first | exact A0 | exact Up.here | apply A1 | apply Up.there)); first | done | fail) | (simp; first | done | omega | fail)) [c1])))
   refine TW.sub (hK () ?_) (by ((try simp only [List.cons_append, List.nil_append, List.append_assoc]); (repeat (first | exact List.Sublist.refl _ | exact List.nil_sublist _ | with_reducible apply List.Sublist.cons_cons | apply List.Sublist.cons)); first | done | fail))
   rw [← hψ]
   simp [M5, c1]
  ·(have hQq := trivial; repeat ((first | clear hQq | (with_reducible first | refine A3 ?_ | refine A4 fun _ => ?_ | refine A5 fun _ => ?_)); (try simp (disch := first | omega | assumption | ((repeat (first | exact A0 | exact Up.here | apply A1 | apply Up.there)); first | done | fail) | (simp; first | done | omega | fail)) [c1])))
   refine TW.sub (hE .ret () rfl) ?_
   rw [← hψ]
   simp only [M5, c1, if_false]
   ((try simp only [List.cons_append, List.nil_append, List.append_assoc]); (repeat (first | exact List.Sublist.refl _ | exact List.nil_sublist _ | with_reducible apply List.Sublist.cons_cons | apply List.Sublist.cons)); first | done | fail)
 ·intro _ hψ
  (have hQq := trivial; repeat ((first | clear hQq | (with_reducible first | refine A3 ?_ | refine A4 fun _ => ?_ | refine A5 fun _ => ?_)); (try simp (disch := first | omega | assumption | ((repeat (first | exact A0 | exact Up.here | apply A1 | apply Up.there)); first | done | fail) | (simp; first | done | omega | fail)) [])))
  simp only [List.length_map, List.drop_length, M5] at hψ
  exact A9 (by rw [← hψ])
 ·rintro _ _ rfl
  (have hQq := trivial; repeat ((first | clear hQq | (with_reducible first | refine A3 ?_ | refine A4 fun _ => ?_ | refine A5 fun _ => ?_)); (try simp (disch := first | omega | assumption | ((repeat (first | exact A0 | exact Up.here | apply A1 | apply Up.there)); first | done | fail) | (simp; first | done | omega | fail)) [])))
  exact A9 rfl
theorem B8E (w : World) (x : EnV) (st : Int) (b : Nat) (hb : w.cell? ⟨b, 0, none⟩ = some (.int .i64 st)) : Fn PR B5 163 #[.agg #[.int .i64 x.st, .string x.key, .int .i64 x.bk, .int .i64 x.dl], .pointer (some ⟨b, 0, none⟩)] w (fun r w' => r = .bool (decide (x.st = st)) ∧ C0 [] w w') := by
 refine Fn.pure (A9r (TW.go (κ := false) (S := []) ?_))
 unfold A2w
 (have hQq := trivial; repeat ((first | clear hQq | (with_reducible first | refine A3 ?_ | refine A4 fun _ => ?_ | refine A5 fun _ => ?_)); (try simp (disch := first | omega | assumption | ((repeat (first | exact A0 | exact Up.here | apply A1 | apply Up.there)); first | done | fail) | (simp; first | done | omega | fail)) [hb])))
 exact A9 rfl
def F3 (l : List EnV) (st : Int) : Nat := l.countP fun x => decide (x.st = st)
theorem B0F {α : Type} {p : α → Bool} {l : List α} {i : Nat} {x : α} (hx : l[i]? = some x) : (l.take (i + 1)).countP p = (l.take i).countP p + if p x then 1 else 0 := by
 rw [List.take_add_one, hx, List.countP_append]; simp [List.countP_cons]
theorem C2g (w : World) (v : Value) (l : List EnV) (p : EnV → Bool) (f : FuncId) (cap : List Value) (hn : l.length ≤ 1000000) (hv : E3 w v l.length (l.flatMap E1)) (he : B0 PR f)
  (hf : ∀ w', KS false [] w w' → ∀ x : EnV, Fn PR B5 f (.agg #[.int .i64 x.st, .string x.key, .int .i64 x.bk, .int .i64 x.dl] :: cap).toArray w' (fun r w'' => r = .bool (p x) ∧ C0 [] w' w'')) :
  Fn PR B5 162 #[v, .func (.func f) #[] cap.toArray] w (fun r w' => r = .int .i64 (l.countP p : Nat) ∧ C0 [] w w') := by
 refine Fn.pure (A3N (TW.go (κ := false) (S := []) ?_))
 unfold q9
 obtain ⟨a, c, rfl, hr⟩ := hv.form
 (have hQq := trivial; repeat ((first | clear hQq | (with_reducible first | refine A3 ?_ | refine A4 fun _ => ?_ | refine A5 fun _ => ?_)); (try simp (disch := first | omega | assumption | ((repeat (first | exact A0 | exact Up.here | apply A1 | apply Up.there)); first | done | fail) | (simp; first | done | omega | fail)) [])))
 refine K3 (α := Unit) l.length (fun i _ => .int .i64 ((l.take i).countP p : Nat)) (fun _ _ => []) (fun i _ => True) () trivial ?_
 rintro i _ hi _ L hL
 by_cases hlt : i < l.length
 ·obtain ⟨b, o, rfl, hrow⟩ := hr (by omega)
  obtain ⟨x, hx⟩ : ∃ x, l[i]? = some x := ⟨_, List.getElem?_eq_getElem (by omega)⟩
  have h1 := hrow.at (f := E1) (k := 4) (fun _ => rfl) hx
  rw [E1] at h1
  (have hQq := trivial; repeat ((first | clear hQq | (with_reducible first | refine A3 ?_ | refine A4 fun _ => ?_ | refine A5 fun _ => ?_)); (try simp (disch := first | omega | assumption | ((repeat (first | exact A0 | exact Up.here | apply A1 | apply Up.there)); first | done | fail) | (simp; first | done | omega | fail)) [hlt, h1])))
  refine B2q he (φ := fun r => r = .bool (p x)) (fun w' hw' => by simpa using hf w' hw'.ks x) ?_
  rintro _ rfl
  have hc := B0F (p := p) hx
  have hle : (l.take i).countP p ≤ i := Nat.le_trans List.countP_le_length (by simp; omega)
  have hL' := hL hlt () trivial
  rw [hc] at hL'
  cases hb : p x with
  | true =>
   rw [hb] at hL'
   (have hQq := trivial; repeat ((first | clear hQq | (with_reducible first | refine A3 ?_ | refine A4 fun _ => ?_ | refine A5 fun _ => ?_)); (try simp (disch := first | omega | assumption | ((repeat (first | exact A0 | exact Up.here | apply A1 | apply Up.there)); first | done | fail) | (simp; first | done | omega | fail)) [])))
   exact Sels.tw .nil (by simpa using hL')
  | false =>
   rw [hb] at hL'
   (have hQq := trivial; repeat ((first | clear hQq | (with_reducible first | refine A3 ?_ | refine A4 fun _ => ?_ | refine A5 fun _ => ?_)); (try simp (disch := first | omega | assumption | ((repeat (first | exact A0 | exact Up.here | apply A1 | apply Up.there)); first | done | fail) | (simp; first | done | omega | fail)) [])))
   exact Sels.tw .nil (by simpa using hL')
 ·obtain rfl : i = l.length := by omega
  (have hQq := trivial; repeat ((first | clear hQq | (with_reducible first | refine A3 ?_ | refine A4 fun _ => ?_ | refine A5 fun _ => ?_)); (try simp (disch := first | omega | assumption | ((repeat (first | exact A0 | exact Up.here | apply A1 | apply Up.there)); first | done | fail) | (simp; first | done | omega | fail)) [])))
  exact A9 rfl
theorem B0w (w : World) (v : Value) (l : List EnV) (st : Int) (hn : l.length ≤ 1000000) (hv : E3 w v l.length (l.flatMap E1)) :
  Fn PR B5 116 #[v, .int .i64 st] w (fun r w' => r = .int .i64 (F3 l st : Nat) ∧ C0 [] w w') := by
 refine Fn.pure (B2T (TW.go (κ := false) (S := []) ?_))
 unfold A6U
 (have hQq := trivial; repeat ((first | clear hQq | (with_reducible first | refine A3 ?_ | refine A4 fun _ => ?_ | refine A5 fun _ => ?_)); (try simp (disch := first | omega | assumption | ((repeat (first | exact A0 | exact Up.here | apply A1 | apply Up.there)); first | done | fail) | (simp; first | done | omega | fail)) [])))
 rename_i b
 refine B7 A27 (fun w' hw' => C2g w' v l (fun x => decide (x.st = st)) 163 [.pointer (some ⟨b, 0, none⟩)] hn (hv.ks hw'.ks (by simp)) A8z
  fun w2 h x => B8E w2 x st b (h.cell (by simp) (hw'.cell1 (by ((repeat (first | exact A0 | exact Up.here | exact Sel.here | apply A1 | apply Up.there | apply Sel.there)); first | done | fail))))) ?_
 exact A9 rfl
end Go.Proofs.YtggakcpabomliaaGreat
namespace Go.Proofs.YtggakcpabomliaaGreat
open Go
theorem A8Y (l : List EnV) : (l.flatMap E1).all plain = true := by
 rw [List.all_eq_true]; intro v hv; rw [List.mem_flatMap] at hv
 obtain ⟨x, _, hx⟩ := hv
 simp only [E1, List.mem_cons, List.not_mem_nil, or_false] at hx
 rcases hx with rfl | rfl | rfl | rfl <;> rfl
theorem A2a {α : Type} {f : α → List Value} {k : Nat} (hk : ∀ x, (f x).length = k) (l : List α) (i : Nat) (y : α) (hi : i < l.length) : A0J (l.flatMap f) (i * k) (f y) = (l.set i y).flatMap f := by
 have e1 := B9B hk l i
 have e2 := A8k hk l (i + 1)
 rw [Nat.add_mul, Nat.one_mul] at e2
 rw [A0J, hk, e1, e2, List.set_eq_take_append_cons_drop, if_pos hi, List.flatMap_append, List.flatMap_cons, List.append_assoc]
abbrev F2 (v : Value) (l : List EnV) : Res := .own 71 4 v l.length (l.flatMap E1)
def newE (n : Nat) : List EnV := List.replicate (min n 64) W9
theorem C3A (n : Nat) : (Builtin.zeroCells (Value.agg #[.int .i64 0, .string P6, .int .i64 0, .int .i64 0]).cells n).toList = (List.replicate n W9).flatMap E1 := by
 have h4 : (Value.agg #[.int .i64 0, .string P6, .int .i64 0, .int .i64 0]).cells.size = 4 := rfl
 have hz : (Builtin.zeroCells (Value.agg #[.int .i64 0, .string P6, .int .i64 0, .int .i64 0]).cells n).toList.length = n * 4 := by simp [size_zeroCells]
 have hr : ((List.replicate n W9).flatMap E1).length = n * 4 := by rw [L0 (k := 4) fun _ => rfl]; simp
 apply List.ext_getElem (by rw [hz, hr])
 intro i h1 h2
 rw [hz] at h1
 have hf := W3 (f := E1) (k := 4) (fun _ => rfl) (List.replicate n W9) (i / 4) (i % 4) (by omega)
 rw [show i / 4 * 4 + i % 4 = i by omega, List.getElem?_eq_getElem h2, List.getElem?_replicate_of_lt (by omega)] at hf
 have e : (Builtin.zeroCells (Value.agg #[.int .i64 0, .string P6, .int .i64 0, .int .i64 0]).cells n).toList[i]'(by rw [hz]; exact h1) = (Value.agg #[.int .i64 0, .string P6, .int .i64 0, .int .i64 0]).cells[i % 4]! := by
  simp [Builtin.zeroCells]
 rw [e]
 have h3 : i % 4 = 0 ∨ i % 4 = 1 ∨ i % 4 = 2 ∨ i % 4 = 3 := by omega
 rcases h3 with h3 | h3 | h3 | h3 <;> (rw [h3] at hf ⊢; simp [E1, W9] at hf ⊢; exact hf.symm)
theorem A93 (w : World) (n : Nat) (hn : n ≤ 1000000) : Fn PR B5 57 #[.int .i64 (n : Int)] w (Rn [] w (fun r u => u = r) fun r => [F2 r (newE n)]) := by
 refine B4w (TW.go (κ := false) (S := []) ?_)
 unfold A8j
 have e : max 0 (min (n : Int) 64) = ((min n 64 : Nat) : Int) := by omega
 (have hQq := trivial; repeat ((first | clear hQq | (with_reducible first | refine A3 ?_ | refine A4 fun _ => ?_ | refine A5 fun _ => ?_)); (try simp (disch := first | omega | assumption | ((repeat (first | exact A0 | exact Up.here | apply A1 | apply Up.there)); first | done | fail) | (simp; first | done | omega | fail)) [e])))
 refine B2M (by omega) (by omega) (by omega) (by omega) fun bs => ?_
 rw [Int.toNat_natCast]
 refine g6 _ rfl ?_
 simp only [F2, newE, List.length_replicate, ← C3A]
 exact List.Sublist.refl _
def F6 (l : List EnV) (x : EnV) : Option (List EnV) :=
 let at0 := D9 l x.key
 let at1 := if at0 < 0 then Q8 l x.key else at0
 if at1 < 0 then none else some (l.set at1.toNat x)
theorem C2v {key : ByteArray} {n : Nat} : ∀ L : List (Nat × EnV), (∀ p ∈ L, p.1 < n) → 0 ≤ H4 key L → (H4 key L).toNat < n := by
 intro L
 induction L with
 | nil => intro _ h; simp [H4] at h
 | cons p L ih =>
  intro h h0
  simp only [H4] at h0 ⊢
  split
  ·rw [if_pos ‹_›] at h0; simp at h0
  ·rw [if_neg ‹_›] at h0
   split
   ·simpa using h p (by simp)
   ·rw [if_neg ‹_›] at h0; exact ih (fun q hq => h q (by simp [hq])) h0
theorem C2C {n : Nat} : ∀ L : List (Nat × EnV), (∀ p ∈ L, p.1 < n) → 0 ≤ M5 L → (M5 L).toNat < n := by
 intro L
 induction L with
 | nil => intro _ h; simp [M5] at h
 | cons p L ih =>
  intro h h0
  simp only [M5] at h0 ⊢
  split
  ·rw [if_pos ‹_›] at h0; exact ih (fun q hq => h q (by simp [hq])) h0
  ·simpa using h p (by simp)
theorem B7E (l : List EnV) (key : ByteArray) : ∀ p ∈ L8 l key, p.1 < l.length := by
 intro p hp
 obtain ⟨i, hi, rfl⟩ := List.mem_map.1 hp
 exact Nat.mod_lt _ (by simp at hi; omega)
theorem q5 {l : List EnV} {key : ByteArray} (h : 0 ≤ D9 l key) : (D9 l key).toNat < l.length := C2v _ (B7E l key) h
theorem B0e {l : List EnV} {key : ByteArray} (h : 0 ≤ Q8 l key) : (Q8 l key).toNat < l.length := by
 unfold Q8 at h ⊢
 split
 ·rw [if_pos ‹_›] at h; simp at h
 ·rw [if_neg ‹_›] at h; exact C2C _ (B7E l key) h
theorem A7j {l m : List EnV} {x : EnV} (h : F6 l x = some m) : m.length = l.length := by
 unfold F6 at h
 simp only at h
 by_cases c : (if D9 l x.key < 0 then Q8 l x.key else D9 l x.key) < 0
 ·rw [if_pos c] at h; cases h
 ·rw [if_neg c] at h; injection h with h; rw [← h]; simp
theorem B7j (w : World) (v : Value) (l : List EnV) (x : EnV) (hk : x.key.size < 2 ^ 60) (hn : l.length ≤ 1000000) (hw : LW false (E2 [F2 v l]) w [F2 v l] w) :
  Fn PR B5 119 #[v, .agg #[.int .i64 x.st, .string x.key, .int .i64 x.bk, .int .i64 x.dl]] w (Rn (E2 [F2 v l]) w (fun (_ : Unit) u => u = .bool (F6 l x).isSome) fun _ => [F2 v ((F6 l x).getD l)]) := by
 refine A9F (TW.goH (κ := false) (S := E2 [F2 v l]) ?_ hw)
 unfold A2P
 (have hQq := trivial; repeat ((first | clear hQq | (with_reducible first | refine A3 ?_ | refine A4 fun _ => ?_ | refine A5 fun _ => ?_)); (try simp (disch := first | omega | assumption | ((repeat (first | exact A0 | exact Up.here | apply A1 | apply Up.there)); first | done | fail) | (simp; first | done | omega | fail)) [])))
 rename_i bx
 refine B7 s7 (fun w' hw' => A1r w' v l x.key hk hn (K6.own (by ((repeat (first | exact A0 | exact Up.here | exact Sel.here | apply A1 | apply Up.there | apply Sel.there)); first | done | fail)) w' hw')) ?_
 have p9 : ∀ r : Int, 0 ≤ r → r.toNat < l.length → F6 l x = some (l.set r.toNat x) → TW false (E2 [F2 v l]) w [.pt bx (.cells #[.int .i64 x.st, .string x.key, .int .i64 x.bk, .int .i64 x.dl] 71), F2 v l]
   (A2 PR (Instr.indexAt 136 v (.int .i64 r)) fun t21 => B4 PR B5 (Instr.storeAt 71 t21 (.agg #[.int .i64 x.st, .string x.key, .int .i64 x.bk, .int .i64 x.dl])) <|
    Rn (E2 [F2 v l]) w (fun (_ : Unit) u => u = .bool (F6 l x).isSome) (fun _ => [F2 v ((F6 l x).getD l)]) (.bool true)) := by
  intro r h0 hi hp
  obtain ⟨i, rfl⟩ : ∃ i : Nat, r = i := ⟨r.toNat, by omega⟩
  rw [Int.toNat_natCast] at hi hp
  refine A1T (e := 71) (k := 4) (v := v) (q := l.length) (xs := l.flatMap E1) (by ((repeat (first | exact A0 | exact Up.here | exact Sel.here | apply A1 | apply Up.there | apply Sel.there)); first | done | fail)) (by omega) ?_
  rintro g c rfl
  (have hQq := trivial; repeat ((first | clear hQq | (with_reducible first | refine A3 ?_ | refine A4 fun _ => ?_ | refine A5 fun _ => ?_)); (try simp (disch := first | omega | assumption | ((repeat (first | exact A0 | exact Up.here | apply A1 | apply Up.there)); first | done | fail) | (simp; first | done | omega | fail)) [hi])))
  refine f8 (by ((repeat (first | exact A0 | exact Up.here | exact Sel.here | apply A1 | apply Up.there | apply Sel.there)); first | done | fail)) (by simp) (by rw [s9]; omega) (by simp) ?_
  refine C6 () (by simp [hp]) ?_
  have := A2a (f := E1) (k := 4) (fun _ => rfl) l i x hi
  simp only [hp, Option.getD_some, F2, List.length_set, ← this]
  ((repeat (first | exact Sels.nil | (apply Sels.cons; · ((repeat (first | exact A0 | exact Up.here | exact Sel.here | apply A1 | apply Up.there | apply Sel.there)); first | done | fail)))); first | done | fail)
 by_cases c1 : D9 l x.key < 0
 ·(have hQq := trivial; repeat ((first | clear hQq | (with_reducible first | refine A3 ?_ | refine A4 fun _ => ?_ | refine A5 fun _ => ?_)); (try simp (disch := first | omega | assumption | ((repeat (first | exact A0 | exact Up.here | apply A1 | apply Up.there)); first | done | fail) | (simp; first | done | omega | fail)) [c1])))
  refine B7 B28 (fun w' hw' => B5F w' v l x.key hk hn (K6.own (by ((repeat (first | exact A0 | exact Up.here | exact Sel.here | apply A1 | apply Up.there | apply Sel.there)); first | done | fail)) w' hw')) ?_
  by_cases c2 : Q8 l x.key < 0
  ·have hp : F6 l x = none := by simp [F6, c1, c2]
   (have hQq := trivial; repeat ((first | clear hQq | (with_reducible first | refine A3 ?_ | refine A4 fun _ => ?_ | refine A5 fun _ => ?_)); (try simp (disch := first | omega | assumption | ((repeat (first | exact A0 | exact Up.here | apply A1 | apply Up.there)); first | done | fail) | (simp; first | done | omega | fail)) [c2])))
   exact C6 () (by simp [hp]) (by simp only [hp, Option.getD_none]; ((repeat (first | exact Sels.nil | (apply Sels.cons; · ((repeat (first | exact A0 | exact Up.here | exact Sel.here | apply A1 | apply Up.there | apply Sel.there)); first | done | fail)))); first | done | fail))
  ·have hp : F6 l x = some (l.set (Q8 l x.key).toNat x) := by simp [F6, c1, c2]
   have := p9 _ (by omega) (B0e (by omega)) hp
   simp (disch := first | omega | assumption | ((repeat (first | exact A0 | exact Up.here | apply A1 | apply Up.there)); first | done | fail) | (simp; first | done | omega | fail)) [c2]
   exact this
 ·have hp : F6 l x = some (l.set (D9 l x.key).toNat x) := by simp [F6, c1]
  have := p9 _ (by omega) (q5 (by omega)) hp
  simp (disch := first | omega | assumption | ((repeat (first | exact A0 | exact Up.here | apply A1 | apply Up.there)); first | done | fail) | (simp; first | done | omega | fail)) [c1]
  exact this
def Z3 : Nat → List EnV → List (Nat × EnV)
 | _, [] => []
 | i, x :: r => if x.st = 1 then (i, x) :: Z3 (i + 1) r else Z3 (i + 1) r
def N4 (l : List EnV) : List (Nat × EnV) := Z3 0 l
theorem B3E (i : Nat) (l m : List EnV) : Z3 i (l ++ m) = Z3 i l ++ Z3 (i + l.length) m := by
 induction l generalizing i with
 | nil => simp [Z3]
 | cons x l ih =>
  simp only [List.cons_append, Z3, ih, List.length_cons]
  split
  ·simp only [List.cons_append]; congr 3; omega
  ·congr 2; omega
theorem B04 {l : List EnV} {i : Nat} {x : EnV} (hx : l[i]? = some x) : N4 (l.take (i + 1)) = N4 (l.take i) ++ (if x.st = 1 then [(i, x)] else []) := by
 obtain ⟨hi, _⟩ := List.getElem?_eq_some_iff.1 hx
 rw [List.take_add_one, hx, N4, B3E, Option.toList_some, List.length_take, Nat.zero_add, Nat.min_eq_left (by omega)]
 simp only [Z3, N4]
theorem B9C {l : List EnV} {i : Nat} {x : EnV} (hx : l[i]? = some x) (h : x.st = 1) : (N4 l)[(N4 (l.take i)).length]? = some (i, x) := by
 have e : l = l.take (i + 1) ++ l.drop (i + 1) := (List.take_append_drop _ _).symm
 conv => lhs; arg 1; rw [e]
 rw [N4, B3E, ← N4, B04 hx, if_pos h, List.append_assoc, List.getElem?_append_right (by omega)]
 simp
abbrev C3B (b : Nat) : Value := .func (.func 126) #[] #[.pointer (some ⟨b, 0, none⟩)]
theorem C4W (w : World) (v : Value) (hv : ∃ a n c, v = .slice a n c) : Fn PR B5 81 #[v] w (Rn [] w (fun b u => u = C3B b) fun b => [.pt b (.cells #[v] 136)]) := by
 obtain ⟨a, n, c, rfl⟩ := hv
 refine A8D (TW.go (κ := false) (S := []) ?_)
 unfold A1w
 (have hQq := trivial; repeat ((first | clear hQq | (with_reducible first | refine A3 ?_ | refine A4 fun _ => ?_ | refine A5 fun _ => ?_)); (try simp (disch := first | omega | assumption | ((repeat (first | exact A0 | exact Up.here | apply A1 | apply Up.there)); first | done | fail) | (simp; first | done | omega | fail)) [])))
 rename_i b
 exact g6 b rfl (by simp)
theorem C3y (b : Nat) (v : Value) (l : List EnV) (hn : l.length ≤ 1000000) : A5B (C3B b) [.pt b (.cells #[v] 136)] (RqS v l.length (l.flatMap E1)) ((N4 l).map A7A) := by
 refine ⟨_, _, _, rfl, fun y J E hJ hE stJ stE hy w0 h0 => ?_⟩
 obtain ⟨a, c, hv, hr⟩ := (hJ _ _ _ h0).2
 subst hv
 refine A5N (A55 (TW.at (κ := true) ?_ (hJ _ _ _ h0).1))
 unfold A0s
 (have hQq := trivial; repeat ((first | clear hQq | (with_reducible first | refine A3 ?_ | refine A4 fun _ => ?_ | refine A5 fun _ => ?_)); (try simp (disch := first | omega | assumption | ((repeat (first | exact A0 | exact Up.here | apply A1 | apply Up.there)); first | done | fail) | (simp; first | done | omega | fail)) [])))
 refine A3k l.length (fun i => (N4 (l.take i)).length) (fun _ => _) hJ stJ (by simpa [N4, Z3] using h0) fun i a' hi hJi hRi L hL => ?_
 by_cases hlt : i < l.length
 ·obtain ⟨_, _, hv, hr⟩ := hRi
  obtain ⟨b', o, hb, hrow, hnb⟩ := hr (by omega)
  cases hv
  subst hb
  obtain ⟨x, hx⟩ : ∃ x, l[i]? = some x := ⟨_, List.getElem?_eq_getElem hlt⟩
  have h1 := hrow.at (f := E1) (k := 4) (fun _ => rfl) hx
  rw [E1] at h1
  have hat := B04 hx
  by_cases c1 : x.st = 1
  ·have hg := B9C hx c1
   rw [if_pos c1] at hat
   obtain ⟨hgi, hg'⟩ := List.getElem?_eq_some_iff.1 hg
   have hlen : (N4 (l.take (i + 1))).length = (N4 (l.take i)).length + 1 := by rw [hat]; simp
   rw [hlen] at hL
   (have hQq := trivial; repeat ((first | clear hQq | (with_reducible first | refine A3 ?_ | refine A4 fun _ => ?_ | refine A5 fun _ => ?_)); (try simp (disch := first | omega | assumption | ((repeat (first | exact A0 | exact Up.here | apply A1 | apply Up.there)); first | done | fail) | (simp; first | done | omega | fail)) [hlt, h1, c1])))
   refine A7C hJ hE stJ hy hJi (by simpa using hgi) (by rw [List.getElem_map, hg', A7A, c1]) (fun w3 h => ?_) (fun w3 h => ?_)
   ·(have hQq := trivial; repeat ((first | clear hQq | (with_reducible first | refine A3 ?_ | refine A4 fun _ => ?_ | refine A5 fun _ => ?_)); (try simp (disch := first | omega | assumption | ((repeat (first | exact A0 | exact Up.here | apply A1 | apply Up.there)); first | done | fail) | (simp; first | done | omega | fail)) [])))
    exact fun w' hw' => hL hlt w' (stJ _ _ _ _ _ h (hw'.sub (by simp)))
   ·(have hQq := trivial; repeat ((first | clear hQq | (with_reducible first | refine A3 ?_ | refine A4 fun _ => ?_ | refine A5 fun _ => ?_)); (try simp (disch := first | omega | assumption | ((repeat (first | exact A0 | exact Up.here | apply A1 | apply Up.there)); first | done | fail) | (simp; first | done | omega | fail)) [])))
    exact A3l stE h
  ·rw [if_neg c1, List.append_nil] at hat
   rw [hat] at hL
   (have hQq := trivial; repeat ((first | clear hQq | (with_reducible first | refine A3 ?_ | refine A4 fun _ => ?_ | refine A5 fun _ => ?_)); (try simp (disch := first | omega | assumption | ((repeat (first | exact A0 | exact Up.here | apply A1 | apply Up.there)); first | done | fail) | (simp; first | done | omega | fail)) [hlt, h1, c1])))
   exact fun w' hw' => hL hlt w' (stJ _ _ _ _ _ hJi (hw'.sub (by simp)))
 ·obtain rfl : i = l.length := by omega
  rw [List.take_length] at hJi
  (have hQq := trivial; repeat ((first | clear hQq | (with_reducible first | refine A3 ?_ | refine A4 fun _ => ?_ | refine A5 fun _ => ?_)); (try simp (disch := first | omega | assumption | ((repeat (first | exact A0 | exact Up.here | apply A1 | apply Up.there)); first | done | fail) | (simp; first | done | omega | fail)) [])))
  exact A3s stJ (by simpa using hJi)
end Go.Proofs.YtggakcpabomliaaGreat
namespace Go.Proofs.YtggakcpabomliaaGreat
open Go
theorem B8Q {w : World} {b : Nat} {T : TypeId} {l : List Value} (h : bl w b = some (.cells l.toArray T (0, 0))) : e9 w b 0 l.length = some l := A6m fun i hi => by
 rw [N0 h]; simp
theorem B1B (w : World) (v : Value) (l : List EnV) (f : FuncId) (cap : List Value) (o : Option (List EnV)) (ho : ∀ m, o = some m → m.length = l.length) (hn : l.length ≤ 1000000) (hv : E3 w v l.length (l.flatMap E1)) (he : B0 PR f)
  (hf : ∀ w' r, KS false [] w w' → (∀ b ∈ E2 [F2 r l], sz w ≤ b) → LW false (E2 [F2 r l]) w' [F2 r l] w' → Fn PR B5 f (r :: cap).toArray w' (Rn (E2 [F2 r l]) w' (fun (_ : Unit) u => u = .bool o.isSome) fun _ => [F2 r (o.getD l)])) :
  Fn PR B5 114 #[v, .func (.func f) #[] cap.toArray] w (Rn [] w (fun r u => u = .tuple #[if o.isSome then r else v, .bool o.isSome]) fun r => [F2 r (o.getD l)]) := by
 refine B0n (TW.go (κ := false) (S := []) ?_)
 unfold A37
 refine F8 P2 (fun w' hw' => A82 w' v l.length (l.flatMap E1) hn (s9 l) (A8Y l) (hv.ks hw'.ks (by simp))) ?_
 rintro _ r rfl
 (have hQq := trivial; repeat ((first | clear hQq | (with_reducible first | refine A3 ?_ | refine A4 fun _ => ?_ | refine A5 fun _ => ?_)); (try simp (disch := first | omega | assumption | ((repeat (first | exact A0 | exact Up.here | apply A1 | apply Up.there)); first | done | fail) | (simp; first | done | omega | fail)) [])))
 refine H7 (Hc := [F2 r l]) he (fun w' hw hs => hf w' r hw.ks (fun b hb => by
  obtain ⟨s, hs1, hb1⟩ := N9.1 hb
  rcases (hw.own s (List.mem_append_left _ hs1) b hb1).1 with h | h
  ·simp at h
  ·exact h) hs) (by ((repeat (first | exact Part.nil | (apply Part.cons; · ((repeat (first | exact A0 | exact Up.here | exact Sel.here | apply A1 | apply Up.there | apply Sel.there)); first | done | fail)))); first | done | fail)) ?_
 rintro _ _ rfl
 cases o with
 | none =>
  (have hQq := trivial; repeat ((first | clear hQq | (with_reducible first | refine A3 ?_ | refine A4 fun _ => ?_ | refine A5 fun _ => ?_)); (try simp (disch := first | omega | assumption | ((repeat (first | exact A0 | exact Up.here | apply A1 | apply Up.there)); first | done | fail) | (simp; first | done | omega | fail)) [])))
  exact C6 r rfl (by ((repeat (first | exact Sels.nil | (apply Sels.cons; · ((repeat (first | exact A0 | exact Up.here | exact Sel.here | apply A1 | apply Up.there | apply Sel.there)); first | done | fail)))); first | done | fail))
 | some m =>
  (have hQq := trivial; repeat ((first | clear hQq | (with_reducible first | refine A3 ?_ | refine A4 fun _ => ?_ | refine A5 fun _ => ?_)); (try simp (disch := first | omega | assumption | ((repeat (first | exact A0 | exact Up.here | apply A1 | apply Up.there)); first | done | fail) | (simp; first | done | omega | fail)) [])))
  exact C6 r rfl (by ((repeat (first | exact Sels.nil | (apply Sels.cons; · ((repeat (first | exact A0 | exact Up.here | exact Sel.here | apply A1 | apply Up.there | apply Sel.there)); first | done | fail)))); first | done | fail))
theorem C1P (w : World) (v : Value) (l : List EnV) (x : EnV) (b : Nat) (hk : x.key.size < 2 ^ 60) (hn : l.length ≤ 1000000) (hx : e9 w b 0 4 = some (E1 x)) (hb : b ∉ E2 [F2 v l]) (hw : LW false (E2 [F2 v l]) w [F2 v l] w) :
  Fn PR B5 118 #[v, .pointer (some ⟨b, 0, none⟩)] w (Rn (E2 [F2 v l]) w (fun (_ : Unit) u => u = .bool (F6 l x).isSome) fun _ => [F2 v ((F6 l x).getD l)]) := by
 refine B17 (TW.goH (κ := false) (S := E2 [F2 v l]) ?_ hw)
 unfold A4y
 rw [E1] at hx
 (have hQq := trivial; repeat ((first | clear hQq | (with_reducible first | refine A3 ?_ | refine A4 fun _ => ?_ | refine A5 fun _ => ?_)); (try simp (disch := first | omega | assumption | ((repeat (first | exact A0 | exact Up.here | apply A1 | apply Up.there)); first | done | fail) | (simp; first | done | omega | fail)) [hx])))
 refine H7 (Hc := [F2 v l]) A12 (fun w' hw hs => B7j w' v l x hk hn hs) (by ((repeat (first | exact Part.nil | (apply Part.cons; · ((repeat (first | exact A0 | exact Up.here | exact Sel.here | apply A1 | apply Up.there | apply Sel.there)); first | done | fail)))); first | done | fail)) ?_
 rintro _ _ rfl
 exact C6 () rfl (by ((repeat (first | exact Sels.nil | (apply Sels.cons; · ((repeat (first | exact A0 | exact Up.here | exact Sel.here | apply A1 | apply Up.there | apply Sel.there)); first | done | fail)))); first | done | fail))
theorem B6S (w : World) (v : Value) (l : List EnV) (key : ByteArray) (bk dl : Int) (hk : key.size < 2 ^ 60) (hn : l.length ≤ 1000000) (hv : E3 w v l.length (l.flatMap E1)) :
  Fn PR B5 74 #[v, .string key, .int .i64 bk, .int .i64 dl] w (Rn [] w (fun r u => u = .tuple #[if (F6 l ⟨1, key, bk, dl⟩).isSome then r else v, .int .i64 (if (F6 l ⟨1, key, bk, dl⟩).isSome then 0 else 12)]) fun r => [F2 r ((F6 l ⟨1, key, bk, dl⟩).getD l)]) := by
 refine B4l (TW.go (κ := false) (S := []) ?_)
 unfold A8p
 (have hQq := trivial; repeat ((first | clear hQq | (with_reducible first | refine A3 ?_ | refine A4 fun _ => ?_ | refine A5 fun _ => ?_)); (try simp (disch := first | omega | assumption | ((repeat (first | exact A0 | exact Up.here | apply A1 | apply Up.there)); first | done | fail) | (simp; first | done | omega | fail)) [])))
 rename_i b
 refine F8 A22 (fun w' hw' => B1B w' v l 118 [.pointer (some ⟨b, 0, none⟩)] (F6 l ⟨1, key, bk, dl⟩) (fun m h => A7j h) hn (hv.ks hw'.ks (by simp)) B0M
  fun w2 r h hf hr => ?_) ?_
 ·have hp := hw'.pt (b := b) (by ((repeat (first | exact A0 | exact Up.here | exact Sel.here | apply A1 | apply Up.there | apply Sel.there)); first | done | fail))
  have hb : b < sz w' := K1 hp
  refine C1P w2 r l ⟨1, key, bk, dl⟩ b hk hn ?_ (fun hc => by have := hf b hc; omega) hr
  have hp2 := h.2.1 b _ (by simp) rfl hp
  exact B8Q hp2
 ·rintro r _ rfl
  cases h : F6 l ⟨1, key, bk, dl⟩ with
  | none =>
   (have hQq := trivial; repeat ((first | clear hQq | (with_reducible first | refine A3 ?_ | refine A4 fun _ => ?_ | refine A5 fun _ => ?_)); (try simp (disch := first | omega | assumption | ((repeat (first | exact A0 | exact Up.here | apply A1 | apply Up.there)); first | done | fail) | (simp; first | done | omega | fail)) [])))
   exact C6 r (by simp) (by ((repeat (first | exact Sels.nil | (apply Sels.cons; · ((repeat (first | exact A0 | exact Up.here | exact Sel.here | apply A1 | apply Up.there | apply Sel.there)); first | done | fail)))); first | done | fail))
  | some m =>
   (have hQq := trivial; repeat ((first | clear hQq | (with_reducible first | refine A3 ?_ | refine A4 fun _ => ?_ | refine A5 fun _ => ?_)); (try simp (disch := first | omega | assumption | ((repeat (first | exact A0 | exact Up.here | apply A1 | apply Up.there)); first | done | fail) | (simp; first | done | omega | fail)) [])))
   exact C6 r (by simp) (by ((repeat (first | exact Sels.nil | (apply Sels.cons; · ((repeat (first | exact A0 | exact Up.here | exact Sel.here | apply A1 | apply Up.there | apply Sel.there)); first | done | fail)))); first | done | fail))
def P4 : EnV := ⟨2, P6, 0, 0⟩
def H6 (l : List EnV) : Prop := ∀ x ∈ l, x.key.size < 2 ^ 60
def T7 (acc : List EnV) (x : EnV) : List EnV := (F6 acc x).getD acc
theorem C15 (acc : List EnV) (x : EnV) : (T7 acc x).length = acc.length := by
 unfold T7
 cases h : F6 acc x with
 | none => rfl
 | some m => exact A7j h
def V8 (l : List EnV) : List EnV := (N4 l).foldl (fun acc p => T7 acc p.2) (newE l.length)
theorem B0J (L : List (Nat × EnV)) (a : List EnV) : (L.foldl (fun acc p => T7 acc p.2) a).length = a.length := by
 induction L generalizing a with
 | nil => rfl
 | cons p L ih => rw [List.foldl_cons, ih, C15]
theorem A3W (n : Nat) : (newE n).length = min n 64 := by simp [newE]
theorem B3g {i : Nat} {l : List EnV} : ∀ p ∈ Z3 i l, p.2 ∈ l ∧ p.2.st = 1 := by
 induction l generalizing i with
 | nil => intro p hp; cases hp
 | cons x l ih =>
  intro p hp
  simp only [Z3] at hp
  split at hp
  ·rcases List.mem_cons.1 hp with rfl | hp
   ·exact ⟨by simp, ‹_›⟩
   ·obtain ⟨h1, h2⟩ := ih p hp; exact ⟨by simp [h1], h2⟩
  ·obtain ⟨h1, h2⟩ := ih p hp; exact ⟨by simp [h1], h2⟩
theorem A1Y {κ : Bool} {S : List Nat} {w0 : World} {H : List Res} {K0 : WP} {e : TypeId} {k : Nat} {v : Value} {q : Nat} {xs : List Value} (hm : Res.own e k v q xs ∈ H) (h : v.cells = #[v] → v.cells.size = 1 → v.cells.toList.all plain = true → TW κ S w0 H K0) : TW κ S w0 H K0 := fun w hw => by
 obtain ⟨a, c, rfl⟩ := P3.form (hw.hold _ hm); exact h rfl rfl rfl w hw
theorem V5 {κ : Bool} {S : List Nat} {w0 : World} {H : List Res} {K0 : WP} {e : TypeId} {k : Nat} {v : Value} {q : Nat} {xs : List Value} (hm : Res.own e k v q xs ∈ H) (h : ∀ a c, v = .slice a q c → TW κ S w0 H K0) : TW κ S w0 H K0 := fun w hw => by
 obtain ⟨a, c, rfl⟩ := P3.form (hw.hold _ hm); exact h a c rfl w hw
theorem B7Q (w : World) (v : Value) (l : List EnV) (hks : H6 l) (hn : l.length ≤ 1000000) (hv : E3 w v l.length (l.flatMap E1)) :
  Fn PR B5 117 #[v] w (Rn [] w (fun r u => u = r) fun r => [F2 r (V8 l)]) := by
 refine B4G (TW.go (κ := false) (S := []) ?_)
 unfold A7x
 obtain ⟨a, c, rfl, _⟩ := hv.form
 (have hQq := trivial; repeat ((first | clear hQq | (with_reducible first | refine A3 ?_ | refine A4 fun _ => ?_ | refine A5 fun _ => ?_)); (try simp (disch := first | omega | assumption | ((repeat (first | exact A0 | exact Up.here | apply A1 | apply Up.there)); first | done | fail) | (simp; first | done | omega | fail)) [])))
 refine F8 A7v (fun w' _ => A93 w' l.length hn) ?_
 rintro _ r rfl
 refine A1Y (e := 71) (k := 4) (v := r) (q := (newE l.length).length) (xs := (newE l.length).flatMap E1) (by ((repeat (first | exact A0 | exact Up.here | exact Sel.here | apply A1 | apply Up.there | apply Sel.there)); first | done | fail)) fun hr1 hr2 hr3 => ?_
 (have hQq := trivial; repeat ((first | clear hQq | (with_reducible first | refine A3 ?_ | refine A4 fun _ => ?_ | refine A5 fun _ => ?_)); (try simp (disch := first | omega | assumption | ((repeat (first | exact A0 | exact Up.here | apply A1 | apply Up.there)); first | done | fail) | (simp; first | done | omega | fail)) [hr1])))
 rename_i bt
 refine F8 A7H (fun w' _ => C4W w' (.slice a l.length c) ⟨_, _, _, rfl⟩) ?_
 rintro b _ rfl
 refine A3A (C3y b (.slice a l.length c) l hn) (B0P _) (fun i (acc : List EnV) => acc = ((N4 l).take i).foldl (fun acc p => T7 acc p.2) (newE l.length)) (fun _ acc => [.pt bt (.cells #[r] 136), F2 r acc])
  (fun c (y : Unit) => False) (fun y => []) (newE l.length) (by simp) ?_ ?_ ?_ ?_ (by simp)
 ·intro i _ F w1 _ hw
  exact RqS.of hv (fun h => by rw [s9]; omega) hw
 ·rintro i hi acc F hψ K' hK _
  have hi' : i < (N4 l).length := by simpa using hi
  have hm : (N4 l)[i] ∈ N4 l := List.getElem_mem hi'
  have hst : ((N4 l).take (i + 1)).foldl (fun acc p => T7 acc p.2) (newE l.length) = T7 acc (N4 l)[i].2 := by
   rw [List.take_add_one, List.getElem?_eq_getElem hi', Option.toList_some, List.foldl_append, ← hψ]; rfl
  have hlen : acc.length ≤ 64 := by rw [hψ, B0J, A3W]; omega
  simp only [List.getElem_map]
  generalize (N4 l)[i] = p at *
  have hkp := hks p.2 (B3g p hm).1
  simp only [A7A, VF.app]
  (have hQq := trivial; repeat ((first | clear hQq | (with_reducible first | refine A3 ?_ | refine A4 fun _ => ?_ | refine A5 fun _ => ?_)); (try simp (disch := first | omega | assumption | ((repeat (first | exact A0 | exact Up.here | apply A1 | apply Up.there)); first | done | fail) | (simp; first | done | omega | fail)) [])))
  refine H7 (Hc := [F2 r acc]) A12 (fun w' hw hs => B7j w' r acc p.2 hkp (by omega) hs) (by ((repeat (first | exact Part.nil | (apply Part.cons; · ((repeat (first | exact A0 | exact Up.here | exact Sel.here | apply A1 | apply Up.there | apply Sel.there)); first | done | fail)))); first | done | fail)) ?_
  rintro _ _ rfl
  refine TW.sub (TW.perm (hK (T7 acc p.2) hst.symm) ?_) (H' := F2 r (T7 acc p.2) :: .pt bt (.cells #[r] 136) :: F) ?_
  ·exact List.Perm.swap ..
  ·simp only [T7]; ((try simp only [List.cons_append, List.nil_append, List.append_assoc]); (repeat (first | exact List.Sublist.refl _ | exact List.nil_sublist _ | with_reducible apply List.Sublist.cons_cons | apply List.Sublist.cons)); first | done | fail)
 ·intro acc hψ
  simp only [List.length_map, List.take_length] at hψ
  subst hψ
  (have hQq := trivial; repeat ((first | clear hQq | (with_reducible first | refine A3 ?_ | refine A4 fun _ => ?_ | refine A5 fun _ => ?_)); (try simp (disch := first | omega | assumption | ((repeat (first | exact A0 | exact Up.here | apply A1 | apply Up.there)); first | done | fail) | (simp; first | done | omega | fail)) [])))
  exact C6 r rfl (by simp only [V8]; ((repeat (first | exact Sels.nil | (apply Sels.cons; · ((repeat (first | exact A0 | exact Up.here | exact Sel.here | apply A1 | apply Up.there | apply Sel.there)); first | done | fail)))); first | done | fail))
 ·rintro _ _ h; exact h.elim
def T8 (l : List EnV) (key : ByteArray) : Option (List EnV) := if D9 l key < 0 then none else some (l.set (D9 l key).toNat P4)
theorem B40 {l m : List EnV} {key : ByteArray} (h : T8 l key = some m) : m.length = l.length := by
 unfold T8 at h
 by_cases c : D9 l key < 0
 ·rw [if_pos c] at h; cases h
 ·rw [if_neg c] at h; injection h with h; rw [← h]; simp
def H0 (u : List EnV) : List EnV := if u.length < 2 * F3 u 2 then V8 u else u
def A03 (l : List EnV) (key : ByteArray) : List EnV := match T8 l key with | some u => H0 u | none => l
theorem B6z (w : World) (v : Value) (l : List EnV) (key : ByteArray) (b : Nat) (hk : key.size < 2 ^ 60) (hn : l.length ≤ 1000000) (hx : w.cell? ⟨b, 0, none⟩ = some (.string key)) (hb : b ∉ E2 [F2 v l]) (hw : LW false (E2 [F2 v l]) w [F2 v l] w) :
  Fn PR B5 115 #[v, .pointer (some ⟨b, 0, none⟩)] w (Rn (E2 [F2 v l]) w (fun (_ : Unit) u => u = .bool (T8 l key).isSome) fun _ => [F2 v ((T8 l key).getD l)]) := by
 refine A8v (TW.goH (κ := false) (S := E2 [F2 v l]) ?_ hw)
 unfold A2U
 (have hQq := trivial; repeat ((first | clear hQq | (with_reducible first | refine A3 ?_ | refine A4 fun _ => ?_ | refine A5 fun _ => ?_)); (try simp (disch := first | omega | assumption | ((repeat (first | exact A0 | exact Up.here | apply A1 | apply Up.there)); first | done | fail) | (simp; first | done | omega | fail)) [hx])))
 refine B7 s7 (fun w' hw' => A1r w' v l key hk hn (K6.own (by ((repeat (first | exact A0 | exact Up.here | exact Sel.here | apply A1 | apply Up.there | apply Sel.there)); first | done | fail)) w' hw')) ?_
 by_cases c1 : D9 l key < 0
 ·have hd : T8 l key = none := if_pos c1
  (have hQq := trivial; repeat ((first | clear hQq | (with_reducible first | refine A3 ?_ | refine A4 fun _ => ?_ | refine A5 fun _ => ?_)); (try simp (disch := first | omega | assumption | ((repeat (first | exact A0 | exact Up.here | apply A1 | apply Up.there)); first | done | fail) | (simp; first | done | omega | fail)) [c1])))
  exact C6 () (by simp [hd]) (by simp only [hd, Option.getD_none]; ((repeat (first | exact Sels.nil | (apply Sels.cons; · ((repeat (first | exact A0 | exact Up.here | exact Sel.here | apply A1 | apply Up.there | apply Sel.there)); first | done | fail)))); first | done | fail))
 ·have hd : T8 l key = some (l.set (D9 l key).toNat P4) := if_neg c1
  have hlt := q5 (l := l) (key := key) (by omega)
  have h0 : 0 ≤ D9 l key := by omega
  obtain ⟨i, hi⟩ : ∃ i : Nat, D9 l key = i := ⟨(D9 l key).toNat, by omega⟩
  rw [hi] at hd hlt c1 ⊢
  rw [Int.toNat_natCast] at hd hlt
  refine A1T (e := 71) (k := 4) (v := v) (q := l.length) (xs := l.flatMap E1) (by ((repeat (first | exact A0 | exact Up.here | exact Sel.here | apply A1 | apply Up.there | apply Sel.there)); first | done | fail)) (by omega) ?_
  rintro g c rfl
  (have hQq := trivial; repeat ((first | clear hQq | (with_reducible first | refine A3 ?_ | refine A4 fun _ => ?_ | refine A5 fun _ => ?_)); (try simp (disch := first | omega | assumption | ((repeat (first | exact A0 | exact Up.here | apply A1 | apply Up.there)); first | done | fail) | (simp; first | done | omega | fail)) [c1, hlt])))
  refine f8 (by ((repeat (first | exact A0 | exact Up.here | exact Sel.here | apply A1 | apply Up.there | apply Sel.there)); first | done | fail)) (by simp) (by rw [s9]; omega) (by simp) ?_
  refine C6 () (by simp [hd]) ?_
  have := A2a (f := E1) (k := 4) (fun _ => rfl) l i P4 hlt
  simp only [hd, Option.getD_some, F2, List.length_set, ← this]
  ((repeat (first | exact Sels.nil | (apply Sels.cons; · ((repeat (first | exact A0 | exact Up.here | exact Sel.here | apply A1 | apply Up.there | apply Sel.there)); first | done | fail)))); first | done | fail)
theorem B2Q (w : World) (v : Value) (l : List EnV) (key : ByteArray) (hk : key.size < 2 ^ 60) (hks : H6 l) (hn : l.length ≤ 1000000) (hv : E3 w v l.length (l.flatMap E1)) :
  Fn PR B5 73 #[v, .string key] w (Rn [] w (fun r u => u = .tuple #[if (T8 l key).isSome then r else v, .bool (T8 l key).isSome]) fun r => [F2 r (A03 l key)]) := by
 refine B1j (TW.go (κ := false) (S := []) ?_)
 unfold A5H
 (have hQq := trivial; repeat ((first | clear hQq | (with_reducible first | refine A3 ?_ | refine A4 fun _ => ?_ | refine A5 fun _ => ?_)); (try simp (disch := first | omega | assumption | ((repeat (first | exact A0 | exact Up.here | apply A1 | apply Up.there)); first | done | fail) | (simp; first | done | omega | fail)) [])))
 rename_i b
 refine F8 A22 (fun w' hw' => B1B w' v l 115 [.pointer (some ⟨b, 0, none⟩)] (T8 l key) (fun m h => B40 h) hn (hv.ks hw'.ks (by simp)) A8C
  fun w2 r h hf hr => ?_) ?_
 ·have hp := hw'.pt (b := b) (by ((repeat (first | exact A0 | exact Up.here | exact Sel.here | apply A1 | apply Up.there | apply Sel.there)); first | done | fail))
  have hb : b < sz w' := K1 hp
  exact B6z w2 r l key b hk hn (h.cell (by simp) (hw'.cell1 (by ((repeat (first | exact A0 | exact Up.here | exact Sel.here | apply A1 | apply Up.there | apply Sel.there)); first | done | fail)))) (fun hc => by have := hf b hc; omega) hr
 ·rintro r _ rfl
  cases h : T8 l key with
  | none =>
   have e : A03 l key = l := by simp [A03, h]
   (have hQq := trivial; repeat ((first | clear hQq | (with_reducible first | refine A3 ?_ | refine A4 fun _ => ?_ | refine A5 fun _ => ?_)); (try simp (disch := first | omega | assumption | ((repeat (first | exact A0 | exact Up.here | apply A1 | apply Up.there)); first | done | fail) | (simp; first | done | omega | fail)) [])))
   exact C6 r (by simp) (by rw [e]; ((repeat (first | exact Sels.nil | (apply Sels.cons; · ((repeat (first | exact A0 | exact Up.here | exact Sel.here | apply A1 | apply Up.there | apply Sel.there)); first | done | fail)))); first | done | fail))
  | some m =>
   have e : A03 l key = H0 m := by simp [A03, h]
   have hml := B40 h
   have hmk : H6 m := by
    unfold T8 at h
    by_cases c : D9 l key < 0
    ·rw [if_pos c] at h; cases h
    ·rw [if_neg c] at h; injection h with h; rw [← h]
     intro x hx
     rcases List.mem_or_eq_of_mem_set hx with hx | rfl
     ·exact hks x hx
     ·simp [P4]
   simp only [Option.isSome_some, if_true, Option.getD_some]
   refine V5 (e := 71) (k := 4) (v := r) (q := m.length) (xs := m.flatMap E1) (by ((repeat (first | exact A0 | exact Up.here | exact Sel.here | apply A1 | apply Up.there | apply Sel.there)); first | done | fail)) ?_
   rintro ra rc rfl
   (have hQq := trivial; repeat ((first | clear hQq | (with_reducible first | refine A3 ?_ | refine A4 fun _ => ?_ | refine A5 fun _ => ?_)); (try simp (disch := first | omega | assumption | ((repeat (first | exact A0 | exact Up.here | apply A1 | apply Up.there)); first | done | fail) | (simp; first | done | omega | fail)) [])))
   refine B7 A1q (fun w' hw' => B0w w' _ m 2 (by omega) (K6.own (by ((repeat (first | exact A0 | exact Up.here | exact Sel.here | apply A1 | apply Up.there | apply Sel.there)); first | done | fail)) w' hw')) ?_
   have hcl : F3 m 2 ≤ m.length := List.countP_le_length
   by_cases c1 : m.length < 2 * F3 m 2
   ·have c1' : (m.length : Int) < 2 * (F3 m 2 : Nat) := by omega
    have e2 : A03 l key = V8 m := by rw [e, H0, if_pos c1]
    (have hQq := trivial; repeat ((first | clear hQq | (with_reducible first | refine A3 ?_ | refine A4 fun _ => ?_ | refine A5 fun _ => ?_)); (try simp (disch := first | omega | assumption | ((repeat (first | exact A0 | exact Up.here | apply A1 | apply Up.there)); first | done | fail) | (simp; first | done | omega | fail)) [c1'])))
    refine F8 A6f (fun w' hw' => B7Q w' _ m hmk (by omega) (K6.own (by ((repeat (first | exact A0 | exact Up.here | exact Sel.here | apply A1 | apply Up.there | apply Sel.there)); first | done | fail)) w' hw')) ?_
    rintro _ r rfl
    exact C6 r rfl (by rw [e2]; ((repeat (first | exact Sels.nil | (apply Sels.cons; · ((repeat (first | exact A0 | exact Up.here | exact Sel.here | apply A1 | apply Up.there | apply Sel.there)); first | done | fail)))); first | done | fail))
   ·have c1' : ¬ (m.length : Int) < 2 * (F3 m 2 : Nat) := by omega
    have e2 : A03 l key = m := by rw [e, H0, if_neg c1]
    (have hQq := trivial; repeat ((first | clear hQq | (with_reducible first | refine A3 ?_ | refine A4 fun _ => ?_ | refine A5 fun _ => ?_)); (try simp (disch := first | omega | assumption | ((repeat (first | exact A0 | exact Up.here | apply A1 | apply Up.there)); first | done | fail) | (simp; first | done | omega | fail)) [c1'])))
    exact C6 (.slice ra m.length rc) rfl (by rw [e2]; ((repeat (first | exact Sels.nil | (apply Sels.cons; · ((repeat (first | exact A0 | exact Up.here | exact Sel.here | apply A1 | apply Up.there | apply Sel.there)); first | done | fail)))); first | done | fail))
def U2 (l : List EnV) : Bool := (N4 l).all fun p => decide (D9 l p.2.key = p.1)
end Go.Proofs.YtggakcpabomliaaGreat
namespace Go.Proofs.YtggakcpabomliaaGreat
open Go
def A8P (X : Nat → Prop) (t0 : Value) (R : Value → WP) : WP :=
 jn (n := 2) (fun t3 t10 =>
 R t3) fun J1 =>
 B2 PR X 136 [t0] fun t7 =>
 B2 PR X 135 [t7, (.func (.func 137) #[] #[])] fun t8 =>
 A2 PR (A7 .len #[190] 0 [t8]) fun t9 =>
 lp (n := 2) (fun L2 t3_1 t10_1 =>
 A2 PR (binOp .lss 3 t10_1 t9) fun t11 =>
 jn (n := 0) (
 jn (n := 1) (fun t3_2 =>
 A2 PR (binOp .add 3 t10_1 (.int .i64 1)) fun t18 =>
 L2 t3_2 t18) fun J3 =>
 A2 PR (Instr.indexAt 190 t8 t10_1) fun t12 =>
 A6 PR (Instr.loadAt 193 t12) fun t13 =>
 B1 PR X (Instr.alloc 193 true (.tuple #[])) fun t5 =>
 B4 PR X (Instr.storeAt 193 t5 t13) <|
 A6 PR (Instr.loadAt 193 t5) fun t15 =>
 B1 PR X (Instr.buildSlice 146 1 #[(0, t15)]) fun t16 =>
 B1 PR X (A7 .append #[146, 146] 146 [t3_1, t16]) fun t17 =>
 J3 t17) fun J4 =>
 B6 t11 (
 J4) (
 J1 t3_1 t10_1)) (.slice none 0 0) (.int .i64 0)
theorem B3x : B0 PR 89 := A8 Tryz.func89 (by kernel_rfl) rfl
theorem B6F {X : Nat → Prop} {t0 : Value} {R : Value → WP} {w : World} (h : A8P X t0 R w) : Fn PR X 89 #[t0] w R := C7 (args := [t0]) mixed Tryz.func89 (by kernel_rfl) h
def A6e (X : Nat → Prop) (t0 : Value) (R : Value → WP) : WP :=
 B1 PR X (Instr.box 32 t0) fun t1 =>
 A2 PR (Instr.makeFunc (.func 174) #[] #[t1]) fun t3 =>
 R t3
theorem B1D : B0 PR 136 := A8 Tryz.func136 (by kernel_rfl) rfl
theorem B2u {X : Nat → Prop} {t0 : Value} {R : Value → WP} {w : World} (h : A6e X t0 R w) : Fn PR X 136 #[t0] w R := C7 (args := [t0]) mixed Tryz.func136 (by kernel_rfl) h
def A06 (X : Nat → Prop) (t0 t1 : Value) (R : Value → WP) : WP :=
 B1 PR X (Instr.box 193 t0) fun t2 =>
 B1 PR X (Instr.box 193 t1) fun t3 =>
 drw <|
 A2 PR (Instr.fieldAt 193 t2 0) fun t5 =>
 A6 PR (Instr.loadAt 68 t5) fun t6 =>
 A2 PR (Instr.fieldAt 193 t3 0) fun t7 =>
 A6 PR (Instr.loadAt 68 t7) fun t8 =>
 A2 PR (Instr.fieldAt 193 t2 1) fun t10 =>
 A6 PR (Instr.loadAt 3 t10) fun t11 =>
 A2 PR (Instr.fieldAt 193 t3 1) fun t12 =>
 A6 PR (Instr.loadAt 3 t12) fun t13 =>
 B2 PR X 177 [t6, t8] fun t9 =>
 watch PR [(none, (Instr.loadAt 3 t12), t13), (none, (Instr.loadAt 3 t10), t11)] <|
 B2 PR X 96 [t11, t13] fun t14 =>
 B1 PR X (Instr.buildSlice 34 2 #[(0, t9), (1, t14)]) fun t15 =>
 B2 PR X 176 [t15] fun t16 =>
 R t16
theorem A51 : B0 PR 137 := A8 Tryz.func137 (by kernel_rfl) rfl
theorem A6r {X : Nat → Prop} {t0 t1 : Value} {R : Value → WP} {w : World} (h : A06 X t0 t1 R w) : Fn PR X 137 #[t0, t1] w R := C7 (args := [t0, t1]) mixed Tryz.func137 (by kernel_rfl) h
def A2v (X : Nat → Prop) (t0 t1 : Value) (R : Value → WP) : WP :=
 A6 PR (Instr.loadAt 32 t1) fun t6 =>
 A2 PR (A7 .len #[32] 0 [t6]) fun t7 =>
 lp (n := 1) (fun L1 t8 =>
 A2 PR (binOp .lss 3 t8 t7) fun t9 =>
 jn (n := 0) (
 jn (n := 1) (fun t17 =>
 A2 PR (binOp .add 3 t8 (.int .i64 1)) fun t31 =>
 L1 t31) fun J2 =>
 A2 PR (Instr.indexAt 32 t6 t8) fun t10 =>
 A6 PR (Instr.loadAt 103 t10) fun t11 =>
 B1 PR X (Instr.alloc 103 true (.tuple #[])) fun t4 =>
 B4 PR X (Instr.storeAt 103 t4 t11) <|
 A2 PR (Instr.fieldAt 103 t4 1) fun t12 =>
 A6 PR (Instr.loadAt 3 t12) fun t13 =>
 A2 PR (A7 .min #[3, 3] 0 [t13, (.int .i64 16)]) fun t14 =>
 A2 PR (A7 .max #[3, 3] 0 [(.int .i64 0), t14]) fun t15 =>
 A2 PR (binOp .mul 3 (.int .i64 8) t15) fun t16 =>
 lp (n := 1) (fun L3 t17_1 =>
 A2 PR (binOp .lss 3 t17_1 t16) fun t18 =>
 jn (n := 0) (
 jn (n := 0) (
 A2 PR (binOp .add 3 t17_1 (.int .i64 1)) fun t30 =>
 L3 t30) fun J4 =>
 drw <|
 A2 PR (Instr.fieldAt 103 t4 0) fun t21 =>
 A6 PR (Instr.loadAt 3 t21) fun t22 =>
 A2 PR (Instr.fieldAt 103 t4 0) fun t25 =>
 A6 PR (Instr.loadAt 3 t25) fun t26 =>
 B2 PR X 175 [t22, t17_1] fun t24 =>
 watch PR [(none, (Instr.loadAt 3 t25), t26)] <|
 A2 PR (Instr.build 193 #[(0, t24), (1, t26)]) fun t27 =>
 L5 PR X t0 [t27] fun t28 =>
 A2 PR (Op.unary .not t28) fun t29 =>
 B6 t29 (
 R (.tuple #[])) (
 J4)) fun J5 =>
 B6 t18 (
 J5) (
 J2 t17_1)) (.int .i64 0)) fun J6 =>
 B6 t9 (
 J6) (
 R (.tuple #[]))) (.int .i64 0)
theorem A8m : B0 PR 174 := A8 Tryz.func174 (by kernel_rfl) rfl
theorem A9u {X : Nat → Prop} {t0 t1 : Value} {R : Value → WP} {w : World} (h : A2v X t0 t1 R w) : Fn PR X 174 #[t0, t1] w R := C7 (args := [t0, t1]) mixed Tryz.func174 (by kernel_rfl) h
theorem A9w {X : Nat → Prop} {t0 t1 : Value} {K : Value → WP} {w : World} (h : Fn PR X 174 #[t0, t1] w K) : A1a PR X 174 [t0, t1] K w := ⟨A8m, h⟩
def A6V (X : Nat → Prop) (t0 t1 : Value) (R : Value → WP) : WP :=
 A2 PR (convert 3 68 t0) fun t6 =>
 B2 PR X 151 [t6, (.int .i64 4)] fun t7 =>
 B2 PR X 39 [t7] fun t8 =>
 A2 PR (convert 3 68 t1) fun t10 =>
 B2 PR X 151 [t10, (.int .i64 2)] fun t11 =>
 B2 PR X 151 [(.int .u64 0), (.int .i64 4)] fun t12 =>
 A2 PR (binOp .add 9 t11 t12) fun t13 =>
 B2 PR X 90 [t8, t13] fun t14 =>
 R t14
theorem B12 : B0 PR 175 := A8 Tryz.func175 (by kernel_rfl) rfl
theorem B2Z {X : Nat → Prop} {t0 t1 : Value} {R : Value → WP} {w : World} (h : A6V X t0 t1 R w) : Fn PR X 175 #[t0, t1] w R := C7 (args := [t0, t1]) mixed Tryz.func175 (by kernel_rfl) h
end Go.Proofs.YtggakcpabomliaaGreat
namespace Go.Proofs.YtggakcpabomliaaGreat
open Go
def A3D (id : Int) (n : Nat) : Nat := A7p (Q6 (E4 (IntKind.u64.wrap id) 4)) (E4 n 2 ++ E4 0 4)
theorem C4P (w : World) (id : Int) (n : Nat) (hn : n < 2 ^ 62) : Fn PR B5 175 #[.int .i64 id, .int .i64 (n : Int)] w (fun v w' => v = .int .u64 (A3D id n : Nat) ∧ C0 [] w w') := by
 refine Fn.pure (B2Z (TW.go (κ := false) (S := []) ?_))
 unfold A6V
 (have hQq := trivial; repeat ((first | clear hQq | (with_reducible first | refine A3 ?_ | refine A4 fun _ => ?_ | refine A5 fun _ => ?_)); (try simp (disch := first | omega | assumption | ((repeat (first | exact A0 | exact Up.here | apply A1 | apply Up.there)); first | done | fail) | (simp; first | done | omega | fail)) [])))
 refine B7 G8 (fun w' hw' => Z0 w' _ _) ?_
 (have hQq := trivial; repeat ((first | clear hQq | (with_reducible first | refine A3 ?_ | refine A4 fun _ => ?_ | refine A5 fun _ => ?_)); (try simp (disch := first | omega | assumption | ((repeat (first | exact A0 | exact Up.here | apply A1 | apply Up.there)); first | done | fail) | (simp; first | done | omega | fail)) [])))
 refine B7 A2G (fun w' _ => A4p w' _ (by simp)) ?_
 (have hQq := trivial; repeat ((first | clear hQq | (with_reducible first | refine A3 ?_ | refine A4 fun _ => ?_ | refine A5 fun _ => ?_)); (try simp (disch := first | omega | assumption | ((repeat (first | exact A0 | exact Up.here | apply A1 | apply Up.there)); first | done | fail) | (simp; first | done | omega | fail)) [])))
 refine B7 G8 (fun w' hw' => Z0 w' _ _) ?_
 (have hQq := trivial; repeat ((first | clear hQq | (with_reducible first | refine A3 ?_ | refine A4 fun _ => ?_ | refine A5 fun _ => ?_)); (try simp (disch := first | omega | assumption | ((repeat (first | exact A0 | exact Up.here | apply A1 | apply Up.there)); first | done | fail) | (simp; first | done | omega | fail)) [])))
 refine B7 G8 (fun w' hw' => Z0 w' _ _) ?_
 (have hQq := trivial; repeat ((first | clear hQq | (with_reducible first | refine A3 ?_ | refine A4 fun _ => ?_ | refine A5 fun _ => ?_)); (try simp (disch := first | omega | assumption | ((repeat (first | exact A0 | exact Up.here | apply A1 | apply Up.there)); first | done | fail) | (simp; first | done | omega | fail)) [P1])))
 refine B7 A8b (fun w' _ => B7K w' _ _ (A6F _) (by simp)) ?_
 exact A9 rfl
def k5 (b : G5) : Nat := 8 * (max 0 (min b.2 16)).toNat
def n9 (b : G5) : List (Nat × Int) := (List.range (k5 b)).map fun n => (A3D b.1 n, b.1)
def F9 (p : List G5) : List (Nat × Int) := p.flatMap n9
def E9 (x : Nat × Int) : List Value := [.int .u64 (x.1 : Nat), .int .i64 x.2]
def ptA (x : Nat × Int) : List Value := [.agg #[.int .u64 (x.1 : Nat), .int .i64 x.2]]
abbrev B1M (b : Nat) : Value := .func (.func 174) #[] #[.pointer (some ⟨b, 0, none⟩)]
theorem C1c (w : World) (v : Value) (hv : ∃ a n c, v = .slice a n c) : Fn PR B5 136 #[v] w (Rn [] w (fun b u => u = B1M b) fun b => [.pt b (.cells #[v] 32)]) := by
 obtain ⟨a, n, c, rfl⟩ := hv
 refine B2u (TW.go (κ := false) (S := []) ?_)
 unfold A6e
 (have hQq := trivial; repeat ((first | clear hQq | (with_reducible first | refine A3 ?_ | refine A4 fun _ => ?_ | refine A5 fun _ => ?_)); (try simp (disch := first | omega | assumption | ((repeat (first | exact A0 | exact Up.here | apply A1 | apply Up.there)); first | done | fail) | (simp; first | done | omega | fail)) [])))
 rename_i b
 exact g6 b rfl (by simp)
theorem B7e {p : List G5} {i : Nat} {x : G5} (hx : p[i]? = some x) : F9 (p.take (i + 1)) = F9 (p.take i) ++ n9 x := by
 rw [List.take_add_one, hx]; simp [F9]
theorem C22 {p : List G5} {i n : Nat} {x : G5} (hx : p[i]? = some x) (hn : n < k5 x) : (F9 p)[(F9 (p.take i)).length + n]? = some (A3D x.1 n, x.1) := by
 have e : p = p.take (i + 1) ++ p.drop (i + 1) := (List.take_append_drop _ _).symm
 conv => lhs; arg 1; rw [e]
 have h2 : F9 (p.take (i + 1) ++ p.drop (i + 1)) = F9 (p.take (i + 1)) ++ F9 (p.drop (i + 1)) := by simp only [F9, List.flatMap_append]
 rw [h2, B7e hx, List.append_assoc, List.getElem?_append_right (by omega), Nat.add_sub_cancel_left, List.getElem?_append_left (by simp [n9, hn])]
 simp [n9, hn]
theorem C1d (b : Nat) (v : Value) (p : List G5) (hn : p.length ≤ 1000000) : A5B (B1M b) [.pt b (.cells #[v] 32)] (RqS v p.length (p.flatMap E8)) ((F9 p).map ptA) := by
 refine ⟨_, _, _, rfl, fun y J E hJ hE stJ stE hy w0 h0 => ?_⟩
 obtain ⟨a, c, hv, hr⟩ := (hJ _ _ _ h0).2
 subst hv
 refine A9w (A9u (TW.at (κ := true) ?_ (hJ _ _ _ h0).1))
 unfold A2v
 (have hQq := trivial; repeat ((first | clear hQq | (with_reducible first | refine A3 ?_ | refine A4 fun _ => ?_ | refine A5 fun _ => ?_)); (try simp (disch := first | omega | assumption | ((repeat (first | exact A0 | exact Up.here | apply A1 | apply Up.there)); first | done | fail) | (simp; first | done | omega | fail)) [])))
 refine A3k p.length (fun i => (F9 (p.take i)).length) (fun _ => _) hJ stJ (by simpa [F9] using h0) fun i a' hi hJi hRi L hL => ?_
 by_cases hlt : i < p.length
 ·obtain ⟨_, _, hv, hr⟩ := hRi
  obtain ⟨b', o, hb, hrow, hnb⟩ := hr (by omega)
  cases hv
  subst hb
  obtain ⟨x, hx⟩ : ∃ x, p[i]? = some x := ⟨_, List.getElem?_eq_getElem hlt⟩
  have h1 := hrow.at (f := E8) (k := 2) (fun _ => rfl) hx
  rw [E8] at h1
  have hlen : (F9 (p.take (i + 1))).length = (F9 (p.take i)).length + k5 x := by rw [B7e hx]; simp [n9]
  rw [hlen] at hL
  have hw : 8 * max 0 (min x.2 16) = (k5 x : Nat) := by unfold k5; omega
  have hwl : k5 x ≤ 128 := by unfold k5; omega
  (have hQq := trivial; repeat ((first | clear hQq | (with_reducible first | refine A3 ?_ | refine A4 fun _ => ?_ | refine A5 fun _ => ?_)); (try simp (disch := first | omega | assumption | ((repeat (first | exact A0 | exact Up.here | apply A1 | apply Up.there)); first | done | fail) | (simp; first | done | omega | fail)) [hlt, h1])))
  rename_i b4
  rw [hw]
  refine A3k (k5 x) (fun n => (F9 (p.take i)).length + n) (fun _ => _) hJ stJ hJi fun n a2 hi2 hJn hRn L2 hL2 => ?_
  by_cases hlt2 : n < k5 x
  ·have hg := C22 hx hlt2
   obtain ⟨hgi, hg'⟩ := List.getElem?_eq_some_iff.1 hg
   (have hQq := trivial; repeat ((first | clear hQq | (with_reducible first | refine A3 ?_ | refine A4 fun _ => ?_ | refine A5 fun _ => ?_)); (try simp (disch := first | omega | assumption | ((repeat (first | exact A0 | exact Up.here | apply A1 | apply Up.there)); first | done | fail) | (simp; first | done | omega | fail)) [hlt2])))
   refine B7 B12 (fun w' _ => C4P w' x.1 n (by omega)) ?_
   (have hQq := trivial; repeat ((first | clear hQq | (with_reducible first | refine A3 ?_ | refine A4 fun _ => ?_ | refine A5 fun _ => ?_)); (try simp (disch := first | omega | assumption | ((repeat (first | exact A0 | exact Up.here | apply A1 | apply Up.there)); first | done | fail) | (simp; first | done | omega | fail)) [])))
   refine A7C hJ hE stJ hy hJn (by simpa using hgi) (by rw [List.getElem_map, hg', ptA]) (fun w3 h => ?_) (fun w3 h => ?_)
   ·(have hQq := trivial; repeat ((first | clear hQq | (with_reducible first | refine A3 ?_ | refine A4 fun _ => ?_ | refine A5 fun _ => ?_)); (try simp (disch := first | omega | assumption | ((repeat (first | exact A0 | exact Up.here | apply A1 | apply Up.there)); first | done | fail) | (simp; first | done | omega | fail)) [])))
    exact fun w' hw' => hL2 hlt2 w' (stJ _ _ _ _ _ h hw')
   ·(have hQq := trivial; repeat ((first | clear hQq | (with_reducible first | refine A3 ?_ | refine A4 fun _ => ?_ | refine A5 fun _ => ?_)); (try simp (disch := first | omega | assumption | ((repeat (first | exact A0 | exact Up.here | apply A1 | apply Up.there)); first | done | fail) | (simp; first | done | omega | fail)) [])))
    exact A3l stE h
  ·obtain rfl : n = k5 x := by omega
   (have hQq := trivial; repeat ((first | clear hQq | (with_reducible first | refine A3 ?_ | refine A4 fun _ => ?_ | refine A5 fun _ => ?_)); (try simp (disch := first | omega | assumption | ((repeat (first | exact A0 | exact Up.here | apply A1 | apply Up.there)); first | done | fail) | (simp; first | done | omega | fail)) [])))
   exact fun w' hw' => hL hlt w' (stJ _ _ _ _ _ hJn (hw'.sub (by simp)))
 ·obtain rfl : i = p.length := by omega
  rw [List.take_length] at hJi
  (have hQq := trivial; repeat ((first | clear hQq | (with_reducible first | refine A3 ?_ | refine A4 fun _ => ?_ | refine A5 fun _ => ?_)); (try simp (disch := first | omega | assumption | ((repeat (first | exact A0 | exact Up.here | apply A1 | apply Up.there)); first | done | fail) | (simp; first | done | omega | fail)) [])))
  exact A3s stJ (by simpa using hJi)
end Go.Proofs.YtggakcpabomliaaGreat
