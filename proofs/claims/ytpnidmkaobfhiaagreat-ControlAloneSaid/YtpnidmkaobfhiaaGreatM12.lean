/- The proof of a given statement, a part of it (Packet Bytes Sl Pool Vals ShProbe ShFnv Fnv Probe). No condition but what each lemma says. -/
import Derived.Lib.SlBytesRow
import Derived.Test.YtpnidmkaobfhiaaGreatM11
set_option linter.unusedVariables false
set_option linter.unusedSimpArgs false
namespace Go.Proofs.YtpnidmkaobfhiaaGreat
open Go
structure KeyV where
 v : Int
 src : ByteArray
 dst : ByteArray
 fr : Int
 tp : Int
 proto : Int
 deriving DecidableEq
def KeyV.cs (k : KeyV) : List Value := [.int .i64 k.v, .string k.src, .string k.dst, .int .i64 k.fr, .int .i64 k.tp, .int .i64 k.proto]
def KeyV.val (k : KeyV) : Value := .agg #[.int .i64 k.v, .string k.src, .string k.dst, .int .i64 k.fr, .int .i64 k.tp, .int .i64 k.proto]
def noK : KeyV := ⟨0, Z1, Z1, 0, 0, 0⟩
def u9 (s : ByteArray) : KeyV × ByteArray × Nat :=
 if s.size = 0 then (noK, Z1, 2) else if F4 s 0 / 16 = 4 then (⟨4, (A04 s).src, (A04 s).dst, 0, 0, (A04 s).proto⟩, (A04 s).rest, (A04 s).e)
 else if F4 s 0 / 16 = 6 then (⟨6, (w8 s).src, (w8 s).dst, 0, 0, (w8 s).proto⟩, (w8 s).rest, (w8 s).e) else (noK, Z1, 3)
def keyed.val (x : KeyV × ByteArray × Nat) : Value := .tuple #[x.1.val, .string x.2.1, .int .i64 x.2.2]
theorem C1N (w : World) (src dst : ByteArray) (p : Int) : Fn PR B6 139 #[.agg #[.string src, .string dst, .int .i64 p]] w (fun v w' => v = KeyV.val ⟨4, src, dst, 0, 0, p⟩ ∧ C6 [] w w') := by
 refine Fn.pure (B0v (TW.go (κ := false) (S := []) ?_))
 unfold A3j
 (have zz:=trivial;repeat((first|clear zz|with_reducible first|refine A3 ?_|refine A5 fun _=>?_|refine A4 fun _=>?_);try simp(disch:=first|omega|assumption|((repeat(first|exact A1|exact uH|apply A2|apply uT));first|done|fail)|(simp;first|done|omega|fail))[]))
 exact B0 rfl
theorem C0V (w : World) (src dst : ByteArray) (p : Int) : Fn PR B6 142 #[.agg #[.string src, .string dst, .int .i64 p]] w (fun v w' => v = KeyV.val ⟨6, src, dst, 0, 0, p⟩ ∧ C6 [] w w') := by
 refine Fn.pure (A9s (TW.go (κ := false) (S := []) ?_))
 unfold A3g
 (have zz:=trivial;repeat((first|clear zz|with_reducible first|refine A3 ?_|refine A5 fun _=>?_|refine A4 fun _=>?_);try simp(disch:=first|omega|assumption|((repeat(first|exact A1|exact uH|apply A2|apply uT));first|done|fail)|(simp;first|done|omega|fail))[]))
 exact B0 rfl
theorem C33 (w : World) (s : ByteArray) (hs : s.size < 2 ^ 63) : Fn PR B6 137 #[.string s, .func (.func 138) #[] #[], .func (.func 139) #[] #[]] w
  (fun v w' => v = keyed.val (⟨4, (A04 s).src, (A04 s).dst, 0, 0, (A04 s).proto⟩, (A04 s).rest, (A04 s).e) ∧ C6 [] w w') := by
 refine Fn.pure (A5E (TW.go (κ := false) (S := []) ?_))
 unfold A0P
 (have zz:=trivial;repeat((first|clear zz|with_reducible first|refine A3 ?_|refine A5 fun _=>?_|refine A4 fun _=>?_);try simp(disch:=first|omega|assumption|((repeat(first|exact A1|exact uH|apply A2|apply uT));first|done|fail)|(simp;first|done|omega|fail))[]))
 refine C8 B54 (fun w' _ => B9K w' s hs) ?_
 (have zz:=trivial;repeat((first|clear zz|with_reducible first|refine A3 ?_|refine A5 fun _=>?_|refine A4 fun _=>?_);try simp(disch:=first|omega|assumption|((repeat(first|exact A1|exact uH|apply A2|apply uT));first|done|fail)|(simp;first|done|omega|fail))[HeadV.val]))
 refine C8 A9Z (fun w' _ => C1N w' _ _ _) ?_
 (have zz:=trivial;repeat((first|clear zz|with_reducible first|refine A3 ?_|refine A5 fun _=>?_|refine A4 fun _=>?_);try simp(disch:=first|omega|assumption|((repeat(first|exact A1|exact uH|apply A2|apply uT));first|done|fail)|(simp;first|done|omega|fail))[KeyV.val]))
 exact B0 (by simp [keyed.val, KeyV.val])
theorem C3w (w : World) (s : ByteArray) (hs : s.size < 2 ^ 63) : Fn PR B6 140 #[.string s, .func (.func 141) #[] #[], .func (.func 142) #[] #[]] w
  (fun v w' => v = keyed.val (⟨6, (w8 s).src, (w8 s).dst, 0, 0, (w8 s).proto⟩, (w8 s).rest, (w8 s).e) ∧ C6 [] w w') := by
 refine Fn.pure (A5F (TW.go (κ := false) (S := []) ?_))
 unfold A0Q
 (have zz:=trivial;repeat((first|clear zz|with_reducible first|refine A3 ?_|refine A5 fun _=>?_|refine A4 fun _=>?_);try simp(disch:=first|omega|assumption|((repeat(first|exact A1|exact uH|apply A2|apply uT));first|done|fail)|(simp;first|done|omega|fail))[]))
 refine C8 B6T (fun w' _ => B9P w' s hs) ?_
 (have zz:=trivial;repeat((first|clear zz|with_reducible first|refine A3 ?_|refine A5 fun _=>?_|refine A4 fun _=>?_);try simp(disch:=first|omega|assumption|((repeat(first|exact A1|exact uH|apply A2|apply uT));first|done|fail)|(simp;first|done|omega|fail))[HeadV.val]))
 refine C8 A9c (fun w' _ => C0V w' _ _ _) ?_
 (have zz:=trivial;repeat((first|clear zz|with_reducible first|refine A3 ?_|refine A5 fun _=>?_|refine A4 fun _=>?_);try simp(disch:=first|omega|assumption|((repeat(first|exact A1|exact uH|apply A2|apply uT));first|done|fail)|(simp;first|done|omega|fail))[KeyV.val]))
 exact B0 (by simp [keyed.val, KeyV.val])
theorem C6p (w : World) (v : Int) : Fn PR B6 112 #[.int .i64 v] w (fun u w' => u = .int .i64 (if v = 4 then 4 else if v = 6 then 16 else 0) ∧ C6 [] w w') := by
 refine Fn.pure (B4A (TW.go (κ := false) (S := []) ?_))
 unfold A6z
 by_cases c1 : v = 4
 ·(have zz:=trivial;repeat((first|clear zz|with_reducible first|refine A3 ?_|refine A5 fun _=>?_|refine A4 fun _=>?_);try simp(disch:=first|omega|assumption|((repeat(first|exact A1|exact uH|apply A2|apply uT));first|done|fail)|(simp;first|done|omega|fail))[c1])); exact B0 (by simp)
 by_cases c2 : v = 6
 ·(have zz:=trivial;repeat((first|clear zz|with_reducible first|refine A3 ?_|refine A5 fun _=>?_|refine A4 fun _=>?_);try simp(disch:=first|omega|assumption|((repeat(first|exact A1|exact uH|apply A2|apply uT));first|done|fail)|(simp;first|done|omega|fail))[c1, c2])); exact B0 (by simp)
 ·(have zz:=trivial;repeat((first|clear zz|with_reducible first|refine A3 ?_|refine A5 fun _=>?_|refine A4 fun _=>?_);try simp(disch:=first|omega|assumption|((repeat(first|exact A1|exact uH|apply A2|apply uT));first|done|fail)|(simp;first|done|omega|fail))[c1, c2])); exact B0 (by simp)
theorem C5n (w : World) (s : ByteArray) (hs : s.size < 2 ^ 63) : Fn PR B6 110 #[.string s] w (fun u w' => u = keyed.val (u9 s) ∧ C6 [] w w') := by
 refine Fn.pure (B28 (TW.go (κ := false) (S := []) ?_))
 unfold A59
 by_cases c0 : s.size = 0
 ·have e : s = ByteArray.mk #[] := by
   apply ByteArray.ext; exact Array.eq_empty_of_size_eq_zero c0
  (have zz:=trivial;repeat((first|clear zz|with_reducible first|refine A3 ?_|refine A5 fun _=>?_|refine A4 fun _=>?_);try simp(disch:=first|omega|assumption|((repeat(first|exact A1|exact uH|apply A2|apply uT));first|done|fail)|(simp;first|done|omega|fail))[e]))
  exact B0 (by simp [u9, keyed.val, noK, KeyV.val])
 have c0' : ¬ s = ByteArray.mk #[] := fun e => c0 (by rw [e]; rfl)
 obtain ⟨by0, hb0, hb1⟩ := A00 (s := s) (i := 0) (by omega)
 have hb0' : s[(0 : Int).toNat]? = some by0 := hb0
 have hl0 := A1b s 0
 have e1 : ((by0.toNat : Nat) : Int).fdiv (2 ^ min 4 IntKind.u8.bits) = (F4 s 0 / 16 : Nat) := by rw [show (2 : Int) ^ min 4 IntKind.u8.bits = 16 from rfl, Int.fdiv_eq_ediv_of_nonneg _ (by omega), hb1]; omega
 by_cases c1 : F4 s 0 / 16 = 4
 ·have c1' : ((F4 s 0 : Nat) : Int) / 16 = 4 := by omega
  (have zz:=trivial;repeat((first|clear zz|with_reducible first|refine A3 ?_|refine A5 fun _=>?_|refine A4 fun _=>?_);try simp(disch:=first|omega|assumption|((repeat(first|exact A1|exact uH|apply A2|apply uT));first|done|fail)|(simp;first|done|omega|fail))[c0', g6]))
  rw [e1]
  (have zz:=trivial;repeat((first|clear zz|with_reducible first|refine A3 ?_|refine A5 fun _=>?_|refine A4 fun _=>?_);try simp(disch:=first|omega|assumption|((repeat(first|exact A1|exact uH|apply A2|apply uT));first|done|fail)|(simp;first|done|omega|fail))[c1', c1]))
  refine C8 A4u (fun w' _ => C33 w' s hs) ?_
  (have zz:=trivial;repeat((first|clear zz|with_reducible first|refine A3 ?_|refine A5 fun _=>?_|refine A4 fun _=>?_);try simp(disch:=first|omega|assumption|((repeat(first|exact A1|exact uH|apply A2|apply uT));first|done|fail)|(simp;first|done|omega|fail))[keyed.val, KeyV.val]))
  exact B0 (by simp [u9, keyed.val, KeyV.val, c0, c1])
 have c1' : ¬ ((F4 s 0 : Nat) : Int) / 16 = 4 := by omega
 by_cases c2 : F4 s 0 / 16 = 6
 ·have c2' : ((F4 s 0 : Nat) : Int) / 16 = 6 := by omega
  (have zz:=trivial;repeat((first|clear zz|with_reducible first|refine A3 ?_|refine A5 fun _=>?_|refine A4 fun _=>?_);try simp(disch:=first|omega|assumption|((repeat(first|exact A1|exact uH|apply A2|apply uT));first|done|fail)|(simp;first|done|omega|fail))[c0', g6]))
  rw [e1]
  (have zz:=trivial;repeat((first|clear zz|with_reducible first|refine A3 ?_|refine A5 fun _=>?_|refine A4 fun _=>?_);try simp(disch:=first|omega|assumption|((repeat(first|exact A1|exact uH|apply A2|apply uT));first|done|fail)|(simp;first|done|omega|fail))[c1', c1, c2', c2, g6]))
  refine C8 A40 (fun w' _ => C3w w' s hs) ?_
  (have zz:=trivial;repeat((first|clear zz|with_reducible first|refine A3 ?_|refine A5 fun _=>?_|refine A4 fun _=>?_);try simp(disch:=first|omega|assumption|((repeat(first|exact A1|exact uH|apply A2|apply uT));first|done|fail)|(simp;first|done|omega|fail))[keyed.val, KeyV.val]))
  exact B0 (by simp [u9, keyed.val, KeyV.val, c0, c1, c2])
 have c2' : ¬ ((F4 s 0 : Nat) : Int) / 16 = 6 := by omega
 (have zz:=trivial;repeat((first|clear zz|with_reducible first|refine A3 ?_|refine A5 fun _=>?_|refine A4 fun _=>?_);try simp(disch:=first|omega|assumption|((repeat(first|exact A1|exact uH|apply A2|apply uT));first|done|fail)|(simp;first|done|omega|fail))[c0', g6]))
 rw [e1]
 (have zz:=trivial;repeat((first|clear zz|with_reducible first|refine A3 ?_|refine A5 fun _=>?_|refine A4 fun _=>?_);try simp(disch:=first|omega|assumption|((repeat(first|exact A1|exact uH|apply A2|apply uT));first|done|fail)|(simp;first|done|omega|fail))[c1', c1, c2', c2, g6]))
 exact B0 (by simp [u9, keyed.val, KeyV.val, c0, c1, c2, noK])
def C7 (s : ByteArray) : KeyV × Nat × Nat :=
 let x := u9 s
 if x.2.2 ≠ 0 then (noK, 0, x.2.2) else let y := g8 x.1.proto x.2.1; if y.2.2.2 ≠ 0 then (noK, 0, y.2.2.2) else ({ x.1 with fr := y.1, tp := y.2.1 }, y.2.2.1, 0)
def m0 (k : KeyV) (f : Int) : Value := .agg #[.int .i64 k.v, .string k.src, .string k.dst, .int .i64 k.fr, .int .i64 k.tp, .int .i64 k.proto, .int .i64 f]
def packet.val (x : KeyV × Nat × Nat) : Value := .tuple #[m0 x.1 x.2.1, .int .i64 x.2.2]
theorem C1E (s : ByteArray) : (u9 s).2.1.size ≤ 65535 := by
 have h1 : (A04 s).rest.size ≤ 65535 := by
  have := A3e s 2
  unfold A04; split
  ·simp only [ByteArray.size_extract]; omega
  ·simp [HeadV.err]
 have h2 : (w8 s).rest.size ≤ 65535 := by
  have := A3e s 4
  unfold w8; split
  ·simp only [ByteArray.size_extract]; omega
  ·simp [HeadV.err]
 unfold u9
 split
 ·simp
 split
 ·exact h1
 split
 ·exact h2
 ·simp
theorem B2z (w : World) (s : ByteArray) (hs : s.size < 2 ^ 63) : Fn PR B6 90 #[.string s] w (fun u w' => u = packet.val (C7 s) ∧ C6 [] w w') := by
 refine Fn.pure (B3l (TW.go (κ := false) (S := []) ?_))
 unfold A5w
 (have zz:=trivial;repeat((first|clear zz|with_reducible first|refine A3 ?_|refine A5 fun _=>?_|refine A4 fun _=>?_);try simp(disch:=first|omega|assumption|((repeat(first|exact A1|exact uH|apply A2|apply uT));first|done|fail)|(simp;first|done|omega|fail))[]))
 refine C8 B2W (fun w' _ => C5n w' s hs) ?_
 have hr := C1E s
 by_cases c1 : (u9 s).2.2 = 0
 ·(have zz:=trivial;repeat((first|clear zz|with_reducible first|refine A3 ?_|refine A5 fun _=>?_|refine A4 fun _=>?_);try simp(disch:=first|omega|assumption|((repeat(first|exact A1|exact uH|apply A2|apply uT));first|done|fail)|(simp;first|done|omega|fail))[keyed.val, KeyV.val, c1]))
  refine C8 B4p (fun w' _ => B8Z w' _ (by omega) _) ?_
  by_cases c2 : (g8 (u9 s).1.proto (u9 s).2.1).2.2.2 = 0
  ·(have zz:=trivial;repeat((first|clear zz|with_reducible first|refine A3 ?_|refine A5 fun _=>?_|refine A4 fun _=>?_);try simp(disch:=first|omega|assumption|((repeat(first|exact A1|exact uH|apply A2|apply uT));first|done|fail)|(simp;first|done|omega|fail))[g8.val, c2]))
   exact B0 (by simp [C7, packet.val, m0, KeyV.val, c1, c2])
  ·(have zz:=trivial;repeat((first|clear zz|with_reducible first|refine A3 ?_|refine A5 fun _=>?_|refine A4 fun _=>?_);try simp(disch:=first|omega|assumption|((repeat(first|exact A1|exact uH|apply A2|apply uT));first|done|fail)|(simp;first|done|omega|fail))[g8.val, c2]))
   exact B0 (by simp [C7, packet.val, m0, KeyV.val, c1, c2, noK])
 ·(have zz:=trivial;repeat((first|clear zz|with_reducible first|refine A3 ?_|refine A5 fun _=>?_|refine A4 fun _=>?_);try simp(disch:=first|omega|assumption|((repeat(first|exact A1|exact uH|apply A2|apply uT));first|done|fail)|(simp;first|done|omega|fail))[keyed.val, KeyV.val, c1]))
  exact B0 (by simp [C7, packet.val, m0, KeyV.val, c1, noK])
theorem B4y (w : World) (s : ByteArray) (hs : s.size < 2 ^ 40) : Fn PR B6 90 #[.string s] w (fun u w' => u = packet.val (C7 s) ∧ C6 [] w w') := B2z w s (by omega)
def Z3 (k : KeyV) (f : Int) : Bool := decide (k.proto = 6) && !decide (IntKind.i64.wrap ((f % 2 ^ IntKind.i64.bits).toNat &&& 5 % 2 ^ IntKind.i64.bits : Nat) = 0)
theorem B26 (w : World) (k : KeyV) (f : Int) : Fn PR B6 94 #[m0 k f] w (fun u w' => u = .bool (Z3 k f) ∧ C6 [] w w') := by
 refine Fn.pure (B1P (TW.go (κ := false) (S := []) ?_))
 unfold A3y
 by_cases c0 : k.proto = 6
 ·(have zz:=trivial;repeat((first|clear zz|with_reducible first|refine A3 ?_|refine A5 fun _=>?_|refine A4 fun _=>?_);try simp(disch:=first|omega|assumption|((repeat(first|exact A1|exact uH|apply A2|apply uT));first|done|fail)|(simp;first|done|omega|fail))[m0, KeyV.val, c0]))
  exact B0 (by simp [Z3, c0])
 ·(have zz:=trivial;repeat((first|clear zz|with_reducible first|refine A3 ?_|refine A5 fun _=>?_|refine A4 fun _=>?_);try simp(disch:=first|omega|assumption|((repeat(first|exact A1|exact uH|apply A2|apply uT));first|done|fail)|(simp;first|done|omega|fail))[m0, KeyV.val, c0]))
  exact B0 (by simp [Z3, c0])
end Go.Proofs.YtpnidmkaobfhiaaGreat
namespace Go.Proofs.YtpnidmkaobfhiaaGreat
open Go
section
variable {κ : Bool} {X : Nat → Prop} {S : List Nat} {w0 : World} {H H' : List Res} {K : Value → WP}
theorem C2Q {P : Program} {g : Sem Value} {u : Value} {b : Nat} {c c' : Array Value} {T : TypeId} (hrun : ∀ w, bl w b = some (.cells c T (0, 0)) → g.run P w = .ok u (World.putb w b (.cells c' T (0, 0))))
  (hu : Up (.pt b (.cells c T (0, 0))) (.pt b (.cells c' T (0, 0))) H H') (hK : TW κ S w0 H' (K u)) : TW κ S w0 H (B4 P X g K) := fun w hw => by
 have hm : Res.pt b (.cells c T (0, 0)) ∈ H := by obtain ⟨A, B, rfl, _⟩ := hu.parts; simp
 have hb := hw.pt hm
 rw [u3 (hrun w hb) (Sk.putb X hb)]
 refine hK _ (hw.up hu ⟨KS.putb hb (by simp [Res.foot]), ?_, ?_, by simp⟩)
 ·simp only [List.mem_singleton, forall_eq, Res.holds]; exact ⟨V5 (K7 hb), rfl⟩
 ·simp only [List.mem_singleton, forall_eq, Res.foot]; exact ⟨Or.inl (by simp), by have := K7 hb; simpa using this⟩
theorem B9S (w : World) : (underlying 234).run PR w = .ok (.slice 5) w := B06.run_und
theorem C9l (w : World) : (underlying 233).run PR w = .ok (.array 38 5) w := C1D.run_und
def j5 (s : ByteArray) (o : Nat) (t : ByteArray) : ByteArray := s.extract 0 o ++ t ++ s.extract (o + t.size) s.size
theorem B0z {s t : ByteArray} {o : Nat} (h : o + t.size ≤ s.size) : (j5 s o t).size = s.size := by simp [j5]; omega
theorem B5V (s t : ByteArray) (o : Nat) (h : o + t.size ≤ s.size) : E3 (U4 s).toArray o (U4 t) = (U4 (j5 s o t)).toArray := by
 apply Array.toList_inj.1
 rw [A1v _ _ _ (by simpa using h)]
 simp [U4, j5, List.map_take, List.map_drop]
 rw [List.take_of_length_le (by simp)]
theorem B4D {b o n c : Nat} {s t : ByteArray} {T : TypeId} (hu : Up (.pt b (.cells (U4 s).toArray T)) (.pt b (.cells (U4 (j5 s o t)).toArray T)) H H') (hn : t.size ≤ n) (hs : o + t.size ≤ s.size)
  (hK : TW κ S w0 H' (K (.int .i64 t.size))) : TW κ S w0 H (B4 PR X (A8 .copy #[234, 9] 3 [.slice (some ⟨b, o, none⟩) n c, .string t]) K) := by
 refine C2Q (u := .int .i64 t.size) (fun w hb => ?_) hu hK
 have hst := y9 (P := PR) (o0 := o) (U4 t) 0 w (U4 s).toArray hb (by simpa using hs) (B1s t)
 rw [Nat.add_zero, B5V s t o hs] at hst
 have hl : Nat.min t.size n = t.size := Nat.min_eq_left hn
 have htk : List.take t.size (List.map (fun b : UInt8 => Value.int IntKind.u8 (b.toNat : Int)) t.data.toList) = U4 t := by
  rw [List.take_of_length_le (by simp)]; rfl
 show (Builtin.copy_ #[234, 9] 3 #[.slice (some ⟨b, o, none⟩) n c, .string t]).run PR w = _
 simp [Builtin.copy_, B9S, ty5.run_size, Builtin.lenOf, Builtin.firstCells, hl]
 rw [htk, hst]
 simp [goInt, Result.andThen]
def z38 : ByteArray := B2m z1 38
theorem A8U : z38.size = 38 := A3T 38
theorem C1q : (Builtin.zeroCells (Value.int .u8 0).cells 38).toList = U4 z38 := by kernel_rfl
theorem C7M : (U4 z38).toArray = #[.int .u8 0, .int .u8 0, .int .u8 0, .int .u8 0, .int .u8 0, .int .u8 0, .int .u8 0, .int .u8 0, .int .u8 0, .int .u8 0, .int .u8 0, .int .u8 0, .int .u8 0, .int .u8 0, .int .u8 0, .int .u8 0, .int .u8 0, .int .u8 0, .int .u8 0, .int .u8 0, .int .u8 0, .int .u8 0, .int .u8 0, .int .u8 0, .int .u8 0, .int .u8 0, .int .u8 0, .int .u8 0, .int .u8 0, .int .u8 0, .int .u8 0, .int .u8 0, .int .u8 0, .int .u8 0, .int .u8 0, .int .u8 0, .int .u8 0, .int .u8 0] := by kernel_rfl
theorem C2q {b : Nat} {s : ByteArray} {T : TypeId} (hs : s.size = 38) (hu : Up (.pt b (.cells (U4 s).toArray T)) (.pt b (.cells (U4 z38).toArray T)) H H')
  (hK : TW κ S w0 H' (K (.tuple #[]))) : TW κ S w0 H (B4 PR X (A8 .clear #[234] 0 [.slice (some ⟨b, 0, none⟩) 38 38]) K) := by
 refine C2Q (u := .tuple #[]) (fun w hb => ?_) hu hK
 have h38 := A8U
 have hst := y9 (P := PR) (o0 := 0) (U4 z38) 0 w (U4 s).toArray hb (by simp [hs, h38]) (B1s _)
 rw [Nat.add_zero, B5V s z38 0 (by omega)] at hst
 have e : j5 s 0 z38 = z38 := by
  apply ByteArray.ext
  simp [j5, h38, hs]
 rw [e] at hst
 show (Builtin.clear_ #[234] 0 #[.slice (some ⟨b, 0, none⟩) 38 38]).run PR w = _
 simp only [Builtin.clear_, List.getElem?_toArray, List.getElem?_cons_zero, Sem.run_bind, B9S, Result.andThen_ok, ty5.run_zero, C1q, hst, Sem.run_pure]
theorem C8c {b : Nat} {s : ByteArray} {T : TypeId} (hm : Res.pt b (.cells (U4 s).toArray T) ∈ H) (c n : Nat) (hn : n = s.size) :
  TW κ S w0 H (A6 PR (convert 234 9 (.slice (some ⟨b, 0, none⟩) n c)) K) = TW κ S w0 H (K (.string s)) := TW.congr fun w hw => by
 refine Y2 ?_ K
 subst hn
 have hb := hw.pt hm
 have hB : Lib.Bytes w b 0 s := fun i hi => by
  rw [D8 hb]; simp [U4, hi]; rfl
 exact Lib.run_convert_whole w _ _ _ B06.und ty5.und ty9.und b 0 s hB c
end
theorem C2T {lo : Nat} (b : Nat) (h : lo < 38) (K : Value → WP) : A0 PR (Instr.sliceAt 233 (.pointer (some ⟨b, 0, none⟩)) (some (.int .i64 (lo : Int))) none none) K = K (.slice (some ⟨b, lo, none⟩) (38 - lo) (38 - lo)) :=
 E7 (fun w => by
  have h1 : ¬ ((38 : Int) < lo) := by omega
  have h2 : ¬ (38 = lo) := by omega
  simp [Instr.sliceAt, C9l, Instr.sliceBounds, Instr.sliceBound, asIntOf, h1, h2, ty5.run_size, Instr.sureAddr, l9]
  omega) K
def d6 (v : Int) : Nat := if v = 4 then 4 else if v = 6 then 16 else 0
theorem C3y (w : World) (v : Int) : Fn PR B6 112 #[.int .i64 v] w (fun u w' => u = .int .i64 (d6 v : Nat) ∧ C6 [] w w') := by
 have := C6p w v
 have e : ((d6 v : Nat) : Int) = if v = 4 then 4 else if v = 6 then 16 else 0 := by (unfold d6; repeat' split) <;> rfl
 rw [e]; exact this
def c6 (k : KeyV) : Bool := decide (d6 k.v ≠ 0 ∧ k.src.size = d6 k.v ∧ k.dst.size = d6 k.v ∧ (z8 k.proto k.fr k.tp 0).2 = 0)
def A4V (k : KeyV) : ByteArray := j5 (j5 (j5 z38 0 (M2 (k.v * 256 + k.proto) 2 ++ M2 k.fr 2 ++ M2 k.tp 2)) 6 k.src) 22 k.dst
def A7J (k : KeyV) : Value := .tuple #[.string (if c6 k then A4V k else Z1), .bool (c6 k)]
theorem C7P {n x y f : Int} (h : (z8 n x y f).2 = 0) : (n = 6 ∨ n = 17) ∧ W4 x y = true := by
 unfold z8 at h
 split at h
 ·simp at h
 split at h
 ·simp at h
 ·rename_i h1 h2
  refine ⟨by omega, ?_⟩
  cases hp : W4 x y with
  | true => rfl
  | false => exact absurd (Or.inl hp) h2
theorem C3z (w : World) (k : KeyV) : Fn PR B6 91 #[k.val] w (fun u w' => u = A7J k ∧ C6 [] w w') := by
 refine Fn.pure (B3M (TW.go (κ := false) (S := []) ?_))
 unfold A5T KeyV.val
 (have zz:=trivial;repeat((first|clear zz|with_reducible first|refine A3 ?_|refine A5 fun _=>?_|refine A4 fun _=>?_);try simp(disch:=first|omega|assumption|((repeat(first|exact A1|exact uH|apply A2|apply uT));first|done|fail)|(simp;first|done|omega|fail))[]))
 refine C8 B2y (fun w' _ => C3y w' _) ?_
 (have zz:=trivial;repeat((first|clear zz|with_reducible first|refine A3 ?_|refine A5 fun _=>?_|refine A4 fun _=>?_);try simp(disch:=first|omega|assumption|((repeat(first|exact A1|exact uH|apply A2|apply uT));first|done|fail)|(simp;first|done|omega|fail))[]))
 refine C8 B63 (fun w' _ => C0N w' _ _ _ _) ?_
 have bad : c6 k = false → A7J k = .tuple #[.string Z1, .bool false] := fun h => by simp [A7J, h]
 by_cases c1 : d6 k.v = 0
 ·(have zz:=trivial;repeat((first|clear zz|with_reducible first|refine A3 ?_|refine A5 fun _=>?_|refine A4 fun _=>?_);try simp(disch:=first|omega|assumption|((repeat(first|exact A1|exact uH|apply A2|apply uT));first|done|fail)|(simp;first|done|omega|fail))[c1]))
  exact B0 (bad (by simp [c6, c1])).symm
 have c1' : ¬ ((d6 k.v : Nat) : Int) = 0 := by omega
 by_cases c2 : k.src.size = d6 k.v
 case neg =>
  have c2' : ¬ ((k.src.size : Nat) : Int) = d6 k.v := by omega
  (have zz:=trivial;repeat((first|clear zz|with_reducible first|refine A3 ?_|refine A5 fun _=>?_|refine A4 fun _=>?_);try simp(disch:=first|omega|assumption|((repeat(first|exact A1|exact uH|apply A2|apply uT));first|done|fail)|(simp;first|done|omega|fail))[c1, c1', c2, c2']))
  exact B0 (bad (by simp [c6, c2])).symm
 by_cases c3 : k.dst.size = d6 k.v
 case neg =>
  have c3' : ¬ ((k.dst.size : Nat) : Int) = d6 k.v := by omega
  (have zz:=trivial;repeat((first|clear zz|with_reducible first|refine A3 ?_|refine A5 fun _=>?_|refine A4 fun _=>?_);try simp(disch:=first|omega|assumption|((repeat(first|exact A1|exact uH|apply A2|apply uT));first|done|fail)|(simp;first|done|omega|fail))[c1, c1', c2, c3, c3']))
  exact B0 (bad (by simp [c6, c3])).symm
 by_cases c4 : (z8 k.proto k.fr k.tp 0).2 = 0
 case neg =>
  (have zz:=trivial;repeat((first|clear zz|with_reducible first|refine A3 ?_|refine A5 fun _=>?_|refine A4 fun _=>?_);try simp(disch:=first|omega|assumption|((repeat(first|exact A1|exact uH|apply A2|apply uT));first|done|fail)|(simp;first|done|omega|fail))[c1, c1', c2, c3, c4]))
  exact B0 (bad (by simp [c6, c4])).symm
 (have zz:=trivial;repeat((first|clear zz|with_reducible first|refine A3 ?_|refine A5 fun _=>?_|refine A4 fun _=>?_);try simp(disch:=first|omega|assumption|((repeat(first|exact A1|exact uH|apply A2|apply uT));first|done|fail)|(simp;first|done|omega|fail))[c1, c1', c2, c3, c4]))
 rename_i bk ba
 refine TW.eqH (H' := [.pt ba (.cells (U4 z38).toArray 233), .pt bk (.cells #[.int .i64 k.v, .string k.src, .string k.dst, .int .i64 k.fr, .int .i64 k.tp, .int .i64 k.proto] 190)]) (by rw [C7M]) ?_
 refine C2q A8U .here ?_
 obtain ⟨hp, hq⟩ := C7P c4
 simp only [W4, decide_eq_true_eq] at hq
 have hv : k.v = 4 ∨ k.v = 6 := by unfold d6 at c1; split at c1 <;> (try split at c1) <;> omega
 have hh : (M2 (k.v * 256 + k.proto) 2 ++ M2 k.fr 2 ++ M2 k.tp 2).size = 6 := by simp
 have h38 := A8U
 have s1 : (j5 z38 0 (M2 (k.v * 256 + k.proto) 2 ++ M2 k.fr 2 ++ M2 k.tp 2)).size = 38 := by rw [B0z (by omega), h38]
 have hl : d6 k.v ≤ 16 := by unfold d6; split <;> (try split) <;> omega
 have s2 : (j5 (j5 z38 0 (M2 (k.v * 256 + k.proto) 2 ++ M2 k.fr 2 ++ M2 k.tp 2)) 6 k.src).size = 38 := by rw [B0z (by omega), s1]
 have s3 : (A4V k).size = 38 := by unfold A4V; rw [B0z (by omega), s2]
 have i6 := fun K => C2T (lo := 6) ba (by omega) K
 have i22 := fun K => C2T (lo := 22) ba (by omega) K
 simp at i6 i22
 have ok : c6 k = true := by simp [c6, c1, c2, c3, c4]
 have q1 := hq.1
 have q2 := hq.2.1
 have q3 := hq.2.2.1
 have q4 := hq.2.2.2
 have eor : IntKind.u64.wrap ((IntKind.u64.wrap (k.v * 2 ^ min 8 IntKind.u64.bits) % 2 ^ IntKind.u64.bits).toNat ||| (k.proto % 2 ^ IntKind.u64.bits).toNat : Nat) = k.v * 256 + k.proto := by
  rcases hv with hv | hv <;> rcases hp with hp | hp <;> (rw [hv, hp]; decide)
 have ew1 : IntKind.u64.wrap k.fr = k.fr := A2q (by omega) (by omega)
 have ew2 : IntKind.u64.wrap k.tp = k.tp := A2q (by omega) (by omega)
 (have zz:=trivial;repeat((first|clear zz|with_reducible first|refine A3 ?_|refine A5 fun _=>?_|refine A4 fun _=>?_);try simp(disch:=first|omega|assumption|((repeat(first|exact A1|exact uH|apply A2|apply uT));first|done|fail)|(simp;first|done|omega|fail))[]))
 rw [eor, ew1, ew2]
 refine C8 N5 (fun w' hw' => v6 w' _ _) ?_
 (have zz:=trivial;repeat((first|clear zz|with_reducible first|refine A3 ?_|refine A5 fun _=>?_|refine A4 fun _=>?_);try simp(disch:=first|omega|assumption|((repeat(first|exact A1|exact uH|apply A2|apply uT));first|done|fail)|(simp;first|done|omega|fail))[]))
 refine C8 N5 (fun w' hw' => v6 w' _ _) ?_
 (have zz:=trivial;repeat((first|clear zz|with_reducible first|refine A3 ?_|refine A5 fun _=>?_|refine A4 fun _=>?_);try simp(disch:=first|omega|assumption|((repeat(first|exact A1|exact uH|apply A2|apply uT));first|done|fail)|(simp;first|done|omega|fail))[r3]))
 refine C8 N5 (fun w' hw' => v6 w' _ _) ?_
 (have zz:=trivial;repeat((first|clear zz|with_reducible first|refine A3 ?_|refine A5 fun _=>?_|refine A4 fun _=>?_);try simp(disch:=first|omega|assumption|((repeat(first|exact A1|exact uH|apply A2|apply uT));first|done|fail)|(simp;first|done|omega|fail))[r3]))
 refine B4D (o := 0) (s := z38) (by (repeat constructor)) (by omega) (by omega) ?_
 (have zz:=trivial;repeat((first|clear zz|with_reducible first|refine A3 ?_|refine A5 fun _=>?_|refine A4 fun _=>?_);try simp(disch:=first|omega|assumption|((repeat(first|exact A1|exact uH|apply A2|apply uT));first|done|fail)|(simp;first|done|omega|fail))[i6]))
 refine B4D (o := 6) (s := j5 z38 0 (M2 (k.v * 256 + k.proto) 2 ++ M2 k.fr 2 ++ M2 k.tp 2)) (by (repeat constructor)) (by omega) (by omega) ?_
 (have zz:=trivial;repeat((first|clear zz|with_reducible first|refine A3 ?_|refine A5 fun _=>?_|refine A4 fun _=>?_);try simp(disch:=first|omega|assumption|((repeat(first|exact A1|exact uH|apply A2|apply uT));first|done|fail)|(simp;first|done|omega|fail))[i22]))
 refine B4D (o := 22) (s := j5 (j5 z38 0 (M2 (k.v * 256 + k.proto) 2 ++ M2 k.fr 2 ++ M2 k.tp 2)) 6 k.src) (by (repeat constructor)) (by omega) (by omega) ?_
 (have zz:=trivial;repeat((first|clear zz|with_reducible first|refine A3 ?_|refine A5 fun _=>?_|refine A4 fun _=>?_);try simp(disch:=first|omega|assumption|((repeat(first|exact A1|exact uH|apply A2|apply uT));first|done|fail)|(simp;first|done|omega|fail))[]))
 rw [C8c (s := A4V k) (by (repeat constructor)) _ _ s3.symm]
 exact B0 (by simp [A7J, ok])
end Go.Proofs.YtpnidmkaobfhiaaGreat
namespace Go.Proofs.YtpnidmkaobfhiaaGreat
open Go
@[simp] theorem D5S {κ : Bool} {S : List Nat} {w0 : World} {H : List Res} {K : Value → WP} {t : TypeId} {z : Value} [h : TS t z] {b o : Nat} {c : Array Value} {T : TypeId} {f : Nat × Nat} (hm : Res.pt b (.cells c T f) ∈ H) :
  TW κ S w0 H (A6 PR (D6 [.c t (.pointer (some ⟨b, o, none⟩))]) K) = TW κ S w0 H (rdc c[o]? K (A6 PR (D6 [.c t (.pointer (some ⟨b, o, none⟩))]) K)) := by
 cases hc : c[o]? with
 | none => rfl
 | some v => rw [C79 hm hc]; rfl
abbrev F2 := Int × Int
def E8 (b : F2) : List Value := [.int .i64 b.1, .int .i64 b.2]
structure EnV where
 st : Int
 key : ByteArray
 bk : Int
 dl : Int
 deriving DecidableEq
def F1 (x : EnV) : List Value := [.int .i64 x.st, .string x.key, .int .i64 x.bk, .int .i64 x.dl]
theorem C9B {t u : TypeId} {n m : Nat} {z : Value} {a : Option Addr} {l c e : Nat} (h : TI PR t (.slice u) n m z) : EqV PR (e + 1) t (.slice a l c) (.slice none 0 0) a.isNone := by
 intro w
 cases a with
 | none => simp only [Op.equalIn, Sem.run_bind, h.run_und, Result.andThen_ok, Sem.run_pure, Option.isNone]
 | some a => simp only [Op.equalIn, Sem.run_bind, h.run_und, Result.andThen_ok, Sem.run_pure]; rfl
theorem C8B {t u : TypeId} {n m : Nat} {z : Value} (h : TI PR t (.slice u) n m z) (x y : Operand) (a : Option Addr) (l c : Nat) (K : Value → WP) :
  A6 PR (H6 .eql t x y (.slice a l c) (.slice none 0 0)) K = K (.bool a.isNone) := by
 funext w
 refine Y2 ?_ K
 have h1 : (eqGuard .eql t x y (.slice a l c) (.slice none 0 0)).run PR w = .ok () w := by simp [eqGuard]
 have h2 : (Op.equalIn 10000 t (.slice a l c) (.slice none 0 0)).run PR w = .ok a.isNone w := C9B (e := 9999) h w
 simp [H6, h1, binOp, Op.equal, Op.maxDepth, h2]
theorem C5v (x y : Operand) (a : Option Addr) (l c : Nat) (K : Value → WP) : A6 PR (H6 .eql 36 x y (.slice a l c) (.slice none 0 0)) K = K (.bool a.isNone) := C8B B0G x y a l c K
theorem C52 (x y : Operand) (a : Option Addr) (l c : Nat) (K : Value → WP) : A6 PR (H6 .eql 55 x y (.slice a l c) (.slice none 0 0)) K = K (.bool a.isNone) := C8B A8v x y a l c K
theorem B0B (w : World) (v : Value) (n : Nat) (xs : List Value) (hn : n ≤ 1000000) (hx : xs.length = n * 2) (hp : xs.all plain = true) (hv : E2 w v n xs) :
  Fn PR B6 72 #[v] w (Rn [] w (fun r u => u = r) fun r => [.own 83 2 r n xs]) := by
 obtain ⟨a, c, rfl, hr⟩ := hv.form
 refine q5 (TW.go (κ := false) (S := []) ?_)
 unfold U1
 cases a with
 | none =>
  obtain rfl : n = 0 := by
   rcases Nat.eq_zero_or_pos n with h | h
   ·exact h
   ·obtain ⟨_, _, h, _⟩ := hr h; cases h
  obtain rfl : xs = [] := List.length_eq_zero_iff.1 (by omega)
  (have zz:=trivial;repeat((first|clear zz|with_reducible first|refine A3 ?_|refine A5 fun _=>?_|refine A4 fun _=>?_);try simp(disch:=first|omega|assumption|((repeat(first|exact A1|exact uH|apply A2|apply uT));first|done|fail)|(simp;first|done|omega|fail))[C5v]))
  refine s9 83 2 ?_
  exact v8 (.slice none 0 0) rfl (by simp)
 | some a =>
  (have zz:=trivial;repeat((first|clear zz|with_reducible first|refine A3 ?_|refine A5 fun _=>?_|refine A4 fun _=>?_|refine G1 fun _=>?_|refine F7 (hK:=fun _=>?_)|refine F9 (hK:=fun _=>?_)|refine F8 (hK:=fun _=>?_)|refine F6 (hK:=fun _=>?_)|refine G0 (hK:=fun _=>?_));try simp(disch:=first|omega|assumption|((repeat(first|exact A1|exact uH|apply A2|apply uT));first|done|fail)|(simp;first|done|omega|fail))[C5v]))
  refine A22 (by (repeat constructor)) (P4.old0 hv) (by decide) hx hp (by simp only [maxLen]; omega) (by omega) fun a' c' => ?_
  simp only [Nat.zero_add, List.nil_append]
  exact B1 _ rfl (by (repeat' constructor))
theorem A9y (w : World) (v : Value) (n : Nat) (xs : List Value) (hn : n ≤ 1000000) (hx : xs.length = n * 4) (hp : xs.all plain = true) (hv : E2 w v n xs) :
  Fn PR B6 71 #[v] w (Rn [] w (fun r u => u = r) fun r => [.own 155 4 r n xs]) := by
 obtain ⟨a, c, rfl, hr⟩ := hv.form
 refine y5 (TW.go (κ := false) (S := []) ?_)
 unfold W7
 cases a with
 | none =>
  obtain rfl : n = 0 := by
   rcases Nat.eq_zero_or_pos n with h | h
   ·exact h
   ·obtain ⟨_, _, h, _⟩ := hr h; cases h
  obtain rfl : xs = [] := List.length_eq_zero_iff.1 (by omega)
  (have zz:=trivial;repeat((first|clear zz|with_reducible first|refine A3 ?_|refine A5 fun _=>?_|refine A4 fun _=>?_);try simp(disch:=first|omega|assumption|((repeat(first|exact A1|exact uH|apply A2|apply uT));first|done|fail)|(simp;first|done|omega|fail))[C52]))
  refine s9 155 4 ?_
  exact v8 (.slice none 0 0) rfl (by simp)
 | some a =>
  (have zz:=trivial;repeat((first|clear zz|with_reducible first|refine A3 ?_|refine A5 fun _=>?_|refine A4 fun _=>?_|refine G1 fun _=>?_|refine F7 (hK:=fun _=>?_)|refine F9 (hK:=fun _=>?_)|refine F8 (hK:=fun _=>?_)|refine F6 (hK:=fun _=>?_)|refine G0 (hK:=fun _=>?_));try simp(disch:=first|omega|assumption|((repeat(first|exact A1|exact uH|apply A2|apply uT));first|done|fail)|(simp;first|done|omega|fail))[C52]))
  refine A22 (by (repeat constructor)) (P4.old0 hv) (by decide) hx hp (by simp only [maxLen]; omega) (by omega) fun a' c' => ?_
  simp only [Nat.zero_add, List.nil_append]
  exact B1 _ rfl (by (repeat' constructor))
theorem C8d {α : Type} {l m : List α} (hl : l.length = m.length) (h : ∀ j, j < l.length → l[j]? = m[j]?) : l = m := List.ext_getElem? fun i => by
 by_cases hi : i < l.length
 ·exact h i hi
 ·rw [List.getElem?_eq_none (by omega), List.getElem?_eq_none (by omega)]
def A8Q {α : Type} (p : α → Bool) (l : List α) : Int := match l.findIdx? p with | some i => i | none => -1
theorem B5e {α : Type} {p : α → Bool} {l : List α} {i : Nat} {x : α} (hx : l[i]? = some x) (hp : p x = true) (h : ∀ j y, j < i → l[j]? = some y → p y = false) : A8Q p l = i := by
 have : l.findIdx? p = some i := by
  rw [List.findIdx?_eq_some_iff_getElem]
  obtain ⟨hi, e⟩ := List.getElem?_eq_some_iff.1 hx
  exact ⟨hi, by rw [e]; exact hp, fun j hj => by rw [h j l[j] hj (List.getElem?_eq_getElem (by omega))]; simp⟩
 simp [A8Q, this]
theorem B5L {α : Type} {p : α → Bool} {l : List α} (h : ∀ (j : Nat) y, l[j]? = some y → p y = false) : A8Q p l = -1 := by
 have : l.findIdx? p = none := by
  rw [List.findIdx?_eq_none_iff]; intro x hx; obtain ⟨i, hi, rfl⟩ := List.getElem_of_mem hx; exact h i _ (List.getElem?_eq_getElem hi)
 simp [A8Q, this]
theorem B6G (w : World) (v : Value) (l : List F2) (p : F2 → Bool) (f : FuncId) (cap : List Value) (hn : l.length ≤ 1000000) (hv : E2 w v l.length (l.flatMap E8)) (he : A9 PR f)
  (hf : ∀ w', KS false [] w w' → ∀ x : F2, Fn PR B6 f (.agg #[.int .i64 x.1, .int .i64 x.2] :: cap).toArray w' (fun r w'' => r = .bool (p x) ∧ C6 [] w' w'')) :
  Fn PR B6 180 #[v, .func (.func f) #[] cap.toArray] w (fun r w' => r = .int .i64 (A8Q p l) ∧ C6 [] w w') := by
 refine Fn.pure (k8 (TW.go (κ := false) (S := []) ?_))
 unfold S9
 obtain ⟨a, c, rfl, hr⟩ := hv.form
 (have zz:=trivial;repeat((first|clear zz|with_reducible first|refine A3 ?_|refine A5 fun _=>?_|refine A4 fun _=>?_);try simp(disch:=first|omega|assumption|((repeat(first|exact A1|exact uH|apply A2|apply uT));first|done|fail)|(simp;first|done|omega|fail))[]))
 refine w7 (α := Unit) l.length (fun _ _ => .int .i64 0) (fun _ _ => []) (fun i _ => ∀ j y, j < i → l[j]? = some y → p y = false) () (by intro j _ hj; omega) ?_
 rintro i _ hi hpre L hL
 by_cases hlt : i < l.length
 ·obtain ⟨b, o, rfl, hrow⟩ := hr (by omega)
  obtain ⟨x, hx⟩ : ∃ x, l[i]? = some x := ⟨_, List.getElem?_eq_getElem (by omega)⟩
  have h1 := hrow.at (f := E8) (k := 2) (fun _ => rfl) hx
  rw [E8] at h1
  (have zz:=trivial;repeat((first|clear zz|with_reducible first|refine A3 ?_|refine A5 fun _=>?_|refine A4 fun _=>?_);try simp(disch:=first|omega|assumption|((repeat(first|exact A1|exact uH|apply A2|apply uT));first|done|fail)|(simp;first|done|omega|fail))[hlt, h1]))
  refine B4v he (φ := fun r => r = .bool (p x)) (fun w' hw' => by simpa using hf w' hw'.ks x) ?_
  rintro _ rfl
  cases hb : p x with
  | true =>
   (have zz:=trivial;repeat((first|clear zz|with_reducible first|refine A3 ?_|refine A5 fun _=>?_|refine A4 fun _=>?_);try simp(disch:=first|omega|assumption|((repeat(first|exact A1|exact uH|apply A2|apply uT));first|done|fail)|(simp;first|done|omega|fail))[]))
   exact B0 (by rw [B5e hx hb hpre])
  | false =>
   (have zz:=trivial;repeat((first|clear zz|with_reducible first|refine A3 ?_|refine A5 fun _=>?_|refine A4 fun _=>?_);try simp(disch:=first|omega|assumption|((repeat(first|exact A1|exact uH|apply A2|apply uT));first|done|fail)|(simp;first|done|omega|fail))[]))
   refine Sels.tw .nil (hL hlt () ?_)
   intro j y hj hy
   by_cases hji : j = i
   ·subst hji; rw [hx] at hy; cases hy; exact hb
   ·exact hpre j y (by omega) hy
 ·obtain rfl : i = l.length := by omega
  (have zz:=trivial;repeat((first|clear zz|with_reducible first|refine A3 ?_|refine A5 fun _=>?_|refine A4 fun _=>?_);try simp(disch:=first|omega|assumption|((repeat(first|exact A1|exact uH|apply A2|apply uT));first|done|fail)|(simp;first|done|omega|fail))[]))
  exact B0 (by rw [B5L fun j y hy => hpre j y (List.getElem?_eq_some_iff.1 hy).1 hy])
theorem B6L (w : World) (v : Value) (l : List (Int × Int)) (p : Int × Int → Bool) (f : FuncId) (cap : List Value) (hn : l.length ≤ 1000000) (hv : E2 w v l.length (l.flatMap E8)) (he : A9 PR f)
  (hf : ∀ w', KS false [] w w' → ∀ x : Int × Int, Fn PR B6 f (.agg #[.int .i64 x.1, .int .i64 x.2] :: cap).toArray w' (fun r w'' => r = .bool (p x) ∧ C6 [] w' w'')) :
  Fn PR B6 160 #[v, .func (.func f) #[] cap.toArray] w (fun r w' => r = .int .i64 (A8Q p l) ∧ C6 [] w w') := by
 refine Fn.pure (A1d (TW.go (κ := false) (S := []) ?_))
 unfold Z7
 obtain ⟨a, c, rfl, hr⟩ := hv.form
 (have zz:=trivial;repeat((first|clear zz|with_reducible first|refine A3 ?_|refine A5 fun _=>?_|refine A4 fun _=>?_);try simp(disch:=first|omega|assumption|((repeat(first|exact A1|exact uH|apply A2|apply uT));first|done|fail)|(simp;first|done|omega|fail))[]))
 refine w7 (α := Unit) l.length (fun _ _ => .int .i64 0) (fun _ _ => []) (fun i _ => ∀ j y, j < i → l[j]? = some y → p y = false) () (by intro j _ hj; omega) ?_
 rintro i _ hi hpre L hL
 by_cases hlt : i < l.length
 ·obtain ⟨b, o, rfl, hrow⟩ := hr (by omega)
  obtain ⟨x, hx⟩ : ∃ x, l[i]? = some x := ⟨_, List.getElem?_eq_getElem (by omega)⟩
  have h1 := hrow.at (f := E8) (k := 2) (fun _ => rfl) hx
  rw [E8] at h1
  (have zz:=trivial;repeat((first|clear zz|with_reducible first|refine A3 ?_|refine A5 fun _=>?_|refine A4 fun _=>?_);try simp(disch:=first|omega|assumption|((repeat(first|exact A1|exact uH|apply A2|apply uT));first|done|fail)|(simp;first|done|omega|fail))[hlt, h1]))
  refine B4v he (φ := fun r => r = .bool (p x)) (fun w' hw' => by simpa using hf w' hw'.ks x) ?_
  rintro _ rfl
  cases hb : p x with
  | true =>
   (have zz:=trivial;repeat((first|clear zz|with_reducible first|refine A3 ?_|refine A5 fun _=>?_|refine A4 fun _=>?_);try simp(disch:=first|omega|assumption|((repeat(first|exact A1|exact uH|apply A2|apply uT));first|done|fail)|(simp;first|done|omega|fail))[]))
   exact B0 (by rw [B5e hx hb hpre])
  | false =>
   (have zz:=trivial;repeat((first|clear zz|with_reducible first|refine A3 ?_|refine A5 fun _=>?_|refine A4 fun _=>?_);try simp(disch:=first|omega|assumption|((repeat(first|exact A1|exact uH|apply A2|apply uT));first|done|fail)|(simp;first|done|omega|fail))[]))
   refine Sels.tw .nil (hL hlt () ?_)
   intro j y hj hy
   by_cases hji : j = i
   ·subst hji; rw [hx] at hy; cases hy; exact hb
   ·exact hpre j y (by omega) hy
 ·obtain rfl : i = l.length := by omega
  (have zz:=trivial;repeat((first|clear zz|with_reducible first|refine A3 ?_|refine A5 fun _=>?_|refine A4 fun _=>?_);try simp(disch:=first|omega|assumption|((repeat(first|exact A1|exact uH|apply A2|apply uT));first|done|fail)|(simp;first|done|omega|fail))[]))
  exact B0 (by rw [B5L fun j y hy => hpre j y (List.getElem?_eq_some_iff.1 hy).1 hy])
theorem C4E {α : Type} (p : α → Bool) (l : List α) : decide (0 ≤ A8Q p l) = l.any p := by
 unfold A8Q
 cases h : l.findIdx? p with
 | none =>
  have := List.findIdx?_eq_none_iff.1 h
  rw [Bool.eq_iff_iff]; simp [List.any_eq_true]; intro x hx; have := this x hx; simp_all
 | some i =>
  obtain ⟨hi, h1, _⟩ := List.findIdx?_eq_some_iff_getElem.1 h
  rw [Bool.eq_iff_iff]; simp only [List.any_eq_true, decide_eq_true_eq]
  exact ⟨fun _ => ⟨_, List.getElem_mem hi, h1⟩, fun _ => by omega⟩
theorem B2A (w : World) (v : Value) (l : List (Int × Int)) (p : Int × Int → Bool) (f : FuncId) (cap : List Value) (hn : l.length ≤ 1000000) (hv : E2 w v l.length (l.flatMap E8)) (he : A9 PR f)
  (hf : ∀ w', KS false [] w w' → ∀ x : Int × Int, Fn PR B6 f (.agg #[.int .i64 x.1, .int .i64 x.2] :: cap).toArray w' (fun r w'' => r = .bool (p x) ∧ C6 [] w' w'')) :
  Fn PR B6 125 #[v, .func (.func f) #[] cap.toArray] w (fun r w' => r = .bool (l.any p) ∧ C6 [] w w') := by
 refine Fn.pure (A0S (TW.go (κ := false) (S := []) ?_))
 unfold Y3
 refine C8 A0y (fun w' hw' => B6L w' v l p f cap hn (hv.ks hw'.ks (by simp)) he fun w2 h => hf w2 (hw'.ks.trans h)) ?_
 (have zz:=trivial;repeat((first|clear zz|with_reducible first|refine A3 ?_|refine A5 fun _=>?_|refine A4 fun _=>?_);try simp(disch:=first|omega|assumption|((repeat(first|exact A1|exact uH|apply A2|apply uT));first|done|fail)|(simp;first|done|omega|fail))[]))
 exact B0 (by rw [C4E])
end Go.Proofs.YtpnidmkaobfhiaaGreat
namespace Go.Proofs.YtpnidmkaobfhiaaGreat
open Go
theorem B6n {t e : TypeId} {len n m n' m' : Nat} {z z' : Value} {d' : TypeDesc} {parts : Array (Nat × Value)} {cs : Array Value} {K : Value → WP} (h : TI PR t (.array len e) n m z) (he : TI PR e d' n' m' z')
  (hf : Instr.fill (fun i => some (i * n', n')) z.cells parts.toList = some cs) : A0 PR (Instr.build t parts) K = K (.agg cs) :=
 E7 (fun w => by
  simp only [Instr.build, Sem.run_bind, h.run_zero, Result.andThen_ok, h.run_und, he.run_size, hf, Sem.run_pure]) K
theorem bd2 {k0 k1 : IntKind} {a b : Int} (K : Value → WP) : A0 PR (Instr.build 205 #[(0, .int k0 a), (1, .int k1 b)]) K = K (.agg #[.int k0 a, .int k1 b]) :=
 B6n B2s G9 (by rw [show (#[(0, Value.int k0 a), (1, Value.int k1 b)] : Array (Nat × Value)).toList = [(0, Value.int k0 a), (1, Value.int k1 b)] from rfl, B8 rfl rfl (by simp), B8 rfl rfl (by simp [C0])]; rfl)
theorem B9G (w : World) (x : Int × Int) : Fn PR B6 126 #[.agg #[.int .i64 x.1, .int .i64 x.2]] w (fun r w' => r = .bool (decide (x.1 < 1 ∨ x.2 < x.1)) ∧ C6 [] w w') := by
 refine Fn.pure (B1V (TW.go (κ := false) (S := []) ?_))
 unfold A30
 by_cases c1 : x.1 < 1
 ·(have zz:=trivial;repeat((first|clear zz|with_reducible first|refine A3 ?_|refine A5 fun _=>?_|refine A4 fun _=>?_);try simp(disch:=first|omega|assumption|((repeat(first|exact A1|exact uH|apply A2|apply uT));first|done|fail)|(simp;first|done|omega|fail))[c1]))
  exact B0 (by simp [c1])
 ·(have zz:=trivial;repeat((first|clear zz|with_reducible first|refine A3 ?_|refine A5 fun _=>?_|refine A4 fun _=>?_);try simp(disch:=first|omega|assumption|((repeat(first|exact A1|exact uH|apply A2|apply uT));first|done|fail)|(simp;first|done|omega|fail))[c1]))
  exact B0 (by simp [c1])
theorem C3D (w : World) (v : Value) (l : List (Int × Int)) (hn : l.length ≤ 1000000) (hv : E2 w v l.length (l.flatMap E8)) :
  Fn PR B6 98 #[v] w (fun r w' => r = .bool (!l.any fun x => decide (x.1 < 1 ∨ x.2 < x.1)) ∧ C6 [] w w') := by
 refine Fn.pure (B4S (TW.go (κ := false) (S := []) ?_))
 unfold A7m
 refine C8 A0B (fun w' hw' => B2A w' v l (fun x => decide (x.1 < 1 ∨ x.2 < x.1)) 126 [] hn (hv.ks hw'.ks (by simp)) B0L fun w2 h x => B9G w2 x) ?_
 (have zz:=trivial;repeat((first|clear zz|with_reducible first|refine A3 ?_|refine A5 fun _=>?_|refine A4 fun _=>?_);try simp(disch:=first|omega|assumption|((repeat(first|exact A1|exact uH|apply A2|apply uT));first|done|fail)|(simp;first|done|omega|fail))[]))
 exact B0 rfl
theorem C0C (w : World) (x : F2) (id : Int) (b : Nat) (hb : w.cell? ⟨b, 0, none⟩ = some (.int .i64 id)) : Fn PR B6 201 #[.agg #[.int .i64 x.1, .int .i64 x.2], .pointer (some ⟨b, 0, none⟩)] w (fun r w' => r = .bool (decide (x.1 = id)) ∧ C6 [] w w') := by
 refine Fn.pure (B10 (TW.go (κ := false) (S := []) ?_))
 unfold A4c
 (have zz:=trivial;repeat((first|clear zz|with_reducible first|refine A3 ?_|refine A5 fun _=>?_|refine A4 fun _=>?_);try simp(disch:=first|omega|assumption|((repeat(first|exact A1|exact uH|apply A2|apply uT));first|done|fail)|(simp;first|done|omega|fail))[hb]))
 exact B0 rfl
theorem C3j (w : World) (id : Int) : Fn PR B6 181 #[.int .i64 id] w (Rn [] w (fun b v => v = .func (.func 201) #[] #[.pointer (some ⟨b, 0, none⟩)]) fun b => [.pt b (.cells #[.int .i64 id] 3)]) := by
 refine B5y (TW.go (κ := false) (S := []) ?_)
 unfold A9H
 (have zz:=trivial;repeat((first|clear zz|with_reducible first|refine A3 ?_|refine A5 fun _=>?_|refine A4 fun _=>?_);try simp(disch:=first|omega|assumption|((repeat(first|exact A1|exact uH|apply A2|apply uT));first|done|fail)|(simp;first|done|omega|fail))[]))
 exact v8 _ rfl (by simp)
def B3U (l : List F2) (id : Int) : Int := A8Q (fun x => decide (x.1 = id)) l
theorem B9B (w : World) (v : Value) (l : List F2) (id : Int) (hn : l.length ≤ 1000000) (hv : E2 w v l.length (l.flatMap E8)) :
  Fn PR B6 149 #[v, .int .i64 id] w (fun r w' => r = .int .i64 (B3U l id) ∧ C6 [] w w') := by
 refine Fn.pure (B75 (TW.go (κ := false) (S := []) ?_))
 unfold B0Z
 refine H9 B46 (fun w' _ => C3j w' id) ?_
 rintro b _ rfl
 refine C8 j6 (fun w' hw' => B6G w' v l (fun x => decide (x.1 = id)) 201 [.pointer (some ⟨b, 0, none⟩)] hn (hv.ks hw'.ks (by simp)) B1M
  fun w2 h x => C0C w2 x id b (h.cell (by simp) (hw'.cell1 (by (repeat constructor))))) ?_
 exact B0 rfl
def B4d (b : F2) : Bool := decide (1 ≤ b.1 ∧ b.1 ≤ 65535 ∧ 1 ≤ b.2 ∧ b.2 ≤ 16)
def A0f : List F2 → Bool
 | [] => true
 | b :: l => B4d b && !(l.any fun x => decide (x.1 = b.1)) && A0f l
def L8 (l : List F2) : Int := if A0f l && decide (l.length ≤ 32) then 0 else 10
theorem A8j (l : List F2) : A0f l = true ↔ (∀ b ∈ l, B4d b = true) ∧ l.Pairwise fun a b => a.1 ≠ b.1 := by
 induction l with
 | nil => simp [A0f]
 | cons b l ih =>
  simp only [A0f, Bool.and_eq_true, ih, List.mem_cons, forall_eq_or_imp, List.pairwise_cons, Bool.not_eq_true', List.any_eq_false, decide_eq_true_eq]
  constructor
  ·rintro ⟨⟨h1, h2⟩, h3, h4⟩; exact ⟨⟨h1, h3⟩, fun a ha e => h2 a ha e.symm, h4⟩
  ·rintro ⟨⟨h1, h3⟩, h2, h4⟩; exact ⟨⟨h1, fun a ha e => h2 a ha e.symm⟩, h3, h4⟩
theorem D0W {α : Type} {R : α → α → Prop} {l : List α} (h : l.Pairwise R) {i j : Nat} {x y : α} (hij : i < j) (hx : l[i]? = some x) (hy : l[j]? = some y) : R x y := by
 obtain ⟨h1, rfl⟩ := List.getElem?_eq_some_iff.1 hx
 obtain ⟨h2, rfl⟩ := List.getElem?_eq_some_iff.1 hy
 exact List.pairwise_iff_getElem.1 h i j h1 h2 hij
theorem C68 {α : Type} {R : α → α → Prop} {l : List α} {i : Nat} {x : α} (hx : l[i]? = some x) : (l.take (i + 1)).Pairwise R ↔ (l.take i).Pairwise R ∧ ∀ y ∈ l.take i, R y x := by
 rw [List.take_add_one, hx]; simp [List.pairwise_append]
theorem A4n (w : World) (v : Value) (l : List F2) (hn : l.length ≤ 1000000) (hv : E2 w v l.length (l.flatMap E8)) :
  Fn PR B6 77 #[v] w (fun r w' => r = .int .i64 (L8 l) ∧ C6 [] w w') := by
 refine Fn.pure (B6D (TW.go (κ := false) (S := []) ?_))
 unfold A9A
 obtain ⟨a, c, rfl, hr⟩ := hv.form
 refine B93 (Value.int .i64) fun r => ?_
 (have zz:=trivial;repeat((first|clear zz|with_reducible first|refine A3 ?_|refine A5 fun _=>?_|refine A4 fun _=>?_);try simp(disch:=first|omega|assumption|((repeat(first|exact A1|exact uH|apply A2|apply uT));first|done|fail)|(simp;first|done|omega|fail))[]))
 refine w7 (α := List (Int × Value)) l.length (fun _ _ => .int .i64 0) (fun _ M => [.pt r (r6 (Value.int .i64) M)]) (fun i M => (∀ k, p7 k M = if (l.take i).any (fun x => decide (x.1 = k)) then some (.bool true) else none) ∧ A0f (l.take i) = true) [] (by simp [p7, A0f]) ?_
 rintro i M hi ⟨hM, hok⟩ L hL
 by_cases hlt : i < l.length
 ·obtain ⟨b, o, rfl, hrow⟩ := hr (by omega)
  obtain ⟨x, hx⟩ : ∃ x, l[i]? = some x := ⟨_, List.getElem?_eq_getElem (by omega)⟩
  have h1 := hrow.at (f := E8) (k := 2) (fun _ => rfl) hx
  rw [E8] at h1
  have hxm : x ∈ l := List.mem_of_getElem? hx
  (have zz:=trivial;repeat((first|clear zz|with_reducible first|refine A3 ?_|refine A5 fun _=>?_|refine A4 fun _=>?_);try simp(disch:=first|omega|assumption|((repeat(first|exact A1|exact uH|apply A2|apply uT));first|done|fail)|(simp;first|done|omega|fail))[hlt, h1]))
  rw [B2U C6H ty4 (KeyT.int G9) (l := M) (by (repeat constructor)), hM]
  cases hseen : (l.take i).any (fun y => decide (y.1 = x.1)) with
  | true =>
   have hbad : L8 l = 10 := by
    have : A0f l = false := by
     rw [← Bool.not_eq_true, A8j]
     rintro ⟨_, h⟩
     obtain ⟨y, hy, he⟩ := List.any_eq_true.1 hseen
     obtain ⟨j, hj, rfl⟩ := List.getElem_of_mem hy
     simp only [List.length_take] at hj
     exact D0W (i := j) (j := i) h (by omega) (List.getElem?_eq_getElem (by omega)) hx (by simpa using he)
    simp [L8, this]
   (have zz:=trivial;repeat((first|clear zz|with_reducible first|refine A3 ?_|refine A5 fun _=>?_|refine A4 fun _=>?_);try simp(disch:=first|omega|assumption|((repeat(first|exact A1|exact uH|apply A2|apply uT));first|done|fail)|(simp;first|done|omega|fail))[]))
   exact B0 (by rw [hbad])
  | false =>
   simp only [Bool.false_eq_true, if_false, Option.getD_none]
   (have zz:=trivial;repeat((first|clear zz|with_reducible first|refine A3 ?_|refine A5 fun _=>?_|refine A4 fun _=>?_|refine G1 fun _=>?_|refine F7 (hK:=fun _=>?_)|refine F9 (hK:=fun _=>?_)|refine F8 (hK:=fun _=>?_)|refine F6 (hK:=fun _=>?_)|refine G0 (hK:=fun _=>?_));try simp(disch:=first|omega|assumption|((repeat(first|exact A1|exact uH|apply A2|apply uT));first|done|fail)|(simp;first|done|omega|fail))[bd2]))
   rename_i bs bx
   refine C8 (u := .bool (B4d x)) B3n (fun w' hw' => ?_) ?_
   ·have := C3D w' (.slice (some ⟨bx, 0, none⟩) 2 2) [(x.1, 65535), (x.2, 16)] (by simp) (by simpa [E8] using P4.own (κ := false) (S := []) (w0 := w) (e := 205) (k := 2) (q := 2) (v := .slice (some ⟨bx, 0, none⟩) 2 2) (by (repeat constructor)) w' hw')
    have e : (!([(x.1, 65535), (x.2, 16)] : List (Int × Int)).any fun x => decide (x.1 < 1 ∨ x.2 < x.1)) = B4d x := by
     rw [Bool.eq_iff_iff]; simp [B4d]; omega
    rw [e] at this
    exact this
   ·cases hbk : B4d x with
    | false =>
     have hbad : L8 l = 10 := by
      have : A0f l = false := by
       rw [← Bool.not_eq_true, A8j]
       rintro ⟨h, _⟩
       rw [h x hxm] at hbk; cases hbk
      simp [L8, this]
     (have zz:=trivial;repeat((first|clear zz|with_reducible first|refine A3 ?_|refine A5 fun _=>?_|refine A4 fun _=>?_);try simp(disch:=first|omega|assumption|((repeat(first|exact A1|exact uH|apply A2|apply uT));first|done|fail)|(simp;first|done|omega|fail))[]))
     exact B0 (by rw [hbad])
    | true =>
     (have zz:=trivial;repeat((first|clear zz|with_reducible first|refine A3 ?_|refine A5 fun _=>?_|refine A4 fun _=>?_);try simp(disch:=first|omega|assumption|((repeat(first|exact A1|exact uH|apply A2|apply uT));first|done|fail)|(simp;first|done|omega|fail))[]))
     refine B2b C6H (KeyT.int G9) (k := x.1) (by (repeat constructor)) ?_
     (have zz:=trivial;repeat((first|clear zz|with_reducible first|refine A3 ?_|refine A5 fun _=>?_|refine A4 fun _=>?_);try simp(disch:=first|omega|assumption|((repeat(first|exact A1|exact uH|apply A2|apply uT));first|done|fail)|(simp;first|done|omega|fail))[]))
     refine Sels.tw (by (repeat' constructor)) (hL hlt _ ⟨?_, ?_⟩)
     ·intro k
      rw [C3f, hM, List.take_add_one, hx]
      by_cases hk : k = x.1
      ·subst hk; simp
      ·have hk' : ¬ x.1 = k := fun e => hk e.symm
       have hAB : (l.take i ++ (some x).toList).any (fun x => decide (x.1 = k)) = (l.take i).any (fun x => decide (x.1 = k)) := by
        rw [List.any_append]; simp only [Option.toList_some, List.any_cons, List.any_nil, decide_eq_false hk', Bool.or_false]
       rw [if_neg hk, hAB]
     ·rw [A8j] at hok ⊢
      refine ⟨fun y hy => ?_, (C68 hx).2 ⟨hok.2, fun y hy e => ?_⟩⟩
      ·rw [List.take_add_one, hx] at hy
       simp only [Option.toList_some, List.mem_append, List.mem_singleton] at hy
       rcases hy with hy | rfl
       ·exact hok.1 y hy
       ·exact hbk
      ·have := List.any_eq_false.1 hseen y hy
       simp [e] at this
 ·obtain rfl : i = l.length := by omega
  rw [List.take_length] at hok
  by_cases c1 : l.length ≤ 32
  ·have c1' : ¬ (32 : Int) < l.length := by omega
   (have zz:=trivial;repeat((first|clear zz|with_reducible first|refine A3 ?_|refine A5 fun _=>?_|refine A4 fun _=>?_);try simp(disch:=first|omega|assumption|((repeat(first|exact A1|exact uH|apply A2|apply uT));first|done|fail)|(simp;first|done|omega|fail))[c1']))
   exact B0 (by simp [L8, hok, c1])
  ·have c1' : (32 : Int) < l.length := by omega
   (have zz:=trivial;repeat((first|clear zz|with_reducible first|refine A3 ?_|refine A5 fun _=>?_|refine A4 fun _=>?_);try simp(disch:=first|omega|assumption|((repeat(first|exact A1|exact uH|apply A2|apply uT));first|done|fail)|(simp;first|done|omega|fail))[c1']))
   exact B0 (by simp [L8, c1])
end Go.Proofs.YtpnidmkaobfhiaaGreat
namespace Go.Proofs.YtpnidmkaobfhiaaGreat
open Go
structure CfgV where
 wk : Int
 sh : Int
 cp : Int
 idle : Int
 sl : Int
 deriving DecidableEq
def CfgV.val (c : CfgV) : Value := .agg #[.int .i64 c.wk, .int .i64 c.sh, .int .i64 c.cp, .int .i64 c.idle, .int .i64 c.sl]
def Z8 (n lo hi : Int) : Bool := decide (lo ≤ n) && decide (n ≤ hi)
def N1 (c : CfgV) : Bool := Z8 c.wk 1 64 && Z8 c.sh 1 16 && Z8 c.cp 1 64 && Z8 c.idle 0 1000000 && Z8 c.sl 2 8
structure AnsV where
 err : Int
 bk : Int
 made : Bool
 count : Int
 deriving DecidableEq
def AnsV.val (a : AnsV) : Value := .agg #[.int .i64 a.err, .int .i64 a.bk, .bool a.made, .int .i64 a.count]
structure OpV where
 kind : Int
 packet : ByteArray
 pool : List F2
 shard : Int
def OpV.val (o : OpV) (v : Value) : Value := .agg #[.int .i64 o.kind, .string o.packet, v, .int .i64 o.shard]
end Go.Proofs.YtpnidmkaobfhiaaGreat
namespace Go.Proofs.YtpnidmkaobfhiaaGreat
open Go
def A7G (X : Nat → Prop) (t0 t1 : Value) (R : Value → WP) : WP :=
 B4 PR X (Instr.box 3 t1) fun t3 =>
 A0 PR (Instr.makeFunc (.func 157) #[] #[t3]) fun t6 =>
 B7 PR X 156 [t0, t6] fun t7 =>
 R t7
theorem s7 : A9 PR 122 := A7 Tryz.func122 (by kernel_rfl) rfl
theorem B4c {X : Nat → Prop} {t0 t1 : Value} {R : Value → WP} {w : World} (h : A7G X t0 t1 R w) : Fn PR X 122 #[t0, t1] w R := C4 (args := [t0, t1]) mixed Tryz.func122 (by kernel_rfl) h
def A9F (X : Nat → Prop) (t0 t1 : Value) (R : Value → WP) : WP :=
 B4 PR X (Instr.box 9 t1) fun t3 =>
 B4 PR X (Instr.alloc 3 true (.tuple #[])) fun t5 =>
 B9 PR X (Instr.storeAt 3 t5 (.int .i64 (-1))) <|
 jn (n := 0) (
 A6 PR (Instr.loadAt 3 t5) fun t28 =>
 j9 (R t28)) fun J1 =>
 A6 PR (Instr.loadAt 9 t3) fun t9 =>
 B7 PR X 179 [t0, t9] fun t10 =>
 rng (N := 2) PR X (fun t11 t12 K2 =>
 B4 PR (fun _ => False) (Instr.alloc 155 true (.tuple #[])) fun t7 =>
 B9 PR (fun _ => False) (Instr.storeAt 155 t7 t12) <|
 bgn <|
 A0 PR (Instr.fieldAt 155 t7 0) fun t14 =>
 A6 PR (Instr.loadAt 3 t14) fun t15 =>
 A0 PR (binOp .eql 3 t15 (.int .i64 0)) fun t16 =>
 C3 t16 (
 K2 (some (.exit 0))) (
 A0 PR (Instr.fieldAt 155 t7 0) fun t18 =>
 A6 PR (Instr.loadAt 3 t18) fun t19 =>
 A0 PR (binOp .eql 3 t19 (.int .i64 1)) fun t20 =>
 gj t20 true (fun J => A0 PR (Instr.fieldAt 155 t7 1) J) fun t22 =>
 gj t20 true (fun J => A6 PR (Instr.loadAt 9 t22) J) fun t23 =>
 gj t20 true (fun J => A6 PR (Instr.loadAt 9 t3) J) fun t24 =>
 gj t20 true (fun J => A0 PR (binOp .eql 9 t23 t24) J) fun t25 =>
 A0 PR (do pure (if ← asBool t20 then t25 else (.bool false))) fun t26 =>
 C3 t26 (
 B9 PR (fun _ => False) (Instr.storeAt 3 t5 t11) <|
 K2 (some (.exit 0))) (
 K2 none))) t10 (fun j => match j with | none => (J1) | some (.exit i) => (match Nat.beq i 0 with | true => (J1) | false => (H2)) | some .ret => (j9 (R (.int .i64 0))) | some _ => H2)
theorem z6 : A9 PR 148 := A7 Tryz.func148 (by kernel_rfl) rfl
theorem B6Q {X : Nat → Prop} {t0 t1 : Value} {R : Value → WP} {w : World} (h : A9F X t0 t1 R w) : Fn PR X 148 #[t0, t1] w R := C4 (args := [t0, t1]) mixed Tryz.func148 (by kernel_rfl) h
def w9 (X : Nat → Prop) (t0 t1 : Value) (R : Value → WP) : WP :=
 jn (n := 2) (fun t5 t10 =>
 R t5) fun J1 =>
 A0 PR (A8 .len #[55] 0 [t0]) fun t9 =>
 lp (n := 2) (fun L2 t5_1 t10_1 =>
 A0 PR (binOp .lss 3 t10_1 t9) fun t11 =>
 jn (n := 0) (
 jn (n := 1) (fun t5_2 =>
 A0 PR (binOp .add 3 t10_1 (.int .i64 1)) fun t19 =>
 L2 t5_2 t19) fun J3 =>
 A0 PR (Instr.indexAt 55 t0 t10_1) fun t12 =>
 A6 PR (Instr.loadAt 155 t12) fun t13 =>
 B4 PR X (Instr.alloc 155 true (.tuple #[])) fun t7 =>
 B9 PR X (Instr.storeAt 155 t7 t13) <|
 A6 PR (Instr.loadAt 155 t7) fun t15 =>
 M7 PR X t1 [t15] fun t16 =>
 C3 t16 (
 A0 PR (binOp .add 3 t5_1 (.int .i64 1)) fun t18 =>
 J3 t18) (
 J3 t5_1)) fun J4 =>
 C3 t11 (
 J4) (
 J1 t5_1 t10_1)) (.int .i64 0) (.int .i64 0)
theorem A4G : A9 PR 156 := A7 Tryz.func156 (by kernel_rfl) rfl
theorem A4r {X : Nat → Prop} {t0 t1 : Value} {R : Value → WP} {w : World} (h : w9 X t0 t1 R w) : Fn PR X 156 #[t0, t1] w R := C4 (args := [t0, t1]) mixed Tryz.func156 (by kernel_rfl) h
def A35 (X : Nat → Prop) (t0 t1 : Value) (R : Value → WP) : WP :=
 B4 PR X (Instr.box 155 t0) fun t2 =>
 A0 PR (Instr.fieldAt 155 t2 0) fun t4 =>
 A6 PR (Instr.loadAt 3 t4) fun t5 =>
 A6 PR (Instr.loadAt 3 t1) fun t6 =>
 A0 PR (binOp .eql 3 t5 t6) fun t7 =>
 R t7
theorem A9p : A9 PR 157 := A7 Tryz.func157 (by kernel_rfl) rfl
theorem B1Z {X : Nat → Prop} {t0 t1 : Value} {R : Value → WP} {w : World} (h : A35 X t0 t1 R w) : Fn PR X 157 #[t0, t1] w R := C4 (args := [t0, t1]) mixed Tryz.func157 (by kernel_rfl) h
def B0f (X : Nat → Prop) (t0 t1 : Value) (R : Value → WP) : WP :=
 B4 PR X (Instr.box 55 t0) fun t2 =>
 B4 PR X (Instr.box 9 t1) fun t3 =>
 A0 PR (Instr.makeFunc (.func 199) #[] #[t3, t2]) fun t5 =>
 R t5
theorem A9N : A9 PR 179 := A7 Tryz.func179 (by kernel_rfl) rfl
theorem B7K {X : Nat → Prop} {t0 t1 : Value} {R : Value → WP} {w : World} (h : B0f X t0 t1 R w) : Fn PR X 179 #[t0, t1] w R := C4 (args := [t0, t1]) mixed Tryz.func179 (by kernel_rfl) h
def A9P (X : Nat → Prop) (t0 t1 : Value) (R : Value → WP) : WP :=
 B4 PR X (Instr.alloc 3 true (.tuple #[])) fun t4 =>
 jn (n := 0) (
 jn (n := 0) (
 B9 PR X (Instr.storeAt 3 t4 (.int .i64 (-1))) <|
 j9 (A6 PR (D6 [.c 3 t4]) R)) fun J1 =>
 B7 PR X 179 [t0, t1] fun t13 =>
 rng (N := 2) PR X (fun t14 t15 K2 =>
 B4 PR (fun _ => False) (Instr.alloc 155 true (.tuple #[])) fun t6 =>
 B9 PR (fun _ => False) (Instr.storeAt 155 t6 t15) <|
 bgn <|
 A0 PR (Instr.fieldAt 155 t6 0) fun t16 =>
 A6 PR (Instr.loadAt 3 t16) fun t17 =>
 A0 PR (binOp .neq 3 t17 (.int .i64 1)) fun t18 =>
 C3 t18 (
 B9 PR (fun _ => False) (Instr.storeAt 3 t4 t14) <|
 K2 (some .ret)) (
 K2 none)) t13 (fun j => match j with | none => (J1) | some (.exit i) => (match Nat.beq i 0 with | true => (J1) | false => (H2)) | some .ret => (j9 (A6 PR (D6 [.c 3 t4]) R)) | some _ => H2)) fun J3 =>
 B7 PR X 148 [t0, t1] fun t9 =>
 A0 PR (binOp .geq 3 t9 (.int .i64 0)) fun t10 =>
 C3 t10 (
 B9 PR X (Instr.storeAt 3 t4 (.int .i64 (-1))) <|
 j9 (A6 PR (D6 [.c 3 t4]) R)) (
 J3)
theorem B4V : A9 PR 183 := A7 Tryz.func183 (by kernel_rfl) rfl
theorem B53 {X : Nat → Prop} {t0 t1 : Value} {R : Value → WP} {w : World} (h : A9P X t0 t1 R w) : Fn PR X 183 #[t0, t1] w R := C4 (args := [t0, t1]) mixed Tryz.func183 (by kernel_rfl) h
def A53 (X : Nat → Prop) (t0 t1 t2 : Value) (R : Value → WP) : WP :=
 A6 PR (Instr.loadAt 9 t1) fun t7 =>
 A6 PR (Instr.loadAt 55 t2) fun t8 =>
 A0 PR (A8 .len #[55] 0 [t8]) fun t9 =>
 B7 PR X 200 [t7, t9] fun t10 =>
 A6 PR (Instr.loadAt 55 t2) fun t11 =>
 A0 PR (A8 .len #[55] 0 [t11]) fun t12 =>
 lp (n := 1) (fun L1 t13 =>
 A0 PR (binOp .lss 3 t13 t12) fun t14 =>
 jn (n := 0) (
 jn (n := 0) (
 A0 PR (binOp .add 3 t13 (.int .i64 1)) fun t30 =>
 L1 t30) fun J2 =>
 A0 PR (binOp .add 3 t10 t13) fun t18 =>
 A6 PR (Instr.loadAt 55 t2) fun t19 =>
 A0 PR (A8 .len #[55] 0 [t19]) fun t20 =>
 A0 PR (binOp .rem 3 t18 t20) fun t21 =>
 A6 PR (Instr.loadAt 55 t2) fun t24 =>
 A0 PR (Instr.indexAt 55 t24 t21) fun t26 =>
 A6 PR (Instr.loadAt 155 t26) fun t27 =>
 M7 PR X t0 [t21, t27] fun t28 =>
 A0 PR (Op.unary .not t28) fun t29 =>
 C3 t29 (
 R (.tuple #[])) (
 J2)) fun J3 =>
 C3 t14 (
 J3) (
 R (.tuple #[]))) (.int .i64 0)
theorem B2T : A9 PR 199 := A7 Tryz.func199 (by kernel_rfl) rfl
theorem B3E {X : Nat → Prop} {t0 t1 t2 : Value} {R : Value → WP} {w : World} (h : A53 X t0 t1 t2 R w) : Fn PR X 199 #[t0, t1, t2] w R := C4 (args := [t0, t1, t2]) mixed Tryz.func199 (by kernel_rfl) h
theorem B33 {X : Nat → Prop} {t0 t1 t2 : Value} {K : Value → WP} {w : World} (h : Fn PR X 199 #[t0, t1, t2] w K) : A06 PR X 199 [t0, t1, t2] K w := ⟨B2T, h⟩
def A9L (X : Nat → Prop) (t0 t1 : Value) (R : Value → WP) : WP :=
 jn (n := 1) (fun t4 =>
 B7 PR X 115 [t0] fun t8 =>
 A0 PR (convert 3 208 t1) fun t10 =>
 A0 PR (binOp .rem 208 t8 t10) fun t11 =>
 A0 PR (convert 208 3 t11) fun t12 =>
 R t12) fun J1 =>
 A0 PR (binOp .lss 3 t1 (.int .i64 1)) fun t6 =>
 C3 t6 (
 R (.int .i64 0)) (
 J1 (.int .i64 0))
theorem B4C : A9 PR 200 := A7 Tryz.func200 (by kernel_rfl) rfl
theorem B5w {X : Nat → Prop} {t0 t1 : Value} {R : Value → WP} {w : World} (h : A9L X t0 t1 R w) : Fn PR X 200 #[t0, t1] w R := C4 (args := [t0, t1]) mixed Tryz.func200 (by kernel_rfl) h
end Go.Proofs.YtpnidmkaobfhiaaGreat
namespace Go.Proofs.YtpnidmkaobfhiaaGreat
open Go
def B3r (X : Nat → Prop) (t0 : Value) (R : Value → WP) : WP :=
 B7 PR X 147 [(.int .u64 14695981039346656037), t0] fun t4 =>
 R t4
theorem A26 : A9 PR 115 := A7 Tryz.func115 (by kernel_rfl) rfl
theorem C0Y {X : Nat → Prop} {t0 : Value} {R : Value → WP} {w : World} (h : B3r X t0 R w) : Fn PR X 115 #[t0] w R := C4 (args := [t0]) mixed Tryz.func115 (by kernel_rfl) h
def B1u (X : Nat → Prop) (t0 t1 : Value) (R : Value → WP) : WP :=
 B4 PR X (Instr.alloc 314 true (.tuple #[])) fun t5 =>
 B4 PR X (Instr.alloc 316 true (.tuple #[])) fun t6 =>
 B9 PR X (Instr.storeAt 314 t5 (.func (.func 177) #[] #[])) <|
 B9 PR X (Instr.storeAt 316 t6 t0) <|
 jn (n := 0) (
 A6 PR (Instr.loadAt 316 t6) fun t16 =>
 j9 (R t16)) fun J1 =>
 B7 PR X 178 [t1] fun t10 =>
 rng (N := 1) PR X (fun t11 K2 =>
 bgn <|
 A6 PR (Instr.loadAt 314 t5) fun t12 =>
 A6 PR (Instr.loadAt 316 t6) fun t13 =>
 M7 PR (fun _ => False) t12 [t13, t11] fun t15 =>
 B9 PR (fun _ => False) (Instr.storeAt 316 t6 t15) <|
 K2 none) t10 (fun j => match j with | none => (J1) | some (.exit i) => (match Nat.beq i 0 with | true => (J1) | false => (H2)) | some .ret => (j9 (R (.int .u64 0))) | some _ => H2)
theorem B0l : A9 PR 147 := A7 Tryz.func147 (by kernel_rfl) rfl
theorem B8s {X : Nat → Prop} {t0 t1 : Value} {R : Value → WP} {w : World} (h : B1u X t0 t1 R w) : Fn PR X 147 #[t0, t1] w R := C4 (args := [t0, t1]) mixed Tryz.func147 (by kernel_rfl) h
def A7j (X : Nat → Prop) (t0 t1 : Value) (R : Value → WP) : WP :=
 A0 PR (convert 5 316 t1) fun t7 =>
 A0 PR (binOp .xor 316 t0 t7) fun t8 =>
 A0 PR (binOp .mul 316 t8 (.int .u64 1099511628211)) fun t9 =>
 R t9
theorem B3e : A9 PR 177 := A7 Tryz.func177 (by kernel_rfl) rfl
theorem B4n {X : Nat → Prop} {t0 t1 : Value} {R : Value → WP} {w : World} (h : A7j X t0 t1 R w) : Fn PR X 177 #[t0, t1] w R := C4 (args := [t0, t1]) mixed Tryz.func177 (by kernel_rfl) h
def B1k (X : Nat → Prop) (t0 : Value) (R : Value → WP) : WP :=
 B4 PR X (Instr.box 9 t0) fun t1 =>
 A0 PR (Instr.makeFunc (.func 198) #[] #[t1]) fun t3 =>
 R t3
theorem B8A : A9 PR 178 := A7 Tryz.func178 (by kernel_rfl) rfl
theorem B8k {X : Nat → Prop} {t0 : Value} {R : Value → WP} {w : World} (h : B1k X t0 R w) : Fn PR X 178 #[t0] w R := C4 (args := [t0]) mixed Tryz.func178 (by kernel_rfl) h
def A65 (X : Nat → Prop) (t0 t1 : Value) (R : Value → WP) : WP :=
 A6 PR (Instr.loadAt 9 t1) fun t4 =>
 A0 PR (A8 .len #[9] 0 [t4]) fun t5 =>
 lp (n := 1) (fun L1 t6 =>
 A0 PR (binOp .lss 3 t6 t5) fun t7 =>
 jn (n := 0) (
 jn (n := 0) (
 A0 PR (binOp .add 3 t6 (.int .i64 1)) fun t15 =>
 L1 t15) fun J2 =>
 A6 PR (Instr.loadAt 9 t1) fun t10 =>
 A0 PR (Instr.index 9 t10 t6) fun t12 =>
 M7 PR X t0 [t12] fun t13 =>
 A0 PR (Op.unary .not t13) fun t14 =>
 C3 t14 (
 R (.tuple #[])) (
 J2)) fun J3 =>
 C3 t7 (
 J3) (
 R (.tuple #[]))) (.int .i64 0)
theorem B3v : A9 PR 198 := A7 Tryz.func198 (by kernel_rfl) rfl
theorem B43 {X : Nat → Prop} {t0 t1 : Value} {R : Value → WP} {w : World} (h : A65 X t0 t1 R w) : Fn PR X 198 #[t0, t1] w R := C4 (args := [t0, t1]) mixed Tryz.func198 (by kernel_rfl) h
theorem B4T {X : Nat → Prop} {t0 t1 : Value} {K : Value → WP} {w : World} (h : Fn PR X 198 #[t0, t1] w K) : A06 PR X 198 [t0, t1] K w := ⟨B3v, h⟩
end Go.Proofs.YtpnidmkaobfhiaaGreat
namespace Go.Proofs.YtpnidmkaobfhiaaGreat
open Go
def B4q (h b : Nat) : Nat := ((h ^^^ b) * 1099511628211) % 18446744073709551616
def B4e (h : Nat) (s : ByteArray) : Nat → Nat
 | 0 => h
 | i + 1 => B4q (B4e h s i) (F4 s i)
def C1b (h : Nat) (s : ByteArray) : Nat := B4e h s s.size
def r7 (s : ByteArray) : Nat := C1b 14695981039346656037 s
theorem C7y (h b : Nat) : B4q h b < 2 ^ 64 := by unfold B4q; omega
theorem B9T {h : Nat} (hh : h < 2 ^ 64) (s : ByteArray) (i : Nat) : B4e h s i < 2 ^ 64 := by
 cases i with
 | zero => exact hh
 | succ i => exact C7y _ _
theorem D0m (w : World) (h b : Nat) (hh : h < 2 ^ 64) (hb : b < 256) : Fn PR B6 177 #[.int .u64 (h : Int), .int .u8 (b : Int)] w (fun v w' => v = .int .u64 (B4q h b : Nat) ∧ C6 [] w w') := by
 refine Fn.pure (B4n (TW.go (κ := false) (S := []) ?_))
 unfold A7j
 (have zz:=trivial;repeat((first|clear zz|with_reducible first|refine A3 ?_|refine A5 fun _=>?_|refine A4 fun _=>?_);try simp(disch:=first|omega|assumption|((repeat(first|exact A1|exact uH|apply A2|apply uT));first|done|fail)|(simp;first|done|omega|fail))[]))
 have e1 : (h % 2 ^ IntKind.u64.bits ^^^ b % 2 ^ IntKind.u64.bits) = h ^^^ b := by rw [show (2 : Nat) ^ IntKind.u64.bits = 2 ^ 64 from rfl, Nat.mod_eq_of_lt hh, Nat.mod_eq_of_lt (by omega)]
 have e2 : h ^^^ b < 2 ^ 64 := Nat.xor_lt_two_pow hh (by omega)
 rw [e1, A2q (n := ((h ^^^ b : Nat) : Int)) (by omega) (by omega)]
 refine B0 ?_
 have e3 : IntKind.u64.wrap (((h ^^^ b : Nat) : Int) * 1099511628211) = (B4q h b : Nat) := by
  simp only [IntKind.wrap, IntKind.bits, IntKind.signed, B4q]
  simp
 rw [e3]
abbrev C6P (b : Nat) : Value := .func (.func 198) #[] #[.pointer (some ⟨b, 0, none⟩)]
theorem C7l (w : World) (s : ByteArray) : Fn PR B6 178 #[.string s] w (Rn [] w (fun b v => v = C6P b) fun b => [.pt b (.cells #[.string s] 9)]) := by
 refine B8k (TW.go (κ := false) (S := []) ?_)
 unfold B1k
 (have zz:=trivial;repeat((first|clear zz|with_reducible first|refine A3 ?_|refine A5 fun _=>?_|refine A4 fun _=>?_);try simp(disch:=first|omega|assumption|((repeat(first|exact A1|exact uH|apply A2|apply uT));first|done|fail)|(simp;first|done|omega|fail))[]))
 rename_i b
 exact v8 b rfl (by simp)
def B6e (s : ByteArray) (i : Nat) : List Value := [.int .u8 (F4 s i : Nat)]
theorem C7c (b : Nat) (s : ByteArray) (hs : s.size < 2 ^ 60) : A4H (C6P b) [.pt b (.cells #[.string s] 9)] (fun _ _ => True) ((List.range s.size).map (B6e s)) := by
 refine ⟨_, _, _, rfl, fun l J E hJ hE stJ stE hy w0 h0 => ?_⟩
 refine B4T (B43 (TW.at (κ := true) ?_ (hJ _ _ _ h0).1))
 unfold A65
 (have zz:=trivial;repeat((first|clear zz|with_reducible first|refine A3 ?_|refine A5 fun _=>?_|refine A4 fun _=>?_);try simp(disch:=first|omega|assumption|((repeat(first|exact A1|exact uH|apply A2|apply uT));first|done|fail)|(simp;first|done|omega|fail))[]))
 refine A3D s.size (fun i => i) (fun _ => _) hJ stJ h0 fun i a hi hJi _ L hL => ?_
 by_cases hlt : i < s.size
 ·obtain ⟨by0, hb0, hb1⟩ := A00 (s := s) (i := i) hlt
  have hb0' : s[((i : Nat) : Int).toNat]? = some by0 := by rw [Int.toNat_natCast]; exact hb0
  (have zz:=trivial;repeat((first|clear zz|with_reducible first|refine A3 ?_|refine A5 fun _=>?_|refine A4 fun _=>?_);try simp(disch:=first|omega|assumption|((repeat(first|exact A1|exact uH|apply A2|apply uT));first|done|fail)|(simp;first|done|omega|fail))[hlt, g6]))
  rw [hb1]
  refine A5U hJ hE stJ hy hJi (by simpa using hlt) (by simp [B6e]) (fun w3 h => ?_) (fun w3 h => ?_)
  ·(have zz:=trivial;repeat((first|clear zz|with_reducible first|refine A3 ?_|refine A5 fun _=>?_|refine A4 fun _=>?_);try simp(disch:=first|omega|assumption|((repeat(first|exact A1|exact uH|apply A2|apply uT));first|done|fail)|(simp;first|done|omega|fail))[]))
   exact fun w' hw' => hL hlt w' (stJ _ _ _ _ _ h hw')
  ·(have zz:=trivial;repeat((first|clear zz|with_reducible first|refine A3 ?_|refine A5 fun _=>?_|refine A4 fun _=>?_);try simp(disch:=first|omega|assumption|((repeat(first|exact A1|exact uH|apply A2|apply uT));first|done|fail)|(simp;first|done|omega|fail))[]))
   exact A3W stE h
 ·obtain rfl : i = s.size := by omega
  (have zz:=trivial;repeat((first|clear zz|with_reducible first|refine A3 ?_|refine A5 fun _=>?_|refine A4 fun _=>?_);try simp(disch:=first|omega|assumption|((repeat(first|exact A1|exact uH|apply A2|apply uT));first|done|fail)|(simp;first|done|omega|fail))[]))
  exact A29 stJ (by simpa using hJi)
theorem B9w (w : World) (h : Nat) (s : ByteArray) (hh : h < 2 ^ 64) (hs : s.size < 2 ^ 60) : Fn PR B6 147 #[.int .u64 (h : Int), .string s] w (fun v w' => v = .int .u64 (C1b h s : Nat) ∧ C6 [] w w') := by
 refine Fn.pure (B8s (TW.go (κ := false) (S := []) ?_))
 unfold B1u
 (have zz:=trivial;repeat((first|clear zz|with_reducible first|refine A3 ?_|refine A5 fun _=>?_|refine A4 fun _=>?_);try simp(disch:=first|omega|assumption|((repeat(first|exact A1|exact uH|apply A2|apply uT));first|done|fail)|(simp;first|done|omega|fail))[]))
 rename_i bf bx
 refine H9 B8A (fun w' _ => C7l w' s) ?_
 rintro b v rfl
 refine A28 (C7c b s hs) (by simp [B6e]) (fun _ (_ : Unit) => True) (fun i _ => [.pt bx (.cells #[.int .u64 ((B4e h s i : Nat) : Int)] 316), .pt bf (.cells #[.func (.func 177) #[] #[]] 314)])
  (fun _ (_ : Unit) => False) (fun _ => []) () trivial ?_ ?_ ?_ ?_ (by simp [B4e])
 ·intros; trivial
 ·rintro i hi _ F _ K' hK _
  simp only [List.getElem_map, List.getElem_range, B6e, VF.app]
  (have zz:=trivial;repeat((first|clear zz|with_reducible first|refine A3 ?_|refine A5 fun _=>?_|refine A4 fun _=>?_);try simp(disch:=first|omega|assumption|((repeat(first|exact A1|exact uH|apply A2|apply uT));first|done|fail)|(simp;first|done|omega|fail))[]))
  refine C8 B3e (fun w' _ => D0m w' _ _ (B9T hh s i) (A1b s i)) ?_
  (have zz:=trivial;repeat((first|clear zz|with_reducible first|refine A3 ?_|refine A5 fun _=>?_|refine A4 fun _=>?_);try simp(disch:=first|omega|assumption|((repeat(first|exact A1|exact uH|apply A2|apply uT));first|done|fail)|(simp;first|done|omega|fail))[]))
  exact TW.eqH (by simp [B4e]) (hK () trivial)
 ·rintro _ _
  (have zz:=trivial;repeat((first|clear zz|with_reducible first|refine A3 ?_|refine A5 fun _=>?_|refine A4 fun _=>?_);try simp(disch:=first|omega|assumption|((repeat(first|exact A1|exact uH|apply A2|apply uT));first|done|fail)|(simp;first|done|omega|fail))[]))
  exact B0 (by simp [C1b])
 ·rintro _ _ h; exact h.elim
theorem A5p (w : World) (s : ByteArray) (hs : s.size < 2 ^ 60) : Fn PR B6 115 #[.string s] w (fun v w' => v = .int .u64 (r7 s : Nat) ∧ C6 [] w w') := by
 refine Fn.pure (C0Y (TW.go (κ := false) (S := []) ?_))
 unfold B3r
 refine C8 B0l (fun w' _ => B9w w' 14695981039346656037 s (by omega) hs) ?_
 exact B0 rfl
end Go.Proofs.YtpnidmkaobfhiaaGreat
namespace Go.Proofs.YtpnidmkaobfhiaaGreat
open Go
def Q1 (key : ByteArray) (n : Nat) : Nat := r7 key % n
theorem B39 (s : ByteArray) : r7 s < 2 ^ 64 := B9T (by omega) s _
theorem C62 (w : World) (key : ByteArray) (n : Nat) (hk : key.size < 2 ^ 60) (hn : n ≤ 1000000) : Fn PR B6 200 #[.string key, .int .i64 (n : Int)] w (fun v w' => v = .int .i64 (if n = 0 then 0 else Q1 key n : Nat) ∧ C6 [] w w') := by
 refine Fn.pure (B5w (TW.go (κ := false) (S := []) ?_))
 unfold A9L
 by_cases c1 : n = 0
 ·have c1' : (n : Int) < 1 := by omega
  (have zz:=trivial;repeat((first|clear zz|with_reducible first|refine A3 ?_|refine A5 fun _=>?_|refine A4 fun _=>?_);try simp(disch:=first|omega|assumption|((repeat(first|exact A1|exact uH|apply A2|apply uT));first|done|fail)|(simp;first|done|omega|fail))[c1']))
  exact B0 (by simp [c1])
 have c1' : ¬ (n : Int) < 1 := by omega
 have c1'' : ¬ (n : Int) = 0 := by omega
 (have zz:=trivial;repeat((first|clear zz|with_reducible first|refine A3 ?_|refine A5 fun _=>?_|refine A4 fun _=>?_);try simp(disch:=first|omega|assumption|((repeat(first|exact A1|exact uH|apply A2|apply uT));first|done|fail)|(simp;first|done|omega|fail))[c1']))
 refine C8 A26 (fun w' _ => A5p w' key hk) ?_
 have hl := B39 key
 have hm : Q1 key n < n := Nat.mod_lt _ (by omega)
 have e1 : ((r7 key : Nat) : Int).tmod n = (Q1 key n : Nat) := by unfold Q1; rw [Int.tmod_eq_emod_of_nonneg (by omega)]; omega
 have e2 : ((r7 key : Nat) : Int) % n = (Q1 key n : Nat) := by unfold Q1; omega
 (have zz:=trivial;repeat((first|clear zz|with_reducible first|refine A3 ?_|refine A5 fun _=>?_|refine A4 fun _=>?_);try simp(disch:=first|omega|assumption|((repeat(first|exact A1|exact uH|apply A2|apply uT));first|done|fail)|(simp;first|done|omega|fail))[c1'', e1, y4]))
 exact B0 (by simp [c1])
def noE : EnV := ⟨0, Z1, 0, 0⟩
def Y0 (l : List EnV) (key : ByteArray) : List (Nat × EnV) := (List.range l.length).map fun i => ((Q1 key l.length + i) % l.length, l.getD ((Q1 key l.length + i) % l.length) noE)
def A7w (p : Nat × EnV) : List Value := [.int .i64 (p.1 : Nat), .agg #[.int .i64 p.2.st, .string p.2.key, .int .i64 p.2.bk, .int .i64 p.2.dl]]
abbrev C8L (x : Nat × Nat) : Value := .func (.func 199) #[] #[.pointer (some ⟨x.1, 0, none⟩), .pointer (some ⟨x.2, 0, none⟩)]
abbrev B7Z (x : Nat × Nat) (v : Value) (key : ByteArray) : List Res := [.pt x.1 (.cells #[.string key] 9), .pt x.2 (.cells #[v] 55)]
theorem C2x (w : World) (v : Value) (key : ByteArray) (hv : ∃ a n c, v = .slice a n c) : Fn PR B6 179 #[v, .string key] w (Rn [] w (fun x u => u = C8L x) fun x => B7Z x v key) := by
 obtain ⟨a, n, c, rfl⟩ := hv
 refine B7K (TW.go (κ := false) (S := []) ?_)
 unfold B0f
 (have zz:=trivial;repeat((first|clear zz|with_reducible first|refine A3 ?_|refine A5 fun _=>?_|refine A4 fun _=>?_);try simp(disch:=first|omega|assumption|((repeat(first|exact A1|exact uH|apply A2|apply uT));first|done|fail)|(simp;first|done|omega|fail))[]))
 rename_i b1 b2
 exact B1 (b2, b1) rfl (by (repeat' constructor))
def RqS (v : Value) (n : Nat) (xs : List Value) (F : List Res) (w : World) : Prop := ∃ a c, v = .slice a n c ∧ (0 < n → ∃ b o, a = some ⟨b, o, none⟩ ∧ N6 w b o xs ∧ b ∉ B2 F)
theorem RqS.of {v : Value} {n : Nat} {xs : List Value} {w0 w : World} {A F : List Res} (h : E2 w0 v n xs) (hx : 0 < n → 0 < xs.length) (hw : LW false [] w0 (A ++ F) w) : RqS v n xs F w := by
 obtain ⟨a, c, rfl, hr⟩ := h.form
 refine ⟨a, c, rfl, fun hn => ?_⟩
 obtain ⟨b, o, rfl, hrow⟩ := hr hn
 refine ⟨b, o, rfl, hw.ks.row (by simp) hrow, hw.notin_old ?_ (by simp)⟩
 have h0 := hrow 0 (hx hn)
 rw [List.getElem?_eq_getElem (hx hn)] at h0
 obtain ⟨c', t', z', h1, h2⟩ := n5 h0
 exact K7 h1
theorem A0A (l : List EnV) : (l.flatMap F1).length = l.length * 4 := by
 induction l with
 | nil => rfl
 | cons x l ih => rw [List.flatMap_cons, List.length_append, ih]; simp [F1]; omega
theorem C1r (x : Nat × Nat) (v : Value) (l : List EnV) (key : ByteArray) (hk : key.size < 2 ^ 60) (hn : l.length ≤ 1000000) : A4H (C8L x) (B7Z x v key) (RqS v l.length (l.flatMap F1)) ((Y0 l key).map A7w) := by
 obtain ⟨bk, bt⟩ := x
 refine ⟨_, _, _, rfl, fun y J E hJ hE stJ stE hy w0 h0 => ?_⟩
 obtain ⟨a, c, hv, hr⟩ := (hJ _ _ _ h0).2
 subst hv
 refine B33 (B3E (TW.at (κ := true) ?_ (hJ _ _ _ h0).1))
 unfold A53
 simp only [B7Z]
 (have zz:=trivial;repeat((first|clear zz|with_reducible first|refine A3 ?_|refine A5 fun _=>?_|refine A4 fun _=>?_);try simp(disch:=first|omega|assumption|((repeat(first|exact A1|exact uH|apply A2|apply uT));first|done|fail)|(simp;first|done|omega|fail))[]))
 refine C8 B4C (fun w' _ => C62 w' key l.length hk hn) ?_
 (have zz:=trivial;repeat((first|clear zz|with_reducible first|refine A3 ?_|refine A5 fun _=>?_|refine A4 fun _=>?_);try simp(disch:=first|omega|assumption|((repeat(first|exact A1|exact uH|apply A2|apply uT));first|done|fail)|(simp;first|done|omega|fail))[]))
 refine A3D l.length (fun i => i) (fun _ => _) hJ stJ h0 fun i a' hi hJi hRi L hL => ?_
 by_cases hlt : i < l.length
 ·obtain ⟨_, _, hv, hr⟩ := hRi
  obtain ⟨b, o, hb, hrow, hnb⟩ := hr (by omega)
  cases hv
  have hh : Q1 key l.length < l.length := Nat.mod_lt _ (by omega)
  have e0 : (if l.length = 0 then 0 else Q1 key l.length) = Q1 key l.length := if_neg (by omega)
  have hj : (Q1 key l.length + i) % l.length < l.length := Nat.mod_lt _ (by omega)
  have hx : l[(Q1 key l.length + i) % l.length]? = some (l.getD ((Q1 key l.length + i) % l.length) noE) := by
   rw [List.getD_eq_getElem?_getD, List.getElem?_eq_getElem hj]; rfl
  have h1 := hrow.at (f := F1) (k := 4) (fun _ => rfl) hx
  have e1 : (((Q1 key l.length : Nat) : Int) + (i : Nat)).tmod l.length = ((Q1 key l.length + i) % l.length : Nat) := by rw [Int.tmod_eq_emod_of_nonneg (by omega), Int.natCast_emod, Int.natCast_add]
  have hwi : ∀ h, ((Y0 l key).map A7w)[i]'h = A7w ((Q1 key l.length + i) % l.length, l.getD ((Q1 key l.length + i) % l.length) noE) := by
   intro h; simp only [List.getElem_map, Y0, List.getElem_range]
  generalize hjd : (Q1 key l.length + i) % l.length = j at *
  generalize hxd : l.getD j noE = x at *
  rw [F1] at h1
  have hnz : ¬ (l.length : Int) = 0 := by omega
  subst hb
  rw [e0]
  (have zz:=trivial;repeat((first|clear zz|with_reducible first|refine A3 ?_|refine A5 fun _=>?_|refine A4 fun _=>?_);try simp(disch:=first|omega|assumption|((repeat(first|exact A1|exact uH|apply A2|apply uT));first|done|fail)|(simp;first|done|omega|fail))[hlt, e1, h1, hnz, y4]))
  refine A5U hJ hE stJ hy hJi (by simpa [Y0] using hlt) (hwi _) (fun w3 h => ?_) (fun w3 h => ?_)
  ·(have zz:=trivial;repeat((first|clear zz|with_reducible first|refine A3 ?_|refine A5 fun _=>?_|refine A4 fun _=>?_);try simp(disch:=first|omega|assumption|((repeat(first|exact A1|exact uH|apply A2|apply uT));first|done|fail)|(simp;first|done|omega|fail))[]))
   exact fun w' hw' => hL hlt w' (stJ _ _ _ _ _ h hw')
  ·(have zz:=trivial;repeat((first|clear zz|with_reducible first|refine A3 ?_|refine A5 fun _=>?_|refine A4 fun _=>?_);try simp(disch:=first|omega|assumption|((repeat(first|exact A1|exact uH|apply A2|apply uT));first|done|fail)|(simp;first|done|omega|fail))[]))
   exact A3W stE h
 ·obtain rfl : i = l.length := by omega
  (have zz:=trivial;repeat((first|clear zz|with_reducible first|refine A3 ?_|refine A5 fun _=>?_|refine A4 fun _=>?_);try simp(disch:=first|omega|assumption|((repeat(first|exact A1|exact uH|apply A2|apply uT));first|done|fail)|(simp;first|done|omega|fail))[]))
  exact A29 stJ (by simpa [Y0] using hJi)
def M0 (key : ByteArray) : List (Nat × EnV) → Int
 | [] => -1
 | p :: r => if p.2.st = 0 then -1 else if p.2.st = 1 ∧ p.2.key = key then p.1 else M0 key r
def E4 (l : List EnV) (key : ByteArray) : Int := M0 key (Y0 l key)
theorem B41 {α : Type} {l : List α} {i : Nat} (h : i < l.length) : l.drop i = l[i] :: l.drop (i + 1) := List.drop_eq_getElem_cons h
theorem B2C (L : List (Nat × EnV)) : ∀ x ∈ L.map A7w, x.length = 2 := by
 intro x hx; obtain ⟨p, _, rfl⟩ := List.mem_map.1 hx; rfl
theorem A2A (w : World) (v : Value) (l : List EnV) (key : ByteArray) (hk : key.size < 2 ^ 60) (hn : l.length ≤ 1000000) (hv : E2 w v l.length (l.flatMap F1)) :
  Fn PR B6 148 #[v, .string key] w (fun r w' => r = .int .i64 (E4 l key) ∧ C6 [] w w') := by
 refine Fn.pure (B6Q (TW.go (κ := false) (S := []) ?_))
 unfold A9F
 (have zz:=trivial;repeat((first|clear zz|with_reducible first|refine A3 ?_|refine A5 fun _=>?_|refine A4 fun _=>?_);try simp(disch:=first|omega|assumption|((repeat(first|exact A1|exact uH|apply A2|apply uT));first|done|fail)|(simp;first|done|omega|fail))[]))
 rename_i bk bf
 refine H9 A9N (fun w' _ => C2x w' v key (by obtain ⟨a, c, rfl, _⟩ := hv.form; exact ⟨a, _, c, rfl⟩)) ?_
 rintro x u rfl
 refine A28 (C1r x v l key hk hn) (B2C _) (fun i (_ : Unit) => M0 key ((Y0 l key).drop i) = E4 l key) (fun _ _ => [.pt bf (.cells #[.int .i64 (-1)] 3), .pt bk (.cells #[.string key] 9)])
  (fun c (y : Unit) => c = .exit 0) (fun y => [.pt bf (.cells #[.int .i64 (E4 l key)] 3)]) () rfl ?_ ?_ ?_ ?_ (by simp [B7Z])
 ·intro i _ F w1 _ hw
  exact RqS.of hv (fun h => by rw [A0A]; omega) hw
 ·rintro i hi _ F hψ K' hK hE
  have hi' : i < (Y0 l key).length := by simpa using hi
  rw [B41 hi'] at hψ
  simp only [List.getElem_map]
  generalize (Y0 l key)[i] = p at *
  simp only [A7w, VF.app]
  by_cases c0 : p.2.st = 0
  ·(have zz:=trivial;repeat((first|clear zz|with_reducible first|refine A3 ?_|refine A5 fun _=>?_|refine A4 fun _=>?_);try simp(disch:=first|omega|assumption|((repeat(first|exact A1|exact uH|apply A2|apply uT));first|done|fail)|(simp;first|done|omega|fail))[c0]))
   refine TW.sub (hE (.exit 0) () rfl) ?_
   rw [← hψ]
   simp only [M0, c0, if_true]
   ((try simp only [List.cons_append, List.nil_append, List.append_assoc]); (repeat (first | exact List.Sublist.refl _ | exact List.nil_sublist _ | with_reducible apply List.Sublist.cons_cons | apply List.Sublist.cons)); first | done | fail)
  by_cases c1 : p.2.st = 1
  ·by_cases c2 : p.2.key = key
   ·(have zz:=trivial;repeat((first|clear zz|with_reducible first|refine A3 ?_|refine A5 fun _=>?_|refine A4 fun _=>?_);try simp(disch:=first|omega|assumption|((repeat(first|exact A1|exact uH|apply A2|apply uT));first|done|fail)|(simp;first|done|omega|fail))[c0, c1, c2]))
    refine TW.sub (hE (.exit 0) () rfl) ?_
    rw [← hψ]
    simp [M0, c1, c2]
    ((try simp only [List.cons_append, List.nil_append, List.append_assoc]); (repeat (first | exact List.Sublist.refl _ | exact List.nil_sublist _ | with_reducible apply List.Sublist.cons_cons | apply List.Sublist.cons)); first | done | fail)
   ·(have zz:=trivial;repeat((first|clear zz|with_reducible first|refine A3 ?_|refine A5 fun _=>?_|refine A4 fun _=>?_);try simp(disch:=first|omega|assumption|((repeat(first|exact A1|exact uH|apply A2|apply uT));first|done|fail)|(simp;first|done|omega|fail))[c0, c1, c2]))
    refine TW.sub (hK () ?_) (by ((try simp only [List.cons_append, List.nil_append, List.append_assoc]); (repeat (first | exact List.Sublist.refl _ | exact List.nil_sublist _ | with_reducible apply List.Sublist.cons_cons | apply List.Sublist.cons)); first | done | fail))
    rw [← hψ]
    simp [M0, c1, c2]
  ·(have zz:=trivial;repeat((first|clear zz|with_reducible first|refine A3 ?_|refine A5 fun _=>?_|refine A4 fun _=>?_);try simp(disch:=first|omega|assumption|((repeat(first|exact A1|exact uH|apply A2|apply uT));first|done|fail)|(simp;first|done|omega|fail))[c0, c1]))
   refine TW.sub (hK () ?_) (by ((try simp only [List.cons_append, List.nil_append, List.append_assoc]); (repeat (first | exact List.Sublist.refl _ | exact List.nil_sublist _ | with_reducible apply List.Sublist.cons_cons | apply List.Sublist.cons)); first | done | fail))
   rw [← hψ]
   simp [M0, c0, c1]
 ·intro _ hψ
  (have zz:=trivial;repeat((first|clear zz|with_reducible first|refine A3 ?_|refine A5 fun _=>?_|refine A4 fun _=>?_);try simp(disch:=first|omega|assumption|((repeat(first|exact A1|exact uH|apply A2|apply uT));first|done|fail)|(simp;first|done|omega|fail))[]))
  simp only [List.length_map, List.drop_length, M0] at hψ
  exact B0 (by rw [← hψ])
 ·rintro _ _ rfl
  (have zz:=trivial;repeat((first|clear zz|with_reducible first|refine A3 ?_|refine A5 fun _=>?_|refine A4 fun _=>?_);try simp(disch:=first|omega|assumption|((repeat(first|exact A1|exact uH|apply A2|apply uT));first|done|fail)|(simp;first|done|omega|fail))[]))
  exact B0 rfl
def S5 : List (Nat × EnV) → Int
 | [] => -1
 | p :: r => if p.2.st = 1 then S5 r else p.1
def d9 (l : List EnV) (key : ByteArray) : Int := if 0 ≤ E4 l key then -1 else S5 (Y0 l key)
theorem B8K (w : World) (v : Value) (l : List EnV) (key : ByteArray) (hk : key.size < 2 ^ 60) (hn : l.length ≤ 1000000) (hv : E2 w v l.length (l.flatMap F1)) :
  Fn PR B6 183 #[v, .string key] w (fun r w' => r = .int .i64 (d9 l key) ∧ C6 [] w w') := by
 refine Fn.pure (B53 (TW.go (κ := false) (S := []) ?_))
 unfold A9P
 (have zz:=trivial;repeat((first|clear zz|with_reducible first|refine A3 ?_|refine A5 fun _=>?_|refine A4 fun _=>?_);try simp(disch:=first|omega|assumption|((repeat(first|exact A1|exact uH|apply A2|apply uT));first|done|fail)|(simp;first|done|omega|fail))[]))
 rename_i bf
 refine C8 z6 (fun w' hw' => A2A w' v l key hk hn (hv.ks hw'.ks (by simp))) ?_
 by_cases c1 : 0 ≤ E4 l key
 ·(have zz:=trivial;repeat((first|clear zz|with_reducible first|refine A3 ?_|refine A5 fun _=>?_|refine A4 fun _=>?_);try simp(disch:=first|omega|assumption|((repeat(first|exact A1|exact uH|apply A2|apply uT));first|done|fail)|(simp;first|done|omega|fail))[c1]))
  exact B0 (by simp [d9, c1])
 have e1 : d9 l key = S5 (Y0 l key) := if_neg c1
 (have zz:=trivial;repeat((first|clear zz|with_reducible first|refine A3 ?_|refine A5 fun _=>?_|refine A4 fun _=>?_);try simp(disch:=first|omega|assumption|((repeat(first|exact A1|exact uH|apply A2|apply uT));first|done|fail)|(simp;first|done|omega|fail))[c1]))
 refine H9 A9N (fun w' _ => C2x w' v key (by obtain ⟨a, c, rfl, _⟩ := hv.form; exact ⟨a, _, c, rfl⟩)) ?_
 rintro x u rfl
 refine A28 (C1r x v l key hk hn) (B2C _) (fun i (_ : Unit) => S5 ((Y0 l key).drop i) = d9 l key) (fun _ _ => [.pt bf (.cells #[.int .i64 0] 3)])
  (fun c (y : Unit) => c = .ret) (fun y => [.pt bf (.cells #[.int .i64 (d9 l key)] 3)]) () (by rw [List.drop_zero, e1]) ?_ ?_ ?_ ?_ (by simp [B7Z])
 ·intro i _ F w1 _ hw
  exact RqS.of hv (fun h => by rw [A0A]; omega) hw
 ·rintro i hi _ F hψ K' hK hE
  have hi' : i < (Y0 l key).length := by simpa using hi
  rw [B41 hi'] at hψ
  simp only [List.getElem_map]
  generalize (Y0 l key)[i] = p at *
  simp only [A7w, VF.app]
  by_cases c1 : p.2.st = 1
  ·(have zz:=trivial;repeat((first|clear zz|with_reducible first|refine A3 ?_|refine A5 fun _=>?_|refine A4 fun _=>?_);try simp(disch:=first|omega|assumption|((repeat(first|exact A1|exact uH|apply A2|apply uT));first|done|fail)|(simp;first|done|omega|fail))[c1]))
   refine TW.sub (hK () ?_) (by ((try simp only [List.cons_append, List.nil_append, List.append_assoc]); (repeat (first | exact List.Sublist.refl _ | exact List.nil_sublist _ | with_reducible apply List.Sublist.cons_cons | apply List.Sublist.cons)); first | done | fail))
   rw [← hψ]
   simp [S5, c1]
  ·(have zz:=trivial;repeat((first|clear zz|with_reducible first|refine A3 ?_|refine A5 fun _=>?_|refine A4 fun _=>?_);try simp(disch:=first|omega|assumption|((repeat(first|exact A1|exact uH|apply A2|apply uT));first|done|fail)|(simp;first|done|omega|fail))[c1]))
   refine TW.sub (hE .ret () rfl) ?_
   rw [← hψ]
   simp only [S5, c1, if_false]
   ((try simp only [List.cons_append, List.nil_append, List.append_assoc]); (repeat (first | exact List.Sublist.refl _ | exact List.nil_sublist _ | with_reducible apply List.Sublist.cons_cons | apply List.Sublist.cons)); first | done | fail)
 ·intro _ hψ
  (have zz:=trivial;repeat((first|clear zz|with_reducible first|refine A3 ?_|refine A5 fun _=>?_|refine A4 fun _=>?_);try simp(disch:=first|omega|assumption|((repeat(first|exact A1|exact uH|apply A2|apply uT));first|done|fail)|(simp;first|done|omega|fail))[]))
  simp only [List.length_map, List.drop_length, S5] at hψ
  exact B0 (by rw [← hψ])
 ·rintro _ _ rfl
  (have zz:=trivial;repeat((first|clear zz|with_reducible first|refine A3 ?_|refine A5 fun _=>?_|refine A4 fun _=>?_);try simp(disch:=first|omega|assumption|((repeat(first|exact A1|exact uH|apply A2|apply uT));first|done|fail)|(simp;first|done|omega|fail))[]))
  exact B0 rfl
theorem C1c (w : World) (x : EnV) (st : Int) (b : Nat) (hb : w.cell? ⟨b, 0, none⟩ = some (.int .i64 st)) : Fn PR B6 157 #[.agg #[.int .i64 x.st, .string x.key, .int .i64 x.bk, .int .i64 x.dl], .pointer (some ⟨b, 0, none⟩)] w (fun r w' => r = .bool (decide (x.st = st)) ∧ C6 [] w w') := by
 refine Fn.pure (B1Z (TW.go (κ := false) (S := []) ?_))
 unfold A35
 (have zz:=trivial;repeat((first|clear zz|with_reducible first|refine A3 ?_|refine A5 fun _=>?_|refine A4 fun _=>?_);try simp(disch:=first|omega|assumption|((repeat(first|exact A1|exact uH|apply A2|apply uT));first|done|fail)|(simp;first|done|omega|fail))[hb]))
 exact B0 rfl
def P8 (l : List EnV) (st : Int) : Nat := l.countP fun x => decide (x.st = st)
theorem B86 {α : Type} {p : α → Bool} {l : List α} {i : Nat} {x : α} (hx : l[i]? = some x) : (l.take (i + 1)).countP p = (l.take i).countP p + if p x then 1 else 0 := by
 rw [List.take_add_one, hx, List.countP_append]; simp [List.countP_cons]
theorem C5P (w : World) (v : Value) (l : List EnV) (p : EnV → Bool) (f : FuncId) (cap : List Value) (hn : l.length ≤ 1000000) (hv : E2 w v l.length (l.flatMap F1)) (he : A9 PR f)
  (hf : ∀ w', KS false [] w w' → ∀ x : EnV, Fn PR B6 f (.agg #[.int .i64 x.st, .string x.key, .int .i64 x.bk, .int .i64 x.dl] :: cap).toArray w' (fun r w'' => r = .bool (p x) ∧ C6 [] w' w'')) :
  Fn PR B6 156 #[v, .func (.func f) #[] cap.toArray] w (fun r w' => r = .int .i64 (l.countP p : Nat) ∧ C6 [] w w') := by
 refine Fn.pure (A4r (TW.go (κ := false) (S := []) ?_))
 unfold w9
 obtain ⟨a, c, rfl, hr⟩ := hv.form
 (have zz:=trivial;repeat((first|clear zz|with_reducible first|refine A3 ?_|refine A5 fun _=>?_|refine A4 fun _=>?_);try simp(disch:=first|omega|assumption|((repeat(first|exact A1|exact uH|apply A2|apply uT));first|done|fail)|(simp;first|done|omega|fail))[]))
 refine w7 (α := Unit) l.length (fun i _ => .int .i64 ((l.take i).countP p : Nat)) (fun _ _ => []) (fun i _ => True) () trivial ?_
 rintro i _ hi _ L hL
 by_cases hlt : i < l.length
 ·obtain ⟨b, o, rfl, hrow⟩ := hr (by omega)
  obtain ⟨x, hx⟩ : ∃ x, l[i]? = some x := ⟨_, List.getElem?_eq_getElem (by omega)⟩
  have h1 := hrow.at (f := F1) (k := 4) (fun _ => rfl) hx
  rw [F1] at h1
  (have zz:=trivial;repeat((first|clear zz|with_reducible first|refine A3 ?_|refine A5 fun _=>?_|refine A4 fun _=>?_);try simp(disch:=first|omega|assumption|((repeat(first|exact A1|exact uH|apply A2|apply uT));first|done|fail)|(simp;first|done|omega|fail))[hlt, h1]))
  refine B4v he (φ := fun r => r = .bool (p x)) (fun w' hw' => by simpa using hf w' hw'.ks x) ?_
  rintro _ rfl
  have hc := B86 (p := p) hx
  have hle : (l.take i).countP p ≤ i := Nat.le_trans List.countP_le_length (by simp; omega)
  have hL' := hL hlt () trivial
  rw [hc] at hL'
  cases hb : p x with
  | true =>
   rw [hb] at hL'
   (have zz:=trivial;repeat((first|clear zz|with_reducible first|refine A3 ?_|refine A5 fun _=>?_|refine A4 fun _=>?_);try simp(disch:=first|omega|assumption|((repeat(first|exact A1|exact uH|apply A2|apply uT));first|done|fail)|(simp;first|done|omega|fail))[]))
   exact Sels.tw .nil (by simpa using hL')
  | false =>
   rw [hb] at hL'
   (have zz:=trivial;repeat((first|clear zz|with_reducible first|refine A3 ?_|refine A5 fun _=>?_|refine A4 fun _=>?_);try simp(disch:=first|omega|assumption|((repeat(first|exact A1|exact uH|apply A2|apply uT));first|done|fail)|(simp;first|done|omega|fail))[]))
   exact Sels.tw .nil (by simpa using hL')
 ·obtain rfl : i = l.length := by omega
  (have zz:=trivial;repeat((first|clear zz|with_reducible first|refine A3 ?_|refine A5 fun _=>?_|refine A4 fun _=>?_);try simp(disch:=first|omega|assumption|((repeat(first|exact A1|exact uH|apply A2|apply uT));first|done|fail)|(simp;first|done|omega|fail))[]))
  exact B0 rfl
theorem A8B (w : World) (v : Value) (l : List EnV) (st : Int) (hn : l.length ≤ 1000000) (hv : E2 w v l.length (l.flatMap F1)) :
  Fn PR B6 122 #[v, .int .i64 st] w (fun r w' => r = .int .i64 (P8 l st : Nat) ∧ C6 [] w w') := by
 refine Fn.pure (B4c (TW.go (κ := false) (S := []) ?_))
 unfold A7G
 (have zz:=trivial;repeat((first|clear zz|with_reducible first|refine A3 ?_|refine A5 fun _=>?_|refine A4 fun _=>?_);try simp(disch:=first|omega|assumption|((repeat(first|exact A1|exact uH|apply A2|apply uT));first|done|fail)|(simp;first|done|omega|fail))[]))
 rename_i b
 refine C8 A4G (fun w' hw' => C5P w' v l (fun x => decide (x.st = st)) 157 [.pointer (some ⟨b, 0, none⟩)] hn (hv.ks hw'.ks (by simp)) A9p
  fun w2 h x => C1c w2 x st b (h.cell (by simp) (hw'.cell1 (by (repeat constructor))))) ?_
 exact B0 rfl
end Go.Proofs.YtpnidmkaobfhiaaGreat
