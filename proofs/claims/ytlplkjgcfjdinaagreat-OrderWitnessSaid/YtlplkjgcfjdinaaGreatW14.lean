/- The proof of a given statement, a part of it (Packet Bytes Sl ShFnv Fnv Probe Flows Flows2 ShPoints Points). No condition but what each lemma says. -/
import Derived.Lib.SlBytesRow
import Derived.Test.YtlplkjgcfjdinaaGreatW13
set_option linter.unusedVariables false
set_option linter.unusedSimpArgs false
namespace Go.Proofs.YtlplkjgcfjdinaaGreat
open Go
structure KeyV where
 v : Int
 src : ByteArray
 dst : ByteArray
 fr : Int
 tp : Int
 proto : Int
 deriving DecidableEq
def KeyV.cs (k : KeyV) : List Value := [.int .i64 k.v, .string k.src, .string k.dst, .int .i64 k.fr, .int .i64 k.tp, .int .i64 k.proto]
def KeyV.val (k : KeyV) : Value := .agg #[.int .i64 k.v, .string k.src, .string k.dst, .int .i64 k.fr, .int .i64 k.tp, .int .i64 k.proto]
def noK : KeyV := ⟨0, V2, V2, 0, 0, 0⟩
def g8 (s : ByteArray) : KeyV × ByteArray × Nat :=
 if s.size = 0 then (noK, V2, 2) else if D4 s 0 / 16 = 4 then (⟨4, (q8 s).src, (q8 s).dst, 0, 0, (q8 s).proto⟩, (q8 s).rest, (q8 s).e)
 else if D4 s 0 / 16 = 6 then (⟨6, (k6 s).src, (k6 s).dst, 0, 0, (k6 s).proto⟩, (k6 s).rest, (k6 s).e) else (noK, V2, 3)
def keyed.val (x : KeyV × ByteArray × Nat) : Value := .tuple #[x.1.val, .string x.2.1, .int .i64 x.2.2]
theorem B43 (w : World) (src dst : ByteArray) (p : Int) : Fn PR B5 115 #[.agg #[.string src, .string dst, .int .i64 p]] w (fun v w' => v = KeyV.val ⟨4, src, dst, 0, 0, p⟩ ∧ C6 [] w w') := by
 refine Fn.pure (A5q (TW.go (κ := false) (S := []) ?_))
 unfold A0r
 (have zz:=trivial;repeat((first|clear zz|with_reducible first|refine A3 ?_|refine A5 fun _=>?_|refine A4 fun _=>?_);try simp(disch:=first|omega|assumption|((repeat(first|exact A1|exact uH|apply A2|apply uT));first|done|fail)|(simp;first|done|omega|fail))[]))
 exact B0 rfl
theorem B36 (w : World) (src dst : ByteArray) (p : Int) : Fn PR B5 118 #[.agg #[.string src, .string dst, .int .i64 p]] w (fun v w' => v = KeyV.val ⟨6, src, dst, 0, 0, p⟩ ∧ C6 [] w w') := by
 refine Fn.pure (A5z (TW.go (κ := false) (S := []) ?_))
 unfold A0v
 (have zz:=trivial;repeat((first|clear zz|with_reducible first|refine A3 ?_|refine A5 fun _=>?_|refine A4 fun _=>?_);try simp(disch:=first|omega|assumption|((repeat(first|exact A1|exact uH|apply A2|apply uT));first|done|fail)|(simp;first|done|omega|fail))[]))
 exact B0 rfl
theorem B70 (w : World) (s : ByteArray) (hs : s.size < 2 ^ 40) : Fn PR B5 113 #[.string s, .func (.func 114) #[] #[], .func (.func 115) #[] #[]] w
  (fun v w' => v = keyed.val (⟨4, (q8 s).src, (q8 s).dst, 0, 0, (q8 s).proto⟩, (q8 s).rest, (q8 s).e) ∧ C6 [] w w') := by
 refine Fn.pure (A17 (TW.go (κ := false) (S := []) ?_))
 unfold m9
 (have zz:=trivial;repeat((first|clear zz|with_reducible first|refine A3 ?_|refine A5 fun _=>?_|refine A4 fun _=>?_);try simp(disch:=first|omega|assumption|((repeat(first|exact A1|exact uH|apply A2|apply uT));first|done|fail)|(simp;first|done|omega|fail))[]))
 refine C7 B0v (fun w' _ => B26 w' s hs) ?_
 (have zz:=trivial;repeat((first|clear zz|with_reducible first|refine A3 ?_|refine A5 fun _=>?_|refine A4 fun _=>?_);try simp(disch:=first|omega|assumption|((repeat(first|exact A1|exact uH|apply A2|apply uT));first|done|fail)|(simp;first|done|omega|fail))[HeadV.val]))
 refine C7 A46 (fun w' _ => B43 w' _ _ _) ?_
 (have zz:=trivial;repeat((first|clear zz|with_reducible first|refine A3 ?_|refine A5 fun _=>?_|refine A4 fun _=>?_);try simp(disch:=first|omega|assumption|((repeat(first|exact A1|exact uH|apply A2|apply uT));first|done|fail)|(simp;first|done|omega|fail))[KeyV.val]))
 exact B0 (by simp [keyed.val, KeyV.val])
theorem B71 (w : World) (s : ByteArray) (hs : s.size < 2 ^ 40) : Fn PR B5 116 #[.string s, .func (.func 117) #[] #[], .func (.func 118) #[] #[]] w
  (fun v w' => v = keyed.val (⟨6, (k6 s).src, (k6 s).dst, 0, 0, (k6 s).proto⟩, (k6 s).rest, (k6 s).e) ∧ C6 [] w w') := by
 refine Fn.pure (A14 (TW.go (κ := false) (S := []) ?_))
 unfold n4
 (have zz:=trivial;repeat((first|clear zz|with_reducible first|refine A3 ?_|refine A5 fun _=>?_|refine A4 fun _=>?_);try simp(disch:=first|omega|assumption|((repeat(first|exact A1|exact uH|apply A2|apply uT));first|done|fail)|(simp;first|done|omega|fail))[]))
 refine C7 B0W (fun w' _ => B3C w' s hs) ?_
 (have zz:=trivial;repeat((first|clear zz|with_reducible first|refine A3 ?_|refine A5 fun _=>?_|refine A4 fun _=>?_);try simp(disch:=first|omega|assumption|((repeat(first|exact A1|exact uH|apply A2|apply uT));first|done|fail)|(simp;first|done|omega|fail))[HeadV.val]))
 refine C7 A47 (fun w' _ => B36 w' _ _ _) ?_
 (have zz:=trivial;repeat((first|clear zz|with_reducible first|refine A3 ?_|refine A5 fun _=>?_|refine A4 fun _=>?_);try simp(disch:=first|omega|assumption|((repeat(first|exact A1|exact uH|apply A2|apply uT));first|done|fail)|(simp;first|done|omega|fail))[KeyV.val]))
 exact B0 (by simp [keyed.val, KeyV.val])
theorem B9e (w : World) (v : Int) : Fn PR B5 93 #[.int .i64 v] w (fun u w' => u = .int .i64 (if v = 4 then 4 else if v = 6 then 16 else 0) ∧ C6 [] w w') := by
 refine Fn.pure (A9a (TW.go (κ := false) (S := []) ?_))
 unfold A3m
 by_cases c1 : v = 4
 ·(have zz:=trivial;repeat((first|clear zz|with_reducible first|refine A3 ?_|refine A5 fun _=>?_|refine A4 fun _=>?_);try simp(disch:=first|omega|assumption|((repeat(first|exact A1|exact uH|apply A2|apply uT));first|done|fail)|(simp;first|done|omega|fail))[c1])); exact B0 (by simp)
 by_cases c2 : v = 6
 ·(have zz:=trivial;repeat((first|clear zz|with_reducible first|refine A3 ?_|refine A5 fun _=>?_|refine A4 fun _=>?_);try simp(disch:=first|omega|assumption|((repeat(first|exact A1|exact uH|apply A2|apply uT));first|done|fail)|(simp;first|done|omega|fail))[c1, c2])); exact B0 (by simp)
 ·(have zz:=trivial;repeat((first|clear zz|with_reducible first|refine A3 ?_|refine A5 fun _=>?_|refine A4 fun _=>?_);try simp(disch:=first|omega|assumption|((repeat(first|exact A1|exact uH|apply A2|apply uT));first|done|fail)|(simp;first|done|omega|fail))[c1, c2])); exact B0 (by simp)
theorem B7b (w : World) (s : ByteArray) (hs : s.size < 2 ^ 40) : Fn PR B5 91 #[.string s] w (fun u w' => u = keyed.val (g8 s) ∧ C6 [] w w') := by
 refine Fn.pure (A8A (TW.go (κ := false) (S := []) ?_))
 unfold A2B
 by_cases c0 : s.size = 0
 ·have e : s = ByteArray.mk #[] := by
   apply ByteArray.ext; exact Array.eq_empty_of_size_eq_zero c0
  (have zz:=trivial;repeat((first|clear zz|with_reducible first|refine A3 ?_|refine A5 fun _=>?_|refine A4 fun _=>?_);try simp(disch:=first|omega|assumption|((repeat(first|exact A1|exact uH|apply A2|apply uT));first|done|fail)|(simp;first|done|omega|fail))[e]))
  exact B0 (by simp [g8, keyed.val, noK, KeyV.val])
 have c0' : ¬ s = ByteArray.mk #[] := fun e => c0 (by rw [e]; rfl)
 obtain ⟨by0, hb0, hb1⟩ := r4 (s := s) (i := 0) (by omega)
 have hb0' : s[(0 : Int).toNat]? = some by0 := hb0
 have hl0 := r8 s 0
 have e1 : ((by0.toNat : Nat) : Int).fdiv (2 ^ min 4 IntKind.u8.bits) = (D4 s 0 / 16 : Nat) := by rw [show (2 : Int) ^ min 4 IntKind.u8.bits = 16 from rfl, Int.fdiv_eq_ediv_of_nonneg _ (by omega), hb1]; omega
 by_cases c1 : D4 s 0 / 16 = 4
 ·have c1' : ((D4 s 0 : Nat) : Int) / 16 = 4 := by omega
  (have zz:=trivial;repeat((first|clear zz|with_reducible first|refine A3 ?_|refine A5 fun _=>?_|refine A4 fun _=>?_);try simp(disch:=first|omega|assumption|((repeat(first|exact A1|exact uH|apply A2|apply uT));first|done|fail)|(simp;first|done|omega|fail))[c0', V0]))
  rw [e1]
  (have zz:=trivial;repeat((first|clear zz|with_reducible first|refine A3 ?_|refine A5 fun _=>?_|refine A4 fun _=>?_);try simp(disch:=first|omega|assumption|((repeat(first|exact A1|exact uH|apply A2|apply uT));first|done|fail)|(simp;first|done|omega|fail))[c1', c1]))
  refine C7 A1q (fun w' _ => B70 w' s hs) ?_
  (have zz:=trivial;repeat((first|clear zz|with_reducible first|refine A3 ?_|refine A5 fun _=>?_|refine A4 fun _=>?_);try simp(disch:=first|omega|assumption|((repeat(first|exact A1|exact uH|apply A2|apply uT));first|done|fail)|(simp;first|done|omega|fail))[keyed.val, KeyV.val]))
  exact B0 (by simp [g8, keyed.val, KeyV.val, c0, c1])
 have c1' : ¬ ((D4 s 0 : Nat) : Int) / 16 = 4 := by omega
 by_cases c2 : D4 s 0 / 16 = 6
 ·have c2' : ((D4 s 0 : Nat) : Int) / 16 = 6 := by omega
  (have zz:=trivial;repeat((first|clear zz|with_reducible first|refine A3 ?_|refine A5 fun _=>?_|refine A4 fun _=>?_);try simp(disch:=first|omega|assumption|((repeat(first|exact A1|exact uH|apply A2|apply uT));first|done|fail)|(simp;first|done|omega|fail))[c0', V0]))
  rw [e1]
  (have zz:=trivial;repeat((first|clear zz|with_reducible first|refine A3 ?_|refine A5 fun _=>?_|refine A4 fun _=>?_);try simp(disch:=first|omega|assumption|((repeat(first|exact A1|exact uH|apply A2|apply uT));first|done|fail)|(simp;first|done|omega|fail))[c1', c1, c2', c2, V0]))
  refine C7 A1s (fun w' _ => B71 w' s hs) ?_
  (have zz:=trivial;repeat((first|clear zz|with_reducible first|refine A3 ?_|refine A5 fun _=>?_|refine A4 fun _=>?_);try simp(disch:=first|omega|assumption|((repeat(first|exact A1|exact uH|apply A2|apply uT));first|done|fail)|(simp;first|done|omega|fail))[keyed.val, KeyV.val]))
  exact B0 (by simp [g8, keyed.val, KeyV.val, c0, c1, c2])
 have c2' : ¬ ((D4 s 0 : Nat) : Int) / 16 = 6 := by omega
 (have zz:=trivial;repeat((first|clear zz|with_reducible first|refine A3 ?_|refine A5 fun _=>?_|refine A4 fun _=>?_);try simp(disch:=first|omega|assumption|((repeat(first|exact A1|exact uH|apply A2|apply uT));first|done|fail)|(simp;first|done|omega|fail))[c0', V0]))
 rw [e1]
 (have zz:=trivial;repeat((first|clear zz|with_reducible first|refine A3 ?_|refine A5 fun _=>?_|refine A4 fun _=>?_);try simp(disch:=first|omega|assumption|((repeat(first|exact A1|exact uH|apply A2|apply uT));first|done|fail)|(simp;first|done|omega|fail))[c1', c1, c2', c2, V0]))
 exact B0 (by simp [g8, keyed.val, KeyV.val, c0, c1, c2, noK])
def D1 (s : ByteArray) : KeyV × Nat × Nat :=
 let x := g8 s
 if x.2.2 ≠ 0 then (noK, 0, x.2.2) else let y := U6 x.1.proto x.2.1; if y.2.2.2 ≠ 0 then (noK, 0, y.2.2.2) else ({ x.1 with fr := y.1, tp := y.2.1 }, y.2.2.1, 0)
def Y9 (k : KeyV) (f : Int) : Value := .agg #[.int .i64 k.v, .string k.src, .string k.dst, .int .i64 k.fr, .int .i64 k.tp, .int .i64 k.proto, .int .i64 f]
def packet.val (x : KeyV × Nat × Nat) : Value := .tuple #[Y9 x.1 x.2.1, .int .i64 x.2.2]
theorem B5l (s : ByteArray) : (q8 s).rest.size ≤ s.size := by
 unfold q8; split
 ·simp only [ByteArray.size_extract]; omega
 ·simp [HeadV.err]
theorem B6k (s : ByteArray) : (k6 s).rest.size ≤ s.size := by
 unfold k6; split
 ·simp only [ByteArray.size_extract]; omega
 ·simp [HeadV.err]
theorem B21 (s : ByteArray) : (g8 s).2.1.size ≤ s.size := by
 unfold g8
 split
 ·simp
 split
 ·exact B5l s
 split
 ·exact B6k s
 ·simp
theorem A9e (w : World) (s : ByteArray) (hs : s.size < 2 ^ 40) : Fn PR B5 70 #[.string s] w (fun u w' => u = packet.val (D1 s) ∧ C6 [] w w') := by
 refine Fn.pure (A8m (TW.go (κ := false) (S := []) ?_))
 unfold A2l
 (have zz:=trivial;repeat((first|clear zz|with_reducible first|refine A3 ?_|refine A5 fun _=>?_|refine A4 fun _=>?_);try simp(disch:=first|omega|assumption|((repeat(first|exact A1|exact uH|apply A2|apply uT));first|done|fail)|(simp;first|done|omega|fail))[]))
 refine C7 A61 (fun w' _ => B7b w' s hs) ?_
 have hr := B21 s
 by_cases c1 : (g8 s).2.2 = 0
 ·(have zz:=trivial;repeat((first|clear zz|with_reducible first|refine A3 ?_|refine A5 fun _=>?_|refine A4 fun _=>?_);try simp(disch:=first|omega|assumption|((repeat(first|exact A1|exact uH|apply A2|apply uT));first|done|fail)|(simp;first|done|omega|fail))[keyed.val, KeyV.val, c1]))
  refine C7 A9F (fun w' _ => B1g w' _ (by omega) _) ?_
  by_cases c2 : (U6 (g8 s).1.proto (g8 s).2.1).2.2.2 = 0
  ·(have zz:=trivial;repeat((first|clear zz|with_reducible first|refine A3 ?_|refine A5 fun _=>?_|refine A4 fun _=>?_);try simp(disch:=first|omega|assumption|((repeat(first|exact A1|exact uH|apply A2|apply uT));first|done|fail)|(simp;first|done|omega|fail))[U6.val, c2]))
   exact B0 (by simp [D1, packet.val, Y9, KeyV.val, c1, c2])
  ·(have zz:=trivial;repeat((first|clear zz|with_reducible first|refine A3 ?_|refine A5 fun _=>?_|refine A4 fun _=>?_);try simp(disch:=first|omega|assumption|((repeat(first|exact A1|exact uH|apply A2|apply uT));first|done|fail)|(simp;first|done|omega|fail))[U6.val, c2]))
   exact B0 (by simp [D1, packet.val, Y9, KeyV.val, c1, c2, noK])
 ·(have zz:=trivial;repeat((first|clear zz|with_reducible first|refine A3 ?_|refine A5 fun _=>?_|refine A4 fun _=>?_);try simp(disch:=first|omega|assumption|((repeat(first|exact A1|exact uH|apply A2|apply uT));first|done|fail)|(simp;first|done|omega|fail))[keyed.val, KeyV.val, c1]))
  exact B0 (by simp [D1, packet.val, Y9, KeyV.val, c1, noK])
def j4 (k : KeyV) (f : Int) : Bool := decide (k.proto = 6) && !decide (IntKind.i64.wrap ((f % 2 ^ IntKind.i64.bits).toNat &&& 5 % 2 ^ IntKind.i64.bits : Nat) = 0)
theorem A8M (w : World) (k : KeyV) (f : Int) : Fn PR B5 74 #[Y9 k f] w (fun u w' => u = .bool (j4 k f) ∧ C6 [] w w') := by
 refine Fn.pure (A6T (TW.go (κ := false) (S := []) ?_))
 unfold A1D
 by_cases c0 : k.proto = 6
 ·(have zz:=trivial;repeat((first|clear zz|with_reducible first|refine A3 ?_|refine A5 fun _=>?_|refine A4 fun _=>?_);try simp(disch:=first|omega|assumption|((repeat(first|exact A1|exact uH|apply A2|apply uT));first|done|fail)|(simp;first|done|omega|fail))[Y9, KeyV.val, c0]))
  exact B0 (by simp [j4, c0])
 ·(have zz:=trivial;repeat((first|clear zz|with_reducible first|refine A3 ?_|refine A5 fun _=>?_|refine A4 fun _=>?_);try simp(disch:=first|omega|assumption|((repeat(first|exact A1|exact uH|apply A2|apply uT));first|done|fail)|(simp;first|done|omega|fail))[Y9, KeyV.val, c0]))
  exact B0 (by simp [j4, c0])
end Go.Proofs.YtlplkjgcfjdinaaGreat
namespace Go.Proofs.YtlplkjgcfjdinaaGreat
open Go
section
variable {κ : Bool} {X : Nat → Prop} {S : List Nat} {w0 : World} {H H' : List Res} {K : Value → WP}
theorem B6c {P : Program} {g : Sem Value} {u : Value} {b : Nat} {c c' : Array Value} {T : TypeId} (hrun : ∀ w, bl w b = some (.cells c T (0, 0)) → g.run P w = .ok u (World.putb w b (.cells c' T (0, 0))))
  (hu : Up (.pt b (.cells c T (0, 0))) (.pt b (.cells c' T (0, 0))) H H') (hK : TW κ S w0 H' (K u)) : TW κ S w0 H (B1 P X g K) := fun w hw => by
 have hm : Res.pt b (.cells c T (0, 0)) ∈ H := by obtain ⟨A, B, rfl, _⟩ := hu.parts; simp
 have hb := hw.pt hm
 rw [k5 (hrun w hb) (Sk.putb X hb)]
 refine hK _ (hw.up hu ⟨KS.putb hb (by simp [Res.foot]), ?_, ?_, by simp⟩)
 ·simp only [List.mem_singleton, forall_eq, Res.holds]; exact ⟨T0 (G1 hb), rfl⟩
 ·simp only [List.mem_singleton, forall_eq, Res.foot]; exact ⟨Or.inl (by simp), by have := G1 hb; simpa using this⟩
theorem B3g (w : World) : (underlying 160).run PR w = .ok (.slice 5) w := A6E.run_und
theorem C2E (w : World) : (underlying 159).run PR w = .ok (.array 38 5) w := B38.run_und
def W2 (s : ByteArray) (o : Nat) (t : ByteArray) : ByteArray := s.extract 0 o ++ t ++ s.extract (o + t.size) s.size
theorem A5d {s t : ByteArray} {o : Nat} (h : o + t.size ≤ s.size) : (W2 s o t).size = s.size := by simp [W2]; omega
theorem A91 (s t : ByteArray) (o : Nat) (h : o + t.size ≤ s.size) : D6 (N9 s).toArray o (N9 t) = (N9 (W2 s o t)).toArray := by
 apply Array.toList_inj.1
 rw [A1Q _ _ _ (by simpa using h)]
 simp [N9, W2, List.map_take, List.map_drop]
 rw [List.take_of_length_le (by simp)]
theorem A9A {b o n c : Nat} {s t : ByteArray} {T : TypeId} (hu : Up (.pt b (.cells (N9 s).toArray T)) (.pt b (.cells (N9 (W2 s o t)).toArray T)) H H') (hn : t.size ≤ n) (hs : o + t.size ≤ s.size)
  (hK : TW κ S w0 H' (K (.int .i64 t.size))) : TW κ S w0 H (B1 PR X (A8 .copy #[160, 9] 3 [.slice (some ⟨b, o, none⟩) n c, .string t]) K) := by
 refine B6c (u := .int .i64 t.size) (fun w hb => ?_) hu hK
 have hst := l7 (P := PR) (o0 := o) (N9 t) 0 w (N9 s).toArray hb (by simpa using hs) (A6k t)
 rw [Nat.add_zero, A91 s t o hs] at hst
 have hl : Nat.min t.size n = t.size := Nat.min_eq_left hn
 have htk : List.take t.size (List.map (fun b : UInt8 => Value.int IntKind.u8 (b.toNat : Int)) t.data.toList) = N9 t := by
  rw [List.take_of_length_le (by simp)]; rfl
 show (Builtin.copy_ #[160, 9] 3 #[.slice (some ⟨b, o, none⟩) n c, .string t]).run PR w = _
 simp [Builtin.copy_, B3g, ty5.run_size, Builtin.lenOf, Builtin.firstCells, hl]
 rw [htk, hst]
 simp [goInt, Result.andThen]
def z6 : ByteArray := A7K z1 38
theorem A4T : z6.size = 38 := A0w 38
theorem B5P : (Builtin.zeroCells (Value.int .u8 0).cells 38).toList = N9 z6 := by kernel_rfl
theorem B9Z : (N9 z6).toArray = #[.int .u8 0, .int .u8 0, .int .u8 0, .int .u8 0, .int .u8 0, .int .u8 0, .int .u8 0, .int .u8 0, .int .u8 0, .int .u8 0, .int .u8 0, .int .u8 0, .int .u8 0, .int .u8 0, .int .u8 0, .int .u8 0, .int .u8 0, .int .u8 0, .int .u8 0, .int .u8 0, .int .u8 0, .int .u8 0, .int .u8 0, .int .u8 0, .int .u8 0, .int .u8 0, .int .u8 0, .int .u8 0, .int .u8 0, .int .u8 0, .int .u8 0, .int .u8 0, .int .u8 0, .int .u8 0, .int .u8 0, .int .u8 0, .int .u8 0, .int .u8 0] := by kernel_rfl
theorem B59 {b : Nat} {s : ByteArray} {T : TypeId} (hs : s.size = 38) (hu : Up (.pt b (.cells (N9 s).toArray T)) (.pt b (.cells (N9 z6).toArray T)) H H')
  (hK : TW κ S w0 H' (K (.tuple #[]))) : TW κ S w0 H (B1 PR X (A8 .clear #[160] 0 [.slice (some ⟨b, 0, none⟩) 38 38]) K) := by
 refine B6c (u := .tuple #[]) (fun w hb => ?_) hu hK
 have h38 := A4T
 have hst := l7 (P := PR) (o0 := 0) (N9 z6) 0 w (N9 s).toArray hb (by simp [hs, h38]) (A6k _)
 rw [Nat.add_zero, A91 s z6 0 (by omega)] at hst
 have e : W2 s 0 z6 = z6 := by
  apply ByteArray.ext
  simp [W2, h38, hs]
 rw [e] at hst
 show (Builtin.clear_ #[160] 0 #[.slice (some ⟨b, 0, none⟩) 38 38]).run PR w = _
 simp only [Builtin.clear_, List.getElem?_toArray, List.getElem?_cons_zero, Sem.run_bind, B3g, Result.andThen_ok, ty5.run_zero, B5P, hst, Sem.run_pure]
theorem C0D {b : Nat} {s : ByteArray} {T : TypeId} (hm : Res.pt b (.cells (N9 s).toArray T) ∈ H) (c n : Nat) (hn : n = s.size) :
  TW κ S w0 H (A6 PR (convert 160 9 (.slice (some ⟨b, 0, none⟩) n c)) K) = TW κ S w0 H (K (.string s)) := TW.congr fun w hw => by
 refine Y8 ?_ K
 subst hn
 have hb := hw.pt hm
 have hB : Lib.Bytes w b 0 s := fun i hi => by
  rw [G7 hb]; simp [N9, hi]; rfl
 exact Lib.run_convert_whole w _ _ _ A6E.und ty5.und y9.und b 0 s hB c
end
theorem B6q {lo : Nat} (b : Nat) (h : lo < 38) (K : Value → WP) : A0 PR (Instr.sliceAt 159 (.pointer (some ⟨b, 0, none⟩)) (some (.int .i64 (lo : Int))) none none) K = K (.slice (some ⟨b, lo, none⟩) (38 - lo) (38 - lo)) :=
 D7 (fun w => by
  have h1 : ¬ ((38 : Int) < lo) := by omega
  have h2 : ¬ (38 = lo) := by omega
  simp [Instr.sliceAt, C2E, Instr.sliceBounds, Instr.sliceBound, asIntOf, h1, h2, ty5.run_size, Instr.sureAddr, d8]
  omega) K
def U1 (v : Int) : Nat := if v = 4 then 4 else if v = 6 then 16 else 0
theorem B6u (w : World) (v : Int) : Fn PR B5 93 #[.int .i64 v] w (fun u w' => u = .int .i64 (U1 v : Nat) ∧ C6 [] w w') := by
 have := B9e w v
 have e : ((U1 v : Nat) : Int) = if v = 4 then 4 else if v = 6 then 16 else 0 := by (unfold U1; repeat' split) <;> rfl
 rw [e]; exact this
def T9 (k : KeyV) : Bool := decide (U1 k.v ≠ 0 ∧ k.src.size = U1 k.v ∧ k.dst.size = U1 k.v ∧ (l4 k.proto k.fr k.tp 0).2 = 0)
def A1x (k : KeyV) : ByteArray := W2 (W2 (W2 z6 0 (F7 (k.v * 256 + k.proto) 2 ++ F7 k.fr 2 ++ F7 k.tp 2)) 6 k.src) 22 k.dst
def A29 (k : KeyV) : Value := .tuple #[.string (if T9 k then A1x k else V2), .bool (T9 k)]
theorem B8w {n x y f : Int} (h : (l4 n x y f).2 = 0) : (n = 6 ∨ n = 17) ∧ Q1 x y = true := by
 unfold l4 at h
 split at h
 ·simp at h
 split at h
 ·simp at h
 ·rename_i h1 h2
  refine ⟨by omega, ?_⟩
  cases hp : Q1 x y with
  | true => rfl
  | false => exact absurd (Or.inl hp) h2
theorem B74 (w : World) (k : KeyV) : Fn PR B5 71 #[k.val] w (fun u w' => u = A29 k ∧ C6 [] w w') := by
 refine Fn.pure (A72 (TW.go (κ := false) (S := []) ?_))
 unfold A2j KeyV.val
 (have zz:=trivial;repeat((first|clear zz|with_reducible first|refine A3 ?_|refine A5 fun _=>?_|refine A4 fun _=>?_);try simp(disch:=first|omega|assumption|((repeat(first|exact A1|exact uH|apply A2|apply uT));first|done|fail)|(simp;first|done|omega|fail))[]))
 refine C7 A7l (fun w' _ => B6u w' _) ?_
 (have zz:=trivial;repeat((first|clear zz|with_reducible first|refine A3 ?_|refine A5 fun _=>?_|refine A4 fun _=>?_);try simp(disch:=first|omega|assumption|((repeat(first|exact A1|exact uH|apply A2|apply uT));first|done|fail)|(simp;first|done|omega|fail))[]))
 refine C7 B2T (fun w' _ => B34 w' _ _ _ _) ?_
 have bad : T9 k = false → A29 k = .tuple #[.string V2, .bool false] := fun h => by simp [A29, h]
 by_cases c1 : U1 k.v = 0
 ·(have zz:=trivial;repeat((first|clear zz|with_reducible first|refine A3 ?_|refine A5 fun _=>?_|refine A4 fun _=>?_);try simp(disch:=first|omega|assumption|((repeat(first|exact A1|exact uH|apply A2|apply uT));first|done|fail)|(simp;first|done|omega|fail))[c1]))
  exact B0 (bad (by simp [T9, c1])).symm
 have c1' : ¬ ((U1 k.v : Nat) : Int) = 0 := by omega
 by_cases c2 : k.src.size = U1 k.v
 case neg =>
  have c2' : ¬ ((k.src.size : Nat) : Int) = U1 k.v := by omega
  (have zz:=trivial;repeat((first|clear zz|with_reducible first|refine A3 ?_|refine A5 fun _=>?_|refine A4 fun _=>?_);try simp(disch:=first|omega|assumption|((repeat(first|exact A1|exact uH|apply A2|apply uT));first|done|fail)|(simp;first|done|omega|fail))[c1, c1', c2, c2']))
  exact B0 (bad (by simp [T9, c2])).symm
 by_cases c3 : k.dst.size = U1 k.v
 case neg =>
  have c3' : ¬ ((k.dst.size : Nat) : Int) = U1 k.v := by omega
  (have zz:=trivial;repeat((first|clear zz|with_reducible first|refine A3 ?_|refine A5 fun _=>?_|refine A4 fun _=>?_);try simp(disch:=first|omega|assumption|((repeat(first|exact A1|exact uH|apply A2|apply uT));first|done|fail)|(simp;first|done|omega|fail))[c1, c1', c2, c3, c3']))
  exact B0 (bad (by simp [T9, c3])).symm
 by_cases c4 : (l4 k.proto k.fr k.tp 0).2 = 0
 case neg =>
  (have zz:=trivial;repeat((first|clear zz|with_reducible first|refine A3 ?_|refine A5 fun _=>?_|refine A4 fun _=>?_);try simp(disch:=first|omega|assumption|((repeat(first|exact A1|exact uH|apply A2|apply uT));first|done|fail)|(simp;first|done|omega|fail))[c1, c1', c2, c3, c4]))
  exact B0 (bad (by simp [T9, c4])).symm
 (have zz:=trivial;repeat((first|clear zz|with_reducible first|refine A3 ?_|refine A5 fun _=>?_|refine A4 fun _=>?_);try simp(disch:=first|omega|assumption|((repeat(first|exact A1|exact uH|apply A2|apply uT));first|done|fail)|(simp;first|done|omega|fail))[c1, c1', c2, c3, c4]))
 rename_i bk ba
 refine TW.eqH (H' := [.pt ba (.cells (N9 z6).toArray 159), .pt bk (.cells #[.int .i64 k.v, .string k.src, .string k.dst, .int .i64 k.fr, .int .i64 k.tp, .int .i64 k.proto] 108)]) (by rw [B9Z]) ?_
 refine B59 A4T .here ?_
 obtain ⟨hp, hq⟩ := B8w c4
 simp only [Q1, decide_eq_true_eq] at hq
 have hv : k.v = 4 ∨ k.v = 6 := by unfold U1 at c1; split at c1 <;> (try split at c1) <;> omega
 have hh : (F7 (k.v * 256 + k.proto) 2 ++ F7 k.fr 2 ++ F7 k.tp 2).size = 6 := by simp
 have h38 := A4T
 have s1 : (W2 z6 0 (F7 (k.v * 256 + k.proto) 2 ++ F7 k.fr 2 ++ F7 k.tp 2)).size = 38 := by rw [A5d (by omega), h38]
 have hl : U1 k.v ≤ 16 := by unfold U1; split <;> (try split) <;> omega
 have s2 : (W2 (W2 z6 0 (F7 (k.v * 256 + k.proto) 2 ++ F7 k.fr 2 ++ F7 k.tp 2)) 6 k.src).size = 38 := by rw [A5d (by omega), s1]
 have s3 : (A1x k).size = 38 := by unfold A1x; rw [A5d (by omega), s2]
 have i6 := fun K => B6q (lo := 6) ba (by omega) K
 have i22 := fun K => B6q (lo := 22) ba (by omega) K
 simp at i6 i22
 have ok : T9 k = true := by simp [T9, c1, c2, c3, c4]
 have q1 := hq.1
 have q2 := hq.2.1
 have q3 := hq.2.2.1
 have q4 := hq.2.2.2
 have eor : IntKind.u64.wrap ((IntKind.u64.wrap (k.v * 2 ^ min 8 IntKind.u64.bits) % 2 ^ IntKind.u64.bits).toNat ||| (k.proto % 2 ^ IntKind.u64.bits).toNat : Nat) = k.v * 256 + k.proto := by
  rcases hv with hv | hv <;> rcases hp with hp | hp <;> (rw [hv, hp]; decide)
 have ew1 : IntKind.u64.wrap k.fr = k.fr := A0D (by omega) (by omega)
 have ew2 : IntKind.u64.wrap k.tp = k.tp := A0D (by omega) (by omega)
 (have zz:=trivial;repeat((first|clear zz|with_reducible first|refine A3 ?_|refine A5 fun _=>?_|refine A4 fun _=>?_);try simp(disch:=first|omega|assumption|((repeat(first|exact A1|exact uH|apply A2|apply uT));first|done|fail)|(simp;first|done|omega|fail))[]))
 rw [eor, ew1, ew2]
 refine C7 G6 (fun w' hw' => j8 w' _ _) ?_
 (have zz:=trivial;repeat((first|clear zz|with_reducible first|refine A3 ?_|refine A5 fun _=>?_|refine A4 fun _=>?_);try simp(disch:=first|omega|assumption|((repeat(first|exact A1|exact uH|apply A2|apply uT));first|done|fail)|(simp;first|done|omega|fail))[]))
 refine C7 G6 (fun w' hw' => j8 w' _ _) ?_
 (have zz:=trivial;repeat((first|clear zz|with_reducible first|refine A3 ?_|refine A5 fun _=>?_|refine A4 fun _=>?_);try simp(disch:=first|omega|assumption|((repeat(first|exact A1|exact uH|apply A2|apply uT));first|done|fail)|(simp;first|done|omega|fail))[d6]))
 refine C7 G6 (fun w' hw' => j8 w' _ _) ?_
 (have zz:=trivial;repeat((first|clear zz|with_reducible first|refine A3 ?_|refine A5 fun _=>?_|refine A4 fun _=>?_);try simp(disch:=first|omega|assumption|((repeat(first|exact A1|exact uH|apply A2|apply uT));first|done|fail)|(simp;first|done|omega|fail))[d6]))
 refine A9A (o := 0) (s := z6) (by (repeat constructor)) (by omega) (by omega) ?_
 (have zz:=trivial;repeat((first|clear zz|with_reducible first|refine A3 ?_|refine A5 fun _=>?_|refine A4 fun _=>?_);try simp(disch:=first|omega|assumption|((repeat(first|exact A1|exact uH|apply A2|apply uT));first|done|fail)|(simp;first|done|omega|fail))[i6]))
 refine A9A (o := 6) (s := W2 z6 0 (F7 (k.v * 256 + k.proto) 2 ++ F7 k.fr 2 ++ F7 k.tp 2)) (by (repeat constructor)) (by omega) (by omega) ?_
 (have zz:=trivial;repeat((first|clear zz|with_reducible first|refine A3 ?_|refine A5 fun _=>?_|refine A4 fun _=>?_);try simp(disch:=first|omega|assumption|((repeat(first|exact A1|exact uH|apply A2|apply uT));first|done|fail)|(simp;first|done|omega|fail))[i22]))
 refine A9A (o := 22) (s := W2 (W2 z6 0 (F7 (k.v * 256 + k.proto) 2 ++ F7 k.fr 2 ++ F7 k.tp 2)) 6 k.src) (by (repeat constructor)) (by omega) (by omega) ?_
 (have zz:=trivial;repeat((first|clear zz|with_reducible first|refine A3 ?_|refine A5 fun _=>?_|refine A4 fun _=>?_);try simp(disch:=first|omega|assumption|((repeat(first|exact A1|exact uH|apply A2|apply uT));first|done|fail)|(simp;first|done|omega|fail))[]))
 rw [C0D (s := A1x k) (by (repeat constructor)) _ _ s3.symm]
 exact B0 (by simp [A29, ok])
end Go.Proofs.YtlplkjgcfjdinaaGreat
namespace Go.Proofs.YtlplkjgcfjdinaaGreat
open Go
@[simp] theorem C47 {κ : Bool} {S : List Nat} {w0 : World} {H : List Res} {K : Value → WP} {t : TypeId} {z : Value} [h : TS t z] {b o : Nat} {c : Array Value} {T : TypeId} {f : Nat × Nat} (hm : Res.pt b (.cells c T f) ∈ H) :
  TW κ S w0 H (A6 PR (D2 [.c t (.pointer (some ⟨b, o, none⟩))]) K) = TW κ S w0 H (rdc c[o]? K (A6 PR (D2 [.c t (.pointer (some ⟨b, o, none⟩))]) K)) := by
 cases hc : c[o]? with
 | none => rfl
 | some v => rw [C0H hm hc]; rfl
abbrev L5 := Int × Int
def H0 (b : L5) : List Value := [.int .i64 b.1, .int .i64 b.2]
structure EnV where
 st : Int
 key : ByteArray
 bk : Int
 dl : Int
 deriving DecidableEq
def E5 (x : EnV) : List Value := [.int .i64 x.st, .string x.key, .int .i64 x.bk, .int .i64 x.dl]
theorem C0S {t u : TypeId} {n m : Nat} {z : Value} {a : Option Addr} {l c e : Nat} (h : TI PR t (.slice u) n m z) : EqV PR (e + 1) t (.slice a l c) (.slice none 0 0) a.isNone := by
 intro w
 cases a with
 | none => simp only [Op.equalIn, Sem.run_bind, h.run_und, Result.andThen_ok, Sem.run_pure, Option.isNone]
 | some a => simp only [Op.equalIn, Sem.run_bind, h.run_und, Result.andThen_ok, Sem.run_pure]; rfl
theorem C0P {t u : TypeId} {n m : Nat} {z : Value} (h : TI PR t (.slice u) n m z) (x y : Operand) (a : Option Addr) (l c : Nat) (K : Value → WP) :
  A6 PR (q5 .eql t x y (.slice a l c) (.slice none 0 0)) K = K (.bool a.isNone) := by
 funext w
 refine Y8 ?_ K
 have h1 : (eqGuard .eql t x y (.slice a l c) (.slice none 0 0)).run PR w = .ok () w := by simp [eqGuard]
 have h2 : (Op.equalIn 10000 t (.slice a l c) (.slice none 0 0)).run PR w = .ok a.isNone w := C0S (e := 9999) h w
 simp [q5, h1, binOp, Op.equal, Op.maxDepth, h2]
theorem B8L (x y : Operand) (a : Option Addr) (l c : Nat) (K : Value → WP) : A6 PR (q5 .eql 50 x y (.slice a l c) (.slice none 0 0)) K = K (.bool a.isNone) := C0P A7Q x y a l c K
theorem B8Q (x y : Operand) (a : Option Addr) (l c : Nat) (K : Value → WP) : A6 PR (q5 .eql 79 x y (.slice a l c) (.slice none 0 0)) K = K (.bool a.isNone) := C0P A9m x y a l c K
theorem B55 (w : World) (v : Value) (n : Nat) (xs : List Value) (hn : n ≤ 1000000) (hx : xs.length = n * 2) (hp : xs.all plain = true) (hv : E9 w v n xs) :
  Fn PR B5 76 #[v] w (Rn [] w (fun r u => u = r) fun r => [.own 129 2 r n xs]) := by
 obtain ⟨a, c, rfl, hr⟩ := hv.form
 refine d5 (TW.go (κ := false) (S := []) ?_)
 unfold N5
 cases a with
 | none =>
  obtain rfl : n = 0 := by
   rcases Nat.eq_zero_or_pos n with h | h
   ·exact h
   ·obtain ⟨_, _, h, _⟩ := hr h; cases h
  obtain rfl : xs = [] := List.length_eq_zero_iff.1 (by omega)
  (have zz:=trivial;repeat((first|clear zz|with_reducible first|refine A3 ?_|refine A5 fun _=>?_|refine A4 fun _=>?_);try simp(disch:=first|omega|assumption|((repeat(first|exact A1|exact uH|apply A2|apply uT));first|done|fail)|(simp;first|done|omega|fail))[B8L]))
  refine A2N 129 2 ?_
  exact k7 (.slice none 0 0) rfl (by simp)
 | some a =>
  (have zz:=trivial;repeat((first|clear zz|with_reducible first|refine A3 ?_|refine A5 fun _=>?_|refine A4 fun _=>?_|refine E0 fun _=>?_|refine E2 (hK:=fun _=>?_)|refine E3 (hK:=fun _=>?_)|refine E1 (hK:=fun _=>?_)|refine D9 (hK:=fun _=>?_)|refine E4 (hK:=fun _=>?_));try simp(disch:=first|omega|assumption|((repeat(first|exact A1|exact uH|apply A2|apply uT));first|done|fail)|(simp;first|done|omega|fail))[B8L]))
  refine A2A (by (repeat constructor)) (H4.old0 hv) (by decide) hx hp (by simp only [maxLen]; omega) (by omega) fun a' c' => ?_
  simp only [Nat.zero_add, List.nil_append]
  exact C3 _ rfl (by (repeat' constructor))
theorem B0C (w : World) (v : Value) (n : Nat) (xs : List Value) (hn : n ≤ 1000000) (hx : xs.length = n * 4) (hp : xs.all plain = true) (hv : E9 w v n xs) :
  Fn PR B5 103 #[v] w (Rn [] w (fun r u => u = r) fun r => [.own 119 4 r n xs]) := by
 obtain ⟨a, c, rfl, hr⟩ := hv.form
 refine l6 (TW.go (κ := false) (S := []) ?_)
 unfold Q0
 cases a with
 | none =>
  obtain rfl : n = 0 := by
   rcases Nat.eq_zero_or_pos n with h | h
   ·exact h
   ·obtain ⟨_, _, h, _⟩ := hr h; cases h
  obtain rfl : xs = [] := List.length_eq_zero_iff.1 (by omega)
  (have zz:=trivial;repeat((first|clear zz|with_reducible first|refine A3 ?_|refine A5 fun _=>?_|refine A4 fun _=>?_);try simp(disch:=first|omega|assumption|((repeat(first|exact A1|exact uH|apply A2|apply uT));first|done|fail)|(simp;first|done|omega|fail))[B8Q]))
  refine A2N 119 4 ?_
  exact k7 (.slice none 0 0) rfl (by simp)
 | some a =>
  (have zz:=trivial;repeat((first|clear zz|with_reducible first|refine A3 ?_|refine A5 fun _=>?_|refine A4 fun _=>?_|refine E0 fun _=>?_|refine E2 (hK:=fun _=>?_)|refine E3 (hK:=fun _=>?_)|refine E1 (hK:=fun _=>?_)|refine D9 (hK:=fun _=>?_)|refine E4 (hK:=fun _=>?_));try simp(disch:=first|omega|assumption|((repeat(first|exact A1|exact uH|apply A2|apply uT));first|done|fail)|(simp;first|done|omega|fail))[B8Q]))
  refine A2A (by (repeat constructor)) (H4.old0 hv) (by decide) hx hp (by simp only [maxLen]; omega) (by omega) fun a' c' => ?_
  simp only [Nat.zero_add, List.nil_append]
  exact C3 _ rfl (by (repeat' constructor))
def A4A {α : Type} (p : α → Bool) (l : List α) : Int := match l.findIdx? p with | some i => i | none => -1
theorem B0J {α : Type} {p : α → Bool} {l : List α} {i : Nat} {x : α} (hx : l[i]? = some x) (hp : p x = true) (h : ∀ j y, j < i → l[j]? = some y → p y = false) : A4A p l = i := by
 have : l.findIdx? p = some i := by
  rw [List.findIdx?_eq_some_iff_getElem]
  obtain ⟨hi, e⟩ := List.getElem?_eq_some_iff.1 hx
  exact ⟨hi, by rw [e]; exact hp, fun j hj => by rw [h j l[j] hj (List.getElem?_eq_getElem (by omega))]; simp⟩
 simp [A4A, this]
theorem B0H {α : Type} {p : α → Bool} {l : List α} (h : ∀ (j : Nat) y, l[j]? = some y → p y = false) : A4A p l = -1 := by
 have : l.findIdx? p = none := by
  rw [List.findIdx?_eq_none_iff]; intro x hx; obtain ⟨i, hi, rfl⟩ := List.getElem_of_mem hx; exact h i _ (List.getElem?_eq_getElem hi)
 simp [A4A, this]
theorem B0U (w : World) (v : Value) (l : List L5) (p : L5 → Bool) (f : FuncId) (cap : List Value) (hn : l.length ≤ 1000000) (hv : E9 w v l.length (l.flatMap H0)) (he : A9 PR f)
  (hf : ∀ w', KS false [] w w' → ∀ x : L5, Fn PR B5 f (.agg #[.int .i64 x.1, .int .i64 x.2] :: cap).toArray w' (fun r w'' => r = .bool (p x) ∧ C6 [] w' w'')) :
  Fn PR B5 154 #[v, .func (.func f) #[] cap.toArray] w (fun r w' => r = .int .i64 (A4A p l) ∧ C6 [] w w') := by
 refine Fn.pure (W9 (TW.go (κ := false) (S := []) ?_))
 unfold M2
 obtain ⟨a, c, rfl, hr⟩ := hv.form
 (have zz:=trivial;repeat((first|clear zz|with_reducible first|refine A3 ?_|refine A5 fun _=>?_|refine A4 fun _=>?_);try simp(disch:=first|omega|assumption|((repeat(first|exact A1|exact uH|apply A2|apply uT));first|done|fail)|(simp;first|done|omega|fail))[]))
 refine j9 (α := Unit) l.length (fun _ _ => .int .i64 0) (fun _ _ => []) (fun i _ => ∀ j y, j < i → l[j]? = some y → p y = false) () (by intro j _ hj; omega) ?_
 rintro i _ hi hpre L hL
 by_cases hlt : i < l.length
 ·obtain ⟨b, o, rfl, hrow⟩ := hr (by omega)
  obtain ⟨x, hx⟩ : ∃ x, l[i]? = some x := ⟨_, List.getElem?_eq_getElem (by omega)⟩
  have h1 := hrow.at (f := H0) (k := 2) (fun _ => rfl) hx
  rw [H0] at h1
  (have zz:=trivial;repeat((first|clear zz|with_reducible first|refine A3 ?_|refine A5 fun _=>?_|refine A4 fun _=>?_);try simp(disch:=first|omega|assumption|((repeat(first|exact A1|exact uH|apply A2|apply uT));first|done|fail)|(simp;first|done|omega|fail))[hlt, h1]))
  refine A9K he (φ := fun r => r = .bool (p x)) (fun w' hw' => by simpa using hf w' hw'.ks x) ?_
  rintro _ rfl
  cases hb : p x with
  | true =>
   (have zz:=trivial;repeat((first|clear zz|with_reducible first|refine A3 ?_|refine A5 fun _=>?_|refine A4 fun _=>?_);try simp(disch:=first|omega|assumption|((repeat(first|exact A1|exact uH|apply A2|apply uT));first|done|fail)|(simp;first|done|omega|fail))[]))
   exact B0 (by rw [B0J hx hb hpre])
  | false =>
   (have zz:=trivial;repeat((first|clear zz|with_reducible first|refine A3 ?_|refine A5 fun _=>?_|refine A4 fun _=>?_);try simp(disch:=first|omega|assumption|((repeat(first|exact A1|exact uH|apply A2|apply uT));first|done|fail)|(simp;first|done|omega|fail))[]))
   refine Sels.tw .nil (hL hlt () ?_)
   intro j y hj hy
   by_cases hji : j = i
   ·subst hji; rw [hx] at hy; cases hy; exact hb
   ·exact hpre j y (by omega) hy
 ·obtain rfl : i = l.length := by omega
  (have zz:=trivial;repeat((first|clear zz|with_reducible first|refine A3 ?_|refine A5 fun _=>?_|refine A4 fun _=>?_);try simp(disch:=first|omega|assumption|((repeat(first|exact A1|exact uH|apply A2|apply uT));first|done|fail)|(simp;first|done|omega|fail))[]))
  exact B0 (by rw [B0H fun j y hy => hpre j y (List.getElem?_eq_some_iff.1 hy).1 hy])
theorem B0m (w : World) (v : Value) (l : List (Int × Int)) (p : Int × Int → Bool) (f : FuncId) (cap : List Value) (hn : l.length ≤ 1000000) (hv : E9 w v l.length (l.flatMap H0)) (he : A9 PR f)
  (hf : ∀ w', KS false [] w w' → ∀ x : Int × Int, Fn PR B5 f (.agg #[.int .i64 x.1, .int .i64 x.2] :: cap).toArray w' (fun r w'' => r = .bool (p x) ∧ C6 [] w' w'')) :
  Fn PR B5 161 #[v, .func (.func f) #[] cap.toArray] w (fun r w' => r = .int .i64 (A4A p l) ∧ C6 [] w w') := by
 refine Fn.pure (u6 (TW.go (κ := false) (S := []) ?_))
 unfold T4
 obtain ⟨a, c, rfl, hr⟩ := hv.form
 (have zz:=trivial;repeat((first|clear zz|with_reducible first|refine A3 ?_|refine A5 fun _=>?_|refine A4 fun _=>?_);try simp(disch:=first|omega|assumption|((repeat(first|exact A1|exact uH|apply A2|apply uT));first|done|fail)|(simp;first|done|omega|fail))[]))
 refine j9 (α := Unit) l.length (fun _ _ => .int .i64 0) (fun _ _ => []) (fun i _ => ∀ j y, j < i → l[j]? = some y → p y = false) () (by intro j _ hj; omega) ?_
 rintro i _ hi hpre L hL
 by_cases hlt : i < l.length
 ·obtain ⟨b, o, rfl, hrow⟩ := hr (by omega)
  obtain ⟨x, hx⟩ : ∃ x, l[i]? = some x := ⟨_, List.getElem?_eq_getElem (by omega)⟩
  have h1 := hrow.at (f := H0) (k := 2) (fun _ => rfl) hx
  rw [H0] at h1
  (have zz:=trivial;repeat((first|clear zz|with_reducible first|refine A3 ?_|refine A5 fun _=>?_|refine A4 fun _=>?_);try simp(disch:=first|omega|assumption|((repeat(first|exact A1|exact uH|apply A2|apply uT));first|done|fail)|(simp;first|done|omega|fail))[hlt, h1]))
  refine A9K he (φ := fun r => r = .bool (p x)) (fun w' hw' => by simpa using hf w' hw'.ks x) ?_
  rintro _ rfl
  cases hb : p x with
  | true =>
   (have zz:=trivial;repeat((first|clear zz|with_reducible first|refine A3 ?_|refine A5 fun _=>?_|refine A4 fun _=>?_);try simp(disch:=first|omega|assumption|((repeat(first|exact A1|exact uH|apply A2|apply uT));first|done|fail)|(simp;first|done|omega|fail))[]))
   exact B0 (by rw [B0J hx hb hpre])
  | false =>
   (have zz:=trivial;repeat((first|clear zz|with_reducible first|refine A3 ?_|refine A5 fun _=>?_|refine A4 fun _=>?_);try simp(disch:=first|omega|assumption|((repeat(first|exact A1|exact uH|apply A2|apply uT));first|done|fail)|(simp;first|done|omega|fail))[]))
   refine Sels.tw .nil (hL hlt () ?_)
   intro j y hj hy
   by_cases hji : j = i
   ·subst hji; rw [hx] at hy; cases hy; exact hb
   ·exact hpre j y (by omega) hy
 ·obtain rfl : i = l.length := by omega
  (have zz:=trivial;repeat((first|clear zz|with_reducible first|refine A3 ?_|refine A5 fun _=>?_|refine A4 fun _=>?_);try simp(disch:=first|omega|assumption|((repeat(first|exact A1|exact uH|apply A2|apply uT));first|done|fail)|(simp;first|done|omega|fail))[]))
  exact B0 (by rw [B0H fun j y hy => hpre j y (List.getElem?_eq_some_iff.1 hy).1 hy])
theorem B8D {α : Type} (p : α → Bool) (l : List α) : decide (0 ≤ A4A p l) = l.any p := by
 unfold A4A
 cases h : l.findIdx? p with
 | none =>
  have := List.findIdx?_eq_none_iff.1 h
  rw [Bool.eq_iff_iff]; simp [List.any_eq_true]; intro x hx; have := this x hx; simp_all
 | some i =>
  obtain ⟨hi, h1, _⟩ := List.findIdx?_eq_some_iff_getElem.1 h
  rw [Bool.eq_iff_iff]; simp only [List.any_eq_true, decide_eq_true_eq]
  exact ⟨fun _ => ⟨_, List.getElem_mem hi, h1⟩, fun _ => by omega⟩
theorem A7J (w : World) (v : Value) (l : List (Int × Int)) (p : Int × Int → Bool) (f : FuncId) (cap : List Value) (hn : l.length ≤ 1000000) (hv : E9 w v l.length (l.flatMap H0)) (he : A9 PR f)
  (hf : ∀ w', KS false [] w w' → ∀ x : Int × Int, Fn PR B5 f (.agg #[.int .i64 x.1, .int .i64 x.2] :: cap).toArray w' (fun r w'' => r = .bool (p x) ∧ C6 [] w' w'')) :
  Fn PR B5 132 #[v, .func (.func f) #[] cap.toArray] w (fun r w' => r = .bool (l.any p) ∧ C6 [] w w') := by
 refine Fn.pure (n9 (TW.go (κ := false) (S := []) ?_))
 unfold Q8
 refine C7 q9 (fun w' hw' => B0m w' v l p f cap hn (hv.ks hw'.ks (by simp)) he fun w2 h => hf w2 (hw'.ks.trans h)) ?_
 (have zz:=trivial;repeat((first|clear zz|with_reducible first|refine A3 ?_|refine A5 fun _=>?_|refine A4 fun _=>?_);try simp(disch:=first|omega|assumption|((repeat(first|exact A1|exact uH|apply A2|apply uT));first|done|fail)|(simp;first|done|omega|fail))[]))
 exact B0 (by rw [B8D])
end Go.Proofs.YtlplkjgcfjdinaaGreat
namespace Go.Proofs.YtlplkjgcfjdinaaGreat
open Go
def A8K (X : Nat → Prop) (t0 : Value) (R : Value → WP) : WP :=
 B8 PR X 123 [(.int .u64 14695981039346656037), t0] fun t4 =>
 R t4
theorem A0W : A9 PR 96 := A7 Tryz.func96 (by kernel_rfl) rfl
theorem B4Q {X : Nat → Prop} {t0 : Value} {R : Value → WP} {w : World} (h : A8K X t0 R w) : Fn PR X 96 #[t0] w R := C8 (args := [t0]) mixed Tryz.func96 (by kernel_rfl) h
def A6g (X : Nat → Prop) (t0 t1 : Value) (R : Value → WP) : WP :=
 B1 PR X (Instr.alloc 227 true (.tuple #[])) fun t5 =>
 B1 PR X (Instr.alloc 229 true (.tuple #[])) fun t6 =>
 B6 PR X (Instr.storeAt 227 t5 (.func (.func 151) #[] #[])) <|
 B6 PR X (Instr.storeAt 229 t6 t0) <|
 jn (n := 0) (
 A6 PR (Instr.loadAt 229 t6) fun t16 =>
 U2 (R t16)) fun J1 =>
 B8 PR X 152 [t1] fun t10 =>
 rng (N := 1) PR X (fun t11 K2 =>
 bgn <|
 A6 PR (Instr.loadAt 227 t5) fun t12 =>
 A6 PR (Instr.loadAt 229 t6) fun t13 =>
 F4 PR (fun _ => False) t12 [t13, t11] fun t15 =>
 B6 PR (fun _ => False) (Instr.storeAt 229 t6 t15) <|
 K2 none) t10 (fun j => match j with | none => (J1) | some (.exit i) => (match Nat.beq i 0 with | true => (J1) | false => (E6)) | some .ret => (U2 (R (.int .u64 0))) | some _ => E6)
theorem A5s : A9 PR 123 := A7 Tryz.func123 (by kernel_rfl) rfl
theorem B20 {X : Nat → Prop} {t0 t1 : Value} {R : Value → WP} {w : World} (h : A6g X t0 t1 R w) : Fn PR X 123 #[t0, t1] w R := C8 (args := [t0, t1]) mixed Tryz.func123 (by kernel_rfl) h
def A28 (X : Nat → Prop) (t0 t1 : Value) (R : Value → WP) : WP :=
 A0 PR (convert 5 229 t1) fun t7 =>
 A0 PR (binOp .xor 229 t0 t7) fun t8 =>
 A0 PR (binOp .mul 229 t8 (.int .u64 1099511628211)) fun t9 =>
 R t9
theorem A8T : A9 PR 151 := A7 Tryz.func151 (by kernel_rfl) rfl
theorem A9p {X : Nat → Prop} {t0 t1 : Value} {R : Value → WP} {w : World} (h : A28 X t0 t1 R w) : Fn PR X 151 #[t0, t1] w R := C8 (args := [t0, t1]) mixed Tryz.func151 (by kernel_rfl) h
def A6u (X : Nat → Prop) (t0 : Value) (R : Value → WP) : WP :=
 B1 PR X (Instr.box 9 t0) fun t1 =>
 A0 PR (Instr.makeFunc (.func 166) #[] #[t1]) fun t3 =>
 R t3
theorem B1y : A9 PR 152 := A7 Tryz.func152 (by kernel_rfl) rfl
theorem B22 {X : Nat → Prop} {t0 : Value} {R : Value → WP} {w : World} (h : A6u X t0 R w) : Fn PR X 152 #[t0] w R := C8 (args := [t0]) mixed Tryz.func152 (by kernel_rfl) h
def A3a (X : Nat → Prop) (t0 t1 : Value) (R : Value → WP) : WP :=
 A6 PR (Instr.loadAt 9 t1) fun t4 =>
 A0 PR (A8 .len #[9] 0 [t4]) fun t5 =>
 lp (n := 1) (fun L1 t6 =>
 A0 PR (binOp .lss 3 t6 t5) fun t7 =>
 jn (n := 0) (
 jn (n := 0) (
 A0 PR (binOp .add 3 t6 (.int .i64 1)) fun t15 =>
 L1 t15) fun J2 =>
 A6 PR (Instr.loadAt 9 t1) fun t10 =>
 A0 PR (Instr.index 9 t10 t6) fun t12 =>
 F4 PR X t0 [t12] fun t13 =>
 A0 PR (Op.unary .not t13) fun t14 =>
 B7 t14 (
 R (.tuple #[])) (
 J2)) fun J3 =>
 B7 t7 (
 J3) (
 R (.tuple #[]))) (.int .i64 0)
theorem A7n : A9 PR 166 := A7 Tryz.func166 (by kernel_rfl) rfl
theorem A8y {X : Nat → Prop} {t0 t1 : Value} {R : Value → WP} {w : World} (h : A3a X t0 t1 R w) : Fn PR X 166 #[t0, t1] w R := C8 (args := [t0, t1]) mixed Tryz.func166 (by kernel_rfl) h
theorem A83 {X : Nat → Prop} {t0 t1 : Value} {K : Value → WP} {w : World} (h : Fn PR X 166 #[t0, t1] w K) : r6 PR X 166 [t0, t1] K w := ⟨A7n, h⟩
end Go.Proofs.YtlplkjgcfjdinaaGreat
namespace Go.Proofs.YtlplkjgcfjdinaaGreat
open Go
def A9Y (h b : Nat) : Nat := ((h ^^^ b) * 1099511628211) % 18446744073709551616
def A8s (h : Nat) (s : ByteArray) : Nat → Nat
 | 0 => h
 | i + 1 => A9Y (A8s h s i) (D4 s i)
def B4U (h : Nat) (s : ByteArray) : Nat := A8s h s s.size
def e9 (s : ByteArray) : Nat := B4U 14695981039346656037 s
theorem B8k (h b : Nat) : A9Y h b < 2 ^ 64 := by unfold A9Y; omega
theorem B3b {h : Nat} (hh : h < 2 ^ 64) (s : ByteArray) (i : Nat) : A8s h s i < 2 ^ 64 := by
 cases i with
 | zero => exact hh
 | succ i => exact B8k _ _
theorem C1P (w : World) (h b : Nat) (hh : h < 2 ^ 64) (hb : b < 256) : Fn PR B5 151 #[.int .u64 (h : Int), .int .u8 (b : Int)] w (fun v w' => v = .int .u64 (A9Y h b : Nat) ∧ C6 [] w w') := by
 refine Fn.pure (A9p (TW.go (κ := false) (S := []) ?_))
 unfold A28
 (have zz:=trivial;repeat((first|clear zz|with_reducible first|refine A3 ?_|refine A5 fun _=>?_|refine A4 fun _=>?_);try simp(disch:=first|omega|assumption|((repeat(first|exact A1|exact uH|apply A2|apply uT));first|done|fail)|(simp;first|done|omega|fail))[]))
 have e1 : (h % 2 ^ IntKind.u64.bits ^^^ b % 2 ^ IntKind.u64.bits) = h ^^^ b := by rw [show (2 : Nat) ^ IntKind.u64.bits = 2 ^ 64 from rfl, Nat.mod_eq_of_lt hh, Nat.mod_eq_of_lt (by omega)]
 have e2 : h ^^^ b < 2 ^ 64 := Nat.xor_lt_two_pow hh (by omega)
 rw [e1, A0D (n := ((h ^^^ b : Nat) : Int)) (by omega) (by omega)]
 refine B0 ?_
 have e3 : IntKind.u64.wrap (((h ^^^ b : Nat) : Int) * 1099511628211) = (A9Y h b : Nat) := by
  simp only [IntKind.wrap, IntKind.bits, IntKind.signed, A9Y]
  simp
 rw [e3]
abbrev B8H (b : Nat) : Value := .func (.func 166) #[] #[.pointer (some ⟨b, 0, none⟩)]
theorem B9S (w : World) (s : ByteArray) : Fn PR B5 152 #[.string s] w (Rn [] w (fun b v => v = B8H b) fun b => [.pt b (.cells #[.string s] 9)]) := by
 refine B22 (TW.go (κ := false) (S := []) ?_)
 unfold A6u
 (have zz:=trivial;repeat((first|clear zz|with_reducible first|refine A3 ?_|refine A5 fun _=>?_|refine A4 fun _=>?_);try simp(disch:=first|omega|assumption|((repeat(first|exact A1|exact uH|apply A2|apply uT));first|done|fail)|(simp;first|done|omega|fail))[]))
 rename_i b
 exact k7 b rfl (by simp)
def B1C (s : ByteArray) (i : Nat) : List Value := [.int .u8 (D4 s i : Nat)]
theorem B9C (b : Nat) (s : ByteArray) (hs : s.size < 2 ^ 60) : A1W (B8H b) [.pt b (.cells #[.string s] 9)] (fun _ _ => True) ((List.range s.size).map (B1C s)) := by
 refine ⟨_, _, _, rfl, fun l J E hJ hE stJ stE hy w0 h0 => ?_⟩
 refine A83 (A8y (TW.at (κ := true) ?_ (hJ _ _ _ h0).1))
 unfold A3a
 (have zz:=trivial;repeat((first|clear zz|with_reducible first|refine A3 ?_|refine A5 fun _=>?_|refine A4 fun _=>?_);try simp(disch:=first|omega|assumption|((repeat(first|exact A1|exact uH|apply A2|apply uT));first|done|fail)|(simp;first|done|omega|fail))[]))
 refine A10 s.size (fun i => i) (fun _ => _) hJ stJ h0 fun i a hi hJi _ L hL => ?_
 by_cases hlt : i < s.size
 ·obtain ⟨by0, hb0, hb1⟩ := r4 (s := s) (i := i) hlt
  have hb0' : s[((i : Nat) : Int).toNat]? = some by0 := by rw [Int.toNat_natCast]; exact hb0
  (have zz:=trivial;repeat((first|clear zz|with_reducible first|refine A3 ?_|refine A5 fun _=>?_|refine A4 fun _=>?_);try simp(disch:=first|omega|assumption|((repeat(first|exact A1|exact uH|apply A2|apply uT));first|done|fail)|(simp;first|done|omega|fail))[hlt, V0]))
  rw [hb1]
  refine A2M hJ hE stJ hy hJi (by simpa using hlt) (by simp [B1C]) (fun w3 h => ?_) (fun w3 h => ?_)
  ·(have zz:=trivial;repeat((first|clear zz|with_reducible first|refine A3 ?_|refine A5 fun _=>?_|refine A4 fun _=>?_);try simp(disch:=first|omega|assumption|((repeat(first|exact A1|exact uH|apply A2|apply uT));first|done|fail)|(simp;first|done|omega|fail))[]))
   exact fun w' hw' => hL hlt w' (stJ _ _ _ _ _ h hw')
  ·(have zz:=trivial;repeat((first|clear zz|with_reducible first|refine A3 ?_|refine A5 fun _=>?_|refine A4 fun _=>?_);try simp(disch:=first|omega|assumption|((repeat(first|exact A1|exact uH|apply A2|apply uT));first|done|fail)|(simp;first|done|omega|fail))[]))
   exact A0j stE h
 ·obtain rfl : i = s.size := by omega
  (have zz:=trivial;repeat((first|clear zz|with_reducible first|refine A3 ?_|refine A5 fun _=>?_|refine A4 fun _=>?_);try simp(disch:=first|omega|assumption|((repeat(first|exact A1|exact uH|apply A2|apply uT));first|done|fail)|(simp;first|done|omega|fail))[]))
  exact A05 stJ (by simpa using hJi)
theorem B3j (w : World) (h : Nat) (s : ByteArray) (hh : h < 2 ^ 64) (hs : s.size < 2 ^ 60) : Fn PR B5 123 #[.int .u64 (h : Int), .string s] w (fun v w' => v = .int .u64 (B4U h s : Nat) ∧ C6 [] w w') := by
 refine Fn.pure (B20 (TW.go (κ := false) (S := []) ?_))
 unfold A6g
 (have zz:=trivial;repeat((first|clear zz|with_reducible first|refine A3 ?_|refine A5 fun _=>?_|refine A4 fun _=>?_);try simp(disch:=first|omega|assumption|((repeat(first|exact A1|exact uH|apply A2|apply uT));first|done|fail)|(simp;first|done|omega|fail))[]))
 rename_i bf bx
 refine G5 B1y (fun w' _ => B9S w' s) ?_
 rintro b v rfl
 refine A0c (B9C b s hs) (by simp [B1C]) (fun _ (_ : Unit) => True) (fun i _ => [.pt bx (.cells #[.int .u64 ((A8s h s i : Nat) : Int)] 229), .pt bf (.cells #[.func (.func 151) #[] #[]] 227)])
  (fun _ (_ : Unit) => False) (fun _ => []) () trivial ?_ ?_ ?_ ?_ (by simp [A8s])
 ·intros; trivial
 ·rintro i hi _ F _ K' hK _
  simp only [List.getElem_map, List.getElem_range, B1C, VF.app]
  (have zz:=trivial;repeat((first|clear zz|with_reducible first|refine A3 ?_|refine A5 fun _=>?_|refine A4 fun _=>?_);try simp(disch:=first|omega|assumption|((repeat(first|exact A1|exact uH|apply A2|apply uT));first|done|fail)|(simp;first|done|omega|fail))[]))
  refine C7 A8T (fun w' _ => C1P w' _ _ (B3b hh s i) (r8 s i)) ?_
  (have zz:=trivial;repeat((first|clear zz|with_reducible first|refine A3 ?_|refine A5 fun _=>?_|refine A4 fun _=>?_);try simp(disch:=first|omega|assumption|((repeat(first|exact A1|exact uH|apply A2|apply uT));first|done|fail)|(simp;first|done|omega|fail))[]))
  exact TW.eqH (by simp [A8s]) (hK () trivial)
 ·rintro _ _
  (have zz:=trivial;repeat((first|clear zz|with_reducible first|refine A3 ?_|refine A5 fun _=>?_|refine A4 fun _=>?_);try simp(disch:=first|omega|assumption|((repeat(first|exact A1|exact uH|apply A2|apply uT));first|done|fail)|(simp;first|done|omega|fail))[]))
  exact B0 (by simp [B4U])
 ·rintro _ _ h; exact h.elim
theorem A2d (w : World) (s : ByteArray) (hs : s.size < 2 ^ 60) : Fn PR B5 96 #[.string s] w (fun v w' => v = .int .u64 (e9 s : Nat) ∧ C6 [] w w') := by
 refine Fn.pure (B4Q (TW.go (κ := false) (S := []) ?_))
 unfold A8K
 refine C7 A5s (fun w' _ => B3j w' 14695981039346656037 s (by omega) hs) ?_
 exact B0 rfl
end Go.Proofs.YtlplkjgcfjdinaaGreat
namespace Go.Proofs.YtlplkjgcfjdinaaGreat
open Go
def H9 (key : ByteArray) (n : Nat) : Nat := e9 key % n
theorem A84 (s : ByteArray) : e9 s < 2 ^ 64 := B3b (by omega) s _
theorem B9G (w : World) (key : ByteArray) (n : Nat) (hk : key.size < 2 ^ 60) (hn : n ≤ 1000000) : Fn PR B5 168 #[.string key, .int .i64 (n : Int)] w (fun v w' => v = .int .i64 (if n = 0 then 0 else H9 key n : Nat) ∧ C6 [] w w') := by
 refine Fn.pure (B03 (TW.go (κ := false) (S := []) ?_))
 unfold A4p
 by_cases c1 : n = 0
 ·have c1' : (n : Int) < 1 := by omega
  (have zz:=trivial;repeat((first|clear zz|with_reducible first|refine A3 ?_|refine A5 fun _=>?_|refine A4 fun _=>?_);try simp(disch:=first|omega|assumption|((repeat(first|exact A1|exact uH|apply A2|apply uT));first|done|fail)|(simp;first|done|omega|fail))[c1']))
  exact B0 (by simp [c1])
 have c1' : ¬ (n : Int) < 1 := by omega
 have c1'' : ¬ (n : Int) = 0 := by omega
 (have zz:=trivial;repeat((first|clear zz|with_reducible first|refine A3 ?_|refine A5 fun _=>?_|refine A4 fun _=>?_);try simp(disch:=first|omega|assumption|((repeat(first|exact A1|exact uH|apply A2|apply uT));first|done|fail)|(simp;first|done|omega|fail))[c1']))
 refine C7 A0W (fun w' _ => A2d w' key hk) ?_
 have hl := A84 key
 have hm : H9 key n < n := Nat.mod_lt _ (by omega)
 have e1 : ((e9 key : Nat) : Int).tmod n = (H9 key n : Nat) := by unfold H9; rw [Int.tmod_eq_emod_of_nonneg (by omega)]; omega
 have e2 : ((e9 key : Nat) : Int) % n = (H9 key n : Nat) := by unfold H9; omega
 (have zz:=trivial;repeat((first|clear zz|with_reducible first|refine A3 ?_|refine A5 fun _=>?_|refine A4 fun _=>?_);try simp(disch:=first|omega|assumption|((repeat(first|exact A1|exact uH|apply A2|apply uT));first|done|fail)|(simp;first|done|omega|fail))[c1'', e1, A1T]))
 exact B0 (by simp [c1])
def u3 : EnV := ⟨0, V2, 0, 0⟩
def Q6 (l : List EnV) (key : ByteArray) : List (Nat × EnV) := (List.range l.length).map fun i => ((H9 key l.length + i) % l.length, l.getD ((H9 key l.length + i) % l.length) u3)
def A32 (p : Nat × EnV) : List Value := [.int .i64 (p.1 : Nat), .agg #[.int .i64 p.2.st, .string p.2.key, .int .i64 p.2.bk, .int .i64 p.2.dl]]
abbrev C0c (x : Nat × Nat) : Value := .func (.func 167) #[] #[.pointer (some ⟨x.1, 0, none⟩), .pointer (some ⟨x.2, 0, none⟩)]
abbrev B12 (x : Nat × Nat) (v : Value) (key : ByteArray) : List Res := [.pt x.1 (.cells #[.string key] 9), .pt x.2 (.cells #[v] 79)]
theorem B5d (w : World) (v : Value) (key : ByteArray) (hv : ∃ a n c, v = .slice a n c) : Fn PR B5 153 #[v, .string key] w (Rn [] w (fun x u => u = C0c x) fun x => B12 x v key) := by
 obtain ⟨a, n, c, rfl⟩ := hv
 refine B2N (TW.go (κ := false) (S := []) ?_)
 unfold A5K
 (have zz:=trivial;repeat((first|clear zz|with_reducible first|refine A3 ?_|refine A5 fun _=>?_|refine A4 fun _=>?_);try simp(disch:=first|omega|assumption|((repeat(first|exact A1|exact uH|apply A2|apply uT));first|done|fail)|(simp;first|done|omega|fail))[]))
 rename_i b1 b2
 exact C3 (b2, b1) rfl (by (repeat' constructor))
def RqS (v : Value) (n : Nat) (xs : List Value) (F : List Res) (w : World) : Prop := ∃ a c, v = .slice a n c ∧ (0 < n → ∃ b o, a = some ⟨b, o, none⟩ ∧ G9 w b o xs ∧ b ∉ B2 F)
theorem RqS.of {v : Value} {n : Nat} {xs : List Value} {w0 w : World} {A F : List Res} (h : E9 w0 v n xs) (hx : 0 < n → 0 < xs.length) (hw : LW false [] w0 (A ++ F) w) : RqS v n xs F w := by
 obtain ⟨a, c, rfl, hr⟩ := h.form
 refine ⟨a, c, rfl, fun hn => ?_⟩
 obtain ⟨b, o, rfl, hrow⟩ := hr hn
 refine ⟨b, o, rfl, hw.ks.row (by simp) hrow, hw.notin_old ?_ (by simp)⟩
 have h0 := hrow 0 (hx hn)
 rw [List.getElem?_eq_getElem (hx hn)] at h0
 obtain ⟨c', t', z', h1, h2⟩ := Z4 h0
 exact G1 h1
theorem u4 (l : List EnV) : (l.flatMap E5).length = l.length * 4 := by
 induction l with
 | nil => rfl
 | cons x l ih => rw [List.flatMap_cons, List.length_append, ih]; simp [E5]; omega
theorem B5y (x : Nat × Nat) (v : Value) (l : List EnV) (key : ByteArray) (hk : key.size < 2 ^ 60) (hn : l.length ≤ 1000000) : A1W (C0c x) (B12 x v key) (RqS v l.length (l.flatMap E5)) ((Q6 l key).map A32) := by
 obtain ⟨bk, bt⟩ := x
 refine ⟨_, _, _, rfl, fun y J E hJ hE stJ stE hy w0 h0 => ?_⟩
 obtain ⟨a, c, hv, hr⟩ := (hJ _ _ _ h0).2
 subst hv
 refine A8k (A7v (TW.at (κ := true) ?_ (hJ _ _ _ h0).1))
 unfold A2C
 simp only [B12]
 (have zz:=trivial;repeat((first|clear zz|with_reducible first|refine A3 ?_|refine A5 fun _=>?_|refine A4 fun _=>?_);try simp(disch:=first|omega|assumption|((repeat(first|exact A1|exact uH|apply A2|apply uT));first|done|fail)|(simp;first|done|omega|fail))[]))
 refine C7 A9f (fun w' _ => B9G w' key l.length hk hn) ?_
 (have zz:=trivial;repeat((first|clear zz|with_reducible first|refine A3 ?_|refine A5 fun _=>?_|refine A4 fun _=>?_);try simp(disch:=first|omega|assumption|((repeat(first|exact A1|exact uH|apply A2|apply uT));first|done|fail)|(simp;first|done|omega|fail))[]))
 refine A10 l.length (fun i => i) (fun _ => _) hJ stJ h0 fun i a' hi hJi hRi L hL => ?_
 by_cases hlt : i < l.length
 ·obtain ⟨_, _, hv, hr⟩ := hRi
  obtain ⟨b, o, hb, hrow, hnb⟩ := hr (by omega)
  cases hv
  have hh : H9 key l.length < l.length := Nat.mod_lt _ (by omega)
  have e0 : (if l.length = 0 then 0 else H9 key l.length) = H9 key l.length := if_neg (by omega)
  have hj : (H9 key l.length + i) % l.length < l.length := Nat.mod_lt _ (by omega)
  have hx : l[(H9 key l.length + i) % l.length]? = some (l.getD ((H9 key l.length + i) % l.length) u3) := by
   rw [List.getD_eq_getElem?_getD, List.getElem?_eq_getElem hj]; rfl
  have h1 := hrow.at (f := E5) (k := 4) (fun _ => rfl) hx
  have e1 : (((H9 key l.length : Nat) : Int) + (i : Nat)).tmod l.length = ((H9 key l.length + i) % l.length : Nat) := by rw [Int.tmod_eq_emod_of_nonneg (by omega), Int.natCast_emod, Int.natCast_add]
  have hwi : ∀ h, ((Q6 l key).map A32)[i]'h = A32 ((H9 key l.length + i) % l.length, l.getD ((H9 key l.length + i) % l.length) u3) := by
   intro h; simp only [List.getElem_map, Q6, List.getElem_range]
  generalize hjd : (H9 key l.length + i) % l.length = j at *
  generalize hxd : l.getD j u3 = x at *
  rw [E5] at h1
  have hnz : ¬ (l.length : Int) = 0 := by omega
  subst hb
  rw [e0]
  (have zz:=trivial;repeat((first|clear zz|with_reducible first|refine A3 ?_|refine A5 fun _=>?_|refine A4 fun _=>?_);try simp(disch:=first|omega|assumption|((repeat(first|exact A1|exact uH|apply A2|apply uT));first|done|fail)|(simp;first|done|omega|fail))[hlt, e1, h1, hnz, A1T]))
  refine A2M hJ hE stJ hy hJi (by simpa [Q6] using hlt) (hwi _) (fun w3 h => ?_) (fun w3 h => ?_)
  ·(have zz:=trivial;repeat((first|clear zz|with_reducible first|refine A3 ?_|refine A5 fun _=>?_|refine A4 fun _=>?_);try simp(disch:=first|omega|assumption|((repeat(first|exact A1|exact uH|apply A2|apply uT));first|done|fail)|(simp;first|done|omega|fail))[]))
   exact fun w' hw' => hL hlt w' (stJ _ _ _ _ _ h hw')
  ·(have zz:=trivial;repeat((first|clear zz|with_reducible first|refine A3 ?_|refine A5 fun _=>?_|refine A4 fun _=>?_);try simp(disch:=first|omega|assumption|((repeat(first|exact A1|exact uH|apply A2|apply uT));first|done|fail)|(simp;first|done|omega|fail))[]))
   exact A0j stE h
 ·obtain rfl : i = l.length := by omega
  (have zz:=trivial;repeat((first|clear zz|with_reducible first|refine A3 ?_|refine A5 fun _=>?_|refine A4 fun _=>?_);try simp(disch:=first|omega|assumption|((repeat(first|exact A1|exact uH|apply A2|apply uT));first|done|fail)|(simp;first|done|omega|fail))[]))
  exact A05 stJ (by simpa [Q6] using hJi)
def F6 (key : ByteArray) : List (Nat × EnV) → Int
 | [] => -1
 | p :: r => if p.2.st = 0 then -1 else if p.2.st = 1 ∧ p.2.key = key then p.1 else F6 key r
def D0 (l : List EnV) (key : ByteArray) : Int := F6 key (Q6 l key)
theorem B3U {α : Type} {l : List α} {i : Nat} (h : i < l.length) : l.drop i = l[i] :: l.drop (i + 1) := List.drop_eq_getElem_cons h
theorem A6y (L : List (Nat × EnV)) : ∀ x ∈ L.map A32, x.length = 2 := by
 intro x hx; obtain ⟨p, _, rfl⟩ := List.mem_map.1 hx; rfl
theorem x7 (w : World) (v : Value) (l : List EnV) (key : ByteArray) (hk : key.size < 2 ^ 60) (hn : l.length ≤ 1000000) (hv : E9 w v l.length (l.flatMap E5)) :
  Fn PR B5 124 #[v, .string key] w (fun r w' => r = .int .i64 (D0 l key) ∧ C6 [] w w') := by
 refine Fn.pure (B0w (TW.go (κ := false) (S := []) ?_))
 unfold A4c
 (have zz:=trivial;repeat((first|clear zz|with_reducible first|refine A3 ?_|refine A5 fun _=>?_|refine A4 fun _=>?_);try simp(disch:=first|omega|assumption|((repeat(first|exact A1|exact uH|apply A2|apply uT));first|done|fail)|(simp;first|done|omega|fail))[]))
 rename_i bk bf
 refine G5 A4l (fun w' _ => B5d w' v key (by obtain ⟨a, c, rfl, _⟩ := hv.form; exact ⟨a, _, c, rfl⟩)) ?_
 rintro x u rfl
 refine A0c (B5y x v l key hk hn) (A6y _) (fun i (_ : Unit) => F6 key ((Q6 l key).drop i) = D0 l key) (fun _ _ => [.pt bf (.cells #[.int .i64 (-1)] 3), .pt bk (.cells #[.string key] 9)])
  (fun c (y : Unit) => c = .exit 0) (fun y => [.pt bf (.cells #[.int .i64 (D0 l key)] 3)]) () rfl ?_ ?_ ?_ ?_ (by simp [B12])
 ·intro i _ F w1 _ hw
  exact RqS.of hv (fun h => by rw [u4]; omega) hw
 ·rintro i hi _ F hψ K' hK hE
  have hi' : i < (Q6 l key).length := by simpa using hi
  rw [B3U hi'] at hψ
  simp only [List.getElem_map]
  generalize (Q6 l key)[i] = p at *
  simp only [A32, VF.app]
  by_cases c0 : p.2.st = 0
  ·(have zz:=trivial;repeat((first|clear zz|with_reducible first|refine A3 ?_|refine A5 fun _=>?_|refine A4 fun _=>?_);try simp(disch:=first|omega|assumption|((repeat(first|exact A1|exact uH|apply A2|apply uT));first|done|fail)|(simp;first|done|omega|fail))[c0]))
   refine TW.sub (hE (.exit 0) () rfl) ?_
   rw [← hψ]
   simp only [F6, c0, if_true]
   ((try simp only [List.cons_append, List.nil_append, List.append_assoc]); (repeat (first | exact List.Sublist.refl _ | exact List.nil_sublist _ | with_reducible apply List.Sublist.cons_cons | apply List.Sublist.cons)); first | done | fail)
  by_cases c1 : p.2.st = 1
  ·by_cases c2 : p.2.key = key
   ·(have zz:=trivial;repeat((first|clear zz|with_reducible first|refine A3 ?_|refine A5 fun _=>?_|refine A4 fun _=>?_);try simp(disch:=first|omega|assumption|((repeat(first|exact A1|exact uH|apply A2|apply uT));first|done|fail)|(simp;first|done|omega|fail))[c0, c1, c2]))
    refine TW.sub (hE (.exit 0) () rfl) ?_
    rw [← hψ]
    simp [F6, c1, c2]
    ((try simp only [List.cons_append, List.nil_append, List.append_assoc]); (repeat (first | exact List.Sublist.refl _ | exact List.nil_sublist _ | with_reducible apply List.Sublist.cons_cons | apply List.Sublist.cons)); first | done | fail)
   ·(have zz:=trivial;repeat((first|clear zz|with_reducible first|refine A3 ?_|refine A5 fun _=>?_|refine A4 fun _=>?_);try simp(disch:=first|omega|assumption|((repeat(first|exact A1|exact uH|apply A2|apply uT));first|done|fail)|(simp;first|done|omega|fail))[c0, c1, c2]))
    refine TW.sub (hK () ?_) (by ((try simp only [List.cons_append, List.nil_append, List.append_assoc]); (repeat (first | exact List.Sublist.refl _ | exact List.nil_sublist _ | with_reducible apply List.Sublist.cons_cons | apply List.Sublist.cons)); first | done | fail))
    rw [← hψ]
    simp [F6, c1, c2]
  ·(have zz:=trivial;repeat((first|clear zz|with_reducible first|refine A3 ?_|refine A5 fun _=>?_|refine A4 fun _=>?_);try simp(disch:=first|omega|assumption|((repeat(first|exact A1|exact uH|apply A2|apply uT));first|done|fail)|(simp;first|done|omega|fail))[c0, c1]))
   refine TW.sub (hK () ?_) (by ((try simp only [List.cons_append, List.nil_append, List.append_assoc]); (repeat (first | exact List.Sublist.refl _ | exact List.nil_sublist _ | with_reducible apply List.Sublist.cons_cons | apply List.Sublist.cons)); first | done | fail))
   rw [← hψ]
   simp [F6, c0, c1]
 ·intro _ hψ
  (have zz:=trivial;repeat((first|clear zz|with_reducible first|refine A3 ?_|refine A5 fun _=>?_|refine A4 fun _=>?_);try simp(disch:=first|omega|assumption|((repeat(first|exact A1|exact uH|apply A2|apply uT));first|done|fail)|(simp;first|done|omega|fail))[]))
  simp only [List.length_map, List.drop_length, F6] at hψ
  exact B0 (by rw [← hψ])
 ·rintro _ _ rfl
  (have zz:=trivial;repeat((first|clear zz|with_reducible first|refine A3 ?_|refine A5 fun _=>?_|refine A4 fun _=>?_);try simp(disch:=first|omega|assumption|((repeat(first|exact A1|exact uH|apply A2|apply uT));first|done|fail)|(simp;first|done|omega|fail))[]))
  exact B0 rfl
def M1 : List (Nat × EnV) → Int
 | [] => -1
 | p :: r => if p.2.st = 1 then M1 r else p.1
def U7 (l : List EnV) (key : ByteArray) : Int := if 0 ≤ D0 l key then -1 else M1 (Q6 l key)
theorem B1s (w : World) (v : Value) (l : List EnV) (key : ByteArray) (hk : key.size < 2 ^ 60) (hn : l.length ≤ 1000000) (hv : E9 w v l.length (l.flatMap E5)) :
  Fn PR B5 160 #[v, .string key] w (fun r w' => r = .int .i64 (U7 l key) ∧ C6 [] w w') := by
 refine Fn.pure (B01 (TW.go (κ := false) (S := []) ?_))
 unfold A4f
 (have zz:=trivial;repeat((first|clear zz|with_reducible first|refine A3 ?_|refine A5 fun _=>?_|refine A4 fun _=>?_);try simp(disch:=first|omega|assumption|((repeat(first|exact A1|exact uH|apply A2|apply uT));first|done|fail)|(simp;first|done|omega|fail))[]))
 rename_i bf
 refine C7 l5 (fun w' hw' => x7 w' v l key hk hn (hv.ks hw'.ks (by simp))) ?_
 by_cases c1 : 0 ≤ D0 l key
 ·(have zz:=trivial;repeat((first|clear zz|with_reducible first|refine A3 ?_|refine A5 fun _=>?_|refine A4 fun _=>?_);try simp(disch:=first|omega|assumption|((repeat(first|exact A1|exact uH|apply A2|apply uT));first|done|fail)|(simp;first|done|omega|fail))[c1]))
  exact B0 (by simp [U7, c1])
 have e1 : U7 l key = M1 (Q6 l key) := if_neg c1
 (have zz:=trivial;repeat((first|clear zz|with_reducible first|refine A3 ?_|refine A5 fun _=>?_|refine A4 fun _=>?_);try simp(disch:=first|omega|assumption|((repeat(first|exact A1|exact uH|apply A2|apply uT));first|done|fail)|(simp;first|done|omega|fail))[c1]))
 refine G5 A4l (fun w' _ => B5d w' v key (by obtain ⟨a, c, rfl, _⟩ := hv.form; exact ⟨a, _, c, rfl⟩)) ?_
 rintro x u rfl
 refine A0c (B5y x v l key hk hn) (A6y _) (fun i (_ : Unit) => M1 ((Q6 l key).drop i) = U7 l key) (fun _ _ => [.pt bf (.cells #[.int .i64 0] 3)])
  (fun c (y : Unit) => c = .ret) (fun y => [.pt bf (.cells #[.int .i64 (U7 l key)] 3)]) () (by rw [List.drop_zero, e1]) ?_ ?_ ?_ ?_ (by simp [B12])
 ·intro i _ F w1 _ hw
  exact RqS.of hv (fun h => by rw [u4]; omega) hw
 ·rintro i hi _ F hψ K' hK hE
  have hi' : i < (Q6 l key).length := by simpa using hi
  rw [B3U hi'] at hψ
  simp only [List.getElem_map]
  generalize (Q6 l key)[i] = p at *
  simp only [A32, VF.app]
  by_cases c1 : p.2.st = 1
  ·(have zz:=trivial;repeat((first|clear zz|with_reducible first|refine A3 ?_|refine A5 fun _=>?_|refine A4 fun _=>?_);try simp(disch:=first|omega|assumption|((repeat(first|exact A1|exact uH|apply A2|apply uT));first|done|fail)|(simp;first|done|omega|fail))[c1]))
   refine TW.sub (hK () ?_) (by ((try simp only [List.cons_append, List.nil_append, List.append_assoc]); (repeat (first | exact List.Sublist.refl _ | exact List.nil_sublist _ | with_reducible apply List.Sublist.cons_cons | apply List.Sublist.cons)); first | done | fail))
   rw [← hψ]
   simp [M1, c1]
  ·(have zz:=trivial;repeat((first|clear zz|with_reducible first|refine A3 ?_|refine A5 fun _=>?_|refine A4 fun _=>?_);try simp(disch:=first|omega|assumption|((repeat(first|exact A1|exact uH|apply A2|apply uT));first|done|fail)|(simp;first|done|omega|fail))[c1]))
   refine TW.sub (hE .ret () rfl) ?_
   rw [← hψ]
   simp only [M1, c1, if_false]
   ((try simp only [List.cons_append, List.nil_append, List.append_assoc]); (repeat (first | exact List.Sublist.refl _ | exact List.nil_sublist _ | with_reducible apply List.Sublist.cons_cons | apply List.Sublist.cons)); first | done | fail)
 ·intro _ hψ
  (have zz:=trivial;repeat((first|clear zz|with_reducible first|refine A3 ?_|refine A5 fun _=>?_|refine A4 fun _=>?_);try simp(disch:=first|omega|assumption|((repeat(first|exact A1|exact uH|apply A2|apply uT));first|done|fail)|(simp;first|done|omega|fail))[]))
  simp only [List.length_map, List.drop_length, M1] at hψ
  exact B0 (by rw [← hψ])
 ·rintro _ _ rfl
  (have zz:=trivial;repeat((first|clear zz|with_reducible first|refine A3 ?_|refine A5 fun _=>?_|refine A4 fun _=>?_);try simp(disch:=first|omega|assumption|((repeat(first|exact A1|exact uH|apply A2|apply uT));first|done|fail)|(simp;first|done|omega|fail))[]))
  exact B0 rfl
theorem B4x (w : World) (x : EnV) (st : Int) (b : Nat) (hb : w.cell? ⟨b, 0, none⟩ = some (.int .i64 st)) : Fn PR B5 136 #[.agg #[.int .i64 x.st, .string x.key, .int .i64 x.bk, .int .i64 x.dl], .pointer (some ⟨b, 0, none⟩)] w (fun r w' => r = .bool (decide (x.st = st)) ∧ C6 [] w w') := by
 refine Fn.pure (A6S (TW.go (κ := false) (S := []) ?_))
 unfold A1H
 (have zz:=trivial;repeat((first|clear zz|with_reducible first|refine A3 ?_|refine A5 fun _=>?_|refine A4 fun _=>?_);try simp(disch:=first|omega|assumption|((repeat(first|exact A1|exact uH|apply A2|apply uT));first|done|fail)|(simp;first|done|omega|fail))[hb]))
 exact B0 rfl
def P5 (l : List EnV) (st : Int) : Nat := l.countP fun x => decide (x.st = st)
theorem B2u {α : Type} {p : α → Bool} {l : List α} {i : Nat} {x : α} (hx : l[i]? = some x) : (l.take (i + 1)).countP p = (l.take i).countP p + if p x then 1 else 0 := by
 rw [List.take_add_one, hx, List.countP_append]; simp [List.countP_cons]
theorem B7Y (w : World) (v : Value) (l : List EnV) (p : EnV → Bool) (f : FuncId) (cap : List Value) (hn : l.length ≤ 1000000) (hv : E9 w v l.length (l.flatMap E5)) (he : A9 PR f)
  (hf : ∀ w', KS false [] w w' → ∀ x : EnV, Fn PR B5 f (.agg #[.int .i64 x.st, .string x.key, .int .i64 x.bk, .int .i64 x.dl] :: cap).toArray w' (fun r w'' => r = .bool (p x) ∧ C6 [] w' w'')) :
  Fn PR B5 135 #[v, .func (.func f) #[] cap.toArray] w (fun r w' => r = .int .i64 (l.countP p : Nat) ∧ C6 [] w w') := by
 refine Fn.pure (A1k (TW.go (κ := false) (S := []) ?_))
 unfold g9
 obtain ⟨a, c, rfl, hr⟩ := hv.form
 (have zz:=trivial;repeat((first|clear zz|with_reducible first|refine A3 ?_|refine A5 fun _=>?_|refine A4 fun _=>?_);try simp(disch:=first|omega|assumption|((repeat(first|exact A1|exact uH|apply A2|apply uT));first|done|fail)|(simp;first|done|omega|fail))[]))
 refine j9 (α := Unit) l.length (fun i _ => .int .i64 ((l.take i).countP p : Nat)) (fun _ _ => []) (fun i _ => True) () trivial ?_
 rintro i _ hi _ L hL
 by_cases hlt : i < l.length
 ·obtain ⟨b, o, rfl, hrow⟩ := hr (by omega)
  obtain ⟨x, hx⟩ : ∃ x, l[i]? = some x := ⟨_, List.getElem?_eq_getElem (by omega)⟩
  have h1 := hrow.at (f := E5) (k := 4) (fun _ => rfl) hx
  rw [E5] at h1
  (have zz:=trivial;repeat((first|clear zz|with_reducible first|refine A3 ?_|refine A5 fun _=>?_|refine A4 fun _=>?_);try simp(disch:=first|omega|assumption|((repeat(first|exact A1|exact uH|apply A2|apply uT));first|done|fail)|(simp;first|done|omega|fail))[hlt, h1]))
  refine A9K he (φ := fun r => r = .bool (p x)) (fun w' hw' => by simpa using hf w' hw'.ks x) ?_
  rintro _ rfl
  have hc := B2u (p := p) hx
  have hle : (l.take i).countP p ≤ i := Nat.le_trans List.countP_le_length (by simp; omega)
  have hL' := hL hlt () trivial
  rw [hc] at hL'
  cases hb : p x with
  | true =>
   rw [hb] at hL'
   (have zz:=trivial;repeat((first|clear zz|with_reducible first|refine A3 ?_|refine A5 fun _=>?_|refine A4 fun _=>?_);try simp(disch:=first|omega|assumption|((repeat(first|exact A1|exact uH|apply A2|apply uT));first|done|fail)|(simp;first|done|omega|fail))[]))
   exact Sels.tw .nil (by simpa using hL')
  | false =>
   rw [hb] at hL'
   (have zz:=trivial;repeat((first|clear zz|with_reducible first|refine A3 ?_|refine A5 fun _=>?_|refine A4 fun _=>?_);try simp(disch:=first|omega|assumption|((repeat(first|exact A1|exact uH|apply A2|apply uT));first|done|fail)|(simp;first|done|omega|fail))[]))
   exact Sels.tw .nil (by simpa using hL')
 ·obtain rfl : i = l.length := by omega
  (have zz:=trivial;repeat((first|clear zz|with_reducible first|refine A3 ?_|refine A5 fun _=>?_|refine A4 fun _=>?_);try simp(disch:=first|omega|assumption|((repeat(first|exact A1|exact uH|apply A2|apply uT));first|done|fail)|(simp;first|done|omega|fail))[]))
  exact B0 rfl
theorem A7a (w : World) (v : Value) (l : List EnV) (st : Int) (hn : l.length ≤ 1000000) (hv : E9 w v l.length (l.flatMap E5)) :
  Fn PR B5 105 #[v, .int .i64 st] w (fun r w' => r = .int .i64 (P5 l st : Nat) ∧ C6 [] w w') := by
 refine Fn.pure (A8z (TW.go (κ := false) (S := []) ?_))
 unfold A3k
 (have zz:=trivial;repeat((first|clear zz|with_reducible first|refine A3 ?_|refine A5 fun _=>?_|refine A4 fun _=>?_);try simp(disch:=first|omega|assumption|((repeat(first|exact A1|exact uH|apply A2|apply uT));first|done|fail)|(simp;first|done|omega|fail))[]))
 rename_i b
 refine C7 A1V (fun w' hw' => B7Y w' v l (fun x => decide (x.st = st)) 136 [.pointer (some ⟨b, 0, none⟩)] hn (hv.ks hw'.ks (by simp)) A50
  fun w2 h x => B4x w2 x st b (h.cell (by simp) (hw'.cell1 (by (repeat constructor))))) ?_
 exact B0 rfl
end Go.Proofs.YtlplkjgcfjdinaaGreat
namespace Go.Proofs.YtlplkjgcfjdinaaGreat
open Go
theorem A9w (l : List EnV) : (l.flatMap E5).all plain = true := by
 rw [List.all_eq_true]; intro v hv; rw [List.mem_flatMap] at hv
 obtain ⟨x, _, hx⟩ := hv
 simp only [E5, List.mem_cons, List.not_mem_nil, or_false] at hx
 rcases hx with rfl | rfl | rfl | rfl <;> rfl
theorem A0x {α : Type} {f : α → List Value} {k : Nat} (hk : ∀ x, (f x).length = k) (l : List α) (i : Nat) (y : α) (hi : i < l.length) : n7 (l.flatMap f) (i * k) (f y) = (l.set i y).flatMap f := by
 have e1 := B5Q hk l i
 have e2 := A5k hk l (i + 1)
 rw [Nat.add_mul, Nat.one_mul] at e2
 rw [n7, hk, e1, e2, List.set_eq_take_append_cons_drop, if_pos hi, List.flatMap_append, List.flatMap_cons, List.append_assoc]
abbrev E8 (v : Value) (l : List EnV) : Res := .own 119 4 v l.length (l.flatMap E5)
def newE (n : Nat) : List EnV := List.replicate (min n 64) u3
theorem C1D (n : Nat) : (Builtin.zeroCells (Value.agg #[.int .i64 0, .string V2, .int .i64 0, .int .i64 0]).cells n).toList = (List.replicate n u3).flatMap E5 := by
 have h4 : (Value.agg #[.int .i64 0, .string V2, .int .i64 0, .int .i64 0]).cells.size = 4 := rfl
 have hz : (Builtin.zeroCells (Value.agg #[.int .i64 0, .string V2, .int .i64 0, .int .i64 0]).cells n).toList.length = n * 4 := by simp [size_zeroCells]
 have hr : ((List.replicate n u3).flatMap E5).length = n * 4 := by rw [G8 (k := 4) fun _ => rfl]; simp
 apply List.ext_getElem (by rw [hz, hr])
 intro i h1 h2
 rw [hz] at h1
 have hf := Q5 (f := E5) (k := 4) (fun _ => rfl) (List.replicate n u3) (i / 4) (i % 4) (by omega)
 rw [show i / 4 * 4 + i % 4 = i by omega, List.getElem?_eq_getElem h2, List.getElem?_replicate_of_lt (by omega)] at hf
 have e : (Builtin.zeroCells (Value.agg #[.int .i64 0, .string V2, .int .i64 0, .int .i64 0]).cells n).toList[i]'(by rw [hz]; exact h1) = (Value.agg #[.int .i64 0, .string V2, .int .i64 0, .int .i64 0]).cells[i % 4]! := by
  simp [Builtin.zeroCells]
 rw [e]
 have h3 : i % 4 = 0 ∨ i % 4 = 1 ∨ i % 4 = 2 ∨ i % 4 = 3 := by omega
 rcases h3 with h3 | h3 | h3 | h3 <;> (rw [h3] at hf ⊢; simp [E5, u3] at hf ⊢; exact hf.symm)
theorem A6p (w : World) (n : Nat) (hn : n ≤ 1000000) : Fn PR B5 33 #[.int .i64 (n : Int)] w (Rn [] w (fun r u => u = r) fun r => [E8 r (newE n)]) := by
 refine B1x (TW.go (κ := false) (S := []) ?_)
 unfold A5N
 have e : max 0 (min (n : Int) 64) = ((min n 64 : Nat) : Int) := by omega
 (have zz:=trivial;repeat((first|clear zz|with_reducible first|refine A3 ?_|refine A5 fun _=>?_|refine A4 fun _=>?_);try simp(disch:=first|omega|assumption|((repeat(first|exact A1|exact uH|apply A2|apply uT));first|done|fail)|(simp;first|done|omega|fail))[e]))
 refine B78 (by omega) (by omega) (by omega) (by omega) fun bs => ?_
 rw [Int.toNat_natCast]
 refine k7 _ rfl ?_
 simp only [E8, newE, List.length_replicate, ← C1D]
 exact List.Sublist.refl _
def F8 (l : List EnV) (x : EnV) : Option (List EnV) :=
 let at0 := D0 l x.key
 let at1 := if at0 < 0 then U7 l x.key else at0
 if at1 < 0 then none else some (l.set at1.toNat x)
theorem B8A {key : ByteArray} {n : Nat} : ∀ L : List (Nat × EnV), (∀ p ∈ L, p.1 < n) → 0 ≤ F6 key L → (F6 key L).toNat < n := by
 intro L
 induction L with
 | nil => intro _ h; simp [F6] at h
 | cons p L ih =>
  intro h h0
  simp only [F6] at h0 ⊢
  split
  ·rw [if_pos ‹_›] at h0; simp at h0
  ·rw [if_neg ‹_›] at h0
   split
   ·simpa using h p (by simp)
   ·rw [if_neg ‹_›] at h0; exact ih (fun q hq => h q (by simp [hq])) h0
theorem B7y {n : Nat} : ∀ L : List (Nat × EnV), (∀ p ∈ L, p.1 < n) → 0 ≤ M1 L → (M1 L).toNat < n := by
 intro L
 induction L with
 | nil => intro _ h; simp [M1] at h
 | cons p L ih =>
  intro h h0
  simp only [M1] at h0 ⊢
  split
  ·rw [if_pos ‹_›] at h0; exact ih (fun q hq => h q (by simp [hq])) h0
  ·simpa using h p (by simp)
theorem B3m (l : List EnV) (key : ByteArray) : ∀ p ∈ Q6 l key, p.1 < l.length := by
 intro p hp
 obtain ⟨i, hi, rfl⟩ := List.mem_map.1 hp
 exact Nat.mod_lt _ (by simp at hi; omega)
theorem A0M {l : List EnV} {key : ByteArray} (h : 0 ≤ D0 l key) : (D0 l key).toNat < l.length := B8A _ (B3m l key) h
theorem A7D {l : List EnV} {key : ByteArray} (h : 0 ≤ U7 l key) : (U7 l key).toNat < l.length := by
 unfold U7 at h ⊢
 split
 ·rw [if_pos ‹_›] at h; simp at h
 ·rw [if_neg ‹_›] at h; exact B7y _ (B3m l key) h
theorem A30 {l m : List EnV} {x : EnV} (h : F8 l x = some m) : m.length = l.length := by
 unfold F8 at h
 simp only at h
 by_cases c : (if D0 l x.key < 0 then U7 l x.key else D0 l x.key) < 0
 ·rw [if_pos c] at h; cases h
 ·rw [if_neg c] at h; injection h with h; rw [← h]; simp
theorem B3u (w : World) (v : Value) (l : List EnV) (x : EnV) (hk : x.key.size < 2 ^ 60) (hn : l.length ≤ 1000000) (hw : LW false (B2 [E8 v l]) w [E8 v l] w) :
  Fn PR B5 131 #[v, .agg #[.int .i64 x.st, .string x.key, .int .i64 x.bk, .int .i64 x.dl]] w (Rn (B2 [E8 v l]) w (fun (_ : Unit) u => u = .bool (F8 l x).isSome) fun _ => [E8 v ((F8 l x).getD l)]) := by
 refine A5Y (TW.goH (κ := false) (S := B2 [E8 v l]) ?_ hw)
 unfold A01
 (have zz:=trivial;repeat((first|clear zz|with_reducible first|refine A3 ?_|refine A5 fun _=>?_|refine A4 fun _=>?_);try simp(disch:=first|omega|assumption|((repeat(first|exact A1|exact uH|apply A2|apply uT));first|done|fail)|(simp;first|done|omega|fail))[]))
 rename_i bx
 refine C7 l5 (fun w' hw' => x7 w' v l x.key hk hn (H4.own (by (repeat constructor)) w' hw')) ?_
 have p6 : ∀ r : Int, 0 ≤ r → r.toNat < l.length → F8 l x = some (l.set r.toNat x) → TW false (B2 [E8 v l]) w [.pt bx (.cells #[.int .i64 x.st, .string x.key, .int .i64 x.bk, .int .i64 x.dl] 119), E8 v l]
   (A0 PR (Instr.indexAt 205 v (.int .i64 r)) fun t21 => B6 PR B5 (Instr.storeAt 119 t21 (.agg #[.int .i64 x.st, .string x.key, .int .i64 x.bk, .int .i64 x.dl])) <|
    Rn (B2 [E8 v l]) w (fun (_ : Unit) u => u = .bool (F8 l x).isSome) (fun _ => [E8 v ((F8 l x).getD l)]) (.bool true)) := by
  intro r h0 hi hp
  obtain ⟨i, rfl⟩ : ∃ i : Nat, r = i := ⟨r.toNat, by omega⟩
  rw [Int.toNat_natCast] at hi hp
  refine y5 (e := 119) (k := 4) (v := v) (q := l.length) (xs := l.flatMap E5) (by (repeat constructor)) (by omega) ?_
  rintro g c rfl
  (have zz:=trivial;repeat((first|clear zz|with_reducible first|refine A3 ?_|refine A5 fun _=>?_|refine A4 fun _=>?_);try simp(disch:=first|omega|assumption|((repeat(first|exact A1|exact uH|apply A2|apply uT));first|done|fail)|(simp;first|done|omega|fail))[hi]))
  refine W4 (by (repeat constructor)) (by simp) (by rw [u4]; omega) (by simp) ?_
  refine C3 () (by simp [hp]) ?_
  have := A0x (f := E5) (k := 4) (fun _ => rfl) l i x hi
  simp only [hp, Option.getD_some, E8, List.length_set, ← this]
  (repeat' constructor)
 by_cases c1 : D0 l x.key < 0
 ·(have zz:=trivial;repeat((first|clear zz|with_reducible first|refine A3 ?_|refine A5 fun _=>?_|refine A4 fun _=>?_);try simp(disch:=first|omega|assumption|((repeat(first|exact A1|exact uH|apply A2|apply uT));first|done|fail)|(simp;first|done|omega|fail))[c1]))
  refine C7 A9D (fun w' hw' => B1s w' v l x.key hk hn (H4.own (by (repeat constructor)) w' hw')) ?_
  by_cases c2 : U7 l x.key < 0
  ·have hp : F8 l x = none := by simp [F8, c1, c2]
   (have zz:=trivial;repeat((first|clear zz|with_reducible first|refine A3 ?_|refine A5 fun _=>?_|refine A4 fun _=>?_);try simp(disch:=first|omega|assumption|((repeat(first|exact A1|exact uH|apply A2|apply uT));first|done|fail)|(simp;first|done|omega|fail))[c2]))
   exact C3 () (by simp [hp]) (by simp only [hp, Option.getD_none]; (repeat' constructor))
  ·have hp : F8 l x = some (l.set (U7 l x.key).toNat x) := by simp [F8, c1, c2]
   have := p6 _ (by omega) (A7D (by omega)) hp
   simp(disch:=first|omega|assumption|((repeat(first|exact A1|exact uH|apply A2|apply uT));first|done|fail)|(simp;first|done|omega|fail))[c2]
   exact this
 ·have hp : F8 l x = some (l.set (D0 l x.key).toNat x) := by simp [F8, c1]
  have := p6 _ (by omega) (A0M (by omega)) hp
  simp(disch:=first|omega|assumption|((repeat(first|exact A1|exact uH|apply A2|apply uT));first|done|fail)|(simp;first|done|omega|fail))[c1]
  exact this
def V3 : Nat → List EnV → List (Nat × EnV)
 | _, [] => []
 | i, x :: r => if x.st = 1 then (i, x) :: V3 (i + 1) r else V3 (i + 1) r
def H8 (l : List EnV) : List (Nat × EnV) := V3 0 l
theorem A96 (i : Nat) (l m : List EnV) : V3 i (l ++ m) = V3 i l ++ V3 (i + l.length) m := by
 induction l generalizing i with
 | nil => simp [V3]
 | cons x l ih =>
  simp only [List.cons_append, V3, ih, List.length_cons]
  split
  ·simp only [List.cons_append]; congr 3; omega
  ·congr 2; omega
theorem B1Z {l : List EnV} {i : Nat} {x : EnV} (hx : l[i]? = some x) : H8 (l.take (i + 1)) = H8 (l.take i) ++ (if x.st = 1 then [(i, x)] else []) := by
 obtain ⟨hi, _⟩ := List.getElem?_eq_some_iff.1 hx
 rw [List.take_add_one, hx, H8, A96, Option.toList_some, List.length_take, Nat.zero_add, Nat.min_eq_left (by omega)]
 simp only [V3, H8]
theorem B6C {l : List EnV} {i : Nat} {x : EnV} (hx : l[i]? = some x) (h : x.st = 1) : (H8 l)[(H8 (l.take i)).length]? = some (i, x) := by
 have e : l = l.take (i + 1) ++ l.drop (i + 1) := (List.take_append_drop _ _).symm
 conv => lhs; arg 1; rw [e]
 rw [H8, A96, ← H8, B1Z hx, if_pos h, List.append_assoc, List.getElem?_append_right (by omega)]
 simp
abbrev B8U (b : Nat) : Value := .func (.func 162) #[] #[.pointer (some ⟨b, 0, none⟩)]
theorem B82 (w : World) (v : Value) (hv : ∃ a n c, v = .slice a n c) : Fn PR B5 137 #[v] w (Rn [] w (fun b u => u = B8U b) fun b => [.pt b (.cells #[v] 205)]) := by
 obtain ⟨a, n, c, rfl⟩ := hv
 refine A45 (TW.go (κ := false) (S := []) ?_)
 unfold y8
 (have zz:=trivial;repeat((first|clear zz|with_reducible first|refine A3 ?_|refine A5 fun _=>?_|refine A4 fun _=>?_);try simp(disch:=first|omega|assumption|((repeat(first|exact A1|exact uH|apply A2|apply uT));first|done|fail)|(simp;first|done|omega|fail))[]))
 rename_i b
 exact k7 b rfl (by simp)
theorem B8l (b : Nat) (v : Value) (l : List EnV) (hn : l.length ≤ 1000000) : A1W (B8U b) [.pt b (.cells #[v] 205)] (RqS v l.length (l.flatMap E5)) ((H8 l).map A32) := by
 refine ⟨_, _, _, rfl, fun y J E hJ hE stJ stE hy w0 h0 => ?_⟩
 obtain ⟨a, c, hv, hr⟩ := (hJ _ _ _ h0).2
 subst hv
 refine A24 (A2q (TW.at (κ := true) ?_ (hJ _ _ _ h0).1))
 unfold p8
 (have zz:=trivial;repeat((first|clear zz|with_reducible first|refine A3 ?_|refine A5 fun _=>?_|refine A4 fun _=>?_);try simp(disch:=first|omega|assumption|((repeat(first|exact A1|exact uH|apply A2|apply uT));first|done|fail)|(simp;first|done|omega|fail))[]))
 refine A10 l.length (fun i => (H8 (l.take i)).length) (fun _ => _) hJ stJ (by simpa [H8, V3] using h0) fun i a' hi hJi hRi L hL => ?_
 by_cases hlt : i < l.length
 ·obtain ⟨_, _, hv, hr⟩ := hRi
  obtain ⟨b', o, hb, hrow, hnb⟩ := hr (by omega)
  cases hv
  subst hb
  obtain ⟨x, hx⟩ : ∃ x, l[i]? = some x := ⟨_, List.getElem?_eq_getElem hlt⟩
  have h1 := hrow.at (f := E5) (k := 4) (fun _ => rfl) hx
  rw [E5] at h1
  have hat := B1Z hx
  by_cases c1 : x.st = 1
  ·have hg := B6C hx c1
   rw [if_pos c1] at hat
   obtain ⟨hgi, hg'⟩ := List.getElem?_eq_some_iff.1 hg
   have hlen : (H8 (l.take (i + 1))).length = (H8 (l.take i)).length + 1 := by rw [hat]; simp
   rw [hlen] at hL
   (have zz:=trivial;repeat((first|clear zz|with_reducible first|refine A3 ?_|refine A5 fun _=>?_|refine A4 fun _=>?_);try simp(disch:=first|omega|assumption|((repeat(first|exact A1|exact uH|apply A2|apply uT));first|done|fail)|(simp;first|done|omega|fail))[hlt, h1, c1]))
   refine A2M hJ hE stJ hy hJi (by simpa using hgi) (by rw [List.getElem_map, hg', A32, c1]) (fun w3 h => ?_) (fun w3 h => ?_)
   ·(have zz:=trivial;repeat((first|clear zz|with_reducible first|refine A3 ?_|refine A5 fun _=>?_|refine A4 fun _=>?_);try simp(disch:=first|omega|assumption|((repeat(first|exact A1|exact uH|apply A2|apply uT));first|done|fail)|(simp;first|done|omega|fail))[]))
    exact fun w' hw' => hL hlt w' (stJ _ _ _ _ _ h (hw'.sub (by simp)))
   ·(have zz:=trivial;repeat((first|clear zz|with_reducible first|refine A3 ?_|refine A5 fun _=>?_|refine A4 fun _=>?_);try simp(disch:=first|omega|assumption|((repeat(first|exact A1|exact uH|apply A2|apply uT));first|done|fail)|(simp;first|done|omega|fail))[]))
    exact A0j stE h
  ·rw [if_neg c1, List.append_nil] at hat
   rw [hat] at hL
   (have zz:=trivial;repeat((first|clear zz|with_reducible first|refine A3 ?_|refine A5 fun _=>?_|refine A4 fun _=>?_);try simp(disch:=first|omega|assumption|((repeat(first|exact A1|exact uH|apply A2|apply uT));first|done|fail)|(simp;first|done|omega|fail))[hlt, h1, c1]))
   exact fun w' hw' => hL hlt w' (stJ _ _ _ _ _ hJi (hw'.sub (by simp)))
 ·obtain rfl : i = l.length := by omega
  rw [List.take_length] at hJi
  (have zz:=trivial;repeat((first|clear zz|with_reducible first|refine A3 ?_|refine A5 fun _=>?_|refine A4 fun _=>?_);try simp(disch:=first|omega|assumption|((repeat(first|exact A1|exact uH|apply A2|apply uT));first|done|fail)|(simp;first|done|omega|fail))[]))
  exact A05 stJ (by simpa using hJi)
end Go.Proofs.YtlplkjgcfjdinaaGreat
namespace Go.Proofs.YtlplkjgcfjdinaaGreat
open Go
theorem B32 {w : World} {b : Nat} {T : TypeId} {l : List Value} (h : bl w b = some (.cells l.toArray T (0, 0))) : W6 w b 0 l.length = some l := A3J fun i hi => by
 rw [G7 h]; simp
theorem A7s (w : World) (v : Value) (l : List EnV) (f : FuncId) (cap : List Value) (o : Option (List EnV)) (ho : ∀ m, o = some m → m.length = l.length) (hn : l.length ≤ 1000000) (hv : E9 w v l.length (l.flatMap E5)) (he : A9 PR f)
  (hf : ∀ w' r, KS false [] w w' → (∀ b ∈ B2 [E8 r l], sz w ≤ b) → LW false (B2 [E8 r l]) w' [E8 r l] w' → Fn PR B5 f (r :: cap).toArray w' (Rn (B2 [E8 r l]) w' (fun (_ : Unit) u => u = .bool o.isSome) fun _ => [E8 r (o.getD l)])) :
  Fn PR B5 128 #[v, .func (.func f) #[] cap.toArray] w (Rn [] w (fun r u => u = .tuple #[if o.isSome then r else v, .bool o.isSome]) fun r => [E8 r (o.getD l)]) := by
 refine A7T (TW.go (κ := false) (S := []) ?_)
 unfold A1v
 refine G5 P7 (fun w' hw' => B0C w' v l.length (l.flatMap E5) hn (u4 l) (A9w l) (hv.ks hw'.ks (by simp))) ?_
 rintro _ r rfl
 (have zz:=trivial;repeat((first|clear zz|with_reducible first|refine A3 ?_|refine A5 fun _=>?_|refine A4 fun _=>?_);try simp(disch:=first|omega|assumption|((repeat(first|exact A1|exact uH|apply A2|apply uT));first|done|fail)|(simp;first|done|omega|fail))[]))
 refine D8 (Hc := [E8 r l]) he (fun w' hw hs => hf w' r hw.ks (fun b hb => by
  obtain ⟨s, hs1, hb1⟩ := K9.1 hb
  rcases (hw.own s (List.mem_append_left _ hs1) b hb1).1 with h | h
  ·simp at h
  ·exact h) hs) (by (repeat' constructor)) ?_
 rintro _ _ rfl
 cases o with
 | none =>
  (have zz:=trivial;repeat((first|clear zz|with_reducible first|refine A3 ?_|refine A5 fun _=>?_|refine A4 fun _=>?_);try simp(disch:=first|omega|assumption|((repeat(first|exact A1|exact uH|apply A2|apply uT));first|done|fail)|(simp;first|done|omega|fail))[]))
  exact C3 r rfl (by (repeat' constructor))
 | some m =>
  (have zz:=trivial;repeat((first|clear zz|with_reducible first|refine A3 ?_|refine A5 fun _=>?_|refine A4 fun _=>?_);try simp(disch:=first|omega|assumption|((repeat(first|exact A1|exact uH|apply A2|apply uT));first|done|fail)|(simp;first|done|omega|fail))[]))
  exact C3 r rfl (by (repeat' constructor))
theorem B6y (w : World) (v : Value) (l : List EnV) (x : EnV) (b : Nat) (hk : x.key.size < 2 ^ 60) (hn : l.length ≤ 1000000) (hx : W6 w b 0 4 = some (E5 x)) (hb : b ∉ B2 [E8 v l]) (hw : LW false (B2 [E8 v l]) w [E8 v l] w) :
  Fn PR B5 130 #[v, .pointer (some ⟨b, 0, none⟩)] w (Rn (B2 [E8 v l]) w (fun (_ : Unit) u => u = .bool (F8 l x).isSome) fun _ => [E8 v ((F8 l x).getD l)]) := by
 refine A77 (TW.goH (κ := false) (S := B2 [E8 v l]) ?_ hw)
 unfold A2D
 rw [E5] at hx
 (have zz:=trivial;repeat((first|clear zz|with_reducible first|refine A3 ?_|refine A5 fun _=>?_|refine A4 fun _=>?_);try simp(disch:=first|omega|assumption|((repeat(first|exact A1|exact uH|apply A2|apply uT));first|done|fail)|(simp;first|done|omega|fail))[hx]))
 refine D8 (Hc := [E8 v l]) y7 (fun w' hw hs => B3u w' v l x hk hn hs) (by (repeat' constructor)) ?_
 rintro _ _ rfl
 exact C3 () rfl (by (repeat' constructor))
theorem B3E (w : World) (v : Value) (l : List EnV) (key : ByteArray) (bk dl : Int) (hk : key.size < 2 ^ 60) (hn : l.length ≤ 1000000) (hv : E9 w v l.length (l.flatMap E5)) :
  Fn PR B5 100 #[v, .string key, .int .i64 bk, .int .i64 dl] w (Rn [] w (fun r u => u = .tuple #[if (F8 l ⟨1, key, bk, dl⟩).isSome then r else v, .int .i64 (if (F8 l ⟨1, key, bk, dl⟩).isSome then 0 else 12)]) fun r => [E8 r ((F8 l ⟨1, key, bk, dl⟩).getD l)]) := by
 refine B2G (TW.go (κ := false) (S := []) ?_)
 unfold A5D
 (have zz:=trivial;repeat((first|clear zz|with_reducible first|refine A3 ?_|refine A5 fun _=>?_|refine A4 fun _=>?_);try simp(disch:=first|omega|assumption|((repeat(first|exact A1|exact uH|apply A2|apply uT));first|done|fail)|(simp;first|done|omega|fail))[]))
 rename_i b
 refine G5 A1C (fun w' hw' => A7s w' v l 130 [.pointer (some ⟨b, 0, none⟩)] (F8 l ⟨1, key, bk, dl⟩) (fun m h => A30 h) hn (hv.ks hw'.ks (by simp)) A7b
  fun w2 r h hf hr => ?_) ?_
 ·have hp := hw'.pt (b := b) (by (repeat constructor))
  have hb : b < sz w' := G1 hp
  refine B6y w2 r l ⟨1, key, bk, dl⟩ b hk hn ?_ (fun hc => by have := hf b hc; omega) hr
  have hp2 := h.2.1 b _ (by simp) rfl hp
  exact B32 hp2
 ·rintro r _ rfl
  cases h : F8 l ⟨1, key, bk, dl⟩ with
  | none =>
   (have zz:=trivial;repeat((first|clear zz|with_reducible first|refine A3 ?_|refine A5 fun _=>?_|refine A4 fun _=>?_);try simp(disch:=first|omega|assumption|((repeat(first|exact A1|exact uH|apply A2|apply uT));first|done|fail)|(simp;first|done|omega|fail))[]))
   exact C3 r (by simp) (by (repeat' constructor))
  | some m =>
   (have zz:=trivial;repeat((first|clear zz|with_reducible first|refine A3 ?_|refine A5 fun _=>?_|refine A4 fun _=>?_);try simp(disch:=first|omega|assumption|((repeat(first|exact A1|exact uH|apply A2|apply uT));first|done|fail)|(simp;first|done|omega|fail))[]))
   exact C3 r (by simp) (by (repeat' constructor))
def Q2 : EnV := ⟨2, V2, 0, 0⟩
def L6 (l : List EnV) : Prop := ∀ x ∈ l, x.key.size < 2 ^ 60
def T5 (acc : List EnV) (x : EnV) : List EnV := (F8 acc x).getD acc
theorem B8B (acc : List EnV) (x : EnV) : (T5 acc x).length = acc.length := by
 unfold T5
 cases h : F8 acc x with
 | none => rfl
 | some m => exact A30 h
def Y1 (l : List EnV) : List EnV := (H8 l).foldl (fun acc p => T5 acc p.2) (newE l.length)
theorem B1m (L : List (Nat × EnV)) (a : List EnV) : (L.foldl (fun acc p => T5 acc p.2) a).length = a.length := by
 induction L generalizing a with
 | nil => rfl
 | cons p L ih => rw [List.foldl_cons, ih, B8B]
theorem A4C (n : Nat) : (newE n).length = min n 64 := by simp [newE]
theorem A9x {i : Nat} {l : List EnV} : ∀ p ∈ V3 i l, p.2 ∈ l ∧ p.2.st = 1 := by
 induction l generalizing i with
 | nil => intro p hp; cases hp
 | cons x l ih =>
  intro p hp
  simp only [V3] at hp
  split at hp
  ·rcases List.mem_cons.1 hp with rfl | hp
   ·exact ⟨by simp, ‹_›⟩
   ·obtain ⟨h1, h2⟩ := ih p hp; exact ⟨by simp [h1], h2⟩
  ·obtain ⟨h1, h2⟩ := ih p hp; exact ⟨by simp [h1], h2⟩
theorem y0 {κ : Bool} {S : List Nat} {w0 : World} {H : List Res} {K0 : WP} {e : TypeId} {k : Nat} {v : Value} {q : Nat} {xs : List Value} (hm : Res.own e k v q xs ∈ H) (h : v.cells = #[v] → v.cells.size = 1 → v.cells.toList.all plain = true → TW κ S w0 H K0) : TW κ S w0 H K0 := fun w hw => by
 obtain ⟨a, c, rfl⟩ := Q7.form (hw.hold _ hm); exact h rfl rfl rfl w hw
theorem A1P {κ : Bool} {S : List Nat} {w0 : World} {H : List Res} {K0 : WP} {e : TypeId} {k : Nat} {v : Value} {q : Nat} {xs : List Value} (hm : Res.own e k v q xs ∈ H) (h : ∀ a c, v = .slice a q c → TW κ S w0 H K0) : TW κ S w0 H K0 := fun w hw => by
 obtain ⟨a, c, rfl⟩ := Q7.form (hw.hold _ hm); exact h a c rfl w hw
theorem B3Z (w : World) (v : Value) (l : List EnV) (hks : L6 l) (hn : l.length ≤ 1000000) (hv : E9 w v l.length (l.flatMap E5)) :
  Fn PR B5 106 #[v] w (Rn [] w (fun r u => u = r) fun r => [E8 r (Y1 l)]) := by
 refine B0k (TW.go (κ := false) (S := []) ?_)
 unfold A4s
 obtain ⟨a, c, rfl, _⟩ := hv.form
 (have zz:=trivial;repeat((first|clear zz|with_reducible first|refine A3 ?_|refine A5 fun _=>?_|refine A4 fun _=>?_);try simp(disch:=first|omega|assumption|((repeat(first|exact A1|exact uH|apply A2|apply uT));first|done|fail)|(simp;first|done|omega|fail))[]))
 refine G5 A4k (fun w' _ => A6p w' l.length hn) ?_
 rintro _ r rfl
 refine y0 (e := 119) (k := 4) (v := r) (q := (newE l.length).length) (xs := (newE l.length).flatMap E5) (by (repeat constructor)) fun hr1 hr2 hr3 => ?_
 (have zz:=trivial;repeat((first|clear zz|with_reducible first|refine A3 ?_|refine A5 fun _=>?_|refine A4 fun _=>?_);try simp(disch:=first|omega|assumption|((repeat(first|exact A1|exact uH|apply A2|apply uT));first|done|fail)|(simp;first|done|omega|fail))[hr1]))
 rename_i bt
 refine G5 A4M (fun w' _ => B82 w' (.slice a l.length c) ⟨_, _, _, rfl⟩) ?_
 rintro b _ rfl
 refine A0c (B8l b (.slice a l.length c) l hn) (A6y _) (fun i (acc : List EnV) => acc = ((H8 l).take i).foldl (fun acc p => T5 acc p.2) (newE l.length)) (fun _ acc => [.pt bt (.cells #[r] 205), E8 r acc])
  (fun c (y : Unit) => False) (fun y => []) (newE l.length) (by simp) ?_ ?_ ?_ ?_ (by simp)
 ·intro i _ F w1 _ hw
  exact RqS.of hv (fun h => by rw [u4]; omega) hw
 ·rintro i hi acc F hψ K' hK _
  have hi' : i < (H8 l).length := by simpa using hi
  have hm : (H8 l)[i] ∈ H8 l := List.getElem_mem hi'
  have hst : ((H8 l).take (i + 1)).foldl (fun acc p => T5 acc p.2) (newE l.length) = T5 acc (H8 l)[i].2 := by
   rw [List.take_add_one, List.getElem?_eq_getElem hi', Option.toList_some, List.foldl_append, ← hψ]; rfl
  have hlen : acc.length ≤ 64 := by rw [hψ, B1m, A4C]; omega
  simp only [List.getElem_map]
  generalize (H8 l)[i] = p at *
  have hkp := hks p.2 (A9x p hm).1
  simp only [A32, VF.app]
  (have zz:=trivial;repeat((first|clear zz|with_reducible first|refine A3 ?_|refine A5 fun _=>?_|refine A4 fun _=>?_);try simp(disch:=first|omega|assumption|((repeat(first|exact A1|exact uH|apply A2|apply uT));first|done|fail)|(simp;first|done|omega|fail))[]))
  refine D8 (Hc := [E8 r acc]) y7 (fun w' hw hs => B3u w' r acc p.2 hkp (by omega) hs) (by (repeat' constructor)) ?_
  rintro _ _ rfl
  refine TW.sub (TW.perm (hK (T5 acc p.2) hst.symm) ?_) (H' := E8 r (T5 acc p.2) :: .pt bt (.cells #[r] 205) :: F) ?_
  ·exact List.Perm.swap ..
  ·simp only [T5]; ((try simp only [List.cons_append, List.nil_append, List.append_assoc]); (repeat (first | exact List.Sublist.refl _ | exact List.nil_sublist _ | with_reducible apply List.Sublist.cons_cons | apply List.Sublist.cons)); first | done | fail)
 ·intro acc hψ
  simp only [List.length_map, List.take_length] at hψ
  subst hψ
  (have zz:=trivial;repeat((first|clear zz|with_reducible first|refine A3 ?_|refine A5 fun _=>?_|refine A4 fun _=>?_);try simp(disch:=first|omega|assumption|((repeat(first|exact A1|exact uH|apply A2|apply uT));first|done|fail)|(simp;first|done|omega|fail))[]))
  exact C3 r rfl (by simp only [Y1]; (repeat' constructor))
 ·rintro _ _ h; exact h.elim
def d3 (l : List EnV) (key : ByteArray) : Option (List EnV) := if D0 l key < 0 then none else some (l.set (D0 l key).toNat Q2)
theorem B2F {l m : List EnV} {key : ByteArray} (h : d3 l key = some m) : m.length = l.length := by
 unfold d3 at h
 by_cases c : D0 l key < 0
 ·rw [if_pos c] at h; cases h
 ·rw [if_neg c] at h; injection h with h; rw [← h]; simp
def H3 (u : List EnV) : List EnV := if u.length < 2 * P5 u 2 then Y1 u else u
def A1d (l : List EnV) (key : ByteArray) : List EnV := match d3 l key with | some u => H3 u | none => l
theorem B28 (w : World) (v : Value) (l : List EnV) (key : ByteArray) (b : Nat) (hk : key.size < 2 ^ 60) (hn : l.length ≤ 1000000) (hx : w.cell? ⟨b, 0, none⟩ = some (.string key)) (hb : b ∉ B2 [E8 v l]) (hw : LW false (B2 [E8 v l]) w [E8 v l] w) :
  Fn PR B5 129 #[v, .pointer (some ⟨b, 0, none⟩)] w (Rn (B2 [E8 v l]) w (fun (_ : Unit) u => u = .bool (d3 l key).isSome) fun _ => [E8 v ((d3 l key).getD l)]) := by
 refine A5F (TW.goH (κ := false) (S := B2 [E8 v l]) ?_ hw)
 unfold A0s
 (have zz:=trivial;repeat((first|clear zz|with_reducible first|refine A3 ?_|refine A5 fun _=>?_|refine A4 fun _=>?_);try simp(disch:=first|omega|assumption|((repeat(first|exact A1|exact uH|apply A2|apply uT));first|done|fail)|(simp;first|done|omega|fail))[hx]))
 refine C7 l5 (fun w' hw' => x7 w' v l key hk hn (H4.own (by (repeat constructor)) w' hw')) ?_
 by_cases c1 : D0 l key < 0
 ·have hd : d3 l key = none := if_pos c1
  (have zz:=trivial;repeat((first|clear zz|with_reducible first|refine A3 ?_|refine A5 fun _=>?_|refine A4 fun _=>?_);try simp(disch:=first|omega|assumption|((repeat(first|exact A1|exact uH|apply A2|apply uT));first|done|fail)|(simp;first|done|omega|fail))[c1]))
  exact C3 () (by simp [hd]) (by simp only [hd, Option.getD_none]; (repeat' constructor))
 ·have hd : d3 l key = some (l.set (D0 l key).toNat Q2) := if_neg c1
  have hlt := A0M (l := l) (key := key) (by omega)
  have h0 : 0 ≤ D0 l key := by omega
  obtain ⟨i, hi⟩ : ∃ i : Nat, D0 l key = i := ⟨(D0 l key).toNat, by omega⟩
  rw [hi] at hd hlt c1 ⊢
  rw [Int.toNat_natCast] at hd hlt
  refine y5 (e := 119) (k := 4) (v := v) (q := l.length) (xs := l.flatMap E5) (by (repeat constructor)) (by omega) ?_
  rintro g c rfl
  (have zz:=trivial;repeat((first|clear zz|with_reducible first|refine A3 ?_|refine A5 fun _=>?_|refine A4 fun _=>?_);try simp(disch:=first|omega|assumption|((repeat(first|exact A1|exact uH|apply A2|apply uT));first|done|fail)|(simp;first|done|omega|fail))[c1, hlt]))
  refine W4 (by (repeat constructor)) (by simp) (by rw [u4]; omega) (by simp) ?_
  refine C3 () (by simp [hd]) ?_
  have := A0x (f := E5) (k := 4) (fun _ => rfl) l i Q2 hlt
  simp only [hd, Option.getD_some, E8, List.length_set, ← this]
  (repeat' constructor)
theorem A9E (w : World) (v : Value) (l : List EnV) (key : ByteArray) (hk : key.size < 2 ^ 60) (hks : L6 l) (hn : l.length ≤ 1000000) (hv : E9 w v l.length (l.flatMap E5)) :
  Fn PR B5 99 #[v, .string key] w (Rn [] w (fun r u => u = .tuple #[if (d3 l key).isSome then r else v, .bool (d3 l key).isSome]) fun r => [E8 r (A1d l key)]) := by
 refine A8J (TW.go (κ := false) (S := []) ?_)
 unfold A2p
 (have zz:=trivial;repeat((first|clear zz|with_reducible first|refine A3 ?_|refine A5 fun _=>?_|refine A4 fun _=>?_);try simp(disch:=first|omega|assumption|((repeat(first|exact A1|exact uH|apply A2|apply uT));first|done|fail)|(simp;first|done|omega|fail))[]))
 rename_i b
 refine G5 A1C (fun w' hw' => A7s w' v l 129 [.pointer (some ⟨b, 0, none⟩)] (d3 l key) (fun m h => B2F h) hn (hv.ks hw'.ks (by simp)) A42
  fun w2 r h hf hr => ?_) ?_
 ·have hp := hw'.pt (b := b) (by (repeat constructor))
  have hb : b < sz w' := G1 hp
  exact B28 w2 r l key b hk hn (h.cell (by simp) (hw'.cell1 (by (repeat constructor)))) (fun hc => by have := hf b hc; omega) hr
 ·rintro r _ rfl
  cases h : d3 l key with
  | none =>
   have e : A1d l key = l := by simp [A1d, h]
   (have zz:=trivial;repeat((first|clear zz|with_reducible first|refine A3 ?_|refine A5 fun _=>?_|refine A4 fun _=>?_);try simp(disch:=first|omega|assumption|((repeat(first|exact A1|exact uH|apply A2|apply uT));first|done|fail)|(simp;first|done|omega|fail))[]))
   exact C3 r (by simp) (by rw [e]; (repeat' constructor))
  | some m =>
   have e : A1d l key = H3 m := by simp [A1d, h]
   have hml := B2F h
   have hmk : L6 m := by
    unfold d3 at h
    by_cases c : D0 l key < 0
    ·rw [if_pos c] at h; cases h
    ·rw [if_neg c] at h; injection h with h; rw [← h]
     intro x hx
     rcases List.mem_or_eq_of_mem_set hx with hx | rfl
     ·exact hks x hx
     ·simp [Q2]
   simp only [Option.isSome_some, if_true, Option.getD_some]
   refine A1P (e := 119) (k := 4) (v := r) (q := m.length) (xs := m.flatMap E5) (by (repeat constructor)) ?_
   rintro ra rc rfl
   (have zz:=trivial;repeat((first|clear zz|with_reducible first|refine A3 ?_|refine A5 fun _=>?_|refine A4 fun _=>?_);try simp(disch:=first|omega|assumption|((repeat(first|exact A1|exact uH|apply A2|apply uT));first|done|fail)|(simp;first|done|omega|fail))[]))
   refine C7 x5 (fun w' hw' => A7a w' _ m 2 (by omega) (H4.own (by (repeat constructor)) w' hw')) ?_
   have hcl : P5 m 2 ≤ m.length := List.countP_le_length
   by_cases c1 : m.length < 2 * P5 m 2
   ·have c1' : (m.length : Int) < 2 * (P5 m 2 : Nat) := by omega
    have e2 : A1d l key = Y1 m := by rw [e, H3, if_pos c1]
    (have zz:=trivial;repeat((first|clear zz|with_reducible first|refine A3 ?_|refine A5 fun _=>?_|refine A4 fun _=>?_);try simp(disch:=first|omega|assumption|((repeat(first|exact A1|exact uH|apply A2|apply uT));first|done|fail)|(simp;first|done|omega|fail))[c1']))
    refine G5 A3p (fun w' hw' => B3Z w' _ m hmk (by omega) (H4.own (by (repeat constructor)) w' hw')) ?_
    rintro _ r rfl
    exact C3 r rfl (by rw [e2]; (repeat' constructor))
   ·have c1' : ¬ (m.length : Int) < 2 * (P5 m 2 : Nat) := by omega
    have e2 : A1d l key = m := by rw [e, H3, if_neg c1]
    (have zz:=trivial;repeat((first|clear zz|with_reducible first|refine A3 ?_|refine A5 fun _=>?_|refine A4 fun _=>?_);try simp(disch:=first|omega|assumption|((repeat(first|exact A1|exact uH|apply A2|apply uT));first|done|fail)|(simp;first|done|omega|fail))[c1']))
    exact C3 (.slice ra m.length rc) rfl (by rw [e2]; (repeat' constructor))
def P1 (l : List EnV) : Bool := (H8 l).all fun p => decide (D0 l p.2.key = p.1)
end Go.Proofs.YtlplkjgcfjdinaaGreat
namespace Go.Proofs.YtlplkjgcfjdinaaGreat
open Go
def A5f (X : Nat → Prop) (t0 : Value) (R : Value → WP) : WP :=
 jn (n := 2) (fun t3 t10 =>
 R t3) fun J1 =>
 B8 PR X 158 [t0] fun t7 =>
 B8 PR X 157 [t7, (.func (.func 159) #[] #[])] fun t8 =>
 A0 PR (A8 .len #[239] 0 [t8]) fun t9 =>
 lp (n := 2) (fun L2 t3_1 t10_1 =>
 A0 PR (binOp .lss 3 t10_1 t9) fun t11 =>
 jn (n := 0) (
 jn (n := 1) (fun t3_2 =>
 A0 PR (binOp .add 3 t10_1 (.int .i64 1)) fun t18 =>
 L2 t3_2 t18) fun J3 =>
 A0 PR (Instr.indexAt 239 t8 t10_1) fun t12 =>
 A6 PR (Instr.loadAt 241 t12) fun t13 =>
 B1 PR X (Instr.alloc 241 true (.tuple #[])) fun t5 =>
 B6 PR X (Instr.storeAt 241 t5 t13) <|
 A6 PR (Instr.loadAt 241 t5) fun t15 =>
 B1 PR X (Instr.buildSlice 147 1 #[(0, t15)]) fun t16 =>
 B1 PR X (A8 .append #[147, 147] 147 [t3_1, t16]) fun t17 =>
 J3 t17) fun J4 =>
 B7 t11 (
 J4) (
 J1 t3_1 t10_1)) (.slice none 0 0) (.int .i64 0)
theorem B02 : A9 PR 127 := A7 Tryz.func127 (by kernel_rfl) rfl
theorem B1W {X : Nat → Prop} {t0 : Value} {R : Value → WP} {w : World} (h : A5f X t0 R w) : Fn PR X 127 #[t0] w R := C8 (args := [t0]) mixed Tryz.func127 (by kernel_rfl) h
def A3D (X : Nat → Prop) (t0 : Value) (R : Value → WP) : WP :=
 B1 PR X (Instr.box 50 t0) fun t1 =>
 A0 PR (Instr.makeFunc (.func 174) #[] #[t1]) fun t3 =>
 R t3
theorem A75 : A9 PR 158 := A7 Tryz.func158 (by kernel_rfl) rfl
theorem A9C {X : Nat → Prop} {t0 : Value} {R : Value → WP} {w : World} (h : A3D X t0 R w) : Fn PR X 158 #[t0] w R := C8 (args := [t0]) mixed Tryz.func158 (by kernel_rfl) h
def s7 (X : Nat → Prop) (t0 t1 : Value) (R : Value → WP) : WP :=
 B1 PR X (Instr.box 241 t0) fun t2 =>
 B1 PR X (Instr.box 241 t1) fun t3 =>
 drw <|
 A0 PR (Instr.fieldAt 241 t2 0) fun t5 =>
 A6 PR (Instr.loadAt 122 t5) fun t6 =>
 A0 PR (Instr.fieldAt 241 t3 0) fun t7 =>
 A6 PR (Instr.loadAt 122 t7) fun t8 =>
 A0 PR (Instr.fieldAt 241 t2 1) fun t10 =>
 A6 PR (Instr.loadAt 3 t10) fun t11 =>
 A0 PR (Instr.fieldAt 241 t3 1) fun t12 =>
 A6 PR (Instr.loadAt 3 t12) fun t13 =>
 B8 PR X 177 [t6, t8] fun t9 =>
 watch PR [(none, (Instr.loadAt 3 t12), t13), (none, (Instr.loadAt 3 t10), t11)] <|
 B8 PR X 22 [t11, t13] fun t14 =>
 B1 PR X (Instr.buildSlice 35 2 #[(0, t9), (1, t14)]) fun t15 =>
 B8 PR X 176 [t15] fun t16 =>
 R t16
theorem A26 : A9 PR 159 := A7 Tryz.func159 (by kernel_rfl) rfl
theorem A3c {X : Nat → Prop} {t0 t1 : Value} {R : Value → WP} {w : World} (h : s7 X t0 t1 R w) : Fn PR X 159 #[t0, t1] w R := C8 (args := [t0, t1]) mixed Tryz.func159 (by kernel_rfl) h
def A1E (X : Nat → Prop) (t0 t1 : Value) (R : Value → WP) : WP :=
 A6 PR (Instr.loadAt 50 t1) fun t6 =>
 A0 PR (A8 .len #[50] 0 [t6]) fun t7 =>
 lp (n := 1) (fun L1 t8 =>
 A0 PR (binOp .lss 3 t8 t7) fun t9 =>
 jn (n := 0) (
 jn (n := 1) (fun t17 =>
 A0 PR (binOp .add 3 t8 (.int .i64 1)) fun t31 =>
 L1 t31) fun J2 =>
 A0 PR (Instr.indexAt 50 t6 t8) fun t10 =>
 A6 PR (Instr.loadAt 129 t10) fun t11 =>
 B1 PR X (Instr.alloc 129 true (.tuple #[])) fun t4 =>
 B6 PR X (Instr.storeAt 129 t4 t11) <|
 A0 PR (Instr.fieldAt 129 t4 1) fun t12 =>
 A6 PR (Instr.loadAt 3 t12) fun t13 =>
 A0 PR (A8 .min #[3, 3] 0 [t13, (.int .i64 16)]) fun t14 =>
 A0 PR (A8 .max #[3, 3] 0 [(.int .i64 0), t14]) fun t15 =>
 A0 PR (binOp .mul 3 (.int .i64 8) t15) fun t16 =>
 lp (n := 1) (fun L3 t17_1 =>
 A0 PR (binOp .lss 3 t17_1 t16) fun t18 =>
 jn (n := 0) (
 jn (n := 0) (
 A0 PR (binOp .add 3 t17_1 (.int .i64 1)) fun t30 =>
 L3 t30) fun J4 =>
 drw <|
 A0 PR (Instr.fieldAt 129 t4 0) fun t21 =>
 A6 PR (Instr.loadAt 3 t21) fun t22 =>
 A0 PR (Instr.fieldAt 129 t4 0) fun t25 =>
 A6 PR (Instr.loadAt 3 t25) fun t26 =>
 B8 PR X 175 [t22, t17_1] fun t24 =>
 watch PR [(none, (Instr.loadAt 3 t25), t26)] <|
 A0 PR (Instr.build 241 #[(0, t24), (1, t26)]) fun t27 =>
 F4 PR X t0 [t27] fun t28 =>
 A0 PR (Op.unary .not t28) fun t29 =>
 B7 t29 (
 R (.tuple #[])) (
 J4)) fun J5 =>
 B7 t18 (
 J5) (
 J2 t17_1)) (.int .i64 0)) fun J6 =>
 B7 t9 (
 J6) (
 R (.tuple #[]))) (.int .i64 0)
theorem A5j : A9 PR 174 := A7 Tryz.func174 (by kernel_rfl) rfl
theorem A6U {X : Nat → Prop} {t0 t1 : Value} {R : Value → WP} {w : World} (h : A1E X t0 t1 R w) : Fn PR X 174 #[t0, t1] w R := C8 (args := [t0, t1]) mixed Tryz.func174 (by kernel_rfl) h
theorem A6Z {X : Nat → Prop} {t0 t1 : Value} {K : Value → WP} {w : World} (h : Fn PR X 174 #[t0, t1] w K) : r6 PR X 174 [t0, t1] K w := ⟨A5j, h⟩
def A3E (X : Nat → Prop) (t0 t1 : Value) (R : Value → WP) : WP :=
 A0 PR (convert 3 122 t0) fun t6 =>
 B8 PR X 95 [t6, (.int .i64 4)] fun t7 =>
 B8 PR X 96 [t7] fun t8 =>
 A0 PR (convert 3 122 t1) fun t10 =>
 B8 PR X 95 [t10, (.int .i64 2)] fun t11 =>
 B8 PR X 95 [(.int .u64 0), (.int .i64 4)] fun t12 =>
 A0 PR (binOp .add 9 t11 t12) fun t13 =>
 B8 PR X 123 [t8, t13] fun t14 =>
 R t14
theorem A73 : A9 PR 175 := A7 Tryz.func175 (by kernel_rfl) rfl
theorem A9L {X : Nat → Prop} {t0 t1 : Value} {R : Value → WP} {w : World} (h : A3E X t0 t1 R w) : Fn PR X 175 #[t0, t1] w R := C8 (args := [t0, t1]) mixed Tryz.func175 (by kernel_rfl) h
end Go.Proofs.YtlplkjgcfjdinaaGreat
namespace Go.Proofs.YtlplkjgcfjdinaaGreat
open Go
def B31 (id : Int) (n : Nat) : Nat := B4U (e9 (F7 (IntKind.u64.wrap id) 4)) (F7 n 2 ++ F7 0 4)
theorem B9V (w : World) (id : Int) (n : Nat) (hn : n < 2 ^ 62) : Fn PR B5 175 #[.int .i64 id, .int .i64 (n : Int)] w (fun v w' => v = .int .u64 (B31 id n : Nat) ∧ C6 [] w w') := by
 refine Fn.pure (A9L (TW.go (κ := false) (S := []) ?_))
 unfold A3E
 (have zz:=trivial;repeat((first|clear zz|with_reducible first|refine A3 ?_|refine A5 fun _=>?_|refine A4 fun _=>?_);try simp(disch:=first|omega|assumption|((repeat(first|exact A1|exact uH|apply A2|apply uT));first|done|fail)|(simp;first|done|omega|fail))[]))
 refine C7 G6 (fun w' hw' => j8 w' _ _) ?_
 (have zz:=trivial;repeat((first|clear zz|with_reducible first|refine A3 ?_|refine A5 fun _=>?_|refine A4 fun _=>?_);try simp(disch:=first|omega|assumption|((repeat(first|exact A1|exact uH|apply A2|apply uT));first|done|fail)|(simp;first|done|omega|fail))[]))
 refine C7 A0W (fun w' _ => A2d w' _ (by simp)) ?_
 (have zz:=trivial;repeat((first|clear zz|with_reducible first|refine A3 ?_|refine A5 fun _=>?_|refine A4 fun _=>?_);try simp(disch:=first|omega|assumption|((repeat(first|exact A1|exact uH|apply A2|apply uT));first|done|fail)|(simp;first|done|omega|fail))[]))
 refine C7 G6 (fun w' hw' => j8 w' _ _) ?_
 (have zz:=trivial;repeat((first|clear zz|with_reducible first|refine A3 ?_|refine A5 fun _=>?_|refine A4 fun _=>?_);try simp(disch:=first|omega|assumption|((repeat(first|exact A1|exact uH|apply A2|apply uT));first|done|fail)|(simp;first|done|omega|fail))[]))
 refine C7 G6 (fun w' hw' => j8 w' _ _) ?_
 (have zz:=trivial;repeat((first|clear zz|with_reducible first|refine A3 ?_|refine A5 fun _=>?_|refine A4 fun _=>?_);try simp(disch:=first|omega|assumption|((repeat(first|exact A1|exact uH|apply A2|apply uT));first|done|fail)|(simp;first|done|omega|fail))[d6]))
 refine C7 A5s (fun w' _ => B3j w' _ _ (A84 _) (by simp)) ?_
 exact B0 rfl
def wtN (b : L5) : Nat := 8 * (max 0 (min b.2 16)).toNat
def A9l (b : L5) : List (Nat × Int) := (List.range (wtN b)).map fun n => (B31 b.1 n, b.1)
def G2 (p : List L5) : List (Nat × Int) := p.flatMap A9l
def F3 (x : Nat × Int) : List Value := [.int .u64 (x.1 : Nat), .int .i64 x.2]
def ptA (x : Nat × Int) : List Value := [.agg #[.int .u64 (x.1 : Nat), .int .i64 x.2]]
abbrev A79 (b : Nat) : Value := .func (.func 174) #[] #[.pointer (some ⟨b, 0, none⟩)]
theorem B65 (w : World) (v : Value) (hv : ∃ a n c, v = .slice a n c) : Fn PR B5 158 #[v] w (Rn [] w (fun b u => u = A79 b) fun b => [.pt b (.cells #[v] 50)]) := by
 obtain ⟨a, n, c, rfl⟩ := hv
 refine A9C (TW.go (κ := false) (S := []) ?_)
 unfold A3D
 (have zz:=trivial;repeat((first|clear zz|with_reducible first|refine A3 ?_|refine A5 fun _=>?_|refine A4 fun _=>?_);try simp(disch:=first|omega|assumption|((repeat(first|exact A1|exact uH|apply A2|apply uT));first|done|fail)|(simp;first|done|omega|fail))[]))
 rename_i b
 exact k7 b rfl (by simp)
theorem B3k {p : List L5} {i : Nat} {x : L5} (hx : p[i]? = some x) : G2 (p.take (i + 1)) = G2 (p.take i) ++ A9l x := by
 rw [List.take_add_one, hx]; simp [G2]
theorem B7M {p : List L5} {i n : Nat} {x : L5} (hx : p[i]? = some x) (hn : n < wtN x) : (G2 p)[(G2 (p.take i)).length + n]? = some (B31 x.1 n, x.1) := by
 have e : p = p.take (i + 1) ++ p.drop (i + 1) := (List.take_append_drop _ _).symm
 conv => lhs; arg 1; rw [e]
 have h2 : G2 (p.take (i + 1) ++ p.drop (i + 1)) = G2 (p.take (i + 1)) ++ G2 (p.drop (i + 1)) := by simp only [G2, List.flatMap_append]
 rw [h2, B3k hx, List.append_assoc, List.getElem?_append_right (by omega), Nat.add_sub_cancel_left, List.getElem?_append_left (by simp [A9l, hn])]
 simp [A9l, hn]
theorem B7a (b : Nat) (v : Value) (p : List L5) (hn : p.length ≤ 1000000) : A1W (A79 b) [.pt b (.cells #[v] 50)] (RqS v p.length (p.flatMap H0)) ((G2 p).map ptA) := by
 refine ⟨_, _, _, rfl, fun y J E hJ hE stJ stE hy w0 h0 => ?_⟩
 obtain ⟨a, c, hv, hr⟩ := (hJ _ _ _ h0).2
 subst hv
 refine A6Z (A6U (TW.at (κ := true) ?_ (hJ _ _ _ h0).1))
 unfold A1E
 (have zz:=trivial;repeat((first|clear zz|with_reducible first|refine A3 ?_|refine A5 fun _=>?_|refine A4 fun _=>?_);try simp(disch:=first|omega|assumption|((repeat(first|exact A1|exact uH|apply A2|apply uT));first|done|fail)|(simp;first|done|omega|fail))[]))
 refine A10 p.length (fun i => (G2 (p.take i)).length) (fun _ => _) hJ stJ (by simpa [G2] using h0) fun i a' hi hJi hRi L hL => ?_
 by_cases hlt : i < p.length
 ·obtain ⟨_, _, hv, hr⟩ := hRi
  obtain ⟨b', o, hb, hrow, hnb⟩ := hr (by omega)
  cases hv
  subst hb
  obtain ⟨x, hx⟩ : ∃ x, p[i]? = some x := ⟨_, List.getElem?_eq_getElem hlt⟩
  have h1 := hrow.at (f := H0) (k := 2) (fun _ => rfl) hx
  rw [H0] at h1
  have hlen : (G2 (p.take (i + 1))).length = (G2 (p.take i)).length + wtN x := by rw [B3k hx]; simp [A9l]
  rw [hlen] at hL
  have hw : 8 * max 0 (min x.2 16) = (wtN x : Nat) := by unfold wtN; omega
  have hwl : wtN x ≤ 128 := by unfold wtN; omega
  (have zz:=trivial;repeat((first|clear zz|with_reducible first|refine A3 ?_|refine A5 fun _=>?_|refine A4 fun _=>?_);try simp(disch:=first|omega|assumption|((repeat(first|exact A1|exact uH|apply A2|apply uT));first|done|fail)|(simp;first|done|omega|fail))[hlt, h1]))
  rename_i b4
  rw [hw]
  refine A10 (wtN x) (fun n => (G2 (p.take i)).length + n) (fun _ => _) hJ stJ hJi fun n a2 hi2 hJn hRn L2 hL2 => ?_
  by_cases hlt2 : n < wtN x
  ·have hg := B7M hx hlt2
   obtain ⟨hgi, hg'⟩ := List.getElem?_eq_some_iff.1 hg
   (have zz:=trivial;repeat((first|clear zz|with_reducible first|refine A3 ?_|refine A5 fun _=>?_|refine A4 fun _=>?_);try simp(disch:=first|omega|assumption|((repeat(first|exact A1|exact uH|apply A2|apply uT));first|done|fail)|(simp;first|done|omega|fail))[hlt2]))
   refine C7 A73 (fun w' _ => B9V w' x.1 n (by omega)) ?_
   (have zz:=trivial;repeat((first|clear zz|with_reducible first|refine A3 ?_|refine A5 fun _=>?_|refine A4 fun _=>?_);try simp(disch:=first|omega|assumption|((repeat(first|exact A1|exact uH|apply A2|apply uT));first|done|fail)|(simp;first|done|omega|fail))[]))
   refine A2M hJ hE stJ hy hJn (by simpa using hgi) (by rw [List.getElem_map, hg', ptA]) (fun w3 h => ?_) (fun w3 h => ?_)
   ·(have zz:=trivial;repeat((first|clear zz|with_reducible first|refine A3 ?_|refine A5 fun _=>?_|refine A4 fun _=>?_);try simp(disch:=first|omega|assumption|((repeat(first|exact A1|exact uH|apply A2|apply uT));first|done|fail)|(simp;first|done|omega|fail))[]))
    exact fun w' hw' => hL2 hlt2 w' (stJ _ _ _ _ _ h hw')
   ·(have zz:=trivial;repeat((first|clear zz|with_reducible first|refine A3 ?_|refine A5 fun _=>?_|refine A4 fun _=>?_);try simp(disch:=first|omega|assumption|((repeat(first|exact A1|exact uH|apply A2|apply uT));first|done|fail)|(simp;first|done|omega|fail))[]))
    exact A0j stE h
  ·obtain rfl : n = wtN x := by omega
   (have zz:=trivial;repeat((first|clear zz|with_reducible first|refine A3 ?_|refine A5 fun _=>?_|refine A4 fun _=>?_);try simp(disch:=first|omega|assumption|((repeat(first|exact A1|exact uH|apply A2|apply uT));first|done|fail)|(simp;first|done|omega|fail))[]))
   exact fun w' hw' => hL hlt w' (stJ _ _ _ _ _ hJn (hw'.sub (by simp)))
 ·obtain rfl : i = p.length := by omega
  rw [List.take_length] at hJi
  (have zz:=trivial;repeat((first|clear zz|with_reducible first|refine A3 ?_|refine A5 fun _=>?_|refine A4 fun _=>?_);try simp(disch:=first|omega|assumption|((repeat(first|exact A1|exact uH|apply A2|apply uT));first|done|fail)|(simp;first|done|omega|fail))[]))
  exact A05 stJ (by simpa using hJi)
end Go.Proofs.YtlplkjgcfjdinaaGreat
