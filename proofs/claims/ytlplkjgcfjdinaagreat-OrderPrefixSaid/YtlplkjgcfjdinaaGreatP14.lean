/- The proof of a given statement, a part of it (Packet Bytes Sl ShFnv Fnv Probe Flows Flows2 ShPoints Points). No condition but what each lemma says. -/
import Derived.Lib.SlBytesRow
import Derived.Test.YtlplkjgcfjdinaaGreatP13
set_option linter.unusedVariables false
set_option linter.unusedSimpArgs false
namespace Go.Proofs.YtlplkjgcfjdinaaGreat
open Go
structure KeyV where
 v : Int
 src : ByteArray
 dst : ByteArray
 fr : Int
 tp : Int
 proto : Int
 deriving DecidableEq
def KeyV.cs (k : KeyV) : List Value := [.int .i64 k.v, .string k.src, .string k.dst, .int .i64 k.fr, .int .i64 k.tp, .int .i64 k.proto]
def KeyV.val (k : KeyV) : Value := .agg #[.int .i64 k.v, .string k.src, .string k.dst, .int .i64 k.fr, .int .i64 k.tp, .int .i64 k.proto]
def noK : KeyV := ⟨0, U6, U6, 0, 0, 0⟩
def k7 (s : ByteArray) : KeyV × ByteArray × Nat :=
 if s.size = 0 then (noK, U6, 2) else if D4 s 0 / 16 = 4 then (⟨4, (s9 s).src, (s9 s).dst, 0, 0, (s9 s).proto⟩, (s9 s).rest, (s9 s).e)
 else if D4 s 0 / 16 = 6 then (⟨6, (l4 s).src, (l4 s).dst, 0, 0, (l4 s).proto⟩, (l4 s).rest, (l4 s).e) else (noK, U6, 3)
def keyed.val (x : KeyV × ByteArray × Nat) : Value := .tuple #[x.1.val, .string x.2.1, .int .i64 x.2.2]
theorem B5g (w : World) (src dst : ByteArray) (p : Int) : Fn PR B5 115 #[.agg #[.string src, .string dst, .int .i64 p]] w (fun v w' => v = KeyV.val ⟨4, src, dst, 0, 0, p⟩ ∧ C6 [] w w') := by
 refine Fn.pure (A5y (TW.go (κ := false) (S := []) ?_))
 unfold A0y
 (have zz:=trivial;repeat((first|clear zz|with_reducible first|refine A3 ?_|refine A5 fun _=>?_|refine A4 fun _=>?_);try simp(disch:=first|omega|assumption|((repeat(first|exact A1|exact uH|apply A2|apply uT));first|done|fail)|(simp;first|done|omega|fail))[]))
 exact A9 rfl
theorem B4s (w : World) (src dst : ByteArray) (p : Int) : Fn PR B5 118 #[.agg #[.string src, .string dst, .int .i64 p]] w (fun v w' => v = KeyV.val ⟨6, src, dst, 0, 0, p⟩ ∧ C6 [] w w') := by
 refine Fn.pure (A52 (TW.go (κ := false) (S := []) ?_))
 unfold A01
 (have zz:=trivial;repeat((first|clear zz|with_reducible first|refine A3 ?_|refine A5 fun _=>?_|refine A4 fun _=>?_);try simp(disch:=first|omega|assumption|((repeat(first|exact A1|exact uH|apply A2|apply uT));first|done|fail)|(simp;first|done|omega|fail))[]))
 exact A9 rfl
theorem B8P (w : World) (s : ByteArray) (hs : s.size < 2 ^ 40) : Fn PR B5 113 #[.string s, .func (.func 114) #[] #[], .func (.func 115) #[] #[]] w
  (fun v w' => v = keyed.val (⟨4, (s9 s).src, (s9 s).dst, 0, 0, (s9 s).proto⟩, (s9 s).rest, (s9 s).e) ∧ C6 [] w w') := by
 refine Fn.pure (A2M (TW.go (κ := false) (S := []) ?_))
 unfold n7
 (have zz:=trivial;repeat((first|clear zz|with_reducible first|refine A3 ?_|refine A5 fun _=>?_|refine A4 fun _=>?_);try simp(disch:=first|omega|assumption|((repeat(first|exact A1|exact uH|apply A2|apply uT));first|done|fail)|(simp;first|done|omega|fail))[]))
 refine C5 B0q (fun w' _ => B3W w' s hs) ?_
 (have zz:=trivial;repeat((first|clear zz|with_reducible first|refine A3 ?_|refine A5 fun _=>?_|refine A4 fun _=>?_);try simp(disch:=first|omega|assumption|((repeat(first|exact A1|exact uH|apply A2|apply uT));first|done|fail)|(simp;first|done|omega|fail))[HeadV.val]))
 refine C5 A5H (fun w' _ => B5g w' _ _ _) ?_
 (have zz:=trivial;repeat((first|clear zz|with_reducible first|refine A3 ?_|refine A5 fun _=>?_|refine A4 fun _=>?_);try simp(disch:=first|omega|assumption|((repeat(first|exact A1|exact uH|apply A2|apply uT));first|done|fail)|(simp;first|done|omega|fail))[KeyV.val]))
 exact A9 (by simp [keyed.val, KeyV.val])
theorem B7Y (w : World) (s : ByteArray) (hs : s.size < 2 ^ 40) : Fn PR B5 116 #[.string s, .func (.func 117) #[] #[], .func (.func 118) #[] #[]] w
  (fun v w' => v = keyed.val (⟨6, (l4 s).src, (l4 s).dst, 0, 0, (l4 s).proto⟩, (l4 s).rest, (l4 s).e) ∧ C6 [] w w') := by
 refine Fn.pure (A2H (TW.go (κ := false) (S := []) ?_))
 unfold n5
 (have zz:=trivial;repeat((first|clear zz|with_reducible first|refine A3 ?_|refine A5 fun _=>?_|refine A4 fun _=>?_);try simp(disch:=first|omega|assumption|((repeat(first|exact A1|exact uH|apply A2|apply uT));first|done|fail)|(simp;first|done|omega|fail))[]))
 refine C5 B1F (fun w' _ => B3d w' s hs) ?_
 (have zz:=trivial;repeat((first|clear zz|with_reducible first|refine A3 ?_|refine A5 fun _=>?_|refine A4 fun _=>?_);try simp(disch:=first|omega|assumption|((repeat(first|exact A1|exact uH|apply A2|apply uT));first|done|fail)|(simp;first|done|omega|fail))[HeadV.val]))
 refine C5 A5L (fun w' _ => B4s w' _ _ _) ?_
 (have zz:=trivial;repeat((first|clear zz|with_reducible first|refine A3 ?_|refine A5 fun _=>?_|refine A4 fun _=>?_);try simp(disch:=first|omega|assumption|((repeat(first|exact A1|exact uH|apply A2|apply uT));first|done|fail)|(simp;first|done|omega|fail))[KeyV.val]))
 exact A9 (by simp [keyed.val, KeyV.val])
theorem B9L (w : World) (v : Int) : Fn PR B5 93 #[.int .i64 v] w (fun u w' => u = .int .i64 (if v = 4 then 4 else if v = 6 then 16 else 0) ∧ C6 [] w w') := by
 refine Fn.pure (A92 (TW.go (κ := false) (S := []) ?_))
 unfold A32
 by_cases c1 : v = 4
 ·(have zz:=trivial;repeat((first|clear zz|with_reducible first|refine A3 ?_|refine A5 fun _=>?_|refine A4 fun _=>?_);try simp(disch:=first|omega|assumption|((repeat(first|exact A1|exact uH|apply A2|apply uT));first|done|fail)|(simp;first|done|omega|fail))[c1])); exact A9 (by simp)
 by_cases c2 : v = 6
 ·(have zz:=trivial;repeat((first|clear zz|with_reducible first|refine A3 ?_|refine A5 fun _=>?_|refine A4 fun _=>?_);try simp(disch:=first|omega|assumption|((repeat(first|exact A1|exact uH|apply A2|apply uT));first|done|fail)|(simp;first|done|omega|fail))[c1, c2])); exact A9 (by simp)
 ·(have zz:=trivial;repeat((first|clear zz|with_reducible first|refine A3 ?_|refine A5 fun _=>?_|refine A4 fun _=>?_);try simp(disch:=first|omega|assumption|((repeat(first|exact A1|exact uH|apply A2|apply uT));first|done|fail)|(simp;first|done|omega|fail))[c1, c2])); exact A9 (by simp)
theorem B7N (w : World) (s : ByteArray) (hs : s.size < 2 ^ 40) : Fn PR B5 91 #[.string s] w (fun u w' => u = keyed.val (k7 s) ∧ C6 [] w w') := by
 refine Fn.pure (A8W (TW.go (κ := false) (S := []) ?_))
 unfold A2f
 by_cases c0 : s.size = 0
 ·have e : s = ByteArray.mk #[] := by
   apply ByteArray.ext; exact Array.eq_empty_of_size_eq_zero c0
  (have zz:=trivial;repeat((first|clear zz|with_reducible first|refine A3 ?_|refine A5 fun _=>?_|refine A4 fun _=>?_);try simp(disch:=first|omega|assumption|((repeat(first|exact A1|exact uH|apply A2|apply uT));first|done|fail)|(simp;first|done|omega|fail))[e]))
  exact A9 (by simp [k7, keyed.val, noK, KeyV.val])
 have c0' : ¬ s = ByteArray.mk #[] := fun e => c0 (by rw [e]; rfl)
 obtain ⟨by0, hb0, hb1⟩ := u0 (s := s) (i := 0) (by omega)
 have hb0' : s[(0 : Int).toNat]? = some by0 := hb0
 have hl0 := w8 s 0
 have e1 : ((by0.toNat : Nat) : Int).fdiv (2 ^ min 4 IntKind.u8.bits) = (D4 s 0 / 16 : Nat) := by rw [show (2 : Int) ^ min 4 IntKind.u8.bits = 16 from rfl, Int.fdiv_eq_ediv_of_nonneg _ (by omega), hb1]; omega
 by_cases c1 : D4 s 0 / 16 = 4
 ·have c1' : ((D4 s 0 : Nat) : Int) / 16 = 4 := by omega
  (have zz:=trivial;repeat((first|clear zz|with_reducible first|refine A3 ?_|refine A5 fun _=>?_|refine A4 fun _=>?_);try simp(disch:=first|omega|assumption|((repeat(first|exact A1|exact uH|apply A2|apply uT));first|done|fail)|(simp;first|done|omega|fail))[c0', V4]))
  rw [e1]
  (have zz:=trivial;repeat((first|clear zz|with_reducible first|refine A3 ?_|refine A5 fun _=>?_|refine A4 fun _=>?_);try simp(disch:=first|omega|assumption|((repeat(first|exact A1|exact uH|apply A2|apply uT));first|done|fail)|(simp;first|done|omega|fail))[c1', c1]))
  refine C5 A10 (fun w' _ => B8P w' s hs) ?_
  (have zz:=trivial;repeat((first|clear zz|with_reducible first|refine A3 ?_|refine A5 fun _=>?_|refine A4 fun _=>?_);try simp(disch:=first|omega|assumption|((repeat(first|exact A1|exact uH|apply A2|apply uT));first|done|fail)|(simp;first|done|omega|fail))[keyed.val, KeyV.val]))
  exact A9 (by simp [k7, keyed.val, KeyV.val, c0, c1])
 have c1' : ¬ ((D4 s 0 : Nat) : Int) / 16 = 4 := by omega
 by_cases c2 : D4 s 0 / 16 = 6
 ·have c2' : ((D4 s 0 : Nat) : Int) / 16 = 6 := by omega
  (have zz:=trivial;repeat((first|clear zz|with_reducible first|refine A3 ?_|refine A5 fun _=>?_|refine A4 fun _=>?_);try simp(disch:=first|omega|assumption|((repeat(first|exact A1|exact uH|apply A2|apply uT));first|done|fail)|(simp;first|done|omega|fail))[c0', V4]))
  rw [e1]
  (have zz:=trivial;repeat((first|clear zz|with_reducible first|refine A3 ?_|refine A5 fun _=>?_|refine A4 fun _=>?_);try simp(disch:=first|omega|assumption|((repeat(first|exact A1|exact uH|apply A2|apply uT));first|done|fail)|(simp;first|done|omega|fail))[c1', c1, c2', c2, V4]))
  refine C5 A2F (fun w' _ => B7Y w' s hs) ?_
  (have zz:=trivial;repeat((first|clear zz|with_reducible first|refine A3 ?_|refine A5 fun _=>?_|refine A4 fun _=>?_);try simp(disch:=first|omega|assumption|((repeat(first|exact A1|exact uH|apply A2|apply uT));first|done|fail)|(simp;first|done|omega|fail))[keyed.val, KeyV.val]))
  exact A9 (by simp [k7, keyed.val, KeyV.val, c0, c1, c2])
 have c2' : ¬ ((D4 s 0 : Nat) : Int) / 16 = 6 := by omega
 (have zz:=trivial;repeat((first|clear zz|with_reducible first|refine A3 ?_|refine A5 fun _=>?_|refine A4 fun _=>?_);try simp(disch:=first|omega|assumption|((repeat(first|exact A1|exact uH|apply A2|apply uT));first|done|fail)|(simp;first|done|omega|fail))[c0', V4]))
 rw [e1]
 (have zz:=trivial;repeat((first|clear zz|with_reducible first|refine A3 ?_|refine A5 fun _=>?_|refine A4 fun _=>?_);try simp(disch:=first|omega|assumption|((repeat(first|exact A1|exact uH|apply A2|apply uT));first|done|fail)|(simp;first|done|omega|fail))[c1', c1, c2', c2, V4]))
 exact A9 (by simp [k7, keyed.val, KeyV.val, c0, c1, c2, noK])
def D1 (s : ByteArray) : KeyV × Nat × Nat :=
 let x := k7 s
 if x.2.2 ≠ 0 then (noK, 0, x.2.2) else let y := V5 x.1.proto x.2.1; if y.2.2.2 ≠ 0 then (noK, 0, y.2.2.2) else ({ x.1 with fr := y.1, tp := y.2.1 }, y.2.2.1, 0)
def Z1 (k : KeyV) (f : Int) : Value := .agg #[.int .i64 k.v, .string k.src, .string k.dst, .int .i64 k.fr, .int .i64 k.tp, .int .i64 k.proto, .int .i64 f]
def packet.val (x : KeyV × Nat × Nat) : Value := .tuple #[Z1 x.1 x.2.1, .int .i64 x.2.2]
theorem B67 (s : ByteArray) : (s9 s).rest.size ≤ s.size := by
 unfold s9; split
 ·simp only [ByteArray.size_extract]; omega
 ·simp [HeadV.err]
theorem B6b (s : ByteArray) : (l4 s).rest.size ≤ s.size := by
 unfold l4; split
 ·simp only [ByteArray.size_extract]; omega
 ·simp [HeadV.err]
theorem B3F (s : ByteArray) : (k7 s).2.1.size ≤ s.size := by
 unfold k7
 split
 ·simp
 split
 ·exact B67 s
 split
 ·exact B6b s
 ·simp
theorem A9N (w : World) (s : ByteArray) (hs : s.size < 2 ^ 40) : Fn PR B5 70 #[.string s] w (fun u w' => u = packet.val (D1 s) ∧ C6 [] w w') := by
 refine Fn.pure (A8s (TW.go (κ := false) (S := []) ?_))
 unfold A2S
 (have zz:=trivial;repeat((first|clear zz|with_reducible first|refine A3 ?_|refine A5 fun _=>?_|refine A4 fun _=>?_);try simp(disch:=first|omega|assumption|((repeat(first|exact A1|exact uH|apply A2|apply uT));first|done|fail)|(simp;first|done|omega|fail))[]))
 refine C5 A7a (fun w' _ => B7N w' s hs) ?_
 have hr := B3F s
 by_cases c1 : (k7 s).2.2 = 0
 ·(have zz:=trivial;repeat((first|clear zz|with_reducible first|refine A3 ?_|refine A5 fun _=>?_|refine A4 fun _=>?_);try simp(disch:=first|omega|assumption|((repeat(first|exact A1|exact uH|apply A2|apply uT));first|done|fail)|(simp;first|done|omega|fail))[keyed.val, KeyV.val, c1]))
  refine C5 A9e (fun w' _ => B2E w' _ (by omega) _) ?_
  by_cases c2 : (V5 (k7 s).1.proto (k7 s).2.1).2.2.2 = 0
  ·(have zz:=trivial;repeat((first|clear zz|with_reducible first|refine A3 ?_|refine A5 fun _=>?_|refine A4 fun _=>?_);try simp(disch:=first|omega|assumption|((repeat(first|exact A1|exact uH|apply A2|apply uT));first|done|fail)|(simp;first|done|omega|fail))[V5.val, c2]))
   exact A9 (by simp [D1, packet.val, Z1, KeyV.val, c1, c2])
  ·(have zz:=trivial;repeat((first|clear zz|with_reducible first|refine A3 ?_|refine A5 fun _=>?_|refine A4 fun _=>?_);try simp(disch:=first|omega|assumption|((repeat(first|exact A1|exact uH|apply A2|apply uT));first|done|fail)|(simp;first|done|omega|fail))[V5.val, c2]))
   exact A9 (by simp [D1, packet.val, Z1, KeyV.val, c1, c2, noK])
 ·(have zz:=trivial;repeat((first|clear zz|with_reducible first|refine A3 ?_|refine A5 fun _=>?_|refine A4 fun _=>?_);try simp(disch:=first|omega|assumption|((repeat(first|exact A1|exact uH|apply A2|apply uT));first|done|fail)|(simp;first|done|omega|fail))[keyed.val, KeyV.val, c1]))
  exact A9 (by simp [D1, packet.val, Z1, KeyV.val, c1, noK])
def k4 (k : KeyV) (f : Int) : Bool := decide (k.proto = 6) && !decide (IntKind.i64.wrap ((f % 2 ^ IntKind.i64.bits).toNat &&& 5 % 2 ^ IntKind.i64.bits : Nat) = 0)
theorem A8e (w : World) (k : KeyV) (f : Int) : Fn PR B5 74 #[Z1 k f] w (fun u w' => u = .bool (k4 k f) ∧ C6 [] w w') := by
 refine Fn.pure (A60 (TW.go (κ := false) (S := []) ?_))
 unfold A1V
 by_cases c0 : k.proto = 6
 ·(have zz:=trivial;repeat((first|clear zz|with_reducible first|refine A3 ?_|refine A5 fun _=>?_|refine A4 fun _=>?_);try simp(disch:=first|omega|assumption|((repeat(first|exact A1|exact uH|apply A2|apply uT));first|done|fail)|(simp;first|done|omega|fail))[Z1, KeyV.val, c0]))
  exact A9 (by simp [k4, c0])
 ·(have zz:=trivial;repeat((first|clear zz|with_reducible first|refine A3 ?_|refine A5 fun _=>?_|refine A4 fun _=>?_);try simp(disch:=first|omega|assumption|((repeat(first|exact A1|exact uH|apply A2|apply uT));first|done|fail)|(simp;first|done|omega|fail))[Z1, KeyV.val, c0]))
  exact A9 (by simp [k4, c0])
end Go.Proofs.YtlplkjgcfjdinaaGreat
namespace Go.Proofs.YtlplkjgcfjdinaaGreat
open Go
section
variable {κ : Bool} {X : Nat → Prop} {S : List Nat} {w0 : World} {H H' : List Res} {K : Value → WP}
theorem B7B {P : Program} {g : Sem Value} {u : Value} {b : Nat} {c c' : Array Value} {T : TypeId} (hrun : ∀ w, bl w b = some (.cells c T (0, 0)) → g.run P w = .ok u (World.putb w b (.cells c' T (0, 0))))
  (hu : Up (.pt b (.cells c T (0, 0))) (.pt b (.cells c' T (0, 0))) H H') (hK : TW κ S w0 H' (K u)) : TW κ S w0 H (B1 P X g K) := fun w hw => by
 have hm : Res.pt b (.cells c T (0, 0)) ∈ H := by obtain ⟨A, B, rfl, _⟩ := hu.parts; simp
 have hb := hw.pt hm
 rw [l5 (hrun w hb) (Sk.putb X hb)]
 refine hK _ (hw.up hu ⟨KS.putb hb (by simp [Res.foot]), ?_, ?_, by simp⟩)
 ·simp only [List.mem_singleton, forall_eq, Res.holds]; exact ⟨T9 (G4 hb), rfl⟩
 ·simp only [List.mem_singleton, forall_eq, Res.foot]; exact ⟨Or.inl (by simp), by have := G4 hb; simpa using this⟩
theorem B32 (w : World) : (underlying 160).run PR w = .ok (.slice 5) w := A6W.run_und
theorem C10 (w : World) : (underlying 159).run PR w = .ok (.array 38 5) w := B4v.run_und
def W8 (s : ByteArray) (o : Nat) (t : ByteArray) : ByteArray := s.extract 0 o ++ t ++ s.extract (o + t.size) s.size
theorem A5a {s t : ByteArray} {o : Nat} (h : o + t.size ≤ s.size) : (W8 s o t).size = s.size := by simp [W8]; omega
theorem B0Q (s t : ByteArray) (o : Nat) (h : o + t.size ≤ s.size) : D7 (P4 s).toArray o (P4 t) = (P4 (W8 s o t)).toArray := by
 apply Array.toList_inj.1
 rw [A1a _ _ _ (by simpa using h)]
 simp [P4, W8, List.map_take, List.map_drop]
 rw [List.take_of_length_le (by simp)]
theorem A9A {b o n c : Nat} {s t : ByteArray} {T : TypeId} (hu : Up (.pt b (.cells (P4 s).toArray T)) (.pt b (.cells (P4 (W8 s o t)).toArray T)) H H') (hn : t.size ≤ n) (hs : o + t.size ≤ s.size)
  (hK : TW κ S w0 H' (K (.int .i64 t.size))) : TW κ S w0 H (B1 PR X (A8 .copy #[160, 9] 3 [.slice (some ⟨b, o, none⟩) n c, .string t]) K) := by
 refine B7B (u := .int .i64 t.size) (fun w hb => ?_) hu hK
 have hst := m6 (P := PR) (o0 := o) (P4 t) 0 w (P4 s).toArray hb (by simpa using hs) (A7A t)
 rw [Nat.add_zero, B0Q s t o hs] at hst
 have hl : Nat.min t.size n = t.size := Nat.min_eq_left hn
 have htk : List.take t.size (List.map (fun b : UInt8 => Value.int IntKind.u8 (b.toNat : Int)) t.data.toList) = P4 t := by
  rw [List.take_of_length_le (by simp)]; rfl
 show (Builtin.copy_ #[160, 9] 3 #[.slice (some ⟨b, o, none⟩) n c, .string t]).run PR w = _
 simp [Builtin.copy_, B32, ty5.run_size, Builtin.lenOf, Builtin.firstCells, hl]
 rw [htk, hst]
 simp [goInt, Result.andThen]
def z38 : ByteArray := A7q z1 38
theorem A4S : z38.size = 38 := A1G 38
theorem B6y : (Builtin.zeroCells (Value.int .u8 0).cells 38).toList = P4 z38 := by kernel_rfl
theorem B96 : (P4 z38).toArray = #[.int .u8 0, .int .u8 0, .int .u8 0, .int .u8 0, .int .u8 0, .int .u8 0, .int .u8 0, .int .u8 0, .int .u8 0, .int .u8 0, .int .u8 0, .int .u8 0, .int .u8 0, .int .u8 0, .int .u8 0, .int .u8 0, .int .u8 0, .int .u8 0, .int .u8 0, .int .u8 0, .int .u8 0, .int .u8 0, .int .u8 0, .int .u8 0, .int .u8 0, .int .u8 0, .int .u8 0, .int .u8 0, .int .u8 0, .int .u8 0, .int .u8 0, .int .u8 0, .int .u8 0, .int .u8 0, .int .u8 0, .int .u8 0, .int .u8 0, .int .u8 0] := by kernel_rfl
theorem B6D {b : Nat} {s : ByteArray} {T : TypeId} (hs : s.size = 38) (hu : Up (.pt b (.cells (P4 s).toArray T)) (.pt b (.cells (P4 z38).toArray T)) H H')
  (hK : TW κ S w0 H' (K (.tuple #[]))) : TW κ S w0 H (B1 PR X (A8 .clear #[160] 0 [.slice (some ⟨b, 0, none⟩) 38 38]) K) := by
 refine B7B (u := .tuple #[]) (fun w hb => ?_) hu hK
 have h38 := A4S
 have hst := m6 (P := PR) (o0 := 0) (P4 z38) 0 w (P4 s).toArray hb (by simp [hs, h38]) (A7A _)
 rw [Nat.add_zero, B0Q s z38 0 (by omega)] at hst
 have e : W8 s 0 z38 = z38 := by
  apply ByteArray.ext
  simp [W8, h38, hs]
 rw [e] at hst
 show (Builtin.clear_ #[160] 0 #[.slice (some ⟨b, 0, none⟩) 38 38]).run PR w = _
 simp only [Builtin.clear_, List.getElem?_toArray, List.getElem?_cons_zero, Sem.run_bind, B32, Result.andThen_ok, ty5.run_zero, B6y, hst, Sem.run_pure]
theorem C0U {b : Nat} {s : ByteArray} {T : TypeId} (hm : Res.pt b (.cells (P4 s).toArray T) ∈ H) (c n : Nat) (hn : n = s.size) :
  TW κ S w0 H (A6 PR (convert 160 9 (.slice (some ⟨b, 0, none⟩) n c)) K) = TW κ S w0 H (K (.string s)) := TW.congr fun w hw => by
 refine Y7 ?_ K
 subst hn
 have hb := hw.pt hm
 have hB : Lib.Bytes w b 0 s := fun i hi => by
  rw [H0 hb]; simp [P4, hi]; rfl
 exact Lib.run_convert_whole w _ _ _ A6W.und ty5.und ty9.und b 0 s hB c
end
theorem B6J {lo : Nat} (b : Nat) (h : lo < 38) (K : Value → WP) : A0 PR (Instr.sliceAt 159 (.pointer (some ⟨b, 0, none⟩)) (some (.int .i64 (lo : Int))) none none) K = K (.slice (some ⟨b, lo, none⟩) (38 - lo) (38 - lo)) :=
 D6 (fun w => by
  have h1 : ¬ ((38 : Int) < lo) := by omega
  have h2 : ¬ (38 = lo) := by omega
  simp [Instr.sliceAt, C10, Instr.sliceBounds, Instr.sliceBound, asIntOf, h1, h2, ty5.run_size, Instr.sureAddr, e9]
  omega) K
def V1 (v : Int) : Nat := if v = 4 then 4 else if v = 6 then 16 else 0
theorem B7P (w : World) (v : Int) : Fn PR B5 93 #[.int .i64 v] w (fun u w' => u = .int .i64 (V1 v : Nat) ∧ C6 [] w w') := by
 have := B9L w v
 have e : ((V1 v : Nat) : Int) = if v = 4 then 4 else if v = 6 then 16 else 0 := by (unfold V1; repeat' split) <;> rfl
 rw [e]; exact this
def U4 (k : KeyV) : Bool := decide (V1 k.v ≠ 0 ∧ k.src.size = V1 k.v ∧ k.dst.size = V1 k.v ∧ (m4 k.proto k.fr k.tp 0).2 = 0)
def A2A (k : KeyV) : ByteArray := W8 (W8 (W8 z38 0 (F8 (k.v * 256 + k.proto) 2 ++ F8 k.fr 2 ++ F8 k.tp 2)) 6 k.src) 22 k.dst
def A3m (k : KeyV) : Value := .tuple #[.string (if U4 k then A2A k else U6), .bool (U4 k)]
theorem B9a {n x y f : Int} (h : (m4 n x y f).2 = 0) : (n = 6 ∨ n = 17) ∧ Q6 x y = true := by
 unfold m4 at h
 split at h
 ·simp at h
 split at h
 ·simp at h
 ·rename_i h1 h2
  refine ⟨by omega, ?_⟩
  cases hp : Q6 x y with
  | true => rfl
  | false => exact absurd (Or.inl hp) h2
theorem B7S (w : World) (k : KeyV) : Fn PR B5 71 #[k.val] w (fun u w' => u = A3m k ∧ C6 [] w w') := by
 refine Fn.pure (A8x (TW.go (κ := false) (S := []) ?_))
 unfold A2k KeyV.val
 (have zz:=trivial;repeat((first|clear zz|with_reducible first|refine A3 ?_|refine A5 fun _=>?_|refine A4 fun _=>?_);try simp(disch:=first|omega|assumption|((repeat(first|exact A1|exact uH|apply A2|apply uT));first|done|fail)|(simp;first|done|omega|fail))[]))
 refine C5 A73 (fun w' _ => B7P w' _) ?_
 (have zz:=trivial;repeat((first|clear zz|with_reducible first|refine A3 ?_|refine A5 fun _=>?_|refine A4 fun _=>?_);try simp(disch:=first|omega|assumption|((repeat(first|exact A1|exact uH|apply A2|apply uT));first|done|fail)|(simp;first|done|omega|fail))[]))
 refine C5 B2f (fun w' _ => B5K w' _ _ _ _) ?_
 have bad : U4 k = false → A3m k = .tuple #[.string U6, .bool false] := fun h => by simp [A3m, h]
 by_cases c1 : V1 k.v = 0
 ·(have zz:=trivial;repeat((first|clear zz|with_reducible first|refine A3 ?_|refine A5 fun _=>?_|refine A4 fun _=>?_);try simp(disch:=first|omega|assumption|((repeat(first|exact A1|exact uH|apply A2|apply uT));first|done|fail)|(simp;first|done|omega|fail))[c1]))
  exact A9 (bad (by simp [U4, c1])).symm
 have c1' : ¬ ((V1 k.v : Nat) : Int) = 0 := by omega
 by_cases c2 : k.src.size = V1 k.v
 case neg =>
  have c2' : ¬ ((k.src.size : Nat) : Int) = V1 k.v := by omega
  (have zz:=trivial;repeat((first|clear zz|with_reducible first|refine A3 ?_|refine A5 fun _=>?_|refine A4 fun _=>?_);try simp(disch:=first|omega|assumption|((repeat(first|exact A1|exact uH|apply A2|apply uT));first|done|fail)|(simp;first|done|omega|fail))[c1, c1', c2, c2']))
  exact A9 (bad (by simp [U4, c2])).symm
 by_cases c3 : k.dst.size = V1 k.v
 case neg =>
  have c3' : ¬ ((k.dst.size : Nat) : Int) = V1 k.v := by omega
  (have zz:=trivial;repeat((first|clear zz|with_reducible first|refine A3 ?_|refine A5 fun _=>?_|refine A4 fun _=>?_);try simp(disch:=first|omega|assumption|((repeat(first|exact A1|exact uH|apply A2|apply uT));first|done|fail)|(simp;first|done|omega|fail))[c1, c1', c2, c3, c3']))
  exact A9 (bad (by simp [U4, c3])).symm
 by_cases c4 : (m4 k.proto k.fr k.tp 0).2 = 0
 case neg =>
  (have zz:=trivial;repeat((first|clear zz|with_reducible first|refine A3 ?_|refine A5 fun _=>?_|refine A4 fun _=>?_);try simp(disch:=first|omega|assumption|((repeat(first|exact A1|exact uH|apply A2|apply uT));first|done|fail)|(simp;first|done|omega|fail))[c1, c1', c2, c3, c4]))
  exact A9 (bad (by simp [U4, c4])).symm
 (have zz:=trivial;repeat((first|clear zz|with_reducible first|refine A3 ?_|refine A5 fun _=>?_|refine A4 fun _=>?_);try simp(disch:=first|omega|assumption|((repeat(first|exact A1|exact uH|apply A2|apply uT));first|done|fail)|(simp;first|done|omega|fail))[c1, c1', c2, c3, c4]))
 rename_i bk ba
 refine TW.eqH (H' := [.pt ba (.cells (P4 z38).toArray 159), .pt bk (.cells #[.int .i64 k.v, .string k.src, .string k.dst, .int .i64 k.fr, .int .i64 k.tp, .int .i64 k.proto] 108)]) (by rw [B96]) ?_
 refine B6D A4S .here ?_
 obtain ⟨hp, hq⟩ := B9a c4
 simp only [Q6, decide_eq_true_eq] at hq
 have hv : k.v = 4 ∨ k.v = 6 := by unfold V1 at c1; split at c1 <;> (try split at c1) <;> omega
 have hh : (F8 (k.v * 256 + k.proto) 2 ++ F8 k.fr 2 ++ F8 k.tp 2).size = 6 := by simp
 have h38 := A4S
 have s1 : (W8 z38 0 (F8 (k.v * 256 + k.proto) 2 ++ F8 k.fr 2 ++ F8 k.tp 2)).size = 38 := by rw [A5a (by omega), h38]
 have hl : V1 k.v ≤ 16 := by unfold V1; split <;> (try split) <;> omega
 have s2 : (W8 (W8 z38 0 (F8 (k.v * 256 + k.proto) 2 ++ F8 k.fr 2 ++ F8 k.tp 2)) 6 k.src).size = 38 := by rw [A5a (by omega), s1]
 have s3 : (A2A k).size = 38 := by unfold A2A; rw [A5a (by omega), s2]
 have i6 := fun K => B6J (lo := 6) ba (by omega) K
 have i22 := fun K => B6J (lo := 22) ba (by omega) K
 simp at i6 i22
 have ok : U4 k = true := by simp [U4, c1, c2, c3, c4]
 have q1 := hq.1
 have q2 := hq.2.1
 have q3 := hq.2.2.1
 have q4 := hq.2.2.2
 have eor : IntKind.u64.wrap ((IntKind.u64.wrap (k.v * 2 ^ min 8 IntKind.u64.bits) % 2 ^ IntKind.u64.bits).toNat ||| (k.proto % 2 ^ IntKind.u64.bits).toNat : Nat) = k.v * 256 + k.proto := by
  rcases hv with hv | hv <;> rcases hp with hp | hp <;> (rw [hv, hp]; decide)
 have ew1 : IntKind.u64.wrap k.fr = k.fr := A0Z (by omega) (by omega)
 have ew2 : IntKind.u64.wrap k.tp = k.tp := A0Z (by omega) (by omega)
 (have zz:=trivial;repeat((first|clear zz|with_reducible first|refine A3 ?_|refine A5 fun _=>?_|refine A4 fun _=>?_);try simp(disch:=first|omega|assumption|((repeat(first|exact A1|exact uH|apply A2|apply uT));first|done|fail)|(simp;first|done|omega|fail))[]))
 rw [eor, ew1, ew2]
 refine C5 G7 (fun w' hw' => k6 w' _ _) ?_
 (have zz:=trivial;repeat((first|clear zz|with_reducible first|refine A3 ?_|refine A5 fun _=>?_|refine A4 fun _=>?_);try simp(disch:=first|omega|assumption|((repeat(first|exact A1|exact uH|apply A2|apply uT));first|done|fail)|(simp;first|done|omega|fail))[]))
 refine C5 G7 (fun w' hw' => k6 w' _ _) ?_
 (have zz:=trivial;repeat((first|clear zz|with_reducible first|refine A3 ?_|refine A5 fun _=>?_|refine A4 fun _=>?_);try simp(disch:=first|omega|assumption|((repeat(first|exact A1|exact uH|apply A2|apply uT));first|done|fail)|(simp;first|done|omega|fail))[f7]))
 refine C5 G7 (fun w' hw' => k6 w' _ _) ?_
 (have zz:=trivial;repeat((first|clear zz|with_reducible first|refine A3 ?_|refine A5 fun _=>?_|refine A4 fun _=>?_);try simp(disch:=first|omega|assumption|((repeat(first|exact A1|exact uH|apply A2|apply uT));first|done|fail)|(simp;first|done|omega|fail))[f7]))
 refine A9A (o := 0) (s := z38) (by (repeat constructor)) (by omega) (by omega) ?_
 (have zz:=trivial;repeat((first|clear zz|with_reducible first|refine A3 ?_|refine A5 fun _=>?_|refine A4 fun _=>?_);try simp(disch:=first|omega|assumption|((repeat(first|exact A1|exact uH|apply A2|apply uT));first|done|fail)|(simp;first|done|omega|fail))[i6]))
 refine A9A (o := 6) (s := W8 z38 0 (F8 (k.v * 256 + k.proto) 2 ++ F8 k.fr 2 ++ F8 k.tp 2)) (by (repeat constructor)) (by omega) (by omega) ?_
 (have zz:=trivial;repeat((first|clear zz|with_reducible first|refine A3 ?_|refine A5 fun _=>?_|refine A4 fun _=>?_);try simp(disch:=first|omega|assumption|((repeat(first|exact A1|exact uH|apply A2|apply uT));first|done|fail)|(simp;first|done|omega|fail))[i22]))
 refine A9A (o := 22) (s := W8 (W8 z38 0 (F8 (k.v * 256 + k.proto) 2 ++ F8 k.fr 2 ++ F8 k.tp 2)) 6 k.src) (by (repeat constructor)) (by omega) (by omega) ?_
 (have zz:=trivial;repeat((first|clear zz|with_reducible first|refine A3 ?_|refine A5 fun _=>?_|refine A4 fun _=>?_);try simp(disch:=first|omega|assumption|((repeat(first|exact A1|exact uH|apply A2|apply uT));first|done|fail)|(simp;first|done|omega|fail))[]))
 rw [C0U (s := A2A k) (by (repeat constructor)) _ _ s3.symm]
 exact A9 (by simp [A3m, ok])
end Go.Proofs.YtlplkjgcfjdinaaGreat
namespace Go.Proofs.YtlplkjgcfjdinaaGreat
open Go
@[simp] theorem C5p {κ : Bool} {S : List Nat} {w0 : World} {H : List Res} {K : Value → WP} {t : TypeId} {z : Value} [h : TS t z] {b o : Nat} {c : Array Value} {T : TypeId} {f : Nat × Nat} (hm : Res.pt b (.cells c T f) ∈ H) :
  TW κ S w0 H (A6 PR (D2 [.c t (.pointer (some ⟨b, o, none⟩))]) K) = TW κ S w0 H (rdc c[o]? K (A6 PR (D2 [.c t (.pointer (some ⟨b, o, none⟩))]) K)) := by
 cases hc : c[o]? with
 | none => rfl
 | some v => rw [C1B hm hc]; rfl
abbrev J0 := Int × Int
def G2 (b : J0) : List Value := [.int .i64 b.1, .int .i64 b.2]
structure EnV where
 st : Int
 key : ByteArray
 bk : Int
 dl : Int
 deriving DecidableEq
def E6 (x : EnV) : List Value := [.int .i64 x.st, .string x.key, .int .i64 x.bk, .int .i64 x.dl]
theorem C1N {t u : TypeId} {n m : Nat} {z : Value} {a : Option Addr} {l c e : Nat} (h : TI PR t (.slice u) n m z) : EqV PR (e + 1) t (.slice a l c) (.slice none 0 0) a.isNone := by
 intro w
 cases a with
 | none => simp only [Op.equalIn, Sem.run_bind, h.run_und, Result.andThen_ok, Sem.run_pure, Option.isNone]
 | some a => simp only [Op.equalIn, Sem.run_bind, h.run_und, Result.andThen_ok, Sem.run_pure]; rfl
theorem C0j {t u : TypeId} {n m : Nat} {z : Value} (h : TI PR t (.slice u) n m z) (x y : Operand) (a : Option Addr) (l c : Nat) (K : Value → WP) :
  A6 PR (q6 .eql t x y (.slice a l c) (.slice none 0 0)) K = K (.bool a.isNone) := by
 funext w
 refine Y7 ?_ K
 have h1 : (eqGuard .eql t x y (.slice a l c) (.slice none 0 0)).run PR w = .ok () w := by simp [eqGuard]
 have h2 : (Op.equalIn 10000 t (.slice a l c) (.slice none 0 0)).run PR w = .ok a.isNone w := C1N (e := 9999) h w
 simp [q6, h1, binOp, Op.equal, Op.maxDepth, h2]
theorem B8x (x y : Operand) (a : Option Addr) (l c : Nat) (K : Value → WP) : A6 PR (q6 .eql 50 x y (.slice a l c) (.slice none 0 0)) K = K (.bool a.isNone) := C0j A7e x y a l c K
theorem B87 (x y : Operand) (a : Option Addr) (l c : Nat) (K : Value → WP) : A6 PR (q6 .eql 79 x y (.slice a l c) (.slice none 0 0)) K = K (.bool a.isNone) := C0j A99 x y a l c K
theorem B6M (w : World) (v : Value) (n : Nat) (xs : List Value) (hn : n ≤ 1000000) (hx : xs.length = n * 2) (hp : xs.all plain = true) (hv : E4 w v n xs) :
  Fn PR B5 76 #[v] w (Rn [] w (fun r u => u = r) fun r => [.own 129 2 r n xs]) := by
 obtain ⟨a, c, rfl, hr⟩ := hv.form
 refine f9 (TW.go (κ := false) (S := []) ?_)
 unfold P0
 cases a with
 | none =>
  obtain rfl : n = 0 := by
   rcases Nat.eq_zero_or_pos n with h | h
   ·exact h
   ·obtain ⟨_, _, h, _⟩ := hr h; cases h
  obtain rfl : xs = [] := List.length_eq_zero_iff.1 (by omega)
  (have zz:=trivial;repeat((first|clear zz|with_reducible first|refine A3 ?_|refine A5 fun _=>?_|refine A4 fun _=>?_);try simp(disch:=first|omega|assumption|((repeat(first|exact A1|exact uH|apply A2|apply uT));first|done|fail)|(simp;first|done|omega|fail))[B8x]))
  refine A1g 129 2 ?_
  exact l0 (.slice none 0 0) rfl (by simp)
 | some a =>
  (have zz:=trivial;repeat((first|clear zz|with_reducible first|refine A3 ?_|refine A5 fun _=>?_|refine A4 fun _=>?_|refine E1 fun _=>?_|refine E3 (hK:=fun _=>?_)|refine D9 (hK:=fun _=>?_)|refine E2 (hK:=fun _=>?_)|refine D8 (hK:=fun _=>?_)|refine E0 (hK:=fun _=>?_));try simp(disch:=first|omega|assumption|((repeat(first|exact A1|exact uH|apply A2|apply uT));first|done|fail)|(simp;first|done|omega|fail))[B8x]))
  refine A1b (by (repeat constructor)) (H2.old0 hv) (by decide) hx hp (by simp only [maxLen]; omega) (by omega) fun a' c' => ?_
  simp only [Nat.zero_add, List.nil_append]
  exact C3 _ rfl (by (repeat' constructor))
theorem B0W (w : World) (v : Value) (n : Nat) (xs : List Value) (hn : n ≤ 1000000) (hx : xs.length = n * 4) (hp : xs.all plain = true) (hv : E4 w v n xs) :
  Fn PR B5 103 #[v] w (Rn [] w (fun r u => u = r) fun r => [.own 119 4 r n xs]) := by
 obtain ⟨a, c, rfl, hr⟩ := hv.form
 refine m0 (TW.go (κ := false) (S := []) ?_)
 unfold Q5
 cases a with
 | none =>
  obtain rfl : n = 0 := by
   rcases Nat.eq_zero_or_pos n with h | h
   ·exact h
   ·obtain ⟨_, _, h, _⟩ := hr h; cases h
  obtain rfl : xs = [] := List.length_eq_zero_iff.1 (by omega)
  (have zz:=trivial;repeat((first|clear zz|with_reducible first|refine A3 ?_|refine A5 fun _=>?_|refine A4 fun _=>?_);try simp(disch:=first|omega|assumption|((repeat(first|exact A1|exact uH|apply A2|apply uT));first|done|fail)|(simp;first|done|omega|fail))[B87]))
  refine A1g 119 4 ?_
  exact l0 (.slice none 0 0) rfl (by simp)
 | some a =>
  (have zz:=trivial;repeat((first|clear zz|with_reducible first|refine A3 ?_|refine A5 fun _=>?_|refine A4 fun _=>?_|refine E1 fun _=>?_|refine E3 (hK:=fun _=>?_)|refine D9 (hK:=fun _=>?_)|refine E2 (hK:=fun _=>?_)|refine D8 (hK:=fun _=>?_)|refine E0 (hK:=fun _=>?_));try simp(disch:=first|omega|assumption|((repeat(first|exact A1|exact uH|apply A2|apply uT));first|done|fail)|(simp;first|done|omega|fail))[B87]))
  refine A1b (by (repeat constructor)) (H2.old0 hv) (by decide) hx hp (by simp only [maxLen]; omega) (by omega) fun a' c' => ?_
  simp only [Nat.zero_add, List.nil_append]
  exact C3 _ rfl (by (repeat' constructor))
def A4Z {α : Type} (p : α → Bool) (l : List α) : Int := match l.findIdx? p with | some i => i | none => -1
theorem B0C {α : Type} {p : α → Bool} {l : List α} {i : Nat} {x : α} (hx : l[i]? = some x) (hp : p x = true) (h : ∀ j y, j < i → l[j]? = some y → p y = false) : A4Z p l = i := by
 have : l.findIdx? p = some i := by
  rw [List.findIdx?_eq_some_iff_getElem]
  obtain ⟨hi, e⟩ := List.getElem?_eq_some_iff.1 hx
  exact ⟨hi, by rw [e]; exact hp, fun j hj => by rw [h j l[j] hj (List.getElem?_eq_getElem (by omega))]; simp⟩
 simp [A4Z, this]
theorem B0b {α : Type} {p : α → Bool} {l : List α} (h : ∀ (j : Nat) y, l[j]? = some y → p y = false) : A4Z p l = -1 := by
 have : l.findIdx? p = none := by
  rw [List.findIdx?_eq_none_iff]; intro x hx; obtain ⟨i, hi, rfl⟩ := List.getElem_of_mem hx; exact h i _ (List.getElem?_eq_getElem hi)
 simp [A4Z, this]
theorem B01 (w : World) (v : Value) (l : List J0) (p : J0 → Bool) (f : FuncId) (cap : List Value) (hn : l.length ≤ 1000000) (hv : E4 w v l.length (l.flatMap G2)) (he : B0 PR f)
  (hf : ∀ w', KS false [] w w' → ∀ x : J0, Fn PR B5 f (.agg #[.int .i64 x.1, .int .i64 x.2] :: cap).toArray w' (fun r w'' => r = .bool (p x) ∧ C6 [] w' w'')) :
  Fn PR B5 154 #[v, .func (.func f) #[] cap.toArray] w (fun r w' => r = .int .i64 (A4Z p l) ∧ C6 [] w w') := by
 refine Fn.pure (Y2 (TW.go (κ := false) (S := []) ?_))
 unfold M4
 obtain ⟨a, c, rfl, hr⟩ := hv.form
 (have zz:=trivial;repeat((first|clear zz|with_reducible first|refine A3 ?_|refine A5 fun _=>?_|refine A4 fun _=>?_);try simp(disch:=first|omega|assumption|((repeat(first|exact A1|exact uH|apply A2|apply uT));first|done|fail)|(simp;first|done|omega|fail))[]))
 refine q7 (α := Unit) l.length (fun _ _ => .int .i64 0) (fun _ _ => []) (fun i _ => ∀ j y, j < i → l[j]? = some y → p y = false) () (by intro j _ hj; omega) ?_
 rintro i _ hi hpre L hL
 by_cases hlt : i < l.length
 ·obtain ⟨b, o, rfl, hrow⟩ := hr (by omega)
  obtain ⟨x, hx⟩ : ∃ x, l[i]? = some x := ⟨_, List.getElem?_eq_getElem (by omega)⟩
  have h1 := hrow.at (f := G2) (k := 2) (fun _ => rfl) hx
  rw [G2] at h1
  (have zz:=trivial;repeat((first|clear zz|with_reducible first|refine A3 ?_|refine A5 fun _=>?_|refine A4 fun _=>?_);try simp(disch:=first|omega|assumption|((repeat(first|exact A1|exact uH|apply A2|apply uT));first|done|fail)|(simp;first|done|omega|fail))[hlt, h1]))
  refine A7l he (φ := fun r => r = .bool (p x)) (fun w' hw' => by simpa using hf w' hw'.ks x) ?_
  rintro _ rfl
  cases hb : p x with
  | true =>
   (have zz:=trivial;repeat((first|clear zz|with_reducible first|refine A3 ?_|refine A5 fun _=>?_|refine A4 fun _=>?_);try simp(disch:=first|omega|assumption|((repeat(first|exact A1|exact uH|apply A2|apply uT));first|done|fail)|(simp;first|done|omega|fail))[]))
   exact A9 (by rw [B0C hx hb hpre])
  | false =>
   (have zz:=trivial;repeat((first|clear zz|with_reducible first|refine A3 ?_|refine A5 fun _=>?_|refine A4 fun _=>?_);try simp(disch:=first|omega|assumption|((repeat(first|exact A1|exact uH|apply A2|apply uT));first|done|fail)|(simp;first|done|omega|fail))[]))
   refine Sels.tw .nil (hL hlt () ?_)
   intro j y hj hy
   by_cases hji : j = i
   ·subst hji; rw [hx] at hy; cases hy; exact hb
   ·exact hpre j y (by omega) hy
 ·obtain rfl : i = l.length := by omega
  (have zz:=trivial;repeat((first|clear zz|with_reducible first|refine A3 ?_|refine A5 fun _=>?_|refine A4 fun _=>?_);try simp(disch:=first|omega|assumption|((repeat(first|exact A1|exact uH|apply A2|apply uT));first|done|fail)|(simp;first|done|omega|fail))[]))
  exact A9 (by rw [B0b fun j y hy => hpre j y (List.getElem?_eq_some_iff.1 hy).1 hy])
theorem B1G (w : World) (v : Value) (l : List (Int × Int)) (p : Int × Int → Bool) (f : FuncId) (cap : List Value) (hn : l.length ≤ 1000000) (hv : E4 w v l.length (l.flatMap G2)) (he : B0 PR f)
  (hf : ∀ w', KS false [] w w' → ∀ x : Int × Int, Fn PR B5 f (.agg #[.int .i64 x.1, .int .i64 x.2] :: cap).toArray w' (fun r w'' => r = .bool (p x) ∧ C6 [] w' w'')) :
  Fn PR B5 161 #[v, .func (.func f) #[] cap.toArray] w (fun r w' => r = .int .i64 (A4Z p l) ∧ C6 [] w w') := by
 refine Fn.pure (x7 (TW.go (κ := false) (S := []) ?_))
 unfold U0
 obtain ⟨a, c, rfl, hr⟩ := hv.form
 (have zz:=trivial;repeat((first|clear zz|with_reducible first|refine A3 ?_|refine A5 fun _=>?_|refine A4 fun _=>?_);try simp(disch:=first|omega|assumption|((repeat(first|exact A1|exact uH|apply A2|apply uT));first|done|fail)|(simp;first|done|omega|fail))[]))
 refine q7 (α := Unit) l.length (fun _ _ => .int .i64 0) (fun _ _ => []) (fun i _ => ∀ j y, j < i → l[j]? = some y → p y = false) () (by intro j _ hj; omega) ?_
 rintro i _ hi hpre L hL
 by_cases hlt : i < l.length
 ·obtain ⟨b, o, rfl, hrow⟩ := hr (by omega)
  obtain ⟨x, hx⟩ : ∃ x, l[i]? = some x := ⟨_, List.getElem?_eq_getElem (by omega)⟩
  have h1 := hrow.at (f := G2) (k := 2) (fun _ => rfl) hx
  rw [G2] at h1
  (have zz:=trivial;repeat((first|clear zz|with_reducible first|refine A3 ?_|refine A5 fun _=>?_|refine A4 fun _=>?_);try simp(disch:=first|omega|assumption|((repeat(first|exact A1|exact uH|apply A2|apply uT));first|done|fail)|(simp;first|done|omega|fail))[hlt, h1]))
  refine A7l he (φ := fun r => r = .bool (p x)) (fun w' hw' => by simpa using hf w' hw'.ks x) ?_
  rintro _ rfl
  cases hb : p x with
  | true =>
   (have zz:=trivial;repeat((first|clear zz|with_reducible first|refine A3 ?_|refine A5 fun _=>?_|refine A4 fun _=>?_);try simp(disch:=first|omega|assumption|((repeat(first|exact A1|exact uH|apply A2|apply uT));first|done|fail)|(simp;first|done|omega|fail))[]))
   exact A9 (by rw [B0C hx hb hpre])
  | false =>
   (have zz:=trivial;repeat((first|clear zz|with_reducible first|refine A3 ?_|refine A5 fun _=>?_|refine A4 fun _=>?_);try simp(disch:=first|omega|assumption|((repeat(first|exact A1|exact uH|apply A2|apply uT));first|done|fail)|(simp;first|done|omega|fail))[]))
   refine Sels.tw .nil (hL hlt () ?_)
   intro j y hj hy
   by_cases hji : j = i
   ·subst hji; rw [hx] at hy; cases hy; exact hb
   ·exact hpre j y (by omega) hy
 ·obtain rfl : i = l.length := by omega
  (have zz:=trivial;repeat((first|clear zz|with_reducible first|refine A3 ?_|refine A5 fun _=>?_|refine A4 fun _=>?_);try simp(disch:=first|omega|assumption|((repeat(first|exact A1|exact uH|apply A2|apply uT));first|done|fail)|(simp;first|done|omega|fail))[]))
  exact A9 (by rw [B0b fun j y hy => hpre j y (List.getElem?_eq_some_iff.1 hy).1 hy])
theorem B7d {α : Type} (p : α → Bool) (l : List α) : decide (0 ≤ A4Z p l) = l.any p := by
 unfold A4Z
 cases h : l.findIdx? p with
 | none =>
  have := List.findIdx?_eq_none_iff.1 h
  rw [Bool.eq_iff_iff]; simp [List.any_eq_true]; intro x hx; have := this x hx; simp_all
 | some i =>
  obtain ⟨hi, h1, _⟩ := List.findIdx?_eq_some_iff_getElem.1 h
  rw [Bool.eq_iff_iff]; simp only [List.any_eq_true, decide_eq_true_eq]
  exact ⟨fun _ => ⟨_, List.getElem_mem hi, h1⟩, fun _ => by omega⟩
theorem A71 (w : World) (v : Value) (l : List (Int × Int)) (p : Int × Int → Bool) (f : FuncId) (cap : List Value) (hn : l.length ≤ 1000000) (hv : E4 w v l.length (l.flatMap G2)) (he : B0 PR f)
  (hf : ∀ w', KS false [] w w' → ∀ x : Int × Int, Fn PR B5 f (.agg #[.int .i64 x.1, .int .i64 x.2] :: cap).toArray w' (fun r w'' => r = .bool (p x) ∧ C6 [] w' w'')) :
  Fn PR B5 132 #[v, .func (.func f) #[] cap.toArray] w (fun r w' => r = .bool (l.any p) ∧ C6 [] w w') := by
 refine Fn.pure (p5 (TW.go (κ := false) (S := []) ?_))
 unfold S4
 refine C5 s8 (fun w' hw' => B1G w' v l p f cap hn (hv.ks hw'.ks (by simp)) he fun w2 h => hf w2 (hw'.ks.trans h)) ?_
 (have zz:=trivial;repeat((first|clear zz|with_reducible first|refine A3 ?_|refine A5 fun _=>?_|refine A4 fun _=>?_);try simp(disch:=first|omega|assumption|((repeat(first|exact A1|exact uH|apply A2|apply uT));first|done|fail)|(simp;first|done|omega|fail))[]))
 exact A9 (by rw [B7d])
end Go.Proofs.YtlplkjgcfjdinaaGreat
namespace Go.Proofs.YtlplkjgcfjdinaaGreat
open Go
def A84 (X : Nat → Prop) (t0 : Value) (R : Value → WP) : WP :=
 B7 PR X 123 [(.int .u64 14695981039346656037), t0] fun t4 =>
 R t4
theorem A0l : B0 PR 96 := A7 Tryz.func96 (by kernel_rfl) rfl
theorem B4T {X : Nat → Prop} {t0 : Value} {R : Value → WP} {w : World} (h : A84 X t0 R w) : Fn PR X 96 #[t0] w R := C8 (args := [t0]) mixed Tryz.func96 (by kernel_rfl) h
def A67 (X : Nat → Prop) (t0 t1 : Value) (R : Value → WP) : WP :=
 B1 PR X (Instr.alloc 227 true (.tuple #[])) fun t5 =>
 B1 PR X (Instr.alloc 229 true (.tuple #[])) fun t6 =>
 B8 PR X (Instr.storeAt 227 t5 (.func (.func 151) #[] #[])) <|
 B8 PR X (Instr.storeAt 229 t6 t0) <|
 jn (n := 0) (
 A6 PR (Instr.loadAt 229 t6) fun t16 =>
 U5 (R t16)) fun J1 =>
 B7 PR X 152 [t1] fun t10 =>
 rng (N := 1) PR X (fun t11 K2 =>
 bgn <|
 A6 PR (Instr.loadAt 227 t5) fun t12 =>
 A6 PR (Instr.loadAt 229 t6) fun t13 =>
 F5 PR (fun _ => False) t12 [t13, t11] fun t15 =>
 B8 PR (fun _ => False) (Instr.storeAt 229 t6 t15) <|
 K2 none) t10 (fun j => match j with | none => (J1) | some (.exit i) => (match Nat.beq i 0 with | true => (J1) | false => (E7)) | some .ret => (U5 (R (.int .u64 0))) | some _ => E7)
theorem A5v : B0 PR 123 := A7 Tryz.func123 (by kernel_rfl) rfl
theorem B3P {X : Nat → Prop} {t0 t1 : Value} {R : Value → WP} {w : World} (h : A67 X t0 t1 R w) : Fn PR X 123 #[t0, t1] w R := C8 (args := [t0, t1]) mixed Tryz.func123 (by kernel_rfl) h
def A3T (X : Nat → Prop) (t0 t1 : Value) (R : Value → WP) : WP :=
 A0 PR (convert 5 229 t1) fun t7 =>
 A0 PR (binOp .xor 229 t0 t7) fun t8 =>
 A0 PR (binOp .mul 229 t8 (.int .u64 1099511628211)) fun t9 =>
 R t9
theorem A8g : B0 PR 151 := A7 Tryz.func151 (by kernel_rfl) rfl
theorem A97 {X : Nat → Prop} {t0 t1 : Value} {R : Value → WP} {w : World} (h : A3T X t0 t1 R w) : Fn PR X 151 #[t0, t1] w R := C8 (args := [t0, t1]) mixed Tryz.func151 (by kernel_rfl) h
def A64 (X : Nat → Prop) (t0 : Value) (R : Value → WP) : WP :=
 B1 PR X (Instr.box 9 t0) fun t1 =>
 A0 PR (Instr.makeFunc (.func 166) #[] #[t1]) fun t3 =>
 R t3
theorem B2b : B0 PR 152 := A7 Tryz.func152 (by kernel_rfl) rfl
theorem B3C {X : Nat → Prop} {t0 : Value} {R : Value → WP} {w : World} (h : A64 X t0 R w) : Fn PR X 152 #[t0] w R := C8 (args := [t0]) mixed Tryz.func152 (by kernel_rfl) h
def A3u (X : Nat → Prop) (t0 t1 : Value) (R : Value → WP) : WP :=
 A6 PR (Instr.loadAt 9 t1) fun t4 =>
 A0 PR (A8 .len #[9] 0 [t4]) fun t5 =>
 lp (n := 1) (fun L1 t6 =>
 A0 PR (binOp .lss 3 t6 t5) fun t7 =>
 jn (n := 0) (
 jn (n := 0) (
 A0 PR (binOp .add 3 t6 (.int .i64 1)) fun t15 =>
 L1 t15) fun J2 =>
 A6 PR (Instr.loadAt 9 t1) fun t10 =>
 A0 PR (Instr.index 9 t10 t6) fun t12 =>
 F5 PR X t0 [t12] fun t13 =>
 A0 PR (Op.unary .not t13) fun t14 =>
 B6 t14 (
 R (.tuple #[])) (
 J2)) fun J3 =>
 B6 t7 (
 J3) (
 R (.tuple #[]))) (.int .i64 0)
theorem A8w : B0 PR 166 := A7 Tryz.func166 (by kernel_rfl) rfl
theorem A94 {X : Nat → Prop} {t0 t1 : Value} {R : Value → WP} {w : World} (h : A3u X t0 t1 R w) : Fn PR X 166 #[t0, t1] w R := C8 (args := [t0, t1]) mixed Tryz.func166 (by kernel_rfl) h
theorem A9P {X : Nat → Prop} {t0 t1 : Value} {K : Value → WP} {w : World} (h : Fn PR X 166 #[t0, t1] w K) : s7 PR X 166 [t0, t1] K w := ⟨A8w, h⟩
end Go.Proofs.YtlplkjgcfjdinaaGreat
namespace Go.Proofs.YtlplkjgcfjdinaaGreat
open Go
def A9n (h b : Nat) : Nat := ((h ^^^ b) * 1099511628211) % 18446744073709551616
def A9p (h : Nat) (s : ByteArray) : Nat → Nat
 | 0 => h
 | i + 1 => A9n (A9p h s i) (D4 s i)
def B4k (h : Nat) (s : ByteArray) : Nat := A9p h s s.size
def g5 (s : ByteArray) : Nat := B4k 14695981039346656037 s
theorem B99 (h b : Nat) : A9n h b < 2 ^ 64 := by unfold A9n; omega
theorem B34 {h : Nat} (hh : h < 2 ^ 64) (s : ByteArray) (i : Nat) : A9p h s i < 2 ^ 64 := by
 cases i with
 | zero => exact hh
 | succ i => exact B99 _ _
theorem C2k (w : World) (h b : Nat) (hh : h < 2 ^ 64) (hb : b < 256) : Fn PR B5 151 #[.int .u64 (h : Int), .int .u8 (b : Int)] w (fun v w' => v = .int .u64 (A9n h b : Nat) ∧ C6 [] w w') := by
 refine Fn.pure (A97 (TW.go (κ := false) (S := []) ?_))
 unfold A3T
 (have zz:=trivial;repeat((first|clear zz|with_reducible first|refine A3 ?_|refine A5 fun _=>?_|refine A4 fun _=>?_);try simp(disch:=first|omega|assumption|((repeat(first|exact A1|exact uH|apply A2|apply uT));first|done|fail)|(simp;first|done|omega|fail))[]))
 have e1 : (h % 2 ^ IntKind.u64.bits ^^^ b % 2 ^ IntKind.u64.bits) = h ^^^ b := by rw [show (2 : Nat) ^ IntKind.u64.bits = 2 ^ 64 from rfl, Nat.mod_eq_of_lt hh, Nat.mod_eq_of_lt (by omega)]
 have e2 : h ^^^ b < 2 ^ 64 := Nat.xor_lt_two_pow hh (by omega)
 rw [e1, A0Z (n := ((h ^^^ b : Nat) : Int)) (by omega) (by omega)]
 refine A9 ?_
 have e3 : IntKind.u64.wrap (((h ^^^ b : Nat) : Int) * 1099511628211) = (A9n h b : Nat) := by
  simp only [IntKind.wrap, IntKind.bits, IntKind.signed, A9n]
  simp
 rw [e3]
abbrev B8s (b : Nat) : Value := .func (.func 166) #[] #[.pointer (some ⟨b, 0, none⟩)]
theorem B90 (w : World) (s : ByteArray) : Fn PR B5 152 #[.string s] w (Rn [] w (fun b v => v = B8s b) fun b => [.pt b (.cells #[.string s] 9)]) := by
 refine B3C (TW.go (κ := false) (S := []) ?_)
 unfold A64
 (have zz:=trivial;repeat((first|clear zz|with_reducible first|refine A3 ?_|refine A5 fun _=>?_|refine A4 fun _=>?_);try simp(disch:=first|omega|assumption|((repeat(first|exact A1|exact uH|apply A2|apply uT));first|done|fail)|(simp;first|done|omega|fail))[]))
 rename_i b
 exact l0 b rfl (by simp)
def B1P (s : ByteArray) (i : Nat) : List Value := [.int .u8 (D4 s i : Nat)]
theorem B9Q (b : Nat) (s : ByteArray) (hs : s.size < 2 ^ 60) : A1k (B8s b) [.pt b (.cells #[.string s] 9)] (fun _ _ => True) ((List.range s.size).map (B1P s)) := by
 refine ⟨_, _, _, rfl, fun l J E hJ hE stJ stE hy w0 h0 => ?_⟩
 refine A9P (A94 (TW.at (κ := true) ?_ (hJ _ _ _ h0).1))
 unfold A3u
 (have zz:=trivial;repeat((first|clear zz|with_reducible first|refine A3 ?_|refine A5 fun _=>?_|refine A4 fun _=>?_);try simp(disch:=first|omega|assumption|((repeat(first|exact A1|exact uH|apply A2|apply uT));first|done|fail)|(simp;first|done|omega|fail))[]))
 refine A14 s.size (fun i => i) (fun _ => _) hJ stJ h0 fun i a hi hJi _ L hL => ?_
 by_cases hlt : i < s.size
 ·obtain ⟨by0, hb0, hb1⟩ := u0 (s := s) (i := i) hlt
  have hb0' : s[((i : Nat) : Int).toNat]? = some by0 := by rw [Int.toNat_natCast]; exact hb0
  (have zz:=trivial;repeat((first|clear zz|with_reducible first|refine A3 ?_|refine A5 fun _=>?_|refine A4 fun _=>?_);try simp(disch:=first|omega|assumption|((repeat(first|exact A1|exact uH|apply A2|apply uT));first|done|fail)|(simp;first|done|omega|fail))[hlt, V4]))
  rw [hb1]
  refine A2s hJ hE stJ hy hJi (by simpa using hlt) (by simp [B1P]) (fun w3 h => ?_) (fun w3 h => ?_)
  ·(have zz:=trivial;repeat((first|clear zz|with_reducible first|refine A3 ?_|refine A5 fun _=>?_|refine A4 fun _=>?_);try simp(disch:=first|omega|assumption|((repeat(first|exact A1|exact uH|apply A2|apply uT));first|done|fail)|(simp;first|done|omega|fail))[]))
   exact fun w' hw' => hL hlt w' (stJ _ _ _ _ _ h hw')
  ·(have zz:=trivial;repeat((first|clear zz|with_reducible first|refine A3 ?_|refine A5 fun _=>?_|refine A4 fun _=>?_);try simp(disch:=first|omega|assumption|((repeat(first|exact A1|exact uH|apply A2|apply uT));first|done|fail)|(simp;first|done|omega|fail))[]))
   exact A0v stE h
 ·obtain rfl : i = s.size := by omega
  (have zz:=trivial;repeat((first|clear zz|with_reducible first|refine A3 ?_|refine A5 fun _=>?_|refine A4 fun _=>?_);try simp(disch:=first|omega|assumption|((repeat(first|exact A1|exact uH|apply A2|apply uT));first|done|fail)|(simp;first|done|omega|fail))[]))
  exact A0u stJ (by simpa using hJi)
theorem B4J (w : World) (h : Nat) (s : ByteArray) (hh : h < 2 ^ 64) (hs : s.size < 2 ^ 60) : Fn PR B5 123 #[.int .u64 (h : Int), .string s] w (fun v w' => v = .int .u64 (B4k h s : Nat) ∧ C6 [] w w') := by
 refine Fn.pure (B3P (TW.go (κ := false) (S := []) ?_))
 unfold A67
 (have zz:=trivial;repeat((first|clear zz|with_reducible first|refine A3 ?_|refine A5 fun _=>?_|refine A4 fun _=>?_);try simp(disch:=first|omega|assumption|((repeat(first|exact A1|exact uH|apply A2|apply uT));first|done|fail)|(simp;first|done|omega|fail))[]))
 rename_i bf bx
 refine G8 B2b (fun w' _ => B90 w' s) ?_
 rintro b v rfl
 refine A0p (B9Q b s hs) (by simp [B1P]) (fun _ (_ : Unit) => True) (fun i _ => [.pt bx (.cells #[.int .u64 ((A9p h s i : Nat) : Int)] 229), .pt bf (.cells #[.func (.func 151) #[] #[]] 227)])
  (fun _ (_ : Unit) => False) (fun _ => []) () trivial ?_ ?_ ?_ ?_ (by simp [A9p])
 ·intros; trivial
 ·rintro i hi _ F _ K' hK _
  simp only [List.getElem_map, List.getElem_range, B1P, VF.app]
  (have zz:=trivial;repeat((first|clear zz|with_reducible first|refine A3 ?_|refine A5 fun _=>?_|refine A4 fun _=>?_);try simp(disch:=first|omega|assumption|((repeat(first|exact A1|exact uH|apply A2|apply uT));first|done|fail)|(simp;first|done|omega|fail))[]))
  refine C5 A8g (fun w' _ => C2k w' _ _ (B34 hh s i) (w8 s i)) ?_
  (have zz:=trivial;repeat((first|clear zz|with_reducible first|refine A3 ?_|refine A5 fun _=>?_|refine A4 fun _=>?_);try simp(disch:=first|omega|assumption|((repeat(first|exact A1|exact uH|apply A2|apply uT));first|done|fail)|(simp;first|done|omega|fail))[]))
  exact TW.eqH (by simp [A9p]) (hK () trivial)
 ·rintro _ _
  (have zz:=trivial;repeat((first|clear zz|with_reducible first|refine A3 ?_|refine A5 fun _=>?_|refine A4 fun _=>?_);try simp(disch:=first|omega|assumption|((repeat(first|exact A1|exact uH|apply A2|apply uT));first|done|fail)|(simp;first|done|omega|fail))[]))
  exact A9 (by simp [B4k])
 ·rintro _ _ h; exact h.elim
theorem A2d (w : World) (s : ByteArray) (hs : s.size < 2 ^ 60) : Fn PR B5 96 #[.string s] w (fun v w' => v = .int .u64 (g5 s : Nat) ∧ C6 [] w w') := by
 refine Fn.pure (B4T (TW.go (κ := false) (S := []) ?_))
 unfold A84
 refine C5 A5v (fun w' _ => B4J w' 14695981039346656037 s (by omega) hs) ?_
 exact A9 rfl
end Go.Proofs.YtlplkjgcfjdinaaGreat
namespace Go.Proofs.YtlplkjgcfjdinaaGreat
open Go
def K8 (key : ByteArray) (n : Nat) : Nat := g5 key % n
theorem A9z (s : ByteArray) : g5 s < 2 ^ 64 := B34 (by omega) s _
theorem B9f (w : World) (key : ByteArray) (n : Nat) (hk : key.size < 2 ^ 60) (hn : n ≤ 1000000) : Fn PR B5 168 #[.string key, .int .i64 (n : Int)] w (fun v w' => v = .int .i64 (if n = 0 then 0 else K8 key n : Nat) ∧ C6 [] w w') := by
 refine Fn.pure (B0k (TW.go (κ := false) (S := []) ?_))
 unfold A43
 by_cases c1 : n = 0
 ·have c1' : (n : Int) < 1 := by omega
  (have zz:=trivial;repeat((first|clear zz|with_reducible first|refine A3 ?_|refine A5 fun _=>?_|refine A4 fun _=>?_);try simp(disch:=first|omega|assumption|((repeat(first|exact A1|exact uH|apply A2|apply uT));first|done|fail)|(simp;first|done|omega|fail))[c1']))
  exact A9 (by simp [c1])
 have c1' : ¬ (n : Int) < 1 := by omega
 have c1'' : ¬ (n : Int) = 0 := by omega
 (have zz:=trivial;repeat((first|clear zz|with_reducible first|refine A3 ?_|refine A5 fun _=>?_|refine A4 fun _=>?_);try simp(disch:=first|omega|assumption|((repeat(first|exact A1|exact uH|apply A2|apply uT));first|done|fail)|(simp;first|done|omega|fail))[c1']))
 refine C5 A0l (fun w' _ => A2d w' key hk) ?_
 have hl := A9z key
 have hm : K8 key n < n := Nat.mod_lt _ (by omega)
 have e1 : ((g5 key : Nat) : Int).tmod n = (K8 key n : Nat) := by unfold K8; rw [Int.tmod_eq_emod_of_nonneg (by omega)]; omega
 have e2 : ((g5 key : Nat) : Int) % n = (K8 key n : Nat) := by unfold K8; omega
 (have zz:=trivial;repeat((first|clear zz|with_reducible first|refine A3 ?_|refine A5 fun _=>?_|refine A4 fun _=>?_);try simp(disch:=first|omega|assumption|((repeat(first|exact A1|exact uH|apply A2|apply uT));first|done|fail)|(simp;first|done|omega|fail))[c1'', e1, A1d]))
 exact A9 (by simp [c1])
def u7 : EnV := ⟨0, U6, 0, 0⟩
def S0 (l : List EnV) (key : ByteArray) : List (Nat × EnV) := (List.range l.length).map fun i => ((K8 key l.length + i) % l.length, l.getD ((K8 key l.length + i) % l.length) u7)
def A4v (p : Nat × EnV) : List Value := [.int .i64 (p.1 : Nat), .agg #[.int .i64 p.2.st, .string p.2.key, .int .i64 p.2.bk, .int .i64 p.2.dl]]
abbrev C0v (x : Nat × Nat) : Value := .func (.func 167) #[] #[.pointer (some ⟨x.1, 0, none⟩), .pointer (some ⟨x.2, 0, none⟩)]
abbrev B19 (x : Nat × Nat) (v : Value) (key : ByteArray) : List Res := [.pt x.1 (.cells #[.string key] 9), .pt x.2 (.cells #[v] 79)]
theorem B50 (w : World) (v : Value) (key : ByteArray) (hv : ∃ a n c, v = .slice a n c) : Fn PR B5 153 #[v, .string key] w (Rn [] w (fun x u => u = C0v x) fun x => B19 x v key) := by
 obtain ⟨a, n, c, rfl⟩ := hv
 refine B24 (TW.go (κ := false) (S := []) ?_)
 unfold A6C
 (have zz:=trivial;repeat((first|clear zz|with_reducible first|refine A3 ?_|refine A5 fun _=>?_|refine A4 fun _=>?_);try simp(disch:=first|omega|assumption|((repeat(first|exact A1|exact uH|apply A2|apply uT));first|done|fail)|(simp;first|done|omega|fail))[]))
 rename_i b1 b2
 exact C3 (b2, b1) rfl (by (repeat' constructor))
def RqS (v : Value) (n : Nat) (xs : List Value) (F : List Res) (w : World) : Prop := ∃ a c, v = .slice a n c ∧ (0 < n → ∃ b o, a = some ⟨b, o, none⟩ ∧ H4 w b o xs ∧ b ∉ B2 F)
theorem RqS.of {v : Value} {n : Nat} {xs : List Value} {w0 w : World} {A F : List Res} (h : E4 w0 v n xs) (hx : 0 < n → 0 < xs.length) (hw : LW false [] w0 (A ++ F) w) : RqS v n xs F w := by
 obtain ⟨a, c, rfl, hr⟩ := h.form
 refine ⟨a, c, rfl, fun hn => ?_⟩
 obtain ⟨b, o, rfl, hrow⟩ := hr hn
 refine ⟨b, o, rfl, hw.ks.row (by simp) hrow, hw.notin_old ?_ (by simp)⟩
 have h0 := hrow 0 (hx hn)
 rw [List.getElem?_eq_getElem (hx hn)] at h0
 obtain ⟨c', t', z', h1, h2⟩ := Z8 h0
 exact G4 h1
theorem v8 (l : List EnV) : (l.flatMap E6).length = l.length * 4 := by
 induction l with
 | nil => rfl
 | cons x l ih => rw [List.flatMap_cons, List.length_append, ih]; simp [E6]; omega
theorem B51 (x : Nat × Nat) (v : Value) (l : List EnV) (key : ByteArray) (hk : key.size < 2 ^ 60) (hn : l.length ≤ 1000000) : A1k (C0v x) (B19 x v key) (RqS v l.length (l.flatMap E6)) ((S0 l key).map A4v) := by
 obtain ⟨bk, bt⟩ := x
 refine ⟨_, _, _, rfl, fun y J E hJ hE stJ stE hy w0 h0 => ?_⟩
 obtain ⟨a, c, hv, hr⟩ := (hJ _ _ _ h0).2
 subst hv
 refine A8f (A8l (TW.at (κ := true) ?_ (hJ _ _ _ h0).1))
 unfold A22
 simp only [B19]
 (have zz:=trivial;repeat((first|clear zz|with_reducible first|refine A3 ?_|refine A5 fun _=>?_|refine A4 fun _=>?_);try simp(disch:=first|omega|assumption|((repeat(first|exact A1|exact uH|apply A2|apply uT));first|done|fail)|(simp;first|done|omega|fail))[]))
 refine C5 A9x (fun w' _ => B9f w' key l.length hk hn) ?_
 (have zz:=trivial;repeat((first|clear zz|with_reducible first|refine A3 ?_|refine A5 fun _=>?_|refine A4 fun _=>?_);try simp(disch:=first|omega|assumption|((repeat(first|exact A1|exact uH|apply A2|apply uT));first|done|fail)|(simp;first|done|omega|fail))[]))
 refine A14 l.length (fun i => i) (fun _ => _) hJ stJ h0 fun i a' hi hJi hRi L hL => ?_
 by_cases hlt : i < l.length
 ·obtain ⟨_, _, hv, hr⟩ := hRi
  obtain ⟨b, o, hb, hrow, hnb⟩ := hr (by omega)
  cases hv
  have hh : K8 key l.length < l.length := Nat.mod_lt _ (by omega)
  have e0 : (if l.length = 0 then 0 else K8 key l.length) = K8 key l.length := if_neg (by omega)
  have hj : (K8 key l.length + i) % l.length < l.length := Nat.mod_lt _ (by omega)
  have hx : l[(K8 key l.length + i) % l.length]? = some (l.getD ((K8 key l.length + i) % l.length) u7) := by
   rw [List.getD_eq_getElem?_getD, List.getElem?_eq_getElem hj]; rfl
  have h1 := hrow.at (f := E6) (k := 4) (fun _ => rfl) hx
  have e1 : (((K8 key l.length : Nat) : Int) + (i : Nat)).tmod l.length = ((K8 key l.length + i) % l.length : Nat) := by rw [Int.tmod_eq_emod_of_nonneg (by omega), Int.natCast_emod, Int.natCast_add]
  have hwi : ∀ h, ((S0 l key).map A4v)[i]'h = A4v ((K8 key l.length + i) % l.length, l.getD ((K8 key l.length + i) % l.length) u7) := by
   intro h; simp only [List.getElem_map, S0, List.getElem_range]
  generalize hjd : (K8 key l.length + i) % l.length = j at *
  generalize hxd : l.getD j u7 = x at *
  rw [E6] at h1
  have hnz : ¬ (l.length : Int) = 0 := by omega
  subst hb
  rw [e0]
  (have zz:=trivial;repeat((first|clear zz|with_reducible first|refine A3 ?_|refine A5 fun _=>?_|refine A4 fun _=>?_);try simp(disch:=first|omega|assumption|((repeat(first|exact A1|exact uH|apply A2|apply uT));first|done|fail)|(simp;first|done|omega|fail))[hlt, e1, h1, hnz, A1d]))
  refine A2s hJ hE stJ hy hJi (by simpa [S0] using hlt) (hwi _) (fun w3 h => ?_) (fun w3 h => ?_)
  ·(have zz:=trivial;repeat((first|clear zz|with_reducible first|refine A3 ?_|refine A5 fun _=>?_|refine A4 fun _=>?_);try simp(disch:=first|omega|assumption|((repeat(first|exact A1|exact uH|apply A2|apply uT));first|done|fail)|(simp;first|done|omega|fail))[]))
   exact fun w' hw' => hL hlt w' (stJ _ _ _ _ _ h hw')
  ·(have zz:=trivial;repeat((first|clear zz|with_reducible first|refine A3 ?_|refine A5 fun _=>?_|refine A4 fun _=>?_);try simp(disch:=first|omega|assumption|((repeat(first|exact A1|exact uH|apply A2|apply uT));first|done|fail)|(simp;first|done|omega|fail))[]))
   exact A0v stE h
 ·obtain rfl : i = l.length := by omega
  (have zz:=trivial;repeat((first|clear zz|with_reducible first|refine A3 ?_|refine A5 fun _=>?_|refine A4 fun _=>?_);try simp(disch:=first|omega|assumption|((repeat(first|exact A1|exact uH|apply A2|apply uT));first|done|fail)|(simp;first|done|omega|fail))[]))
  exact A0u stJ (by simpa [S0] using hJi)
def F7 (key : ByteArray) : List (Nat × EnV) → Int
 | [] => -1
 | p :: r => if p.2.st = 0 then -1 else if p.2.st = 1 ∧ p.2.key = key then p.1 else F7 key r
def D0 (l : List EnV) (key : ByteArray) : Int := F7 key (S0 l key)
theorem B4D {α : Type} {l : List α} {i : Nat} (h : i < l.length) : l.drop i = l[i] :: l.drop (i + 1) := List.drop_eq_getElem_cons h
theorem A7Q (L : List (Nat × EnV)) : ∀ x ∈ L.map A4v, x.length = 2 := by
 intro x hx; obtain ⟨p, _, rfl⟩ := List.mem_map.1 hx; rfl
theorem z7 (w : World) (v : Value) (l : List EnV) (key : ByteArray) (hk : key.size < 2 ^ 60) (hn : l.length ≤ 1000000) (hv : E4 w v l.length (l.flatMap E6)) :
  Fn PR B5 124 #[v, .string key] w (fun r w' => r = .int .i64 (D0 l key) ∧ C6 [] w w') := by
 refine Fn.pure (B1J (TW.go (κ := false) (S := []) ?_))
 unfold A5C
 (have zz:=trivial;repeat((first|clear zz|with_reducible first|refine A3 ?_|refine A5 fun _=>?_|refine A4 fun _=>?_);try simp(disch:=first|omega|assumption|((repeat(first|exact A1|exact uH|apply A2|apply uT));first|done|fail)|(simp;first|done|omega|fail))[]))
 rename_i bk bf
 refine G8 A4y (fun w' _ => B50 w' v key (by obtain ⟨a, c, rfl, _⟩ := hv.form; exact ⟨a, _, c, rfl⟩)) ?_
 rintro x u rfl
 refine A0p (B51 x v l key hk hn) (A7Q _) (fun i (_ : Unit) => F7 key ((S0 l key).drop i) = D0 l key) (fun _ _ => [.pt bf (.cells #[.int .i64 (-1)] 3), .pt bk (.cells #[.string key] 9)])
  (fun c (y : Unit) => c = .exit 0) (fun y => [.pt bf (.cells #[.int .i64 (D0 l key)] 3)]) () rfl ?_ ?_ ?_ ?_ (by simp [B19])
 ·intro i _ F w1 _ hw
  exact RqS.of hv (fun h => by rw [v8]; omega) hw
 ·rintro i hi _ F hψ K' hK hE
  have hi' : i < (S0 l key).length := by simpa using hi
  rw [B4D hi'] at hψ
  simp only [List.getElem_map]
  generalize (S0 l key)[i] = p at *
  simp only [A4v, VF.app]
  by_cases c0 : p.2.st = 0
  ·(have zz:=trivial;repeat((first|clear zz|with_reducible first|refine A3 ?_|refine A5 fun _=>?_|refine A4 fun _=>?_);try simp(disch:=first|omega|assumption|((repeat(first|exact A1|exact uH|apply A2|apply uT));first|done|fail)|(simp;first|done|omega|fail))[c0]))
   refine TW.sub (hE (.exit 0) () rfl) ?_
   rw [← hψ]
   simp only [F7, c0, if_true]
   ((try simp only [List.cons_append, List.nil_append, List.append_assoc]); (repeat (first | exact List.Sublist.refl _ | exact List.nil_sublist _ | with_reducible apply List.Sublist.cons_cons | apply List.Sublist.cons)); first | done | fail)
  by_cases c1 : p.2.st = 1
  ·by_cases c2 : p.2.key = key
   ·(have zz:=trivial;repeat((first|clear zz|with_reducible first|refine A3 ?_|refine A5 fun _=>?_|refine A4 fun _=>?_);try simp(disch:=first|omega|assumption|((repeat(first|exact A1|exact uH|apply A2|apply uT));first|done|fail)|(simp;first|done|omega|fail))[c0, c1, c2]))
    refine TW.sub (hE (.exit 0) () rfl) ?_
    rw [← hψ]
    simp [F7, c1, c2]
    ((try simp only [List.cons_append, List.nil_append, List.append_assoc]); (repeat (first | exact List.Sublist.refl _ | exact List.nil_sublist _ | with_reducible apply List.Sublist.cons_cons | apply List.Sublist.cons)); first | done | fail)
   ·(have zz:=trivial;repeat((first|clear zz|with_reducible first|refine A3 ?_|refine A5 fun _=>?_|refine A4 fun _=>?_);try simp(disch:=first|omega|assumption|((repeat(first|exact A1|exact uH|apply A2|apply uT));first|done|fail)|(simp;first|done|omega|fail))[c0, c1, c2]))
    refine TW.sub (hK () ?_) (by ((try simp only [List.cons_append, List.nil_append, List.append_assoc]); (repeat (first | exact List.Sublist.refl _ | exact List.nil_sublist _ | with_reducible apply List.Sublist.cons_cons | apply List.Sublist.cons)); first | done | fail))
    rw [← hψ]
    simp [F7, c1, c2]
  ·(have zz:=trivial;repeat((first|clear zz|with_reducible first|refine A3 ?_|refine A5 fun _=>?_|refine A4 fun _=>?_);try simp(disch:=first|omega|assumption|((repeat(first|exact A1|exact uH|apply A2|apply uT));first|done|fail)|(simp;first|done|omega|fail))[c0, c1]))
   refine TW.sub (hK () ?_) (by ((try simp only [List.cons_append, List.nil_append, List.append_assoc]); (repeat (first | exact List.Sublist.refl _ | exact List.nil_sublist _ | with_reducible apply List.Sublist.cons_cons | apply List.Sublist.cons)); first | done | fail))
   rw [← hψ]
   simp [F7, c0, c1]
 ·intro _ hψ
  (have zz:=trivial;repeat((first|clear zz|with_reducible first|refine A3 ?_|refine A5 fun _=>?_|refine A4 fun _=>?_);try simp(disch:=first|omega|assumption|((repeat(first|exact A1|exact uH|apply A2|apply uT));first|done|fail)|(simp;first|done|omega|fail))[]))
  simp only [List.length_map, List.drop_length, F7] at hψ
  exact A9 (by rw [← hψ])
 ·rintro _ _ rfl
  (have zz:=trivial;repeat((first|clear zz|with_reducible first|refine A3 ?_|refine A5 fun _=>?_|refine A4 fun _=>?_);try simp(disch:=first|omega|assumption|((repeat(first|exact A1|exact uH|apply A2|apply uT));first|done|fail)|(simp;first|done|omega|fail))[]))
  exact A9 rfl
def M3 : List (Nat × EnV) → Int
 | [] => -1
 | p :: r => if p.2.st = 1 then M3 r else p.1
def U7 (l : List EnV) (key : ByteArray) : Int := if 0 ≤ D0 l key then -1 else M3 (S0 l key)
theorem B2u (w : World) (v : Value) (l : List EnV) (key : ByteArray) (hk : key.size < 2 ^ 60) (hn : l.length ≤ 1000000) (hv : E4 w v l.length (l.flatMap E6)) :
  Fn PR B5 160 #[v, .string key] w (fun r w' => r = .int .i64 (U7 l key) ∧ C6 [] w w') := by
 refine Fn.pure (B0w (TW.go (κ := false) (S := []) ?_))
 unfold A4x
 (have zz:=trivial;repeat((first|clear zz|with_reducible first|refine A3 ?_|refine A5 fun _=>?_|refine A4 fun _=>?_);try simp(disch:=first|omega|assumption|((repeat(first|exact A1|exact uH|apply A2|apply uT));first|done|fail)|(simp;first|done|omega|fail))[]))
 rename_i bf
 refine C5 m7 (fun w' hw' => z7 w' v l key hk hn (hv.ks hw'.ks (by simp))) ?_
 by_cases c1 : 0 ≤ D0 l key
 ·(have zz:=trivial;repeat((first|clear zz|with_reducible first|refine A3 ?_|refine A5 fun _=>?_|refine A4 fun _=>?_);try simp(disch:=first|omega|assumption|((repeat(first|exact A1|exact uH|apply A2|apply uT));first|done|fail)|(simp;first|done|omega|fail))[c1]))
  exact A9 (by simp [U7, c1])
 have e1 : U7 l key = M3 (S0 l key) := if_neg c1
 (have zz:=trivial;repeat((first|clear zz|with_reducible first|refine A3 ?_|refine A5 fun _=>?_|refine A4 fun _=>?_);try simp(disch:=first|omega|assumption|((repeat(first|exact A1|exact uH|apply A2|apply uT));first|done|fail)|(simp;first|done|omega|fail))[c1]))
 refine G8 A4y (fun w' _ => B50 w' v key (by obtain ⟨a, c, rfl, _⟩ := hv.form; exact ⟨a, _, c, rfl⟩)) ?_
 rintro x u rfl
 refine A0p (B51 x v l key hk hn) (A7Q _) (fun i (_ : Unit) => M3 ((S0 l key).drop i) = U7 l key) (fun _ _ => [.pt bf (.cells #[.int .i64 0] 3)])
  (fun c (y : Unit) => c = .ret) (fun y => [.pt bf (.cells #[.int .i64 (U7 l key)] 3)]) () (by rw [List.drop_zero, e1]) ?_ ?_ ?_ ?_ (by simp [B19])
 ·intro i _ F w1 _ hw
  exact RqS.of hv (fun h => by rw [v8]; omega) hw
 ·rintro i hi _ F hψ K' hK hE
  have hi' : i < (S0 l key).length := by simpa using hi
  rw [B4D hi'] at hψ
  simp only [List.getElem_map]
  generalize (S0 l key)[i] = p at *
  simp only [A4v, VF.app]
  by_cases c1 : p.2.st = 1
  ·(have zz:=trivial;repeat((first|clear zz|with_reducible first|refine A3 ?_|refine A5 fun _=>?_|refine A4 fun _=>?_);try simp(disch:=first|omega|assumption|((repeat(first|exact A1|exact uH|apply A2|apply uT));first|done|fail)|(simp;first|done|omega|fail))[c1]))
   refine TW.sub (hK () ?_) (by ((try simp only [List.cons_append, List.nil_append, List.append_assoc]); (repeat (first | exact List.Sublist.refl _ | exact List.nil_sublist _ | with_reducible apply List.Sublist.cons_cons | apply List.Sublist.cons)); first | done | fail))
   rw [← hψ]
   simp [M3, c1]
  ·(have zz:=trivial;repeat((first|clear zz|with_reducible first|refine A3 ?_|refine A5 fun _=>?_|refine A4 fun _=>?_);try simp(disch:=first|omega|assumption|((repeat(first|exact A1|exact uH|apply A2|apply uT));first|done|fail)|(simp;first|done|omega|fail))[c1]))
   refine TW.sub (hE .ret () rfl) ?_
   rw [← hψ]
   simp only [M3, c1, if_false]
   ((try simp only [List.cons_append, List.nil_append, List.append_assoc]); (repeat (first | exact List.Sublist.refl _ | exact List.nil_sublist _ | with_reducible apply List.Sublist.cons_cons | apply List.Sublist.cons)); first | done | fail)
 ·intro _ hψ
  (have zz:=trivial;repeat((first|clear zz|with_reducible first|refine A3 ?_|refine A5 fun _=>?_|refine A4 fun _=>?_);try simp(disch:=first|omega|assumption|((repeat(first|exact A1|exact uH|apply A2|apply uT));first|done|fail)|(simp;first|done|omega|fail))[]))
  simp only [List.length_map, List.drop_length, M3] at hψ
  exact A9 (by rw [← hψ])
 ·rintro _ _ rfl
  (have zz:=trivial;repeat((first|clear zz|with_reducible first|refine A3 ?_|refine A5 fun _=>?_|refine A4 fun _=>?_);try simp(disch:=first|omega|assumption|((repeat(first|exact A1|exact uH|apply A2|apply uT));first|done|fail)|(simp;first|done|omega|fail))[]))
  exact A9 rfl
theorem B5b (w : World) (x : EnV) (st : Int) (b : Nat) (hb : w.cell? ⟨b, 0, none⟩ = some (.int .i64 st)) : Fn PR B5 136 #[.agg #[.int .i64 x.st, .string x.key, .int .i64 x.bk, .int .i64 x.dl], .pointer (some ⟨b, 0, none⟩)] w (fun r w' => r = .bool (decide (x.st = st)) ∧ C6 [] w w') := by
 refine Fn.pure (A6w (TW.go (κ := false) (S := []) ?_))
 unfold A1U
 (have zz:=trivial;repeat((first|clear zz|with_reducible first|refine A3 ?_|refine A5 fun _=>?_|refine A4 fun _=>?_);try simp(disch:=first|omega|assumption|((repeat(first|exact A1|exact uH|apply A2|apply uT));first|done|fail)|(simp;first|done|omega|fail))[hb]))
 exact A9 rfl
def Q3 (l : List EnV) (st : Int) : Nat := l.countP fun x => decide (x.st = st)
theorem B3D {α : Type} {p : α → Bool} {l : List α} {i : Nat} {x : α} (hx : l[i]? = some x) : (l.take (i + 1)).countP p = (l.take i).countP p + if p x then 1 else 0 := by
 rw [List.take_add_one, hx, List.countP_append]; simp [List.countP_cons]
theorem B7Q (w : World) (v : Value) (l : List EnV) (p : EnV → Bool) (f : FuncId) (cap : List Value) (hn : l.length ≤ 1000000) (hv : E4 w v l.length (l.flatMap E6)) (he : B0 PR f)
  (hf : ∀ w', KS false [] w w' → ∀ x : EnV, Fn PR B5 f (.agg #[.int .i64 x.st, .string x.key, .int .i64 x.bk, .int .i64 x.dl] :: cap).toArray w' (fun r w'' => r = .bool (p x) ∧ C6 [] w' w'')) :
  Fn PR B5 135 #[v, .func (.func f) #[] cap.toArray] w (fun r w' => r = .int .i64 (l.countP p : Nat) ∧ C6 [] w w') := by
 refine Fn.pure (A1u (TW.go (κ := false) (S := []) ?_))
 unfold j8
 obtain ⟨a, c, rfl, hr⟩ := hv.form
 (have zz:=trivial;repeat((first|clear zz|with_reducible first|refine A3 ?_|refine A5 fun _=>?_|refine A4 fun _=>?_);try simp(disch:=first|omega|assumption|((repeat(first|exact A1|exact uH|apply A2|apply uT));first|done|fail)|(simp;first|done|omega|fail))[]))
 refine q7 (α := Unit) l.length (fun i _ => .int .i64 ((l.take i).countP p : Nat)) (fun _ _ => []) (fun i _ => True) () trivial ?_
 rintro i _ hi _ L hL
 by_cases hlt : i < l.length
 ·obtain ⟨b, o, rfl, hrow⟩ := hr (by omega)
  obtain ⟨x, hx⟩ : ∃ x, l[i]? = some x := ⟨_, List.getElem?_eq_getElem (by omega)⟩
  have h1 := hrow.at (f := E6) (k := 4) (fun _ => rfl) hx
  rw [E6] at h1
  (have zz:=trivial;repeat((first|clear zz|with_reducible first|refine A3 ?_|refine A5 fun _=>?_|refine A4 fun _=>?_);try simp(disch:=first|omega|assumption|((repeat(first|exact A1|exact uH|apply A2|apply uT));first|done|fail)|(simp;first|done|omega|fail))[hlt, h1]))
  refine A7l he (φ := fun r => r = .bool (p x)) (fun w' hw' => by simpa using hf w' hw'.ks x) ?_
  rintro _ rfl
  have hc := B3D (p := p) hx
  have hle : (l.take i).countP p ≤ i := Nat.le_trans List.countP_le_length (by simp; omega)
  have hL' := hL hlt () trivial
  rw [hc] at hL'
  cases hb : p x with
  | true =>
   rw [hb] at hL'
   (have zz:=trivial;repeat((first|clear zz|with_reducible first|refine A3 ?_|refine A5 fun _=>?_|refine A4 fun _=>?_);try simp(disch:=first|omega|assumption|((repeat(first|exact A1|exact uH|apply A2|apply uT));first|done|fail)|(simp;first|done|omega|fail))[]))
   exact Sels.tw .nil (by simpa using hL')
  | false =>
   rw [hb] at hL'
   (have zz:=trivial;repeat((first|clear zz|with_reducible first|refine A3 ?_|refine A5 fun _=>?_|refine A4 fun _=>?_);try simp(disch:=first|omega|assumption|((repeat(first|exact A1|exact uH|apply A2|apply uT));first|done|fail)|(simp;first|done|omega|fail))[]))
   exact Sels.tw .nil (by simpa using hL')
 ·obtain rfl : i = l.length := by omega
  (have zz:=trivial;repeat((first|clear zz|with_reducible first|refine A3 ?_|refine A5 fun _=>?_|refine A4 fun _=>?_);try simp(disch:=first|omega|assumption|((repeat(first|exact A1|exact uH|apply A2|apply uT));first|done|fail)|(simp;first|done|omega|fail))[]))
  exact A9 rfl
theorem A7G (w : World) (v : Value) (l : List EnV) (st : Int) (hn : l.length ≤ 1000000) (hv : E4 w v l.length (l.flatMap E6)) :
  Fn PR B5 105 #[v, .int .i64 st] w (fun r w' => r = .int .i64 (Q3 l st : Nat) ∧ C6 [] w w') := by
 refine Fn.pure (A9Z (TW.go (κ := false) (S := []) ?_))
 unfold A3U
 (have zz:=trivial;repeat((first|clear zz|with_reducible first|refine A3 ?_|refine A5 fun _=>?_|refine A4 fun _=>?_);try simp(disch:=first|omega|assumption|((repeat(first|exact A1|exact uH|apply A2|apply uT));first|done|fail)|(simp;first|done|omega|fail))[]))
 rename_i b
 refine C5 A1f (fun w' hw' => B7Q w' v l (fun x => decide (x.st = st)) 136 [.pointer (some ⟨b, 0, none⟩)] hn (hv.ks hw'.ks (by simp)) A6G
  fun w2 h x => B5b w2 x st b (h.cell (by simp) (hw'.cell1 (by (repeat constructor))))) ?_
 exact A9 rfl
end Go.Proofs.YtlplkjgcfjdinaaGreat
namespace Go.Proofs.YtlplkjgcfjdinaaGreat
open Go
theorem B0H (l : List EnV) : (l.flatMap E6).all plain = true := by
 rw [List.all_eq_true]; intro v hv; rw [List.mem_flatMap] at hv
 obtain ⟨x, _, hx⟩ := hv
 simp only [E6, List.mem_cons, List.not_mem_nil, or_false] at hx
 rcases hx with rfl | rfl | rfl | rfl <;> rfl
theorem A0r {α : Type} {f : α → List Value} {k : Nat} (hk : ∀ x, (f x).length = k) (l : List α) (i : Nat) (y : α) (hi : i < l.length) : p6 (l.flatMap f) (i * k) (f y) = (l.set i y).flatMap f := by
 have e1 := B5m hk l i
 have e2 := A5W hk l (i + 1)
 rw [Nat.add_mul, Nat.one_mul] at e2
 rw [p6, hk, e1, e2, List.set_eq_take_append_cons_drop, if_pos hi, List.flatMap_append, List.flatMap_cons, List.append_assoc]
abbrev E8 (v : Value) (l : List EnV) : Res := .own 119 4 v l.length (l.flatMap E6)
def newE (n : Nat) : List EnV := List.replicate (min n 64) u7
theorem C2j (n : Nat) : (Builtin.zeroCells (Value.agg #[.int .i64 0, .string U6, .int .i64 0, .int .i64 0]).cells n).toList = (List.replicate n u7).flatMap E6 := by
 have h4 : (Value.agg #[.int .i64 0, .string U6, .int .i64 0, .int .i64 0]).cells.size = 4 := rfl
 have hz : (Builtin.zeroCells (Value.agg #[.int .i64 0, .string U6, .int .i64 0, .int .i64 0]).cells n).toList.length = n * 4 := by simp [size_zeroCells]
 have hr : ((List.replicate n u7).flatMap E6).length = n * 4 := by rw [H3 (k := 4) fun _ => rfl]; simp
 apply List.ext_getElem (by rw [hz, hr])
 intro i h1 h2
 rw [hz] at h1
 have hf := Q9 (f := E6) (k := 4) (fun _ => rfl) (List.replicate n u7) (i / 4) (i % 4) (by omega)
 rw [show i / 4 * 4 + i % 4 = i by omega, List.getElem?_eq_getElem h2, List.getElem?_replicate_of_lt (by omega)] at hf
 have e : (Builtin.zeroCells (Value.agg #[.int .i64 0, .string U6, .int .i64 0, .int .i64 0]).cells n).toList[i]'(by rw [hz]; exact h1) = (Value.agg #[.int .i64 0, .string U6, .int .i64 0, .int .i64 0]).cells[i % 4]! := by
  simp [Builtin.zeroCells]
 rw [e]
 have h3 : i % 4 = 0 ∨ i % 4 = 1 ∨ i % 4 = 2 ∨ i % 4 = 3 := by omega
 rcases h3 with h3 | h3 | h3 | h3 <;> (rw [h3] at hf ⊢; simp [E6, u7] at hf ⊢; exact hf.symm)
theorem A7B (w : World) (n : Nat) (hn : n ≤ 1000000) : Fn PR B5 33 #[.int .i64 (n : Int)] w (Rn [] w (fun r u => u = r) fun r => [E8 r (newE n)]) := by
 refine B14 (TW.go (κ := false) (S := []) ?_)
 unfold A5f
 have e : max 0 (min (n : Int) 64) = ((min n 64 : Nat) : Int) := by omega
 (have zz:=trivial;repeat((first|clear zz|with_reducible first|refine A3 ?_|refine A5 fun _=>?_|refine A4 fun _=>?_);try simp(disch:=first|omega|assumption|((repeat(first|exact A1|exact uH|apply A2|apply uT));first|done|fail)|(simp;first|done|omega|fail))[e]))
 refine B7K (by omega) (by omega) (by omega) (by omega) fun bs => ?_
 rw [Int.toNat_natCast]
 refine l0 _ rfl ?_
 simp only [E8, newE, List.length_replicate, ← C2j]
 exact List.Sublist.refl _
def F9 (l : List EnV) (x : EnV) : Option (List EnV) :=
 let at0 := D0 l x.key
 let at1 := if at0 < 0 then U7 l x.key else at0
 if at1 < 0 then none else some (l.set at1.toNat x)
theorem B8L {key : ByteArray} {n : Nat} : ∀ L : List (Nat × EnV), (∀ p ∈ L, p.1 < n) → 0 ≤ F7 key L → (F7 key L).toNat < n := by
 intro L
 induction L with
 | nil => intro _ h; simp [F7] at h
 | cons p L ih =>
  intro h h0
  simp only [F7] at h0 ⊢
  split
  ·rw [if_pos ‹_›] at h0; simp at h0
  ·rw [if_neg ‹_›] at h0
   split
   ·simpa using h p (by simp)
   ·rw [if_neg ‹_›] at h0; exact ih (fun q hq => h q (by simp [hq])) h0
theorem B7z {n : Nat} : ∀ L : List (Nat × EnV), (∀ p ∈ L, p.1 < n) → 0 ≤ M3 L → (M3 L).toNat < n := by
 intro L
 induction L with
 | nil => intro _ h; simp [M3] at h
 | cons p L ih =>
  intro h h0
  simp only [M3] at h0 ⊢
  split
  ·rw [if_pos ‹_›] at h0; exact ih (fun q hq => h q (by simp [hq])) h0
  ·simpa using h p (by simp)
theorem B38 (l : List EnV) (key : ByteArray) : ∀ p ∈ S0 l key, p.1 < l.length := by
 intro p hp
 obtain ⟨i, hi, rfl⟩ := List.mem_map.1 hp
 exact Nat.mod_lt _ (by simp at hi; omega)
theorem A0P {l : List EnV} {key : ByteArray} (h : 0 ≤ D0 l key) : (D0 l key).toNat < l.length := B8L _ (B38 l key) h
theorem A7r {l : List EnV} {key : ByteArray} (h : 0 ≤ U7 l key) : (U7 l key).toNat < l.length := by
 unfold U7 at h ⊢
 split
 ·rw [if_pos ‹_›] at h; simp at h
 ·rw [if_neg ‹_›] at h; exact B7z _ (B38 l key) h
theorem A4F {l m : List EnV} {x : EnV} (h : F9 l x = some m) : m.length = l.length := by
 unfold F9 at h
 simp only at h
 by_cases c : (if D0 l x.key < 0 then U7 l x.key else D0 l x.key) < 0
 ·rw [if_pos c] at h; cases h
 ·rw [if_neg c] at h; injection h with h; rw [← h]; simp
theorem B3x (w : World) (v : Value) (l : List EnV) (x : EnV) (hk : x.key.size < 2 ^ 60) (hn : l.length ≤ 1000000) (hw : LW false (B2 [E8 v l]) w [E8 v l] w) :
  Fn PR B5 131 #[v, .agg #[.int .i64 x.st, .string x.key, .int .i64 x.bk, .int .i64 x.dl]] w (Rn (B2 [E8 v l]) w (fun (_ : Unit) u => u = .bool (F9 l x).isSome) fun _ => [E8 v ((F9 l x).getD l)]) := by
 refine A58 (TW.goH (κ := false) (S := B2 [E8 v l]) ?_ hw)
 unfold A08
 (have zz:=trivial;repeat((first|clear zz|with_reducible first|refine A3 ?_|refine A5 fun _=>?_|refine A4 fun _=>?_);try simp(disch:=first|omega|assumption|((repeat(first|exact A1|exact uH|apply A2|apply uT));first|done|fail)|(simp;first|done|omega|fail))[]))
 rename_i bx
 refine C5 m7 (fun w' hw' => z7 w' v l x.key hk hn (H2.own (by (repeat constructor)) w' hw')) ?_
 have r4 : ∀ r : Int, 0 ≤ r → r.toNat < l.length → F9 l x = some (l.set r.toNat x) → TW false (B2 [E8 v l]) w [.pt bx (.cells #[.int .i64 x.st, .string x.key, .int .i64 x.bk, .int .i64 x.dl] 119), E8 v l]
   (A0 PR (Instr.indexAt 205 v (.int .i64 r)) fun t21 => B8 PR B5 (Instr.storeAt 119 t21 (.agg #[.int .i64 x.st, .string x.key, .int .i64 x.bk, .int .i64 x.dl])) <|
    Rn (B2 [E8 v l]) w (fun (_ : Unit) u => u = .bool (F9 l x).isSome) (fun _ => [E8 v ((F9 l x).getD l)]) (.bool true)) := by
  intro r h0 hi hp
  obtain ⟨i, rfl⟩ : ∃ i : Nat, r = i := ⟨r.toNat, by omega⟩
  rw [Int.toNat_natCast] at hi hp
  refine r7 (e := 119) (k := 4) (v := v) (q := l.length) (xs := l.flatMap E6) (by (repeat constructor)) (by omega) ?_
  rintro g c rfl
  (have zz:=trivial;repeat((first|clear zz|with_reducible first|refine A3 ?_|refine A5 fun _=>?_|refine A4 fun _=>?_);try simp(disch:=first|omega|assumption|((repeat(first|exact A1|exact uH|apply A2|apply uT));first|done|fail)|(simp;first|done|omega|fail))[hi]))
  refine W6 (by (repeat constructor)) (by simp) (by rw [v8]; omega) (by simp) ?_
  refine C3 () (by simp [hp]) ?_
  have := A0r (f := E6) (k := 4) (fun _ => rfl) l i x hi
  simp only [hp, Option.getD_some, E8, List.length_set, ← this]
  (repeat' constructor)
 by_cases c1 : D0 l x.key < 0
 ·(have zz:=trivial;repeat((first|clear zz|with_reducible first|refine A3 ?_|refine A5 fun _=>?_|refine A4 fun _=>?_);try simp(disch:=first|omega|assumption|((repeat(first|exact A1|exact uH|apply A2|apply uT));first|done|fail)|(simp;first|done|omega|fail))[c1]))
  refine C5 A89 (fun w' hw' => B2u w' v l x.key hk hn (H2.own (by (repeat constructor)) w' hw')) ?_
  by_cases c2 : U7 l x.key < 0
  ·have hp : F9 l x = none := by simp [F9, c1, c2]
   (have zz:=trivial;repeat((first|clear zz|with_reducible first|refine A3 ?_|refine A5 fun _=>?_|refine A4 fun _=>?_);try simp(disch:=first|omega|assumption|((repeat(first|exact A1|exact uH|apply A2|apply uT));first|done|fail)|(simp;first|done|omega|fail))[c2]))
   exact C3 () (by simp [hp]) (by simp only [hp, Option.getD_none]; (repeat' constructor))
  ·have hp : F9 l x = some (l.set (U7 l x.key).toNat x) := by simp [F9, c1, c2]
   have := r4 _ (by omega) (A7r (by omega)) hp
   simp(disch:=first|omega|assumption|((repeat(first|exact A1|exact uH|apply A2|apply uT));first|done|fail)|(simp;first|done|omega|fail))[c2]
   exact this
 ·have hp : F9 l x = some (l.set (D0 l x.key).toNat x) := by simp [F9, c1]
  have := r4 _ (by omega) (A0P (by omega)) hp
  simp(disch:=first|omega|assumption|((repeat(first|exact A1|exact uH|apply A2|apply uT));first|done|fail)|(simp;first|done|omega|fail))[c1]
  exact this
def V2 : Nat → List EnV → List (Nat × EnV)
 | _, [] => []
 | i, x :: r => if x.st = 1 then (i, x) :: V2 (i + 1) r else V2 (i + 1) r
def K6 (l : List EnV) : List (Nat × EnV) := V2 0 l
theorem B0L (i : Nat) (l m : List EnV) : V2 i (l ++ m) = V2 i l ++ V2 (i + l.length) m := by
 induction l generalizing i with
 | nil => simp [V2]
 | cons x l ih =>
  simp only [List.cons_append, V2, ih, List.length_cons]
  split
  ·simp only [List.cons_append]; congr 3; omega
  ·congr 2; omega
theorem B2n {l : List EnV} {i : Nat} {x : EnV} (hx : l[i]? = some x) : K6 (l.take (i + 1)) = K6 (l.take i) ++ (if x.st = 1 then [(i, x)] else []) := by
 obtain ⟨hi, _⟩ := List.getElem?_eq_some_iff.1 hx
 rw [List.take_add_one, hx, K6, B0L, Option.toList_some, List.length_take, Nat.zero_add, Nat.min_eq_left (by omega)]
 simp only [V2, K6]
theorem B6n {l : List EnV} {i : Nat} {x : EnV} (hx : l[i]? = some x) (h : x.st = 1) : (K6 l)[(K6 (l.take i)).length]? = some (i, x) := by
 have e : l = l.take (i + 1) ++ l.drop (i + 1) := (List.take_append_drop _ _).symm
 conv => lhs; arg 1; rw [e]
 rw [K6, B0L, ← K6, B2n hx, if_pos h, List.append_assoc, List.getElem?_append_right (by omega)]
 simp
abbrev B8u (b : Nat) : Value := .func (.func 162) #[] #[.pointer (some ⟨b, 0, none⟩)]
theorem B9n (w : World) (v : Value) (hv : ∃ a n c, v = .slice a n c) : Fn PR B5 137 #[v] w (Rn [] w (fun b u => u = B8u b) fun b => [.pt b (.cells #[v] 205)]) := by
 obtain ⟨a, n, c, rfl⟩ := hv
 refine A5J (TW.go (κ := false) (S := []) ?_)
 unfold A0N
 (have zz:=trivial;repeat((first|clear zz|with_reducible first|refine A3 ?_|refine A5 fun _=>?_|refine A4 fun _=>?_);try simp(disch:=first|omega|assumption|((repeat(first|exact A1|exact uH|apply A2|apply uT));first|done|fail)|(simp;first|done|omega|fail))[]))
 rename_i b
 exact l0 b rfl (by simp)
theorem B9A (b : Nat) (v : Value) (l : List EnV) (hn : l.length ≤ 1000000) : A1k (B8u b) [.pt b (.cells #[v] 205)] (RqS v l.length (l.flatMap E6)) ((K6 l).map A4v) := by
 refine ⟨_, _, _, rfl, fun y J E hJ hE stJ stE hy w0 h0 => ?_⟩
 obtain ⟨a, c, hv, hr⟩ := (hJ _ _ _ h0).2
 subst hv
 refine A3J (A3D (TW.at (κ := true) ?_ (hJ _ _ _ h0).1))
 unfold q8
 (have zz:=trivial;repeat((first|clear zz|with_reducible first|refine A3 ?_|refine A5 fun _=>?_|refine A4 fun _=>?_);try simp(disch:=first|omega|assumption|((repeat(first|exact A1|exact uH|apply A2|apply uT));first|done|fail)|(simp;first|done|omega|fail))[]))
 refine A14 l.length (fun i => (K6 (l.take i)).length) (fun _ => _) hJ stJ (by simpa [K6, V2] using h0) fun i a' hi hJi hRi L hL => ?_
 by_cases hlt : i < l.length
 ·obtain ⟨_, _, hv, hr⟩ := hRi
  obtain ⟨b', o, hb, hrow, hnb⟩ := hr (by omega)
  cases hv
  subst hb
  obtain ⟨x, hx⟩ : ∃ x, l[i]? = some x := ⟨_, List.getElem?_eq_getElem hlt⟩
  have h1 := hrow.at (f := E6) (k := 4) (fun _ => rfl) hx
  rw [E6] at h1
  have hat := B2n hx
  by_cases c1 : x.st = 1
  ·have hg := B6n hx c1
   rw [if_pos c1] at hat
   obtain ⟨hgi, hg'⟩ := List.getElem?_eq_some_iff.1 hg
   have hlen : (K6 (l.take (i + 1))).length = (K6 (l.take i)).length + 1 := by rw [hat]; simp
   rw [hlen] at hL
   (have zz:=trivial;repeat((first|clear zz|with_reducible first|refine A3 ?_|refine A5 fun _=>?_|refine A4 fun _=>?_);try simp(disch:=first|omega|assumption|((repeat(first|exact A1|exact uH|apply A2|apply uT));first|done|fail)|(simp;first|done|omega|fail))[hlt, h1, c1]))
   refine A2s hJ hE stJ hy hJi (by simpa using hgi) (by rw [List.getElem_map, hg', A4v, c1]) (fun w3 h => ?_) (fun w3 h => ?_)
   ·(have zz:=trivial;repeat((first|clear zz|with_reducible first|refine A3 ?_|refine A5 fun _=>?_|refine A4 fun _=>?_);try simp(disch:=first|omega|assumption|((repeat(first|exact A1|exact uH|apply A2|apply uT));first|done|fail)|(simp;first|done|omega|fail))[]))
    exact fun w' hw' => hL hlt w' (stJ _ _ _ _ _ h (hw'.sub (by simp)))
   ·(have zz:=trivial;repeat((first|clear zz|with_reducible first|refine A3 ?_|refine A5 fun _=>?_|refine A4 fun _=>?_);try simp(disch:=first|omega|assumption|((repeat(first|exact A1|exact uH|apply A2|apply uT));first|done|fail)|(simp;first|done|omega|fail))[]))
    exact A0v stE h
  ·rw [if_neg c1, List.append_nil] at hat
   rw [hat] at hL
   (have zz:=trivial;repeat((first|clear zz|with_reducible first|refine A3 ?_|refine A5 fun _=>?_|refine A4 fun _=>?_);try simp(disch:=first|omega|assumption|((repeat(first|exact A1|exact uH|apply A2|apply uT));first|done|fail)|(simp;first|done|omega|fail))[hlt, h1, c1]))
   exact fun w' hw' => hL hlt w' (stJ _ _ _ _ _ hJi (hw'.sub (by simp)))
 ·obtain rfl : i = l.length := by omega
  rw [List.take_length] at hJi
  (have zz:=trivial;repeat((first|clear zz|with_reducible first|refine A3 ?_|refine A5 fun _=>?_|refine A4 fun _=>?_);try simp(disch:=first|omega|assumption|((repeat(first|exact A1|exact uH|apply A2|apply uT));first|done|fail)|(simp;first|done|omega|fail))[]))
  exact A0u stJ (by simpa using hJi)
end Go.Proofs.YtlplkjgcfjdinaaGreat
namespace Go.Proofs.YtlplkjgcfjdinaaGreat
open Go
theorem B4p {w : World} {b : Nat} {T : TypeId} {l : List Value} (h : bl w b = some (.cells l.toArray T (0, 0))) : W2 w b 0 l.length = some l := A3w fun i hi => by
 rw [H0 h]; simp
theorem A8c (w : World) (v : Value) (l : List EnV) (f : FuncId) (cap : List Value) (o : Option (List EnV)) (ho : ∀ m, o = some m → m.length = l.length) (hn : l.length ≤ 1000000) (hv : E4 w v l.length (l.flatMap E6)) (he : B0 PR f)
  (hf : ∀ w' r, KS false [] w w' → (∀ b ∈ B2 [E8 r l], sz w ≤ b) → LW false (B2 [E8 r l]) w' [E8 r l] w' → Fn PR B5 f (r :: cap).toArray w' (Rn (B2 [E8 r l]) w' (fun (_ : Unit) u => u = .bool o.isSome) fun _ => [E8 r (o.getD l)])) :
  Fn PR B5 128 #[v, .func (.func f) #[] cap.toArray] w (Rn [] w (fun r u => u = .tuple #[if o.isSome then r else v, .bool o.isSome]) fun r => [E8 r (o.getD l)]) := by
 refine A7V (TW.go (κ := false) (S := []) ?_)
 unfold A18
 refine G8 Q1 (fun w' hw' => B0W w' v l.length (l.flatMap E6) hn (v8 l) (B0H l) (hv.ks hw'.ks (by simp))) ?_
 rintro _ r rfl
 (have zz:=trivial;repeat((first|clear zz|with_reducible first|refine A3 ?_|refine A5 fun _=>?_|refine A4 fun _=>?_);try simp(disch:=first|omega|assumption|((repeat(first|exact A1|exact uH|apply A2|apply uT));first|done|fail)|(simp;first|done|omega|fail))[]))
 refine E5 (Hc := [E8 r l]) he (fun w' hw hs => hf w' r hw.ks (fun b hb => by
  obtain ⟨s, hs1, hb1⟩ := M0.1 hb
  rcases (hw.own s (List.mem_append_left _ hs1) b hb1).1 with h | h
  ·simp at h
  ·exact h) hs) (by (repeat' constructor)) ?_
 rintro _ _ rfl
 cases o with
 | none =>
  (have zz:=trivial;repeat((first|clear zz|with_reducible first|refine A3 ?_|refine A5 fun _=>?_|refine A4 fun _=>?_);try simp(disch:=first|omega|assumption|((repeat(first|exact A1|exact uH|apply A2|apply uT));first|done|fail)|(simp;first|done|omega|fail))[]))
  exact C3 r rfl (by (repeat' constructor))
 | some m =>
  (have zz:=trivial;repeat((first|clear zz|with_reducible first|refine A3 ?_|refine A5 fun _=>?_|refine A4 fun _=>?_);try simp(disch:=first|omega|assumption|((repeat(first|exact A1|exact uH|apply A2|apply uT));first|done|fail)|(simp;first|done|omega|fail))[]))
  exact C3 r rfl (by (repeat' constructor))
theorem B8Z (w : World) (v : Value) (l : List EnV) (x : EnV) (b : Nat) (hk : x.key.size < 2 ^ 60) (hn : l.length ≤ 1000000) (hx : W2 w b 0 4 = some (E6 x)) (hb : b ∉ B2 [E8 v l]) (hw : LW false (B2 [E8 v l]) w [E8 v l] w) :
  Fn PR B5 130 #[v, .pointer (some ⟨b, 0, none⟩)] w (Rn (B2 [E8 v l]) w (fun (_ : Unit) u => u = .bool (F9 l x).isSome) fun _ => [E8 v ((F9 l x).getD l)]) := by
 refine A76 (TW.goH (κ := false) (S := B2 [E8 v l]) ?_ hw)
 unfold A2g
 rw [E6] at hx
 (have zz:=trivial;repeat((first|clear zz|with_reducible first|refine A3 ?_|refine A5 fun _=>?_|refine A4 fun _=>?_);try simp(disch:=first|omega|assumption|((repeat(first|exact A1|exact uH|apply A2|apply uT));first|done|fail)|(simp;first|done|omega|fail))[hx]))
 refine E5 (Hc := [E8 v l]) A0D (fun w' hw hs => B3x w' v l x hk hn hs) (by (repeat' constructor)) ?_
 rintro _ _ rfl
 exact C3 () rfl (by (repeat' constructor))
theorem B3a (w : World) (v : Value) (l : List EnV) (key : ByteArray) (bk dl : Int) (hk : key.size < 2 ^ 60) (hn : l.length ≤ 1000000) (hv : E4 w v l.length (l.flatMap E6)) :
  Fn PR B5 100 #[v, .string key, .int .i64 bk, .int .i64 dl] w (Rn [] w (fun r u => u = .tuple #[if (F9 l ⟨1, key, bk, dl⟩).isSome then r else v, .int .i64 (if (F9 l ⟨1, key, bk, dl⟩).isSome then 0 else 12)]) fun r => [E8 r ((F9 l ⟨1, key, bk, dl⟩).getD l)]) := by
 refine B1x (TW.go (κ := false) (S := []) ?_)
 unfold A6Q
 (have zz:=trivial;repeat((first|clear zz|with_reducible first|refine A3 ?_|refine A5 fun _=>?_|refine A4 fun _=>?_);try simp(disch:=first|omega|assumption|((repeat(first|exact A1|exact uH|apply A2|apply uT));first|done|fail)|(simp;first|done|omega|fail))[]))
 rename_i b
 refine G8 A1M (fun w' hw' => A8c w' v l 130 [.pointer (some ⟨b, 0, none⟩)] (F9 l ⟨1, key, bk, dl⟩) (fun m h => A4F h) hn (hv.ks hw'.ks (by simp)) A7k
  fun w2 r h hf hr => ?_) ?_
 ·have hp := hw'.pt (b := b) (by (repeat constructor))
  have hb : b < sz w' := G4 hp
  refine B8Z w2 r l ⟨1, key, bk, dl⟩ b hk hn ?_ (fun hc => by have := hf b hc; omega) hr
  have hp2 := h.2.1 b _ (by simp) rfl hp
  exact B4p hp2
 ·rintro r _ rfl
  cases h : F9 l ⟨1, key, bk, dl⟩ with
  | none =>
   (have zz:=trivial;repeat((first|clear zz|with_reducible first|refine A3 ?_|refine A5 fun _=>?_|refine A4 fun _=>?_);try simp(disch:=first|omega|assumption|((repeat(first|exact A1|exact uH|apply A2|apply uT));first|done|fail)|(simp;first|done|omega|fail))[]))
   exact C3 r (by simp) (by (repeat' constructor))
  | some m =>
   (have zz:=trivial;repeat((first|clear zz|with_reducible first|refine A3 ?_|refine A5 fun _=>?_|refine A4 fun _=>?_);try simp(disch:=first|omega|assumption|((repeat(first|exact A1|exact uH|apply A2|apply uT));first|done|fail)|(simp;first|done|omega|fail))[]))
   exact C3 r (by simp) (by (repeat' constructor))
def Q7 : EnV := ⟨2, U6, 0, 0⟩
def M2 (l : List EnV) : Prop := ∀ x ∈ l, x.key.size < 2 ^ 60
def U1 (acc : List EnV) (x : EnV) : List EnV := (F9 acc x).getD acc
theorem B8e (acc : List EnV) (x : EnV) : (U1 acc x).length = acc.length := by
 unfold U1
 cases h : F9 acc x with
 | none => rfl
 | some m => exact A4F h
def Y3 (l : List EnV) : List EnV := (K6 l).foldl (fun acc p => U1 acc p.2) (newE l.length)
theorem B2M (L : List (Nat × EnV)) (a : List EnV) : (L.foldl (fun acc p => U1 acc p.2) a).length = a.length := by
 induction L generalizing a with
 | nil => rfl
 | cons p L ih => rw [List.foldl_cons, ih, B8e]
theorem A4A (n : Nat) : (newE n).length = min n 64 := by simp [newE]
theorem B0Z {i : Nat} {l : List EnV} : ∀ p ∈ V2 i l, p.2 ∈ l ∧ p.2.st = 1 := by
 induction l generalizing i with
 | nil => intro p hp; cases hp
 | cons x l ih =>
  intro p hp
  simp only [V2] at hp
  split at hp
  ·rcases List.mem_cons.1 hp with rfl | hp
   ·exact ⟨by simp, ‹_›⟩
   ·obtain ⟨h1, h2⟩ := ih p hp; exact ⟨by simp [h1], h2⟩
  ·obtain ⟨h1, h2⟩ := ih p hp; exact ⟨by simp [h1], h2⟩
theorem y7 {κ : Bool} {S : List Nat} {w0 : World} {H : List Res} {K0 : WP} {e : TypeId} {k : Nat} {v : Value} {q : Nat} {xs : List Value} (hm : Res.own e k v q xs ∈ H) (h : v.cells = #[v] → v.cells.size = 1 → v.cells.toList.all plain = true → TW κ S w0 H K0) : TW κ S w0 H K0 := fun w hw => by
 obtain ⟨a, c, rfl⟩ := S5.form (hw.hold _ hm); exact h rfl rfl rfl w hw
theorem A0q {κ : Bool} {S : List Nat} {w0 : World} {H : List Res} {K0 : WP} {e : TypeId} {k : Nat} {v : Value} {q : Nat} {xs : List Value} (hm : Res.own e k v q xs ∈ H) (h : ∀ a c, v = .slice a q c → TW κ S w0 H K0) : TW κ S w0 H K0 := fun w hw => by
 obtain ⟨a, c, rfl⟩ := S5.form (hw.hold _ hm); exact h a c rfl w hw
theorem B35 (w : World) (v : Value) (l : List EnV) (hks : M2 l) (hn : l.length ≤ 1000000) (hv : E4 w v l.length (l.flatMap E6)) :
  Fn PR B5 106 #[v] w (Rn [] w (fun r u => u = r) fun r => [E8 r (Y3 l)]) := by
 refine B0z (TW.go (κ := false) (S := []) ?_)
 unfold A5B
 obtain ⟨a, c, rfl, _⟩ := hv.form
 (have zz:=trivial;repeat((first|clear zz|with_reducible first|refine A3 ?_|refine A5 fun _=>?_|refine A4 fun _=>?_);try simp(disch:=first|omega|assumption|((repeat(first|exact A1|exact uH|apply A2|apply uT));first|done|fail)|(simp;first|done|omega|fail))[]))
 refine G8 A5A (fun w' _ => A7B w' l.length hn) ?_
 rintro _ r rfl
 refine y7 (e := 119) (k := 4) (v := r) (q := (newE l.length).length) (xs := (newE l.length).flatMap E6) (by (repeat constructor)) fun hr1 hr2 hr3 => ?_
 (have zz:=trivial;repeat((first|clear zz|with_reducible first|refine A3 ?_|refine A5 fun _=>?_|refine A4 fun _=>?_);try simp(disch:=first|omega|assumption|((repeat(first|exact A1|exact uH|apply A2|apply uT));first|done|fail)|(simp;first|done|omega|fail))[hr1]))
 rename_i bt
 refine G8 A4G (fun w' _ => B9n w' (.slice a l.length c) ⟨_, _, _, rfl⟩) ?_
 rintro b _ rfl
 refine A0p (B9A b (.slice a l.length c) l hn) (A7Q _) (fun i (acc : List EnV) => acc = ((K6 l).take i).foldl (fun acc p => U1 acc p.2) (newE l.length)) (fun _ acc => [.pt bt (.cells #[r] 205), E8 r acc])
  (fun c (y : Unit) => False) (fun y => []) (newE l.length) (by simp) ?_ ?_ ?_ ?_ (by simp)
 ·intro i _ F w1 _ hw
  exact RqS.of hv (fun h => by rw [v8]; omega) hw
 ·rintro i hi acc F hψ K' hK _
  have hi' : i < (K6 l).length := by simpa using hi
  have hm : (K6 l)[i] ∈ K6 l := List.getElem_mem hi'
  have hst : ((K6 l).take (i + 1)).foldl (fun acc p => U1 acc p.2) (newE l.length) = U1 acc (K6 l)[i].2 := by
   rw [List.take_add_one, List.getElem?_eq_getElem hi', Option.toList_some, List.foldl_append, ← hψ]; rfl
  have hlen : acc.length ≤ 64 := by rw [hψ, B2M, A4A]; omega
  simp only [List.getElem_map]
  generalize (K6 l)[i] = p at *
  have hkp := hks p.2 (B0Z p hm).1
  simp only [A4v, VF.app]
  (have zz:=trivial;repeat((first|clear zz|with_reducible first|refine A3 ?_|refine A5 fun _=>?_|refine A4 fun _=>?_);try simp(disch:=first|omega|assumption|((repeat(first|exact A1|exact uH|apply A2|apply uT));first|done|fail)|(simp;first|done|omega|fail))[]))
  refine E5 (Hc := [E8 r acc]) A0D (fun w' hw hs => B3x w' r acc p.2 hkp (by omega) hs) (by (repeat' constructor)) ?_
  rintro _ _ rfl
  refine TW.sub (TW.perm (hK (U1 acc p.2) hst.symm) ?_) (H' := E8 r (U1 acc p.2) :: .pt bt (.cells #[r] 205) :: F) ?_
  ·exact List.Perm.swap ..
  ·simp only [U1]; ((try simp only [List.cons_append, List.nil_append, List.append_assoc]); (repeat (first | exact List.Sublist.refl _ | exact List.nil_sublist _ | with_reducible apply List.Sublist.cons_cons | apply List.Sublist.cons)); first | done | fail)
 ·intro acc hψ
  simp only [List.length_map, List.take_length] at hψ
  subst hψ
  (have zz:=trivial;repeat((first|clear zz|with_reducible first|refine A3 ?_|refine A5 fun _=>?_|refine A4 fun _=>?_);try simp(disch:=first|omega|assumption|((repeat(first|exact A1|exact uH|apply A2|apply uT));first|done|fail)|(simp;first|done|omega|fail))[]))
  exact C3 r rfl (by simp only [Y3]; (repeat' constructor))
 ·rintro _ _ h; exact h.elim
def d4 (l : List EnV) (key : ByteArray) : Option (List EnV) := if D0 l key < 0 then none else some (l.set (D0 l key).toNat Q7)
theorem B2Y {l m : List EnV} {key : ByteArray} (h : d4 l key = some m) : m.length = l.length := by
 unfold d4 at h
 by_cases c : D0 l key < 0
 ·rw [if_pos c] at h; cases h
 ·rw [if_neg c] at h; injection h with h; rw [← h]; simp
def H5 (u : List EnV) : List EnV := if u.length < 2 * Q3 u 2 then Y3 u else u
def A1z (l : List EnV) (key : ByteArray) : List EnV := match d4 l key with | some u => H5 u | none => l
theorem B3N (w : World) (v : Value) (l : List EnV) (key : ByteArray) (b : Nat) (hk : key.size < 2 ^ 60) (hn : l.length ≤ 1000000) (hx : w.cell? ⟨b, 0, none⟩ = some (.string key)) (hb : b ∉ B2 [E8 v l]) (hw : LW false (B2 [E8 v l]) w [E8 v l] w) :
  Fn PR B5 129 #[v, .pointer (some ⟨b, 0, none⟩)] w (Rn (B2 [E8 v l]) w (fun (_ : Unit) u => u = .bool (d4 l key).isSome) fun _ => [E8 v ((d4 l key).getD l)]) := by
 refine A5U (TW.goH (κ := false) (S := B2 [E8 v l]) ?_ hw)
 unfold A1A
 (have zz:=trivial;repeat((first|clear zz|with_reducible first|refine A3 ?_|refine A5 fun _=>?_|refine A4 fun _=>?_);try simp(disch:=first|omega|assumption|((repeat(first|exact A1|exact uH|apply A2|apply uT));first|done|fail)|(simp;first|done|omega|fail))[hx]))
 refine C5 m7 (fun w' hw' => z7 w' v l key hk hn (H2.own (by (repeat constructor)) w' hw')) ?_
 by_cases c1 : D0 l key < 0
 ·have hd : d4 l key = none := if_pos c1
  (have zz:=trivial;repeat((first|clear zz|with_reducible first|refine A3 ?_|refine A5 fun _=>?_|refine A4 fun _=>?_);try simp(disch:=first|omega|assumption|((repeat(first|exact A1|exact uH|apply A2|apply uT));first|done|fail)|(simp;first|done|omega|fail))[c1]))
  exact C3 () (by simp [hd]) (by simp only [hd, Option.getD_none]; (repeat' constructor))
 ·have hd : d4 l key = some (l.set (D0 l key).toNat Q7) := if_neg c1
  have hlt := A0P (l := l) (key := key) (by omega)
  have h0 : 0 ≤ D0 l key := by omega
  obtain ⟨i, hi⟩ : ∃ i : Nat, D0 l key = i := ⟨(D0 l key).toNat, by omega⟩
  rw [hi] at hd hlt c1 ⊢
  rw [Int.toNat_natCast] at hd hlt
  refine r7 (e := 119) (k := 4) (v := v) (q := l.length) (xs := l.flatMap E6) (by (repeat constructor)) (by omega) ?_
  rintro g c rfl
  (have zz:=trivial;repeat((first|clear zz|with_reducible first|refine A3 ?_|refine A5 fun _=>?_|refine A4 fun _=>?_);try simp(disch:=first|omega|assumption|((repeat(first|exact A1|exact uH|apply A2|apply uT));first|done|fail)|(simp;first|done|omega|fail))[c1, hlt]))
  refine W6 (by (repeat constructor)) (by simp) (by rw [v8]; omega) (by simp) ?_
  refine C3 () (by simp [hd]) ?_
  have := A0r (f := E6) (k := 4) (fun _ => rfl) l i Q7 hlt
  simp only [hd, Option.getD_some, E8, List.length_set, ← this]
  (repeat' constructor)
theorem A93 (w : World) (v : Value) (l : List EnV) (key : ByteArray) (hk : key.size < 2 ^ 60) (hks : M2 l) (hn : l.length ≤ 1000000) (hv : E4 w v l.length (l.flatMap E6)) :
  Fn PR B5 99 #[v, .string key] w (Rn [] w (fun r u => u = .tuple #[if (d4 l key).isSome then r else v, .bool (d4 l key).isSome]) fun r => [E8 r (A1z l key)]) := by
 refine A8T (TW.go (κ := false) (S := []) ?_)
 unfold A2w
 (have zz:=trivial;repeat((first|clear zz|with_reducible first|refine A3 ?_|refine A5 fun _=>?_|refine A4 fun _=>?_);try simp(disch:=first|omega|assumption|((repeat(first|exact A1|exact uH|apply A2|apply uT));first|done|fail)|(simp;first|done|omega|fail))[]))
 rename_i b
 refine G8 A1M (fun w' hw' => A8c w' v l 129 [.pointer (some ⟨b, 0, none⟩)] (d4 l key) (fun m h => B2Y h) hn (hv.ks hw'.ks (by simp)) A5K
  fun w2 r h hf hr => ?_) ?_
 ·have hp := hw'.pt (b := b) (by (repeat constructor))
  have hb : b < sz w' := G4 hp
  exact B3N w2 r l key b hk hn (h.cell (by simp) (hw'.cell1 (by (repeat constructor)))) (fun hc => by have := hf b hc; omega) hr
 ·rintro r _ rfl
  cases h : d4 l key with
  | none =>
   have e : A1z l key = l := by simp [A1z, h]
   (have zz:=trivial;repeat((first|clear zz|with_reducible first|refine A3 ?_|refine A5 fun _=>?_|refine A4 fun _=>?_);try simp(disch:=first|omega|assumption|((repeat(first|exact A1|exact uH|apply A2|apply uT));first|done|fail)|(simp;first|done|omega|fail))[]))
   exact C3 r (by simp) (by rw [e]; (repeat' constructor))
  | some m =>
   have e : A1z l key = H5 m := by simp [A1z, h]
   have hml := B2Y h
   have hmk : M2 m := by
    unfold d4 at h
    by_cases c : D0 l key < 0
    ·rw [if_pos c] at h; cases h
    ·rw [if_neg c] at h; injection h with h; rw [← h]
     intro x hx
     rcases List.mem_or_eq_of_mem_set hx with hx | rfl
     ·exact hks x hx
     ·simp [Q7]
   simp only [Option.isSome_some, if_true, Option.getD_some]
   refine A0q (e := 119) (k := 4) (v := r) (q := m.length) (xs := m.flatMap E6) (by (repeat constructor)) ?_
   rintro ra rc rfl
   (have zz:=trivial;repeat((first|clear zz|with_reducible first|refine A3 ?_|refine A5 fun _=>?_|refine A4 fun _=>?_);try simp(disch:=first|omega|assumption|((repeat(first|exact A1|exact uH|apply A2|apply uT));first|done|fail)|(simp;first|done|omega|fail))[]))
   refine C5 A0B (fun w' hw' => A7G w' _ m 2 (by omega) (H2.own (by (repeat constructor)) w' hw')) ?_
   have hcl : Q3 m 2 ≤ m.length := List.countP_le_length
   by_cases c1 : m.length < 2 * Q3 m 2
   ·have c1' : (m.length : Int) < 2 * (Q3 m 2 : Nat) := by omega
    have e2 : A1z l key = Y3 m := by rw [e, H5, if_pos c1]
    (have zz:=trivial;repeat((first|clear zz|with_reducible first|refine A3 ?_|refine A5 fun _=>?_|refine A4 fun _=>?_);try simp(disch:=first|omega|assumption|((repeat(first|exact A1|exact uH|apply A2|apply uT));first|done|fail)|(simp;first|done|omega|fail))[c1']))
    refine G8 A30 (fun w' hw' => B35 w' _ m hmk (by omega) (H2.own (by (repeat constructor)) w' hw')) ?_
    rintro _ r rfl
    exact C3 r rfl (by rw [e2]; (repeat' constructor))
   ·have c1' : ¬ (m.length : Int) < 2 * (Q3 m 2 : Nat) := by omega
    have e2 : A1z l key = m := by rw [e, H5, if_neg c1]
    (have zz:=trivial;repeat((first|clear zz|with_reducible first|refine A3 ?_|refine A5 fun _=>?_|refine A4 fun _=>?_);try simp(disch:=first|omega|assumption|((repeat(first|exact A1|exact uH|apply A2|apply uT));first|done|fail)|(simp;first|done|omega|fail))[c1']))
    exact C3 (.slice ra m.length rc) rfl (by rw [e2]; (repeat' constructor))
def P5 (l : List EnV) : Bool := (K6 l).all fun p => decide (D0 l p.2.key = p.1)
end Go.Proofs.YtlplkjgcfjdinaaGreat
namespace Go.Proofs.YtlplkjgcfjdinaaGreat
open Go
def A6E (X : Nat → Prop) (t0 : Value) (R : Value → WP) : WP :=
 jn (n := 2) (fun t3 t10 =>
 R t3) fun J1 =>
 B7 PR X 158 [t0] fun t7 =>
 B7 PR X 157 [t7, (.func (.func 159) #[] #[])] fun t8 =>
 A0 PR (A8 .len #[239] 0 [t8]) fun t9 =>
 lp (n := 2) (fun L2 t3_1 t10_1 =>
 A0 PR (binOp .lss 3 t10_1 t9) fun t11 =>
 jn (n := 0) (
 jn (n := 1) (fun t3_2 =>
 A0 PR (binOp .add 3 t10_1 (.int .i64 1)) fun t18 =>
 L2 t3_2 t18) fun J3 =>
 A0 PR (Instr.indexAt 239 t8 t10_1) fun t12 =>
 A6 PR (Instr.loadAt 241 t12) fun t13 =>
 B1 PR X (Instr.alloc 241 true (.tuple #[])) fun t5 =>
 B8 PR X (Instr.storeAt 241 t5 t13) <|
 A6 PR (Instr.loadAt 241 t5) fun t15 =>
 B1 PR X (Instr.buildSlice 147 1 #[(0, t15)]) fun t16 =>
 B1 PR X (A8 .append #[147, 147] 147 [t3_1, t16]) fun t17 =>
 J3 t17) fun J4 =>
 B6 t11 (
 J4) (
 J1 t3_1 t10_1)) (.slice none 0 0) (.int .i64 0)
theorem B0j : B0 PR 127 := A7 Tryz.func127 (by kernel_rfl) rfl
theorem B2d {X : Nat → Prop} {t0 : Value} {R : Value → WP} {w : World} (h : A6E X t0 R w) : Fn PR X 127 #[t0] w R := C8 (args := [t0]) mixed Tryz.func127 (by kernel_rfl) h
def A37 (X : Nat → Prop) (t0 : Value) (R : Value → WP) : WP :=
 B1 PR X (Instr.box 50 t0) fun t1 =>
 A0 PR (Instr.makeFunc (.func 174) #[] #[t1]) fun t3 =>
 R t3
theorem A86 : B0 PR 158 := A7 Tryz.func158 (by kernel_rfl) rfl
theorem A9Y {X : Nat → Prop} {t0 : Value} {R : Value → WP} {w : World} (h : A37 X t0 R w) : Fn PR X 158 #[t0] w R := C8 (args := [t0]) mixed Tryz.func158 (by kernel_rfl) h
def w7 (X : Nat → Prop) (t0 t1 : Value) (R : Value → WP) : WP :=
 B1 PR X (Instr.box 241 t0) fun t2 =>
 B1 PR X (Instr.box 241 t1) fun t3 =>
 drw <|
 A0 PR (Instr.fieldAt 241 t2 0) fun t5 =>
 A6 PR (Instr.loadAt 122 t5) fun t6 =>
 A0 PR (Instr.fieldAt 241 t3 0) fun t7 =>
 A6 PR (Instr.loadAt 122 t7) fun t8 =>
 A0 PR (Instr.fieldAt 241 t2 1) fun t10 =>
 A6 PR (Instr.loadAt 3 t10) fun t11 =>
 A0 PR (Instr.fieldAt 241 t3 1) fun t12 =>
 A6 PR (Instr.loadAt 3 t12) fun t13 =>
 B7 PR X 177 [t6, t8] fun t9 =>
 watch PR [(none, (Instr.loadAt 3 t12), t13), (none, (Instr.loadAt 3 t10), t11)] <|
 B7 PR X 22 [t11, t13] fun t14 =>
 B1 PR X (Instr.buildSlice 35 2 #[(0, t9), (1, t14)]) fun t15 =>
 B7 PR X 176 [t15] fun t16 =>
 R t16
theorem A26 : B0 PR 159 := A7 Tryz.func159 (by kernel_rfl) rfl
theorem A3W {X : Nat → Prop} {t0 t1 : Value} {R : Value → WP} {w : World} (h : w7 X t0 t1 R w) : Fn PR X 159 #[t0, t1] w R := C8 (args := [t0, t1]) mixed Tryz.func159 (by kernel_rfl) h
def A1Q (X : Nat → Prop) (t0 t1 : Value) (R : Value → WP) : WP :=
 A6 PR (Instr.loadAt 50 t1) fun t6 =>
 A0 PR (A8 .len #[50] 0 [t6]) fun t7 =>
 lp (n := 1) (fun L1 t8 =>
 A0 PR (binOp .lss 3 t8 t7) fun t9 =>
 jn (n := 0) (
 jn (n := 1) (fun t17 =>
 A0 PR (binOp .add 3 t8 (.int .i64 1)) fun t31 =>
 L1 t31) fun J2 =>
 A0 PR (Instr.indexAt 50 t6 t8) fun t10 =>
 A6 PR (Instr.loadAt 129 t10) fun t11 =>
 B1 PR X (Instr.alloc 129 true (.tuple #[])) fun t4 =>
 B8 PR X (Instr.storeAt 129 t4 t11) <|
 A0 PR (Instr.fieldAt 129 t4 1) fun t12 =>
 A6 PR (Instr.loadAt 3 t12) fun t13 =>
 A0 PR (A8 .min #[3, 3] 0 [t13, (.int .i64 16)]) fun t14 =>
 A0 PR (A8 .max #[3, 3] 0 [(.int .i64 0), t14]) fun t15 =>
 A0 PR (binOp .mul 3 (.int .i64 8) t15) fun t16 =>
 lp (n := 1) (fun L3 t17_1 =>
 A0 PR (binOp .lss 3 t17_1 t16) fun t18 =>
 jn (n := 0) (
 jn (n := 0) (
 A0 PR (binOp .add 3 t17_1 (.int .i64 1)) fun t30 =>
 L3 t30) fun J4 =>
 drw <|
 A0 PR (Instr.fieldAt 129 t4 0) fun t21 =>
 A6 PR (Instr.loadAt 3 t21) fun t22 =>
 A0 PR (Instr.fieldAt 129 t4 0) fun t25 =>
 A6 PR (Instr.loadAt 3 t25) fun t26 =>
 B7 PR X 175 [t22, t17_1] fun t24 =>
 watch PR [(none, (Instr.loadAt 3 t25), t26)] <|
 A0 PR (Instr.build 241 #[(0, t24), (1, t26)]) fun t27 =>
 F5 PR X t0 [t27] fun t28 =>
 A0 PR (Op.unary .not t28) fun t29 =>
 B6 t29 (
 R (.tuple #[])) (
 J4)) fun J5 =>
 B6 t18 (
 J5) (
 J2 t17_1)) (.int .i64 0)) fun J6 =>
 B6 t9 (
 J6) (
 R (.tuple #[]))) (.int .i64 0)
theorem A5S : B0 PR 174 := A7 Tryz.func174 (by kernel_rfl) rfl
theorem A6l {X : Nat → Prop} {t0 t1 : Value} {R : Value → WP} {w : World} (h : A1Q X t0 t1 R w) : Fn PR X 174 #[t0, t1] w R := C8 (args := [t0, t1]) mixed Tryz.func174 (by kernel_rfl) h
theorem A6u {X : Nat → Prop} {t0 t1 : Value} {K : Value → WP} {w : World} (h : Fn PR X 174 #[t0, t1] w K) : s7 PR X 174 [t0, t1] K w := ⟨A5S, h⟩
def A35 (X : Nat → Prop) (t0 t1 : Value) (R : Value → WP) : WP :=
 A0 PR (convert 3 122 t0) fun t6 =>
 B7 PR X 95 [t6, (.int .i64 4)] fun t7 =>
 B7 PR X 96 [t7] fun t8 =>
 A0 PR (convert 3 122 t1) fun t10 =>
 B7 PR X 95 [t10, (.int .i64 2)] fun t11 =>
 B7 PR X 95 [(.int .u64 0), (.int .i64 4)] fun t12 =>
 A0 PR (binOp .add 9 t11 t12) fun t13 =>
 B7 PR X 123 [t8, t13] fun t14 =>
 R t14
theorem A8M : B0 PR 175 := A7 Tryz.func175 (by kernel_rfl) rfl
theorem A9Q {X : Nat → Prop} {t0 t1 : Value} {R : Value → WP} {w : World} (h : A35 X t0 t1 R w) : Fn PR X 175 #[t0, t1] w R := C8 (args := [t0, t1]) mixed Tryz.func175 (by kernel_rfl) h
end Go.Proofs.YtlplkjgcfjdinaaGreat
namespace Go.Proofs.YtlplkjgcfjdinaaGreat
open Go
def B47 (id : Int) (n : Nat) : Nat := B4k (g5 (F8 (IntKind.u64.wrap id) 4)) (F8 n 2 ++ F8 0 4)
theorem B9U (w : World) (id : Int) (n : Nat) (hn : n < 2 ^ 62) : Fn PR B5 175 #[.int .i64 id, .int .i64 (n : Int)] w (fun v w' => v = .int .u64 (B47 id n : Nat) ∧ C6 [] w w') := by
 refine Fn.pure (A9Q (TW.go (κ := false) (S := []) ?_))
 unfold A35
 (have zz:=trivial;repeat((first|clear zz|with_reducible first|refine A3 ?_|refine A5 fun _=>?_|refine A4 fun _=>?_);try simp(disch:=first|omega|assumption|((repeat(first|exact A1|exact uH|apply A2|apply uT));first|done|fail)|(simp;first|done|omega|fail))[]))
 refine C5 G7 (fun w' hw' => k6 w' _ _) ?_
 (have zz:=trivial;repeat((first|clear zz|with_reducible first|refine A3 ?_|refine A5 fun _=>?_|refine A4 fun _=>?_);try simp(disch:=first|omega|assumption|((repeat(first|exact A1|exact uH|apply A2|apply uT));first|done|fail)|(simp;first|done|omega|fail))[]))
 refine C5 A0l (fun w' _ => A2d w' _ (by simp)) ?_
 (have zz:=trivial;repeat((first|clear zz|with_reducible first|refine A3 ?_|refine A5 fun _=>?_|refine A4 fun _=>?_);try simp(disch:=first|omega|assumption|((repeat(first|exact A1|exact uH|apply A2|apply uT));first|done|fail)|(simp;first|done|omega|fail))[]))
 refine C5 G7 (fun w' hw' => k6 w' _ _) ?_
 (have zz:=trivial;repeat((first|clear zz|with_reducible first|refine A3 ?_|refine A5 fun _=>?_|refine A4 fun _=>?_);try simp(disch:=first|omega|assumption|((repeat(first|exact A1|exact uH|apply A2|apply uT));first|done|fail)|(simp;first|done|omega|fail))[]))
 refine C5 G7 (fun w' hw' => k6 w' _ _) ?_
 (have zz:=trivial;repeat((first|clear zz|with_reducible first|refine A3 ?_|refine A5 fun _=>?_|refine A4 fun _=>?_);try simp(disch:=first|omega|assumption|((repeat(first|exact A1|exact uH|apply A2|apply uT));first|done|fail)|(simp;first|done|omega|fail))[f7]))
 refine C5 A5v (fun w' _ => B4J w' _ _ (A9z _) (by simp)) ?_
 exact A9 rfl
def wtN (b : J0) : Nat := 8 * (max 0 (min b.2 16)).toNat
def A96 (b : J0) : List (Nat × Int) := (List.range (wtN b)).map fun n => (B47 b.1 n, b.1)
def G5 (p : List J0) : List (Nat × Int) := p.flatMap A96
def F3 (x : Nat × Int) : List Value := [.int .u64 (x.1 : Nat), .int .i64 x.2]
def ptA (x : Nat × Int) : List Value := [.agg #[.int .u64 (x.1 : Nat), .int .i64 x.2]]
abbrev A8Q (b : Nat) : Value := .func (.func 174) #[] #[.pointer (some ⟨b, 0, none⟩)]
theorem B8d (w : World) (v : Value) (hv : ∃ a n c, v = .slice a n c) : Fn PR B5 158 #[v] w (Rn [] w (fun b u => u = A8Q b) fun b => [.pt b (.cells #[v] 50)]) := by
 obtain ⟨a, n, c, rfl⟩ := hv
 refine A9Y (TW.go (κ := false) (S := []) ?_)
 unfold A37
 (have zz:=trivial;repeat((first|clear zz|with_reducible first|refine A3 ?_|refine A5 fun _=>?_|refine A4 fun _=>?_);try simp(disch:=first|omega|assumption|((repeat(first|exact A1|exact uH|apply A2|apply uT));first|done|fail)|(simp;first|done|omega|fail))[]))
 rename_i b
 exact l0 b rfl (by simp)
theorem B3y {p : List J0} {i : Nat} {x : J0} (hx : p[i]? = some x) : G5 (p.take (i + 1)) = G5 (p.take i) ++ A96 x := by
 rw [List.take_add_one, hx]; simp [G5]
theorem B7a {p : List J0} {i n : Nat} {x : J0} (hx : p[i]? = some x) (hn : n < wtN x) : (G5 p)[(G5 (p.take i)).length + n]? = some (B47 x.1 n, x.1) := by
 have e : p = p.take (i + 1) ++ p.drop (i + 1) := (List.take_append_drop _ _).symm
 conv => lhs; arg 1; rw [e]
 have h2 : G5 (p.take (i + 1) ++ p.drop (i + 1)) = G5 (p.take (i + 1)) ++ G5 (p.drop (i + 1)) := by simp only [G5, List.flatMap_append]
 rw [h2, B3y hx, List.append_assoc, List.getElem?_append_right (by omega), Nat.add_sub_cancel_left, List.getElem?_append_left (by simp [A96, hn])]
 simp [A96, hn]
theorem B7T (b : Nat) (v : Value) (p : List J0) (hn : p.length ≤ 1000000) : A1k (A8Q b) [.pt b (.cells #[v] 50)] (RqS v p.length (p.flatMap G2)) ((G5 p).map ptA) := by
 refine ⟨_, _, _, rfl, fun y J E hJ hE stJ stE hy w0 h0 => ?_⟩
 obtain ⟨a, c, hv, hr⟩ := (hJ _ _ _ h0).2
 subst hv
 refine A6u (A6l (TW.at (κ := true) ?_ (hJ _ _ _ h0).1))
 unfold A1Q
 (have zz:=trivial;repeat((first|clear zz|with_reducible first|refine A3 ?_|refine A5 fun _=>?_|refine A4 fun _=>?_);try simp(disch:=first|omega|assumption|((repeat(first|exact A1|exact uH|apply A2|apply uT));first|done|fail)|(simp;first|done|omega|fail))[]))
 refine A14 p.length (fun i => (G5 (p.take i)).length) (fun _ => _) hJ stJ (by simpa [G5] using h0) fun i a' hi hJi hRi L hL => ?_
 by_cases hlt : i < p.length
 ·obtain ⟨_, _, hv, hr⟩ := hRi
  obtain ⟨b', o, hb, hrow, hnb⟩ := hr (by omega)
  cases hv
  subst hb
  obtain ⟨x, hx⟩ : ∃ x, p[i]? = some x := ⟨_, List.getElem?_eq_getElem hlt⟩
  have h1 := hrow.at (f := G2) (k := 2) (fun _ => rfl) hx
  rw [G2] at h1
  have hlen : (G5 (p.take (i + 1))).length = (G5 (p.take i)).length + wtN x := by rw [B3y hx]; simp [A96]
  rw [hlen] at hL
  have hw : 8 * max 0 (min x.2 16) = (wtN x : Nat) := by unfold wtN; omega
  have hwl : wtN x ≤ 128 := by unfold wtN; omega
  (have zz:=trivial;repeat((first|clear zz|with_reducible first|refine A3 ?_|refine A5 fun _=>?_|refine A4 fun _=>?_);try simp(disch:=first|omega|assumption|((repeat(first|exact A1|exact uH|apply A2|apply uT));first|done|fail)|(simp;first|done|omega|fail))[hlt, h1]))
  rename_i b4
  rw [hw]
  refine A14 (wtN x) (fun n => (G5 (p.take i)).length + n) (fun _ => _) hJ stJ hJi fun n a2 hi2 hJn hRn L2 hL2 => ?_
  by_cases hlt2 : n < wtN x
  ·have hg := B7a hx hlt2
   obtain ⟨hgi, hg'⟩ := List.getElem?_eq_some_iff.1 hg
   (have zz:=trivial;repeat((first|clear zz|with_reducible first|refine A3 ?_|refine A5 fun _=>?_|refine A4 fun _=>?_);try simp(disch:=first|omega|assumption|((repeat(first|exact A1|exact uH|apply A2|apply uT));first|done|fail)|(simp;first|done|omega|fail))[hlt2]))
   refine C5 A8M (fun w' _ => B9U w' x.1 n (by omega)) ?_
   (have zz:=trivial;repeat((first|clear zz|with_reducible first|refine A3 ?_|refine A5 fun _=>?_|refine A4 fun _=>?_);try simp(disch:=first|omega|assumption|((repeat(first|exact A1|exact uH|apply A2|apply uT));first|done|fail)|(simp;first|done|omega|fail))[]))
   refine A2s hJ hE stJ hy hJn (by simpa using hgi) (by rw [List.getElem_map, hg', ptA]) (fun w3 h => ?_) (fun w3 h => ?_)
   ·(have zz:=trivial;repeat((first|clear zz|with_reducible first|refine A3 ?_|refine A5 fun _=>?_|refine A4 fun _=>?_);try simp(disch:=first|omega|assumption|((repeat(first|exact A1|exact uH|apply A2|apply uT));first|done|fail)|(simp;first|done|omega|fail))[]))
    exact fun w' hw' => hL2 hlt2 w' (stJ _ _ _ _ _ h hw')
   ·(have zz:=trivial;repeat((first|clear zz|with_reducible first|refine A3 ?_|refine A5 fun _=>?_|refine A4 fun _=>?_);try simp(disch:=first|omega|assumption|((repeat(first|exact A1|exact uH|apply A2|apply uT));first|done|fail)|(simp;first|done|omega|fail))[]))
    exact A0v stE h
  ·obtain rfl : n = wtN x := by omega
   (have zz:=trivial;repeat((first|clear zz|with_reducible first|refine A3 ?_|refine A5 fun _=>?_|refine A4 fun _=>?_);try simp(disch:=first|omega|assumption|((repeat(first|exact A1|exact uH|apply A2|apply uT));first|done|fail)|(simp;first|done|omega|fail))[]))
   exact fun w' hw' => hL hlt w' (stJ _ _ _ _ _ hJn (hw'.sub (by simp)))
 ·obtain rfl : i = p.length := by omega
  rw [List.take_length] at hJi
  (have zz:=trivial;repeat((first|clear zz|with_reducible first|refine A3 ?_|refine A5 fun _=>?_|refine A4 fun _=>?_);try simp(disch:=first|omega|assumption|((repeat(first|exact A1|exact uH|apply A2|apply uT));first|done|fail)|(simp;first|done|omega|fail))[]))
  exact A0u stJ (by simpa using hJi)
end Go.Proofs.YtlplkjgcfjdinaaGreat
