/- The proof of a given statement, a part of it (Packet Bytes Sl ShFnv Fnv Probe Flows Flows2 ShPoints Points). No condition but what each lemma says. -/
import Derived.Lib.SlBytesRow
import Derived.Test.YtlplkjgcfjdinaaGreatU13
set_option linter.unusedVariables false
set_option linter.unusedSimpArgs false
namespace Go.Proofs.YtlplkjgcfjdinaaGreat
open Go
structure KeyV where
 v : Int
 src : ByteArray
 dst : ByteArray
 fr : Int
 tp : Int
 proto : Int
 deriving DecidableEq
def KeyV.cs (k : KeyV) : List Value := [.int .i64 k.v, .string k.src, .string k.dst, .int .i64 k.fr, .int .i64 k.tp, .int .i64 k.proto]
def KeyV.val (k : KeyV) : Value := .agg #[.int .i64 k.v, .string k.src, .string k.dst, .int .i64 k.fr, .int .i64 k.tp, .int .i64 k.proto]
def noK : KeyV := ⟨0, W2, W2, 0, 0, 0⟩
def N0 (s : ByteArray) : KeyV × ByteArray × Nat :=
 if s.size = 0 then (noK, W2, 2) else if C8 s 0 / 16 = 4 then (⟨4, (Q2 s).src, (Q2 s).dst, 0, 0, (Q2 s).proto⟩, (Q2 s).rest, (Q2 s).e)
 else if C8 s 0 / 16 = 6 then (⟨6, (S4 s).src, (S4 s).dst, 0, 0, (S4 s).proto⟩, (S4 s).rest, (S4 s).e) else (noK, W2, 3)
def keyed.val (x : KeyV × ByteArray × Nat) : Value := .tuple #[x.1.val, .string x.2.1, .int .i64 x.2.2]
theorem C04 (w : World) (src dst : ByteArray) (p : Int) : Fn PR B7 115 #[.agg #[.string src, .string dst, .int .i64 p]] w (fun v w' => v = KeyV.val ⟨4, src, dst, 0, 0, p⟩ ∧ C6 [] w w') := by
 refine Fn.pure (B03 (TW.go (κ := false) (S := []) ?_))
 unfold A3e
 (have zz:=trivial;repeat((first|clear zz|with_reducible first|refine A3 ?_|refine A4 fun _=>?_|refine A5 fun _=>?_);try simp(disch:=first|omega|assumption|((repeat(first|exact A1|exact uH|apply A2|apply uT));first|done|fail)|(simp;first|done|omega|fail))[]))
 exact A9 rfl
theorem C06 (w : World) (src dst : ByteArray) (p : Int) : Fn PR B7 118 #[.agg #[.string src, .string dst, .int .i64 p]] w (fun v w' => v = KeyV.val ⟨6, src, dst, 0, 0, p⟩ ∧ C6 [] w w') := by
 refine Fn.pure (B00 (TW.go (κ := false) (S := []) ?_))
 unfold A3m
 (have zz:=trivial;repeat((first|clear zz|with_reducible first|refine A3 ?_|refine A4 fun _=>?_|refine A5 fun _=>?_);try simp(disch:=first|omega|assumption|((repeat(first|exact A1|exact uH|apply A2|apply uT));first|done|fail)|(simp;first|done|omega|fail))[]))
 exact A9 rfl
theorem C3W (w : World) (s : ByteArray) (hs : s.size < 2 ^ 40) : Fn PR B7 113 #[.string s, .func (.func 114) #[] #[], .func (.func 115) #[] #[]] w
  (fun v w' => v = keyed.val (⟨4, (Q2 s).src, (Q2 s).dst, 0, 0, (Q2 s).proto⟩, (Q2 s).rest, (Q2 s).e) ∧ C6 [] w w') := by
 refine Fn.pure (A5g (TW.go (κ := false) (S := []) ?_))
 unfold A0e
 (have zz:=trivial;repeat((first|clear zz|with_reducible first|refine A3 ?_|refine A4 fun _=>?_|refine A5 fun _=>?_);try simp(disch:=first|omega|assumption|((repeat(first|exact A1|exact uH|apply A2|apply uT));first|done|fail)|(simp;first|done|omega|fail))[]))
 refine B8 B6Q (fun w' _ => B8x w' s hs) ?_
 (have zz:=trivial;repeat((first|clear zz|with_reducible first|refine A3 ?_|refine A4 fun _=>?_|refine A5 fun _=>?_);try simp(disch:=first|omega|assumption|((repeat(first|exact A1|exact uH|apply A2|apply uT));first|done|fail)|(simp;first|done|omega|fail))[HeadV.val]))
 refine B8 A9k (fun w' _ => C04 w' _ _ _) ?_
 (have zz:=trivial;repeat((first|clear zz|with_reducible first|refine A3 ?_|refine A4 fun _=>?_|refine A5 fun _=>?_);try simp(disch:=first|omega|assumption|((repeat(first|exact A1|exact uH|apply A2|apply uT));first|done|fail)|(simp;first|done|omega|fail))[KeyV.val]))
 exact A9 (by simp [keyed.val, KeyV.val])
theorem C4u (w : World) (s : ByteArray) (hs : s.size < 2 ^ 40) : Fn PR B7 116 #[.string s, .func (.func 117) #[] #[], .func (.func 118) #[] #[]] w
  (fun v w' => v = keyed.val (⟨6, (S4 s).src, (S4 s).dst, 0, 0, (S4 s).proto⟩, (S4 s).rest, (S4 s).e) ∧ C6 [] w w') := by
 refine Fn.pure (A5p (TW.go (κ := false) (S := []) ?_))
 unfold A0x
 (have zz:=trivial;repeat((first|clear zz|with_reducible first|refine A3 ?_|refine A4 fun _=>?_|refine A5 fun _=>?_);try simp(disch:=first|omega|assumption|((repeat(first|exact A1|exact uH|apply A2|apply uT));first|done|fail)|(simp;first|done|omega|fail))[]))
 refine B8 B6E (fun w' _ => B8c w' s hs) ?_
 (have zz:=trivial;repeat((first|clear zz|with_reducible first|refine A3 ?_|refine A4 fun _=>?_|refine A5 fun _=>?_);try simp(disch:=first|omega|assumption|((repeat(first|exact A1|exact uH|apply A2|apply uT));first|done|fail)|(simp;first|done|omega|fail))[HeadV.val]))
 refine B8 A9x (fun w' _ => C06 w' _ _ _) ?_
 (have zz:=trivial;repeat((first|clear zz|with_reducible first|refine A3 ?_|refine A4 fun _=>?_|refine A5 fun _=>?_);try simp(disch:=first|omega|assumption|((repeat(first|exact A1|exact uH|apply A2|apply uT));first|done|fail)|(simp;first|done|omega|fail))[KeyV.val]))
 exact A9 (by simp [keyed.val, KeyV.val])
theorem C6V (w : World) (v : Int) : Fn PR B7 93 #[.int .i64 v] w (fun u w' => u = .int .i64 (if v = 4 then 4 else if v = 6 then 16 else 0) ∧ C6 [] w w') := by
 refine Fn.pure (B4S (TW.go (κ := false) (S := []) ?_))
 unfold A78
 by_cases c1 : v = 4
 ·(have zz:=trivial;repeat((first|clear zz|with_reducible first|refine A3 ?_|refine A4 fun _=>?_|refine A5 fun _=>?_);try simp(disch:=first|omega|assumption|((repeat(first|exact A1|exact uH|apply A2|apply uT));first|done|fail)|(simp;first|done|omega|fail))[c1])); exact A9 (by simp)
 by_cases c2 : v = 6
 ·(have zz:=trivial;repeat((first|clear zz|with_reducible first|refine A3 ?_|refine A4 fun _=>?_|refine A5 fun _=>?_);try simp(disch:=first|omega|assumption|((repeat(first|exact A1|exact uH|apply A2|apply uT));first|done|fail)|(simp;first|done|omega|fail))[c1, c2])); exact A9 (by simp)
 ·(have zz:=trivial;repeat((first|clear zz|with_reducible first|refine A3 ?_|refine A4 fun _=>?_|refine A5 fun _=>?_);try simp(disch:=first|omega|assumption|((repeat(first|exact A1|exact uH|apply A2|apply uT));first|done|fail)|(simp;first|done|omega|fail))[c1, c2])); exact A9 (by simp)
theorem C3q (w : World) (s : ByteArray) (hs : s.size < 2 ^ 40) : Fn PR B7 91 #[.string s] w (fun u w' => u = keyed.val (N0 s) ∧ C6 [] w w') := by
 refine Fn.pure (B26 (TW.go (κ := false) (S := []) ?_))
 unfold A6l
 by_cases c0 : s.size = 0
 ·have e : s = ByteArray.mk #[] := by
   apply ByteArray.ext; exact Array.eq_empty_of_size_eq_zero c0
  (have zz:=trivial;repeat((first|clear zz|with_reducible first|refine A3 ?_|refine A4 fun _=>?_|refine A5 fun _=>?_);try simp(disch:=first|omega|assumption|((repeat(first|exact A1|exact uH|apply A2|apply uT));first|done|fail)|(simp;first|done|omega|fail))[e]))
  exact A9 (by simp [N0, keyed.val, noK, KeyV.val])
 have c0' : ¬ s = ByteArray.mk #[] := fun e => c0 (by rw [e]; rfl)
 obtain ⟨by0, hb0, hb1⟩ := s6 (s := s) (i := 0) (by omega)
 have hb0' : s[(0 : Int).toNat]? = some by0 := hb0
 have hl0 := M5 s 0
 have e1 : ((by0.toNat : Nat) : Int).fdiv (2 ^ min 4 IntKind.u8.bits) = (C8 s 0 / 16 : Nat) := by rw [show (2 : Int) ^ min 4 IntKind.u8.bits = 16 from rfl, Int.fdiv_eq_ediv_of_nonneg _ (by omega), hb1]; omega
 by_cases c1 : C8 s 0 / 16 = 4
 ·have c1' : ((C8 s 0 : Nat) : Int) / 16 = 4 := by omega
  (have zz:=trivial;repeat((first|clear zz|with_reducible first|refine A3 ?_|refine A4 fun _=>?_|refine A5 fun _=>?_);try simp(disch:=first|omega|assumption|((repeat(first|exact A1|exact uH|apply A2|apply uT));first|done|fail)|(simp;first|done|omega|fail))[c0', Z0]))
  rw [e1]
  (have zz:=trivial;repeat((first|clear zz|with_reducible first|refine A3 ?_|refine A4 fun _=>?_|refine A5 fun _=>?_);try simp(disch:=first|omega|assumption|((repeat(first|exact A1|exact uH|apply A2|apply uT));first|done|fail)|(simp;first|done|omega|fail))[c1', c1]))
  refine B8 A4z (fun w' _ => C3W w' s hs) ?_
  (have zz:=trivial;repeat((first|clear zz|with_reducible first|refine A3 ?_|refine A4 fun _=>?_|refine A5 fun _=>?_);try simp(disch:=first|omega|assumption|((repeat(first|exact A1|exact uH|apply A2|apply uT));first|done|fail)|(simp;first|done|omega|fail))[keyed.val, KeyV.val]))
  exact A9 (by simp [N0, keyed.val, KeyV.val, c0, c1])
 have c1' : ¬ ((C8 s 0 : Nat) : Int) / 16 = 4 := by omega
 by_cases c2 : C8 s 0 / 16 = 6
 ·have c2' : ((C8 s 0 : Nat) : Int) / 16 = 6 := by omega
  (have zz:=trivial;repeat((first|clear zz|with_reducible first|refine A3 ?_|refine A4 fun _=>?_|refine A5 fun _=>?_);try simp(disch:=first|omega|assumption|((repeat(first|exact A1|exact uH|apply A2|apply uT));first|done|fail)|(simp;first|done|omega|fail))[c0', Z0]))
  rw [e1]
  (have zz:=trivial;repeat((first|clear zz|with_reducible first|refine A3 ?_|refine A4 fun _=>?_|refine A5 fun _=>?_);try simp(disch:=first|omega|assumption|((repeat(first|exact A1|exact uH|apply A2|apply uT));first|done|fail)|(simp;first|done|omega|fail))[c1', c1, c2', c2, Z0]))
  refine B8 A4y (fun w' _ => C4u w' s hs) ?_
  (have zz:=trivial;repeat((first|clear zz|with_reducible first|refine A3 ?_|refine A4 fun _=>?_|refine A5 fun _=>?_);try simp(disch:=first|omega|assumption|((repeat(first|exact A1|exact uH|apply A2|apply uT));first|done|fail)|(simp;first|done|omega|fail))[keyed.val, KeyV.val]))
  exact A9 (by simp [N0, keyed.val, KeyV.val, c0, c1, c2])
 have c2' : ¬ ((C8 s 0 : Nat) : Int) / 16 = 6 := by omega
 (have zz:=trivial;repeat((first|clear zz|with_reducible first|refine A3 ?_|refine A4 fun _=>?_|refine A5 fun _=>?_);try simp(disch:=first|omega|assumption|((repeat(first|exact A1|exact uH|apply A2|apply uT));first|done|fail)|(simp;first|done|omega|fail))[c0', Z0]))
 rw [e1]
 (have zz:=trivial;repeat((first|clear zz|with_reducible first|refine A3 ?_|refine A4 fun _=>?_|refine A5 fun _=>?_);try simp(disch:=first|omega|assumption|((repeat(first|exact A1|exact uH|apply A2|apply uT));first|done|fail)|(simp;first|done|omega|fail))[c1', c1, c2', c2, Z0]))
 exact A9 (by simp [N0, keyed.val, KeyV.val, c0, c1, c2, noK])
def C9 (s : ByteArray) : KeyV × Nat × Nat :=
 let x := N0 s
 if x.2.2 ≠ 0 then (noK, 0, x.2.2) else let y := K6 x.1.proto x.2.1; if y.2.2.2 ≠ 0 then (noK, 0, y.2.2.2) else ({ x.1 with fr := y.1, tp := y.2.1 }, y.2.2.1, 0)
def U3 (k : KeyV) (f : Int) : Value := .agg #[.int .i64 k.v, .string k.src, .string k.dst, .int .i64 k.fr, .int .i64 k.tp, .int .i64 k.proto, .int .i64 f]
def packet.val (x : KeyV × Nat × Nat) : Value := .tuple #[U3 x.1 x.2.1, .int .i64 x.2.2]
theorem C2j (s : ByteArray) : (Q2 s).rest.size ≤ s.size := by
 unfold Q2; split
 ·simp only [ByteArray.size_extract]; omega
 ·simp [HeadV.err]
theorem C1P (s : ByteArray) : (S4 s).rest.size ≤ s.size := by
 unfold S4; split
 ·simp only [ByteArray.size_extract]; omega
 ·simp [HeadV.err]
theorem B1w (s : ByteArray) : (N0 s).2.1.size ≤ s.size := by
 unfold N0
 split
 ·simp
 split
 ·exact C2j s
 split
 ·exact C1P s
 ·simp
theorem B4W (w : World) (s : ByteArray) (hs : s.size < 2 ^ 40) : Fn PR B7 70 #[.string s] w (fun u w' => u = packet.val (C9 s) ∧ C6 [] w w') := by
 refine Fn.pure (B2x (TW.go (κ := false) (S := []) ?_))
 unfold A6g
 (have zz:=trivial;repeat((first|clear zz|with_reducible first|refine A3 ?_|refine A4 fun _=>?_|refine A5 fun _=>?_);try simp(disch:=first|omega|assumption|((repeat(first|exact A1|exact uH|apply A2|apply uT));first|done|fail)|(simp;first|done|omega|fail))[]))
 refine B8 B2c (fun w' _ => C3q w' s hs) ?_
 have hr := B1w s
 by_cases c1 : (N0 s).2.2 = 0
 ·(have zz:=trivial;repeat((first|clear zz|with_reducible first|refine A3 ?_|refine A4 fun _=>?_|refine A5 fun _=>?_);try simp(disch:=first|omega|assumption|((repeat(first|exact A1|exact uH|apply A2|apply uT));first|done|fail)|(simp;first|done|omega|fail))[keyed.val, KeyV.val, c1]))
  refine B8 B4P (fun w' _ => B7K w' _ (by omega) _) ?_
  by_cases c2 : (K6 (N0 s).1.proto (N0 s).2.1).2.2.2 = 0
  ·(have zz:=trivial;repeat((first|clear zz|with_reducible first|refine A3 ?_|refine A4 fun _=>?_|refine A5 fun _=>?_);try simp(disch:=first|omega|assumption|((repeat(first|exact A1|exact uH|apply A2|apply uT));first|done|fail)|(simp;first|done|omega|fail))[K6.val, c2]))
   exact A9 (by simp [C9, packet.val, U3, KeyV.val, c1, c2])
  ·(have zz:=trivial;repeat((first|clear zz|with_reducible first|refine A3 ?_|refine A4 fun _=>?_|refine A5 fun _=>?_);try simp(disch:=first|omega|assumption|((repeat(first|exact A1|exact uH|apply A2|apply uT));first|done|fail)|(simp;first|done|omega|fail))[K6.val, c2]))
   exact A9 (by simp [C9, packet.val, U3, KeyV.val, c1, c2, noK])
 ·(have zz:=trivial;repeat((first|clear zz|with_reducible first|refine A3 ?_|refine A4 fun _=>?_|refine A5 fun _=>?_);try simp(disch:=first|omega|assumption|((repeat(first|exact A1|exact uH|apply A2|apply uT));first|done|fail)|(simp;first|done|omega|fail))[keyed.val, KeyV.val, c1]))
  exact A9 (by simp [C9, packet.val, U3, KeyV.val, c1, noK])
def T8 (k : KeyV) (f : Int) : Bool := decide (k.proto = 6) && !decide (IntKind.i64.wrap ((f % 2 ^ IntKind.i64.bits).toNat &&& 5 % 2 ^ IntKind.i64.bits : Nat) = 0)
theorem B3z (w : World) (k : KeyV) (f : Int) : Fn PR B7 74 #[U3 k f] w (fun u w' => u = .bool (T8 k f) ∧ C6 [] w w') := by
 refine Fn.pure (B1g (TW.go (κ := false) (S := []) ?_))
 unfold A4A
 by_cases c0 : k.proto = 6
 ·(have zz:=trivial;repeat((first|clear zz|with_reducible first|refine A3 ?_|refine A4 fun _=>?_|refine A5 fun _=>?_);try simp(disch:=first|omega|assumption|((repeat(first|exact A1|exact uH|apply A2|apply uT));first|done|fail)|(simp;first|done|omega|fail))[U3, KeyV.val, c0]))
  exact A9 (by simp [T8, c0])
 ·(have zz:=trivial;repeat((first|clear zz|with_reducible first|refine A3 ?_|refine A4 fun _=>?_|refine A5 fun _=>?_);try simp(disch:=first|omega|assumption|((repeat(first|exact A1|exact uH|apply A2|apply uT));first|done|fail)|(simp;first|done|omega|fail))[U3, KeyV.val, c0]))
  exact A9 (by simp [T8, c0])
end Go.Proofs.YtlplkjgcfjdinaaGreat
namespace Go.Proofs.YtlplkjgcfjdinaaGreat
open Go
section
variable {κ : Bool} {X : Nat → Prop} {S : List Nat} {w0 : World} {H H' : List Res} {K : Value → WP}
theorem C1k {P : Program} {g : Sem Value} {u : Value} {b : Nat} {c c' : Array Value} {T : TypeId} (hrun : ∀ w, bl w b = some (.cells c T (0, 0)) → g.run P w = .ok u (World.putb w b (.cells c' T (0, 0))))
  (hu : Up (.pt b (.cells c T (0, 0))) (.pt b (.cells c' T (0, 0))) H H') (hK : TW κ S w0 H' (K u)) : TW κ S w0 H (B1 P X g K) := fun w hw => by
 have hm : Res.pt b (.cells c T (0, 0)) ∈ H := by obtain ⟨A, B, rfl, _⟩ := hu.parts; simp
 have hb := hw.pt hm
 rw [z6 (hrun w hb) (Sk.putb X hb)]
 refine hK _ (hw.up hu ⟨KS.putb hb (by simp [Res.foot]), ?_, ?_, by simp⟩)
 ·simp only [List.mem_singleton, forall_eq, Res.holds]; exact ⟨d6 (M4 hb), rfl⟩
 ·simp only [List.mem_singleton, forall_eq, Res.foot]; exact ⟨Or.inl (by simp), by have := M4 hb; simpa using this⟩
theorem B9S (w : World) : (underlying 160).run PR w = .ok (.slice 5) w := B1D.run_und
theorem C9C (w : World) : (underlying 159).run PR w = .ok (.array 38 5) w := C00.run_und
def Y6 (s : ByteArray) (o : Nat) (t : ByteArray) : ByteArray := s.extract 0 o ++ t ++ s.extract (o + t.size) s.size
theorem B0j {s t : ByteArray} {o : Nat} (h : o + t.size ≤ s.size) : (Y6 s o t).size = s.size := by simp [Y6]; omega
theorem B5J (s t : ByteArray) (o : Nat) (h : o + t.size ≤ s.size) : D8 (U9 s).toArray o (U9 t) = (U9 (Y6 s o t)).toArray := by
 apply Array.toList_inj.1
 rw [A4K _ _ _ (by simpa using h)]
 simp [U9, Y6, List.map_take, List.map_drop]
 rw [List.take_of_length_le (by simp)]
theorem B4q {b o n c : Nat} {s t : ByteArray} {T : TypeId} (hu : Up (.pt b (.cells (U9 s).toArray T)) (.pt b (.cells (U9 (Y6 s o t)).toArray T)) H H') (hn : t.size ≤ n) (hs : o + t.size ≤ s.size)
  (hK : TW κ S w0 H' (K (.int .i64 t.size))) : TW κ S w0 H (B1 PR X (A7 .copy #[160, 9] 3 [.slice (some ⟨b, o, none⟩) n c, .string t]) K) := by
 refine C1k (u := .int .i64 t.size) (fun w hb => ?_) hu hK
 have hst := A0U (P := PR) (o0 := o) (U9 t) 0 w (U9 s).toArray hb (by simpa using hs) (B1m t)
 rw [Nat.add_zero, B5J s t o hs] at hst
 have hl : Nat.min t.size n = t.size := Nat.min_eq_left hn
 have htk : List.take t.size (List.map (fun b : UInt8 => Value.int IntKind.u8 (b.toNat : Int)) t.data.toList) = U9 t := by
  rw [List.take_of_length_le (by simp)]; rfl
 show (Builtin.copy_ #[160, 9] 3 #[.slice (some ⟨b, o, none⟩) n c, .string t]).run PR w = _
 simp [Builtin.copy_, B9S, ty5.run_size, Builtin.lenOf, Builtin.firstCells, hl]
 rw [htk, hst]
 simp [goInt, Result.andThen]
def z38 : ByteArray := Q1 z1 38
theorem A82 : z38.size = 38 := V8 38
theorem C22 : (Builtin.zeroCells (Value.int .u8 0).cells 38).toList = U9 z38 := by kernel_rfl
theorem C6M : (U9 z38).toArray = #[.int .u8 0, .int .u8 0, .int .u8 0, .int .u8 0, .int .u8 0, .int .u8 0, .int .u8 0, .int .u8 0, .int .u8 0, .int .u8 0, .int .u8 0, .int .u8 0, .int .u8 0, .int .u8 0, .int .u8 0, .int .u8 0, .int .u8 0, .int .u8 0, .int .u8 0, .int .u8 0, .int .u8 0, .int .u8 0, .int .u8 0, .int .u8 0, .int .u8 0, .int .u8 0, .int .u8 0, .int .u8 0, .int .u8 0, .int .u8 0, .int .u8 0, .int .u8 0, .int .u8 0, .int .u8 0, .int .u8 0, .int .u8 0, .int .u8 0, .int .u8 0] := by kernel_rfl
theorem C1v {b : Nat} {s : ByteArray} {T : TypeId} (hs : s.size = 38) (hu : Up (.pt b (.cells (U9 s).toArray T)) (.pt b (.cells (U9 z38).toArray T)) H H')
  (hK : TW κ S w0 H' (K (.tuple #[]))) : TW κ S w0 H (B1 PR X (A7 .clear #[160] 0 [.slice (some ⟨b, 0, none⟩) 38 38]) K) := by
 refine C1k (u := .tuple #[]) (fun w hb => ?_) hu hK
 have h38 := A82
 have hst := A0U (P := PR) (o0 := 0) (U9 z38) 0 w (U9 s).toArray hb (by simp [hs, h38]) (B1m _)
 rw [Nat.add_zero, B5J s z38 0 (by omega)] at hst
 have e : Y6 s 0 z38 = z38 := by
  apply ByteArray.ext
  simp [Y6, h38, hs]
 rw [e] at hst
 show (Builtin.clear_ #[160] 0 #[.slice (some ⟨b, 0, none⟩) 38 38]).run PR w = _
 simp only [Builtin.clear_, List.getElem?_toArray, List.getElem?_cons_zero, Sem.run_bind, B9S, Result.andThen_ok, ty5.run_zero, C22, hst, Sem.run_pure]
theorem C7j {b : Nat} {s : ByteArray} {T : TypeId} (hm : Res.pt b (.cells (U9 s).toArray T) ∈ H) (c n : Nat) (hn : n = s.size) :
  TW κ S w0 H (A6 PR (convert 160 9 (.slice (some ⟨b, 0, none⟩) n c)) K) = TW κ S w0 H (K (.string s)) := TW.congr fun w hw => by
 refine d8 ?_ K
 subst hn
 have hb := hw.pt hm
 have hB : Lib.Bytes w b 0 s := fun i hi => by
  rw [N2 hb]; simp [U9, hi]; rfl
 exact Lib.run_convert_whole w _ _ _ B1D.und ty5.und p9.und b 0 s hB c
end
theorem C3C {lo : Nat} (b : Nat) (h : lo < 38) (K : Value → WP) : A0 PR (Instr.sliceAt 159 (.pointer (some ⟨b, 0, none⟩)) (some (.int .i64 (lo : Int))) none none) K = K (.slice (some ⟨b, lo, none⟩) (38 - lo) (38 - lo)) :=
 F2 (fun w => by
  have h1 : ¬ ((38 : Int) < lo) := by omega
  have h2 : ¬ (38 = lo) := by omega
  simp [Instr.sliceAt, C9C, Instr.sliceBounds, Instr.sliceBound, asIntOf, h1, h2, ty5.run_size, Instr.sureAddr, j4]
  omega) K
def U0 (v : Int) : Nat := if v = 4 then 4 else if v = 6 then 16 else 0
theorem C4B (w : World) (v : Int) : Fn PR B7 93 #[.int .i64 v] w (fun u w' => u = .int .i64 (U0 v : Nat) ∧ C6 [] w w') := by
 have := C6V w v
 have e : ((U0 v : Nat) : Int) = if v = 4 then 4 else if v = 6 then 16 else 0 := by (unfold U0; repeat' split) <;> rfl
 rw [e]; exact this
def Q8 (k : KeyV) : Bool := decide (U0 k.v ≠ 0 ∧ k.src.size = U0 k.v ∧ k.dst.size = U0 k.v ∧ (q8 k.proto k.fr k.tp 0).2 = 0)
def A1S (k : KeyV) : ByteArray := Y6 (Y6 (Y6 z38 0 (F7 (k.v * 256 + k.proto) 2 ++ F7 k.fr 2 ++ F7 k.tp 2)) 6 k.src) 22 k.dst
def z8 (k : KeyV) : Value := .tuple #[.string (if Q8 k then A1S k else W2), .bool (Q8 k)]
theorem B39 {n x y f : Int} (h : (q8 n x y f).2 = 0) : (n = 6 ∨ n = 17) ∧ G8 x y = true := by
 unfold q8 at h
 split at h
 ·simp at h
 split at h
 ·simp at h
 ·rename_i h1 h2
  refine ⟨by omega, ?_⟩
  cases hp : G8 x y with
  | true => rfl
  | false => exact absurd (Or.inl hp) h2
theorem C3x (w : World) (k : KeyV) : Fn PR B7 71 #[k.val] w (fun u w' => u = z8 k ∧ C6 [] w w') := by
 refine Fn.pure (B3S (TW.go (κ := false) (S := []) ?_))
 unfold A6j KeyV.val
 (have zz:=trivial;repeat((first|clear zz|with_reducible first|refine A3 ?_|refine A4 fun _=>?_|refine A5 fun _=>?_);try simp(disch:=first|omega|assumption|((repeat(first|exact A1|exact uH|apply A2|apply uT));first|done|fail)|(simp;first|done|omega|fail))[]))
 refine B8 B3V (fun w' _ => C4B w' _) ?_
 (have zz:=trivial;repeat((first|clear zz|with_reducible first|refine A3 ?_|refine A4 fun _=>?_|refine A5 fun _=>?_);try simp(disch:=first|omega|assumption|((repeat(first|exact A1|exact uH|apply A2|apply uT));first|done|fail)|(simp;first|done|omega|fail))[]))
 refine B8 B78 (fun w' _ => C0H w' _ _ _ _) ?_
 have bad : Q8 k = false → z8 k = .tuple #[.string W2, .bool false] := fun h => by simp [z8, h]
 by_cases c1 : U0 k.v = 0
 ·(have zz:=trivial;repeat((first|clear zz|with_reducible first|refine A3 ?_|refine A4 fun _=>?_|refine A5 fun _=>?_);try simp(disch:=first|omega|assumption|((repeat(first|exact A1|exact uH|apply A2|apply uT));first|done|fail)|(simp;first|done|omega|fail))[c1]))
  exact A9 (bad (by simp [Q8, c1])).symm
 have c1' : ¬ ((U0 k.v : Nat) : Int) = 0 := by omega
 by_cases c2 : k.src.size = U0 k.v
 case neg =>
  have c2' : ¬ ((k.src.size : Nat) : Int) = U0 k.v := by omega
  (have zz:=trivial;repeat((first|clear zz|with_reducible first|refine A3 ?_|refine A4 fun _=>?_|refine A5 fun _=>?_);try simp(disch:=first|omega|assumption|((repeat(first|exact A1|exact uH|apply A2|apply uT));first|done|fail)|(simp;first|done|omega|fail))[c1, c1', c2, c2']))
  exact A9 (bad (by simp [Q8, c2])).symm
 by_cases c3 : k.dst.size = U0 k.v
 case neg =>
  have c3' : ¬ ((k.dst.size : Nat) : Int) = U0 k.v := by omega
  (have zz:=trivial;repeat((first|clear zz|with_reducible first|refine A3 ?_|refine A4 fun _=>?_|refine A5 fun _=>?_);try simp(disch:=first|omega|assumption|((repeat(first|exact A1|exact uH|apply A2|apply uT));first|done|fail)|(simp;first|done|omega|fail))[c1, c1', c2, c3, c3']))
  exact A9 (bad (by simp [Q8, c3])).symm
 by_cases c4 : (q8 k.proto k.fr k.tp 0).2 = 0
 case neg =>
  (have zz:=trivial;repeat((first|clear zz|with_reducible first|refine A3 ?_|refine A4 fun _=>?_|refine A5 fun _=>?_);try simp(disch:=first|omega|assumption|((repeat(first|exact A1|exact uH|apply A2|apply uT));first|done|fail)|(simp;first|done|omega|fail))[c1, c1', c2, c3, c4]))
  exact A9 (bad (by simp [Q8, c4])).symm
 (have zz:=trivial;repeat((first|clear zz|with_reducible first|refine A3 ?_|refine A4 fun _=>?_|refine A5 fun _=>?_);try simp(disch:=first|omega|assumption|((repeat(first|exact A1|exact uH|apply A2|apply uT));first|done|fail)|(simp;first|done|omega|fail))[c1, c1', c2, c3, c4]))
 rename_i bk ba
 refine TW.eqH (H' := [.pt ba (.cells (U9 z38).toArray 159), .pt bk (.cells #[.int .i64 k.v, .string k.src, .string k.dst, .int .i64 k.fr, .int .i64 k.tp, .int .i64 k.proto] 108)]) (by rw [C6M]) ?_
 refine C1v A82 .here ?_
 obtain ⟨hp, hq⟩ := B39 c4
 simp only [G8, decide_eq_true_eq] at hq
 have hv : k.v = 4 ∨ k.v = 6 := by unfold U0 at c1; split at c1 <;> (try split at c1) <;> omega
 have hh : (F7 (k.v * 256 + k.proto) 2 ++ F7 k.fr 2 ++ F7 k.tp 2).size = 6 := by simp
 have h38 := A82
 have s1 : (Y6 z38 0 (F7 (k.v * 256 + k.proto) 2 ++ F7 k.fr 2 ++ F7 k.tp 2)).size = 38 := by rw [B0j (by omega), h38]
 have hl : U0 k.v ≤ 16 := by unfold U0; split <;> (try split) <;> omega
 have s2 : (Y6 (Y6 z38 0 (F7 (k.v * 256 + k.proto) 2 ++ F7 k.fr 2 ++ F7 k.tp 2)) 6 k.src).size = 38 := by rw [B0j (by omega), s1]
 have s3 : (A1S k).size = 38 := by unfold A1S; rw [B0j (by omega), s2]
 have i6 := fun K => C3C (lo := 6) ba (by omega) K
 have i22 := fun K => C3C (lo := 22) ba (by omega) K
 simp at i6 i22
 have ok : Q8 k = true := by simp [Q8, c1, c2, c3, c4]
 have q1 := hq.1
 have q2 := hq.2.1
 have q3 := hq.2.2.1
 have q4 := hq.2.2.2
 have eor : IntKind.u64.wrap ((IntKind.u64.wrap (k.v * 2 ^ min 8 IntKind.u64.bits) % 2 ^ IntKind.u64.bits).toNat ||| (k.proto % 2 ^ IntKind.u64.bits).toNat : Nat) = k.v * 256 + k.proto := by
  rcases hv with hv | hv <;> rcases hp with hp | hp <;> (rw [hv, hp]; decide)
 have ew1 : IntKind.u64.wrap k.fr = k.fr := A0b (by omega) (by omega)
 have ew2 : IntKind.u64.wrap k.tp = k.tp := A0b (by omega) (by omega)
 (have zz:=trivial;repeat((first|clear zz|with_reducible first|refine A3 ?_|refine A4 fun _=>?_|refine A5 fun _=>?_);try simp(disch:=first|omega|assumption|((repeat(first|exact A1|exact uH|apply A2|apply uT));first|done|fail)|(simp;first|done|omega|fail))[]))
 rw [eor, ew1, ew2]
 refine B8 M9 (fun w' hw' => A0J w' _ _) ?_
 (have zz:=trivial;repeat((first|clear zz|with_reducible first|refine A3 ?_|refine A4 fun _=>?_|refine A5 fun _=>?_);try simp(disch:=first|omega|assumption|((repeat(first|exact A1|exact uH|apply A2|apply uT));first|done|fail)|(simp;first|done|omega|fail))[]))
 refine B8 M9 (fun w' hw' => A0J w' _ _) ?_
 (have zz:=trivial;repeat((first|clear zz|with_reducible first|refine A3 ?_|refine A4 fun _=>?_|refine A5 fun _=>?_);try simp(disch:=first|omega|assumption|((repeat(first|exact A1|exact uH|apply A2|apply uT));first|done|fail)|(simp;first|done|omega|fail))[T6]))
 refine B8 M9 (fun w' hw' => A0J w' _ _) ?_
 (have zz:=trivial;repeat((first|clear zz|with_reducible first|refine A3 ?_|refine A4 fun _=>?_|refine A5 fun _=>?_);try simp(disch:=first|omega|assumption|((repeat(first|exact A1|exact uH|apply A2|apply uT));first|done|fail)|(simp;first|done|omega|fail))[T6]))
 refine B4q (o := 0) (s := z38) (by (repeat constructor)) (by omega) (by omega) ?_
 (have zz:=trivial;repeat((first|clear zz|with_reducible first|refine A3 ?_|refine A4 fun _=>?_|refine A5 fun _=>?_);try simp(disch:=first|omega|assumption|((repeat(first|exact A1|exact uH|apply A2|apply uT));first|done|fail)|(simp;first|done|omega|fail))[i6]))
 refine B4q (o := 6) (s := Y6 z38 0 (F7 (k.v * 256 + k.proto) 2 ++ F7 k.fr 2 ++ F7 k.tp 2)) (by (repeat constructor)) (by omega) (by omega) ?_
 (have zz:=trivial;repeat((first|clear zz|with_reducible first|refine A3 ?_|refine A4 fun _=>?_|refine A5 fun _=>?_);try simp(disch:=first|omega|assumption|((repeat(first|exact A1|exact uH|apply A2|apply uT));first|done|fail)|(simp;first|done|omega|fail))[i22]))
 refine B4q (o := 22) (s := Y6 (Y6 z38 0 (F7 (k.v * 256 + k.proto) 2 ++ F7 k.fr 2 ++ F7 k.tp 2)) 6 k.src) (by (repeat constructor)) (by omega) (by omega) ?_
 (have zz:=trivial;repeat((first|clear zz|with_reducible first|refine A3 ?_|refine A4 fun _=>?_|refine A5 fun _=>?_);try simp(disch:=first|omega|assumption|((repeat(first|exact A1|exact uH|apply A2|apply uT));first|done|fail)|(simp;first|done|omega|fail))[]))
 rw [C7j (s := A1S k) (by (repeat constructor)) _ _ s3.symm]
 exact A9 (by simp [z8, ok])
end Go.Proofs.YtlplkjgcfjdinaaGreat
namespace Go.Proofs.YtlplkjgcfjdinaaGreat
open Go
@[simp] theorem D3J {κ : Bool} {S : List Nat} {w0 : World} {H : List Res} {K : Value → WP} {t : TypeId} {z : Value} [h : TS t z] {b o : Nat} {c : Array Value} {T : TypeId} {f : Nat × Nat} (hm : Res.pt b (.cells c T f) ∈ H) :
  TW κ S w0 H (A6 PR (D0 [.c t (.pointer (some ⟨b, o, none⟩))]) K) = TW κ S w0 H (rdc c[o]? K (A6 PR (D0 [.c t (.pointer (some ⟨b, o, none⟩))]) K)) := by
 cases hc : c[o]? with
 | none => rfl
 | some v => rw [C7g hm hc]; rfl
abbrev G2 := Int × Int
def E7 (b : G2) : List Value := [.int .i64 b.1, .int .i64 b.2]
structure EnV where
 st : Int
 key : ByteArray
 bk : Int
 dl : Int
 deriving DecidableEq
def D5 (x : EnV) : List Value := [.int .i64 x.st, .string x.key, .int .i64 x.bk, .int .i64 x.dl]
theorem C7c {t u : TypeId} {n m : Nat} {z : Value} {a : Option Addr} {l c e : Nat} (h : TI PR t (.slice u) n m z) : EqV PR (e + 1) t (.slice a l c) (.slice none 0 0) a.isNone := by
 intro w
 cases a with
 | none => simp only [Op.equalIn, Sem.run_bind, h.run_und, Result.andThen_ok, Sem.run_pure, Option.isNone]
 | some a => simp only [Op.equalIn, Sem.run_bind, h.run_und, Result.andThen_ok, Sem.run_pure]; rfl
theorem C7e {t u : TypeId} {n m : Nat} {z : Value} (h : TI PR t (.slice u) n m z) (x y : Operand) (a : Option Addr) (l c : Nat) (K : Value → WP) :
  A6 PR (n8 .eql t x y (.slice a l c) (.slice none 0 0)) K = K (.bool a.isNone) := by
 funext w
 refine d8 ?_ K
 have h1 : (eqGuard .eql t x y (.slice a l c) (.slice none 0 0)).run PR w = .ok () w := by simp [eqGuard]
 have h2 : (Op.equalIn 10000 t (.slice a l c) (.slice none 0 0)).run PR w = .ok a.isNone w := C7c (e := 9999) h w
 simp [n8, h1, binOp, Op.equal, Op.maxDepth, h2]
theorem C5U (x y : Operand) (a : Option Addr) (l c : Nat) (K : Value → WP) : A6 PR (n8 .eql 50 x y (.slice a l c) (.slice none 0 0)) K = K (.bool a.isNone) := C7e B0y x y a l c K
theorem C5T (x y : Operand) (a : Option Addr) (l c : Nat) (K : Value → WP) : A6 PR (n8 .eql 79 x y (.slice a l c) (.slice none 0 0)) K = K (.bool a.isNone) := C7e B0c x y a l c K
theorem C2J (w : World) (v : Value) (n : Nat) (xs : List Value) (hn : n ≤ 1000000) (hx : xs.length = n * 2) (hp : xs.all plain = true) (hv : D4 w v n xs) :
  Fn PR B7 76 #[v] w (Rn [] w (fun r u => u = r) fun r => [.own 129 2 r n xs]) := by
 obtain ⟨a, c, rfl, hr⟩ := hv.form
 refine u0 (TW.go (κ := false) (S := []) ?_)
 unfold U4
 cases a with
 | none =>
  obtain rfl : n = 0 := by
   rcases Nat.eq_zero_or_pos n with h | h
   ·exact h
   ·obtain ⟨_, _, h, _⟩ := hr h; cases h
  obtain rfl : xs = [] := List.length_eq_zero_iff.1 (by omega)
  (have zz:=trivial;repeat((first|clear zz|with_reducible first|refine A3 ?_|refine A4 fun _=>?_|refine A5 fun _=>?_);try simp(disch:=first|omega|assumption|((repeat(first|exact A1|exact uH|apply A2|apply uT));first|done|fail)|(simp;first|done|omega|fail))[C5U]))
  refine r4 129 2 ?_
  exact A0K (.slice none 0 0) rfl (by simp)
 | some a =>
  (have zz:=trivial;repeat((first|clear zz|with_reducible first|refine A3 ?_|refine A4 fun _=>?_|refine A5 fun _=>?_|refine E2 fun _=>?_|refine E5 (hK:=fun _=>?_)|refine E6 (hK:=fun _=>?_)|refine E3 (hK:=fun _=>?_)|refine E1 (hK:=fun _=>?_)|refine E4 (hK:=fun _=>?_));try simp(disch:=first|omega|assumption|((repeat(first|exact A1|exact uH|apply A2|apply uT));first|done|fail)|(simp;first|done|omega|fail))[C5U]))
  refine V6 (by (repeat constructor)) (G0.old0 hv) (by decide) hx hp (by simp only [maxLen]; omega) (by omega) fun a' c' => ?_
  simp only [Nat.zero_add, List.nil_append]
  exact C0 _ rfl (by (repeat' constructor))
theorem B5a (w : World) (v : Value) (n : Nat) (xs : List Value) (hn : n ≤ 1000000) (hx : xs.length = n * 4) (hp : xs.all plain = true) (hv : D4 w v n xs) :
  Fn PR B7 103 #[v] w (Rn [] w (fun r u => u = r) fun r => [.own 119 4 r n xs]) := by
 obtain ⟨a, c, rfl, hr⟩ := hv.form
 refine A0Z (TW.go (κ := false) (S := []) ?_)
 unfold W5
 cases a with
 | none =>
  obtain rfl : n = 0 := by
   rcases Nat.eq_zero_or_pos n with h | h
   ·exact h
   ·obtain ⟨_, _, h, _⟩ := hr h; cases h
  obtain rfl : xs = [] := List.length_eq_zero_iff.1 (by omega)
  (have zz:=trivial;repeat((first|clear zz|with_reducible first|refine A3 ?_|refine A4 fun _=>?_|refine A5 fun _=>?_);try simp(disch:=first|omega|assumption|((repeat(first|exact A1|exact uH|apply A2|apply uT));first|done|fail)|(simp;first|done|omega|fail))[C5T]))
  refine r4 119 4 ?_
  exact A0K (.slice none 0 0) rfl (by simp)
 | some a =>
  (have zz:=trivial;repeat((first|clear zz|with_reducible first|refine A3 ?_|refine A4 fun _=>?_|refine A5 fun _=>?_|refine E2 fun _=>?_|refine E5 (hK:=fun _=>?_)|refine E6 (hK:=fun _=>?_)|refine E3 (hK:=fun _=>?_)|refine E1 (hK:=fun _=>?_)|refine E4 (hK:=fun _=>?_));try simp(disch:=first|omega|assumption|((repeat(first|exact A1|exact uH|apply A2|apply uT));first|done|fail)|(simp;first|done|omega|fail))[C5T]))
  refine V6 (by (repeat constructor)) (G0.old0 hv) (by decide) hx hp (by simp only [maxLen]; omega) (by omega) fun a' c' => ?_
  simp only [Nat.zero_add, List.nil_append]
  exact C0 _ rfl (by (repeat' constructor))
def A86 {α : Type} (p : α → Bool) (l : List α) : Int := match l.findIdx? p with | some i => i | none => -1
theorem A58 {α : Type} {p : α → Bool} {l : List α} {i : Nat} {x : α} (hx : l[i]? = some x) (hp : p x = true) (h : ∀ j y, j < i → l[j]? = some y → p y = false) : A86 p l = i := by
 have : l.findIdx? p = some i := by
  rw [List.findIdx?_eq_some_iff_getElem]
  obtain ⟨hi, e⟩ := List.getElem?_eq_some_iff.1 hx
  exact ⟨hi, by rw [e]; exact hp, fun j hj => by rw [h j l[j] hj (List.getElem?_eq_getElem (by omega))]; simp⟩
 simp [A86, this]
theorem B0d {α : Type} {p : α → Bool} {l : List α} (h : ∀ (j : Nat) y, l[j]? = some y → p y = false) : A86 p l = -1 := by
 have : l.findIdx? p = none := by
  rw [List.findIdx?_eq_none_iff]; intro x hx; obtain ⟨i, hi, rfl⟩ := List.getElem_of_mem hx; exact h i _ (List.getElem?_eq_getElem hi)
 simp [A86, this]
theorem B53 (w : World) (v : Value) (l : List G2) (p : G2 → Bool) (f : FuncId) (cap : List Value) (hn : l.length ≤ 1000000) (hv : D4 w v l.length (l.flatMap E7)) (he : B0 PR f)
  (hf : ∀ w', KS false [] w w' → ∀ x : G2, Fn PR B7 f (.agg #[.int .i64 x.1, .int .i64 x.2] :: cap).toArray w' (fun r w'' => r = .bool (p x) ∧ C6 [] w' w'')) :
  Fn PR B7 154 #[v, .func (.func f) #[] cap.toArray] w (fun r w' => r = .int .i64 (A86 p l) ∧ C6 [] w w') := by
 refine Fn.pure (l7 (TW.go (κ := false) (S := []) ?_))
 unfold S3
 obtain ⟨a, c, rfl, hr⟩ := hv.form
 (have zz:=trivial;repeat((first|clear zz|with_reducible first|refine A3 ?_|refine A4 fun _=>?_|refine A5 fun _=>?_);try simp(disch:=first|omega|assumption|((repeat(first|exact A1|exact uH|apply A2|apply uT));first|done|fail)|(simp;first|done|omega|fail))[]))
 refine H4 (α := Unit) l.length (fun _ _ => .int .i64 0) (fun _ _ => []) (fun i _ => ∀ j y, j < i → l[j]? = some y → p y = false) () (by intro j _ hj; omega) ?_
 rintro i _ hi hpre L hL
 by_cases hlt : i < l.length
 ·obtain ⟨b, o, rfl, hrow⟩ := hr (by omega)
  obtain ⟨x, hx⟩ : ∃ x, l[i]? = some x := ⟨_, List.getElem?_eq_getElem (by omega)⟩
  have h1 := hrow.at (f := E7) (k := 2) (fun _ => rfl) hx
  rw [E7] at h1
  (have zz:=trivial;repeat((first|clear zz|with_reducible first|refine A3 ?_|refine A4 fun _=>?_|refine A5 fun _=>?_);try simp(disch:=first|omega|assumption|((repeat(first|exact A1|exact uH|apply A2|apply uT));first|done|fail)|(simp;first|done|omega|fail))[hlt, h1]))
  refine B2B he (φ := fun r => r = .bool (p x)) (fun w' hw' => by simpa using hf w' hw'.ks x) ?_
  rintro _ rfl
  cases hb : p x with
  | true =>
   (have zz:=trivial;repeat((first|clear zz|with_reducible first|refine A3 ?_|refine A4 fun _=>?_|refine A5 fun _=>?_);try simp(disch:=first|omega|assumption|((repeat(first|exact A1|exact uH|apply A2|apply uT));first|done|fail)|(simp;first|done|omega|fail))[]))
   exact A9 (by rw [A58 hx hb hpre])
  | false =>
   (have zz:=trivial;repeat((first|clear zz|with_reducible first|refine A3 ?_|refine A4 fun _=>?_|refine A5 fun _=>?_);try simp(disch:=first|omega|assumption|((repeat(first|exact A1|exact uH|apply A2|apply uT));first|done|fail)|(simp;first|done|omega|fail))[]))
   refine Sels.tw .nil (hL hlt () ?_)
   intro j y hj hy
   by_cases hji : j = i
   ·subst hji; rw [hx] at hy; cases hy; exact hb
   ·exact hpre j y (by omega) hy
 ·obtain rfl : i = l.length := by omega
  (have zz:=trivial;repeat((first|clear zz|with_reducible first|refine A3 ?_|refine A4 fun _=>?_|refine A5 fun _=>?_);try simp(disch:=first|omega|assumption|((repeat(first|exact A1|exact uH|apply A2|apply uT));first|done|fail)|(simp;first|done|omega|fail))[]))
  exact A9 (by rw [B0d fun j y hy => hpre j y (List.getElem?_eq_some_iff.1 hy).1 hy])
theorem B6B (w : World) (v : Value) (l : List (Int × Int)) (p : Int × Int → Bool) (f : FuncId) (cap : List Value) (hn : l.length ≤ 1000000) (hv : D4 w v l.length (l.flatMap E7)) (he : B0 PR f)
  (hf : ∀ w', KS false [] w w' → ∀ x : Int × Int, Fn PR B7 f (.agg #[.int .i64 x.1, .int .i64 x.2] :: cap).toArray w' (fun r w'' => r = .bool (p x) ∧ C6 [] w' w'')) :
  Fn PR B7 161 #[v, .func (.func f) #[] cap.toArray] w (fun r w' => r = .int .i64 (A86 p l) ∧ C6 [] w w') := by
 refine Fn.pure (A2P (TW.go (κ := false) (S := []) ?_))
 unfold f8
 obtain ⟨a, c, rfl, hr⟩ := hv.form
 (have zz:=trivial;repeat((first|clear zz|with_reducible first|refine A3 ?_|refine A4 fun _=>?_|refine A5 fun _=>?_);try simp(disch:=first|omega|assumption|((repeat(first|exact A1|exact uH|apply A2|apply uT));first|done|fail)|(simp;first|done|omega|fail))[]))
 refine H4 (α := Unit) l.length (fun _ _ => .int .i64 0) (fun _ _ => []) (fun i _ => ∀ j y, j < i → l[j]? = some y → p y = false) () (by intro j _ hj; omega) ?_
 rintro i _ hi hpre L hL
 by_cases hlt : i < l.length
 ·obtain ⟨b, o, rfl, hrow⟩ := hr (by omega)
  obtain ⟨x, hx⟩ : ∃ x, l[i]? = some x := ⟨_, List.getElem?_eq_getElem (by omega)⟩
  have h1 := hrow.at (f := E7) (k := 2) (fun _ => rfl) hx
  rw [E7] at h1
  (have zz:=trivial;repeat((first|clear zz|with_reducible first|refine A3 ?_|refine A4 fun _=>?_|refine A5 fun _=>?_);try simp(disch:=first|omega|assumption|((repeat(first|exact A1|exact uH|apply A2|apply uT));first|done|fail)|(simp;first|done|omega|fail))[hlt, h1]))
  refine B2B he (φ := fun r => r = .bool (p x)) (fun w' hw' => by simpa using hf w' hw'.ks x) ?_
  rintro _ rfl
  cases hb : p x with
  | true =>
   (have zz:=trivial;repeat((first|clear zz|with_reducible first|refine A3 ?_|refine A4 fun _=>?_|refine A5 fun _=>?_);try simp(disch:=first|omega|assumption|((repeat(first|exact A1|exact uH|apply A2|apply uT));first|done|fail)|(simp;first|done|omega|fail))[]))
   exact A9 (by rw [A58 hx hb hpre])
  | false =>
   (have zz:=trivial;repeat((first|clear zz|with_reducible first|refine A3 ?_|refine A4 fun _=>?_|refine A5 fun _=>?_);try simp(disch:=first|omega|assumption|((repeat(first|exact A1|exact uH|apply A2|apply uT));first|done|fail)|(simp;first|done|omega|fail))[]))
   refine Sels.tw .nil (hL hlt () ?_)
   intro j y hj hy
   by_cases hji : j = i
   ·subst hji; rw [hx] at hy; cases hy; exact hb
   ·exact hpre j y (by omega) hy
 ·obtain rfl : i = l.length := by omega
  (have zz:=trivial;repeat((first|clear zz|with_reducible first|refine A3 ?_|refine A4 fun _=>?_|refine A5 fun _=>?_);try simp(disch:=first|omega|assumption|((repeat(first|exact A1|exact uH|apply A2|apply uT));first|done|fail)|(simp;first|done|omega|fail))[]))
  exact A9 (by rw [B0d fun j y hy => hpre j y (List.getElem?_eq_some_iff.1 hy).1 hy])
theorem C3n {α : Type} (p : α → Bool) (l : List α) : decide (0 ≤ A86 p l) = l.any p := by
 unfold A86
 cases h : l.findIdx? p with
 | none =>
  have := List.findIdx?_eq_none_iff.1 h
  rw [Bool.eq_iff_iff]; simp [List.any_eq_true]; intro x hx; have := this x hx; simp_all
 | some i =>
  obtain ⟨hi, h1, _⟩ := List.findIdx?_eq_some_iff_getElem.1 h
  rw [Bool.eq_iff_iff]; simp only [List.any_eq_true, decide_eq_true_eq]
  exact ⟨fun _ => ⟨_, List.getElem_mem hi, h1⟩, fun _ => by omega⟩
theorem B2W (w : World) (v : Value) (l : List (Int × Int)) (p : Int × Int → Bool) (f : FuncId) (cap : List Value) (hn : l.length ≤ 1000000) (hv : D4 w v l.length (l.flatMap E7)) (he : B0 PR f)
  (hf : ∀ w', KS false [] w w' → ∀ x : Int × Int, Fn PR B7 f (.agg #[.int .i64 x.1, .int .i64 x.2] :: cap).toArray w' (fun r w'' => r = .bool (p x) ∧ C6 [] w' w'')) :
  Fn PR B7 132 #[v, .func (.func f) #[] cap.toArray] w (fun r w' => r = .bool (l.any p) ∧ C6 [] w w') := by
 refine Fn.pure (A07 (TW.go (κ := false) (S := []) ?_))
 unfold Y8
 refine B8 A1z (fun w' hw' => B6B w' v l p f cap hn (hv.ks hw'.ks (by simp)) he fun w2 h => hf w2 (hw'.ks.trans h)) ?_
 (have zz:=trivial;repeat((first|clear zz|with_reducible first|refine A3 ?_|refine A4 fun _=>?_|refine A5 fun _=>?_);try simp(disch:=first|omega|assumption|((repeat(first|exact A1|exact uH|apply A2|apply uT));first|done|fail)|(simp;first|done|omega|fail))[]))
 exact A9 (by rw [C3n])
end Go.Proofs.YtlplkjgcfjdinaaGreat
namespace Go.Proofs.YtlplkjgcfjdinaaGreat
open Go
def B3H (X : Nat → Prop) (t0 : Value) (R : Value → WP) : WP :=
 B2 PR X 123 [(.int .u64 14695981039346656037), t0] fun t4 =>
 R t4
theorem A3M : B0 PR 96 := A8 Tryz.func96 (by kernel_rfl) rfl
theorem B93 {X : Nat → Prop} {t0 : Value} {R : Value → WP} {w : World} (h : B3H X t0 R w) : Fn PR X 96 #[t0] w R := C7 (args := [t0]) mixed Tryz.func96 (by kernel_rfl) h
def B1u (X : Nat → Prop) (t0 t1 : Value) (R : Value → WP) : WP :=
 B1 PR X (Instr.alloc 227 true (.tuple #[])) fun t5 =>
 B1 PR X (Instr.alloc 229 true (.tuple #[])) fun t6 =>
 B6 PR X (Instr.storeAt 227 t5 (.func (.func 151) #[] #[])) <|
 B6 PR X (Instr.storeAt 229 t6 t0) <|
 jn (n := 0) (
 A6 PR (Instr.loadAt 229 t6) fun t16 =>
 j8 (R t16)) fun J1 =>
 B2 PR X 152 [t1] fun t10 =>
 rng (N := 1) PR X (fun t11 K2 =>
 bgn <|
 A6 PR (Instr.loadAt 227 t5) fun t12 =>
 A6 PR (Instr.loadAt 229 t6) fun t13 =>
 J0 PR (fun _ => False) t12 [t13, t11] fun t15 =>
 B6 PR (fun _ => False) (Instr.storeAt 229 t6 t15) <|
 K2 none) t10 (fun j => match j with | none => (J1) | some (.exit i) => (match Nat.beq i 0 with | true => (J1) | false => (G5)) | some .ret => (j8 (R (.int .u64 0))) | some _ => G5)
theorem A98 : B0 PR 123 := A8 Tryz.func123 (by kernel_rfl) rfl
theorem B8Y {X : Nat → Prop} {t0 t1 : Value} {R : Value → WP} {w : World} (h : B1u X t0 t1 R w) : Fn PR X 123 #[t0, t1] w R := C7 (args := [t0, t1]) mixed Tryz.func123 (by kernel_rfl) h
def A8E (X : Nat → Prop) (t0 t1 : Value) (R : Value → WP) : WP :=
 A0 PR (convert 5 229 t1) fun t7 =>
 A0 PR (binOp .xor 229 t0 t7) fun t8 =>
 A0 PR (binOp .mul 229 t8 (.int .u64 1099511628211)) fun t9 =>
 R t9
theorem B3q : B0 PR 151 := A8 Tryz.func151 (by kernel_rfl) rfl
theorem B4D {X : Nat → Prop} {t0 t1 : Value} {R : Value → WP} {w : World} (h : A8E X t0 t1 R w) : Fn PR X 151 #[t0, t1] w R := C7 (args := [t0, t1]) mixed Tryz.func151 (by kernel_rfl) h
def B13 (X : Nat → Prop) (t0 : Value) (R : Value → WP) : WP :=
 B1 PR X (Instr.box 9 t0) fun t1 =>
 A0 PR (Instr.makeFunc (.func 166) #[] #[t1]) fun t3 =>
 R t3
theorem B7G : B0 PR 152 := A8 Tryz.func152 (by kernel_rfl) rfl
theorem B8v {X : Nat → Prop} {t0 : Value} {R : Value → WP} {w : World} (h : B13 X t0 R w) : Fn PR X 152 #[t0] w R := C7 (args := [t0]) mixed Tryz.func152 (by kernel_rfl) h
def A8Y (X : Nat → Prop) (t0 t1 : Value) (R : Value → WP) : WP :=
 A6 PR (Instr.loadAt 9 t1) fun t4 =>
 A0 PR (A7 .len #[9] 0 [t4]) fun t5 =>
 lp (n := 1) (fun L1 t6 =>
 A0 PR (binOp .lss 3 t6 t5) fun t7 =>
 jn (n := 0) (
 jn (n := 0) (
 A0 PR (binOp .add 3 t6 (.int .i64 1)) fun t15 =>
 L1 t15) fun J2 =>
 A6 PR (Instr.loadAt 9 t1) fun t10 =>
 A0 PR (Instr.index 9 t10 t6) fun t12 =>
 J0 PR X t0 [t12] fun t13 =>
 A0 PR (Op.unary .not t13) fun t14 =>
 B3 t14 (
 R (.tuple #[])) (
 J2)) fun J3 =>
 B3 t7 (
 J3) (
 R (.tuple #[]))) (.int .i64 0)
theorem B3W : B0 PR 166 := A8 Tryz.func166 (by kernel_rfl) rfl
theorem B4w {X : Nat → Prop} {t0 t1 : Value} {R : Value → WP} {w : World} (h : A8Y X t0 t1 R w) : Fn PR X 166 #[t0, t1] w R := C7 (args := [t0, t1]) mixed Tryz.func166 (by kernel_rfl) h
theorem B4V {X : Nat → Prop} {t0 t1 : Value} {K : Value → WP} {w : World} (h : Fn PR X 166 #[t0, t1] w K) : A12 PR X 166 [t0, t1] K w := ⟨B3W, h⟩
end Go.Proofs.YtlplkjgcfjdinaaGreat
namespace Go.Proofs.YtlplkjgcfjdinaaGreat
open Go
def A49 (h b : Nat) : Nat := ((h ^^^ b) * 1099511628211) % 18446744073709551616
def A09 (h : Nat) (s : ByteArray) : Nat → Nat
 | 0 => h
 | i + 1 => A49 (A09 h s i) (C8 s i)
def A87 (h : Nat) (s : ByteArray) : Nat := A09 h s s.size
def S1 (s : ByteArray) : Nat := A87 14695981039346656037 s
theorem C6W (h b : Nat) : A49 h b < 2 ^ 64 := by unfold A49; omega
theorem B4e {h : Nat} (hh : h < 2 ^ 64) (s : ByteArray) (i : Nat) : A09 h s i < 2 ^ 64 := by
 cases i with
 | zero => exact hh
 | succ i => exact C6W _ _
theorem C9r (w : World) (h b : Nat) (hh : h < 2 ^ 64) (hb : b < 256) : Fn PR B7 151 #[.int .u64 (h : Int), .int .u8 (b : Int)] w (fun v w' => v = .int .u64 (A49 h b : Nat) ∧ C6 [] w w') := by
 refine Fn.pure (B4D (TW.go (κ := false) (S := []) ?_))
 unfold A8E
 (have zz:=trivial;repeat((first|clear zz|with_reducible first|refine A3 ?_|refine A4 fun _=>?_|refine A5 fun _=>?_);try simp(disch:=first|omega|assumption|((repeat(first|exact A1|exact uH|apply A2|apply uT));first|done|fail)|(simp;first|done|omega|fail))[]))
 have e1 : (h % 2 ^ IntKind.u64.bits ^^^ b % 2 ^ IntKind.u64.bits) = h ^^^ b := by rw [show (2 : Nat) ^ IntKind.u64.bits = 2 ^ 64 from rfl, Nat.mod_eq_of_lt hh, Nat.mod_eq_of_lt (by omega)]
 have e2 : h ^^^ b < 2 ^ 64 := Nat.xor_lt_two_pow hh (by omega)
 rw [e1, A0b (n := ((h ^^^ b : Nat) : Int)) (by omega) (by omega)]
 refine A9 ?_
 have e3 : IntKind.u64.wrap (((h ^^^ b : Nat) : Int) * 1099511628211) = (A49 h b : Nat) := by
  simp only [IntKind.wrap, IntKind.bits, IntKind.signed, A49]
  simp
 rw [e3]
abbrev C5G (b : Nat) : Value := .func (.func 166) #[] #[.pointer (some ⟨b, 0, none⟩)]
theorem C5q (w : World) (s : ByteArray) : Fn PR B7 152 #[.string s] w (Rn [] w (fun b v => v = C5G b) fun b => [.pt b (.cells #[.string s] 9)]) := by
 refine B8v (TW.go (κ := false) (S := []) ?_)
 unfold B13
 (have zz:=trivial;repeat((first|clear zz|with_reducible first|refine A3 ?_|refine A4 fun _=>?_|refine A5 fun _=>?_);try simp(disch:=first|omega|assumption|((repeat(first|exact A1|exact uH|apply A2|apply uT));first|done|fail)|(simp;first|done|omega|fail))[]))
 rename_i b
 exact A0K b rfl (by simp)
def B6a (s : ByteArray) (i : Nat) : List Value := [.int .u8 (C8 s i : Nat)]
theorem C6e (b : Nat) (s : ByteArray) (hs : s.size < 2 ^ 60) : A4U (C5G b) [.pt b (.cells #[.string s] 9)] (fun _ _ => True) ((List.range s.size).map (B6a s)) := by
 refine ⟨_, _, _, rfl, fun l J E hJ hE stJ stE hy w0 h0 => ?_⟩
 refine B4V (B4w (TW.at (κ := true) ?_ (hJ _ _ _ h0).1))
 unfold A8Y
 (have zz:=trivial;repeat((first|clear zz|with_reducible first|refine A3 ?_|refine A4 fun _=>?_|refine A5 fun _=>?_);try simp(disch:=first|omega|assumption|((repeat(first|exact A1|exact uH|apply A2|apply uT));first|done|fail)|(simp;first|done|omega|fail))[]))
 refine A5B s.size (fun i => i) (fun _ => _) hJ stJ h0 fun i a hi hJi _ L hL => ?_
 by_cases hlt : i < s.size
 ·obtain ⟨by0, hb0, hb1⟩ := s6 (s := s) (i := i) hlt
  have hb0' : s[((i : Nat) : Int).toNat]? = some by0 := by rw [Int.toNat_natCast]; exact hb0
  (have zz:=trivial;repeat((first|clear zz|with_reducible first|refine A3 ?_|refine A4 fun _=>?_|refine A5 fun _=>?_);try simp(disch:=first|omega|assumption|((repeat(first|exact A1|exact uH|apply A2|apply uT));first|done|fail)|(simp;first|done|omega|fail))[hlt, Z0]))
  rw [hb1]
  refine A6n hJ hE stJ hy hJi (by simpa using hlt) (by simp [B6a]) (fun w3 h => ?_) (fun w3 h => ?_)
  ·(have zz:=trivial;repeat((first|clear zz|with_reducible first|refine A3 ?_|refine A4 fun _=>?_|refine A5 fun _=>?_);try simp(disch:=first|omega|assumption|((repeat(first|exact A1|exact uH|apply A2|apply uT));first|done|fail)|(simp;first|done|omega|fail))[]))
   exact fun w' hw' => hL hlt w' (stJ _ _ _ _ _ h hw')
  ·(have zz:=trivial;repeat((first|clear zz|with_reducible first|refine A3 ?_|refine A4 fun _=>?_|refine A5 fun _=>?_);try simp(disch:=first|omega|assumption|((repeat(first|exact A1|exact uH|apply A2|apply uT));first|done|fail)|(simp;first|done|omega|fail))[]))
   exact A3Y stE h
 ·obtain rfl : i = s.size := by omega
  (have zz:=trivial;repeat((first|clear zz|with_reducible first|refine A3 ?_|refine A4 fun _=>?_|refine A5 fun _=>?_);try simp(disch:=first|omega|assumption|((repeat(first|exact A1|exact uH|apply A2|apply uT));first|done|fail)|(simp;first|done|omega|fail))[]))
  exact A3q stJ (by simpa using hJi)
theorem B9N (w : World) (h : Nat) (s : ByteArray) (hh : h < 2 ^ 64) (hs : s.size < 2 ^ 60) : Fn PR B7 123 #[.int .u64 (h : Int), .string s] w (fun v w' => v = .int .u64 (A87 h s : Nat) ∧ C6 [] w w') := by
 refine Fn.pure (B8Y (TW.go (κ := false) (S := []) ?_))
 unfold B1u
 (have zz:=trivial;repeat((first|clear zz|with_reducible first|refine A3 ?_|refine A4 fun _=>?_|refine A5 fun _=>?_);try simp(disch:=first|omega|assumption|((repeat(first|exact A1|exact uH|apply A2|apply uT));first|done|fail)|(simp;first|done|omega|fail))[]))
 rename_i bf bx
 refine F3 B7G (fun w' _ => C5q w' s) ?_
 rintro b v rfl
 refine A3V (C6e b s hs) (by simp [B6a]) (fun _ (_ : Unit) => True) (fun i _ => [.pt bx (.cells #[.int .u64 ((A09 h s i : Nat) : Int)] 229), .pt bf (.cells #[.func (.func 151) #[] #[]] 227)])
  (fun _ (_ : Unit) => False) (fun _ => []) () trivial ?_ ?_ ?_ ?_ (by simp [A09])
 ·intros; trivial
 ·rintro i hi _ F _ K' hK _
  simp only [List.getElem_map, List.getElem_range, B6a, VF.app]
  (have zz:=trivial;repeat((first|clear zz|with_reducible first|refine A3 ?_|refine A4 fun _=>?_|refine A5 fun _=>?_);try simp(disch:=first|omega|assumption|((repeat(first|exact A1|exact uH|apply A2|apply uT));first|done|fail)|(simp;first|done|omega|fail))[]))
  refine B8 B3q (fun w' _ => C9r w' _ _ (B4e hh s i) (M5 s i)) ?_
  (have zz:=trivial;repeat((first|clear zz|with_reducible first|refine A3 ?_|refine A4 fun _=>?_|refine A5 fun _=>?_);try simp(disch:=first|omega|assumption|((repeat(first|exact A1|exact uH|apply A2|apply uT));first|done|fail)|(simp;first|done|omega|fail))[]))
  exact TW.eqH (by simp [A09]) (hK () trivial)
 ·rintro _ _
  (have zz:=trivial;repeat((first|clear zz|with_reducible first|refine A3 ?_|refine A4 fun _=>?_|refine A5 fun _=>?_);try simp(disch:=first|omega|assumption|((repeat(first|exact A1|exact uH|apply A2|apply uT));first|done|fail)|(simp;first|done|omega|fail))[]))
  exact A9 (by simp [A87])
 ·rintro _ _ h; exact h.elim
theorem A6f (w : World) (s : ByteArray) (hs : s.size < 2 ^ 60) : Fn PR B7 96 #[.string s] w (fun v w' => v = .int .u64 (S1 s : Nat) ∧ C6 [] w w') := by
 refine Fn.pure (B93 (TW.go (κ := false) (S := []) ?_))
 unfold B3H
 refine B8 A98 (fun w' _ => B9N w' 14695981039346656037 s (by omega) hs) ?_
 exact A9 rfl
end Go.Proofs.YtlplkjgcfjdinaaGreat
namespace Go.Proofs.YtlplkjgcfjdinaaGreat
open Go
def G6 (key : ByteArray) (n : Nat) : Nat := S1 key % n
theorem A8W (s : ByteArray) : S1 s < 2 ^ 64 := B4e (by omega) s _
theorem C6f (w : World) (key : ByteArray) (n : Nat) (hk : key.size < 2 ^ 60) (hn : n ≤ 1000000) : Fn PR B7 168 #[.string key, .int .i64 (n : Int)] w (fun v w' => v = .int .i64 (if n = 0 then 0 else G6 key n : Nat) ∧ C6 [] w w') := by
 refine Fn.pure (B6M (TW.go (κ := false) (S := []) ?_))
 unfold A9e
 by_cases c1 : n = 0
 ·have c1' : (n : Int) < 1 := by omega
  (have zz:=trivial;repeat((first|clear zz|with_reducible first|refine A3 ?_|refine A4 fun _=>?_|refine A5 fun _=>?_);try simp(disch:=first|omega|assumption|((repeat(first|exact A1|exact uH|apply A2|apply uT));first|done|fail)|(simp;first|done|omega|fail))[c1']))
  exact A9 (by simp [c1])
 have c1' : ¬ (n : Int) < 1 := by omega
 have c1'' : ¬ (n : Int) = 0 := by omega
 (have zz:=trivial;repeat((first|clear zz|with_reducible first|refine A3 ?_|refine A4 fun _=>?_|refine A5 fun _=>?_);try simp(disch:=first|omega|assumption|((repeat(first|exact A1|exact uH|apply A2|apply uT));first|done|fail)|(simp;first|done|omega|fail))[c1']))
 refine B8 A3M (fun w' _ => A6f w' key hk) ?_
 have hl := A8W key
 have hm : G6 key n < n := Nat.mod_lt _ (by omega)
 have e1 : ((S1 key : Nat) : Int).tmod n = (G6 key n : Nat) := by unfold G6; rw [Int.tmod_eq_emod_of_nonneg (by omega)]; omega
 have e2 : ((S1 key : Nat) : Int) % n = (G6 key n : Nat) := by unfold G6; omega
 (have zz:=trivial;repeat((first|clear zz|with_reducible first|refine A3 ?_|refine A4 fun _=>?_|refine A5 fun _=>?_);try simp(disch:=first|omega|assumption|((repeat(first|exact A1|exact uH|apply A2|apply uT));first|done|fail)|(simp;first|done|omega|fail))[c1'', e1, N7]))
 exact A9 (by simp [c1])
def p5 : EnV := ⟨0, W2, 0, 0⟩
def N1 (l : List EnV) (key : ByteArray) : List (Nat × EnV) := (List.range l.length).map fun i => ((G6 key l.length + i) % l.length, l.getD ((G6 key l.length + i) % l.length) p5)
def A9H (p : Nat × EnV) : List Value := [.int .i64 (p.1 : Nat), .agg #[.int .i64 p.2.st, .string p.2.key, .int .i64 p.2.bk, .int .i64 p.2.dl]]
abbrev C67 (x : Nat × Nat) : Value := .func (.func 167) #[] #[.pointer (some ⟨x.1, 0, none⟩), .pointer (some ⟨x.2, 0, none⟩)]
abbrev B7b (x : Nat × Nat) (v : Value) (key : ByteArray) : List Res := [.pt x.1 (.cells #[.string key] 9), .pt x.2 (.cells #[v] 79)]
theorem C2a (w : World) (v : Value) (key : ByteArray) (hv : ∃ a n c, v = .slice a n c) : Fn PR B7 153 #[v, .string key] w (Rn [] w (fun x u => u = C67 x) fun x => B7b x v key) := by
 obtain ⟨a, n, c, rfl⟩ := hv
 refine B6s (TW.go (κ := false) (S := []) ?_)
 unfold B0C
 (have zz:=trivial;repeat((first|clear zz|with_reducible first|refine A3 ?_|refine A4 fun _=>?_|refine A5 fun _=>?_);try simp(disch:=first|omega|assumption|((repeat(first|exact A1|exact uH|apply A2|apply uT));first|done|fail)|(simp;first|done|omega|fail))[]))
 rename_i b1 b2
 exact C0 (b2, b1) rfl (by (repeat' constructor))
def RqS (v : Value) (n : Nat) (xs : List Value) (F : List Res) (w : World) : Prop := ∃ a c, v = .slice a n c ∧ (0 < n → ∃ b o, a = some ⟨b, o, none⟩ ∧ L6 w b o xs ∧ b ∉ C3 F)
theorem RqS.of {v : Value} {n : Nat} {xs : List Value} {w0 w : World} {A F : List Res} (h : D4 w0 v n xs) (hx : 0 < n → 0 < xs.length) (hw : LW false [] w0 (A ++ F) w) : RqS v n xs F w := by
 obtain ⟨a, c, rfl, hr⟩ := h.form
 refine ⟨a, c, rfl, fun hn => ?_⟩
 obtain ⟨b, o, rfl, hrow⟩ := hr hn
 refine ⟨b, o, rfl, hw.ks.row (by simp) hrow, hw.notin_old ?_ (by simp)⟩
 have h0 := hrow 0 (hx hn)
 rw [List.getElem?_eq_getElem (hx hn)] at h0
 obtain ⟨c', t', z', h1, h2⟩ := p7 h0
 exact M4 h1
theorem A19 (l : List EnV) : (l.flatMap D5).length = l.length * 4 := by
 induction l with
 | nil => rfl
 | cons x l ih => rw [List.flatMap_cons, List.length_append, ih]; simp [D5]; omega
theorem C25 (x : Nat × Nat) (v : Value) (l : List EnV) (key : ByteArray) (hk : key.size < 2 ^ 60) (hn : l.length ≤ 1000000) : A4U (C67 x) (B7b x v key) (RqS v l.length (l.flatMap D5)) ((N1 l key).map A9H) := by
 obtain ⟨bk, bt⟩ := x
 refine ⟨_, _, _, rfl, fun y J E hJ hE stJ stE hy w0 h0 => ?_⟩
 obtain ⟨a, c, hv, hr⟩ := (hJ _ _ _ h0).2
 subst hv
 refine B25 (B3b (TW.at (κ := true) ?_ (hJ _ _ _ h0).1))
 unfold A6K
 simp only [B7b]
 (have zz:=trivial;repeat((first|clear zz|with_reducible first|refine A3 ?_|refine A4 fun _=>?_|refine A5 fun _=>?_);try simp(disch:=first|omega|assumption|((repeat(first|exact A1|exact uH|apply A2|apply uT));first|done|fail)|(simp;first|done|omega|fail))[]))
 refine B8 B4a (fun w' _ => C6f w' key l.length hk hn) ?_
 (have zz:=trivial;repeat((first|clear zz|with_reducible first|refine A3 ?_|refine A4 fun _=>?_|refine A5 fun _=>?_);try simp(disch:=first|omega|assumption|((repeat(first|exact A1|exact uH|apply A2|apply uT));first|done|fail)|(simp;first|done|omega|fail))[]))
 refine A5B l.length (fun i => i) (fun _ => _) hJ stJ h0 fun i a' hi hJi hRi L hL => ?_
 by_cases hlt : i < l.length
 ·obtain ⟨_, _, hv, hr⟩ := hRi
  obtain ⟨b, o, hb, hrow, hnb⟩ := hr (by omega)
  cases hv
  have hh : G6 key l.length < l.length := Nat.mod_lt _ (by omega)
  have e0 : (if l.length = 0 then 0 else G6 key l.length) = G6 key l.length := if_neg (by omega)
  have hj : (G6 key l.length + i) % l.length < l.length := Nat.mod_lt _ (by omega)
  have hx : l[(G6 key l.length + i) % l.length]? = some (l.getD ((G6 key l.length + i) % l.length) p5) := by
   rw [List.getD_eq_getElem?_getD, List.getElem?_eq_getElem hj]; rfl
  have h1 := hrow.at (f := D5) (k := 4) (fun _ => rfl) hx
  have e1 : (((G6 key l.length : Nat) : Int) + (i : Nat)).tmod l.length = ((G6 key l.length + i) % l.length : Nat) := by rw [Int.tmod_eq_emod_of_nonneg (by omega), Int.natCast_emod, Int.natCast_add]
  have hwi : ∀ h, ((N1 l key).map A9H)[i]'h = A9H ((G6 key l.length + i) % l.length, l.getD ((G6 key l.length + i) % l.length) p5) := by
   intro h; simp only [List.getElem_map, N1, List.getElem_range]
  generalize hjd : (G6 key l.length + i) % l.length = j at *
  generalize hxd : l.getD j p5 = x at *
  rw [D5] at h1
  have hnz : ¬ (l.length : Int) = 0 := by omega
  subst hb
  rw [e0]
  (have zz:=trivial;repeat((first|clear zz|with_reducible first|refine A3 ?_|refine A4 fun _=>?_|refine A5 fun _=>?_);try simp(disch:=first|omega|assumption|((repeat(first|exact A1|exact uH|apply A2|apply uT));first|done|fail)|(simp;first|done|omega|fail))[hlt, e1, h1, hnz, N7]))
  refine A6n hJ hE stJ hy hJi (by simpa [N1] using hlt) (hwi _) (fun w3 h => ?_) (fun w3 h => ?_)
  ·(have zz:=trivial;repeat((first|clear zz|with_reducible first|refine A3 ?_|refine A4 fun _=>?_|refine A5 fun _=>?_);try simp(disch:=first|omega|assumption|((repeat(first|exact A1|exact uH|apply A2|apply uT));first|done|fail)|(simp;first|done|omega|fail))[]))
   exact fun w' hw' => hL hlt w' (stJ _ _ _ _ _ h hw')
  ·(have zz:=trivial;repeat((first|clear zz|with_reducible first|refine A3 ?_|refine A4 fun _=>?_|refine A5 fun _=>?_);try simp(disch:=first|omega|assumption|((repeat(first|exact A1|exact uH|apply A2|apply uT));first|done|fail)|(simp;first|done|omega|fail))[]))
   exact A3Y stE h
 ·obtain rfl : i = l.length := by omega
  (have zz:=trivial;repeat((first|clear zz|with_reducible first|refine A3 ?_|refine A4 fun _=>?_|refine A5 fun _=>?_);try simp(disch:=first|omega|assumption|((repeat(first|exact A1|exact uH|apply A2|apply uT));first|done|fail)|(simp;first|done|omega|fail))[]))
  exact A3q stJ (by simpa [N1] using hJi)
def H9 (key : ByteArray) : List (Nat × EnV) → Int
 | [] => -1
 | p :: r => if p.2.st = 0 then -1 else if p.2.st = 1 ∧ p.2.key = key then p.1 else H9 key r
def D3 (l : List EnV) (key : ByteArray) : Int := H9 key (N1 l key)
theorem B9c {α : Type} {l : List α} {i : Nat} (h : i < l.length) : l.drop i = l[i] :: l.drop (i + 1) := List.drop_eq_getElem_cons h
theorem B2g (L : List (Nat × EnV)) : ∀ x ∈ L.map A9H, x.length = 2 := by
 intro x hx; obtain ⟨p, _, rfl⟩ := List.mem_map.1 hx; rfl
theorem A2r (w : World) (v : Value) (l : List EnV) (key : ByteArray) (hk : key.size < 2 ^ 60) (hn : l.length ≤ 1000000) (hv : D4 w v l.length (l.flatMap D5)) :
  Fn PR B7 124 #[v, .string key] w (fun r w' => r = .int .i64 (D3 l key) ∧ C6 [] w w') := by
 refine Fn.pure (B6L (TW.go (κ := false) (S := []) ?_))
 unfold A9j
 (have zz:=trivial;repeat((first|clear zz|with_reducible first|refine A3 ?_|refine A4 fun _=>?_|refine A5 fun _=>?_);try simp(disch:=first|omega|assumption|((repeat(first|exact A1|exact uH|apply A2|apply uT));first|done|fail)|(simp;first|done|omega|fail))[]))
 rename_i bk bf
 refine F3 A9Z (fun w' _ => C2a w' v key (by obtain ⟨a, c, rfl, _⟩ := hv.form; exact ⟨a, _, c, rfl⟩)) ?_
 rintro x u rfl
 refine A3V (C25 x v l key hk hn) (B2g _) (fun i (_ : Unit) => H9 key ((N1 l key).drop i) = D3 l key) (fun _ _ => [.pt bf (.cells #[.int .i64 (-1)] 3), .pt bk (.cells #[.string key] 9)])
  (fun c (y : Unit) => c = .exit 0) (fun y => [.pt bf (.cells #[.int .i64 (D3 l key)] 3)]) () rfl ?_ ?_ ?_ ?_ (by simp [B7b])
 ·intro i _ F w1 _ hw
  exact RqS.of hv (fun h => by rw [A19]; omega) hw
 ·rintro i hi _ F hψ K' hK hE
  have hi' : i < (N1 l key).length := by simpa using hi
  rw [B9c hi'] at hψ
  simp only [List.getElem_map]
  generalize (N1 l key)[i] = p at *
  simp only [A9H, VF.app]
  by_cases c0 : p.2.st = 0
  ·(have zz:=trivial;repeat((first|clear zz|with_reducible first|refine A3 ?_|refine A4 fun _=>?_|refine A5 fun _=>?_);try simp(disch:=first|omega|assumption|((repeat(first|exact A1|exact uH|apply A2|apply uT));first|done|fail)|(simp;first|done|omega|fail))[c0]))
   refine TW.sub (hE (.exit 0) () rfl) ?_
   rw [← hψ]
   simp only [H9, c0, if_true]
   ((try simp only [List.cons_append, List.nil_append, List.append_assoc]); (repeat (first | exact List.Sublist.refl _ | exact List.nil_sublist _ | with_reducible apply List.Sublist.cons_cons | apply List.Sublist.cons)); first | done | fail)
  by_cases c1 : p.2.st = 1
  ·by_cases c2 : p.2.key = key
   ·(have zz:=trivial;repeat((first|clear zz|with_reducible first|refine A3 ?_|refine A4 fun _=>?_|refine A5 fun _=>?_);try simp(disch:=first|omega|assumption|((repeat(first|exact A1|exact uH|apply A2|apply uT));first|done|fail)|(simp;first|done|omega|fail))[c0, c1, c2]))
    refine TW.sub (hE (.exit 0) () rfl) ?_
    rw [← hψ]
    simp [H9, c1, c2]
    ((try simp only [List.cons_append, List.nil_append, List.append_assoc]); (repeat (first | exact List.Sublist.refl _ | exact List.nil_sublist _ | with_reducible apply List.Sublist.cons_cons | apply List.Sublist.cons)); first | done | fail)
   ·(have zz:=trivial;repeat((first|clear zz|with_reducible first|refine A3 ?_|refine A4 fun _=>?_|refine A5 fun _=>?_);try simp(disch:=first|omega|assumption|((repeat(first|exact A1|exact uH|apply A2|apply uT));first|done|fail)|(simp;first|done|omega|fail))[c0, c1, c2]))
    refine TW.sub (hK () ?_) (by ((try simp only [List.cons_append, List.nil_append, List.append_assoc]); (repeat (first | exact List.Sublist.refl _ | exact List.nil_sublist _ | with_reducible apply List.Sublist.cons_cons | apply List.Sublist.cons)); first | done | fail))
    rw [← hψ]
    simp [H9, c1, c2]
  ·(have zz:=trivial;repeat((first|clear zz|with_reducible first|refine A3 ?_|refine A4 fun _=>?_|refine A5 fun _=>?_);try simp(disch:=first|omega|assumption|((repeat(first|exact A1|exact uH|apply A2|apply uT));first|done|fail)|(simp;first|done|omega|fail))[c0, c1]))
   refine TW.sub (hK () ?_) (by ((try simp only [List.cons_append, List.nil_append, List.append_assoc]); (repeat (first | exact List.Sublist.refl _ | exact List.nil_sublist _ | with_reducible apply List.Sublist.cons_cons | apply List.Sublist.cons)); first | done | fail))
   rw [← hψ]
   simp [H9, c0, c1]
 ·intro _ hψ
  (have zz:=trivial;repeat((first|clear zz|with_reducible first|refine A3 ?_|refine A4 fun _=>?_|refine A5 fun _=>?_);try simp(disch:=first|omega|assumption|((repeat(first|exact A1|exact uH|apply A2|apply uT));first|done|fail)|(simp;first|done|omega|fail))[]))
  simp only [List.length_map, List.drop_length, H9] at hψ
  exact A9 (by rw [← hψ])
 ·rintro _ _ rfl
  (have zz:=trivial;repeat((first|clear zz|with_reducible first|refine A3 ?_|refine A4 fun _=>?_|refine A5 fun _=>?_);try simp(disch:=first|omega|assumption|((repeat(first|exact A1|exact uH|apply A2|apply uT));first|done|fail)|(simp;first|done|omega|fail))[]))
  exact A9 rfl
def P0 : List (Nat × EnV) → Int
 | [] => -1
 | p :: r => if p.2.st = 1 then P0 r else p.1
def S9 (l : List EnV) (key : ByteArray) : Int := if 0 ≤ D3 l key then -1 else P0 (N1 l key)
theorem B7D (w : World) (v : Value) (l : List EnV) (key : ByteArray) (hk : key.size < 2 ^ 60) (hn : l.length ≤ 1000000) (hv : D4 w v l.length (l.flatMap D5)) :
  Fn PR B7 160 #[v, .string key] w (fun r w' => r = .int .i64 (S9 l key) ∧ C6 [] w w') := by
 refine Fn.pure (B52 (TW.go (κ := false) (S := []) ?_))
 unfold A9b
 (have zz:=trivial;repeat((first|clear zz|with_reducible first|refine A3 ?_|refine A4 fun _=>?_|refine A5 fun _=>?_);try simp(disch:=first|omega|assumption|((repeat(first|exact A1|exact uH|apply A2|apply uT));first|done|fail)|(simp;first|done|omega|fail))[]))
 rename_i bf
 refine B8 A0a (fun w' hw' => A2r w' v l key hk hn (hv.ks hw'.ks (by simp))) ?_
 by_cases c1 : 0 ≤ D3 l key
 ·(have zz:=trivial;repeat((first|clear zz|with_reducible first|refine A3 ?_|refine A4 fun _=>?_|refine A5 fun _=>?_);try simp(disch:=first|omega|assumption|((repeat(first|exact A1|exact uH|apply A2|apply uT));first|done|fail)|(simp;first|done|omega|fail))[c1]))
  exact A9 (by simp [S9, c1])
 have e1 : S9 l key = P0 (N1 l key) := if_neg c1
 (have zz:=trivial;repeat((first|clear zz|with_reducible first|refine A3 ?_|refine A4 fun _=>?_|refine A5 fun _=>?_);try simp(disch:=first|omega|assumption|((repeat(first|exact A1|exact uH|apply A2|apply uT));first|done|fail)|(simp;first|done|omega|fail))[c1]))
 refine F3 A9Z (fun w' _ => C2a w' v key (by obtain ⟨a, c, rfl, _⟩ := hv.form; exact ⟨a, _, c, rfl⟩)) ?_
 rintro x u rfl
 refine A3V (C25 x v l key hk hn) (B2g _) (fun i (_ : Unit) => P0 ((N1 l key).drop i) = S9 l key) (fun _ _ => [.pt bf (.cells #[.int .i64 0] 3)])
  (fun c (y : Unit) => c = .ret) (fun y => [.pt bf (.cells #[.int .i64 (S9 l key)] 3)]) () (by rw [List.drop_zero, e1]) ?_ ?_ ?_ ?_ (by simp [B7b])
 ·intro i _ F w1 _ hw
  exact RqS.of hv (fun h => by rw [A19]; omega) hw
 ·rintro i hi _ F hψ K' hK hE
  have hi' : i < (N1 l key).length := by simpa using hi
  rw [B9c hi'] at hψ
  simp only [List.getElem_map]
  generalize (N1 l key)[i] = p at *
  simp only [A9H, VF.app]
  by_cases c1 : p.2.st = 1
  ·(have zz:=trivial;repeat((first|clear zz|with_reducible first|refine A3 ?_|refine A4 fun _=>?_|refine A5 fun _=>?_);try simp(disch:=first|omega|assumption|((repeat(first|exact A1|exact uH|apply A2|apply uT));first|done|fail)|(simp;first|done|omega|fail))[c1]))
   refine TW.sub (hK () ?_) (by ((try simp only [List.cons_append, List.nil_append, List.append_assoc]); (repeat (first | exact List.Sublist.refl _ | exact List.nil_sublist _ | with_reducible apply List.Sublist.cons_cons | apply List.Sublist.cons)); first | done | fail))
   rw [← hψ]
   simp [P0, c1]
  ·(have zz:=trivial;repeat((first|clear zz|with_reducible first|refine A3 ?_|refine A4 fun _=>?_|refine A5 fun _=>?_);try simp(disch:=first|omega|assumption|((repeat(first|exact A1|exact uH|apply A2|apply uT));first|done|fail)|(simp;first|done|omega|fail))[c1]))
   refine TW.sub (hE .ret () rfl) ?_
   rw [← hψ]
   simp only [P0, c1, if_false]
   ((try simp only [List.cons_append, List.nil_append, List.append_assoc]); (repeat (first | exact List.Sublist.refl _ | exact List.nil_sublist _ | with_reducible apply List.Sublist.cons_cons | apply List.Sublist.cons)); first | done | fail)
 ·intro _ hψ
  (have zz:=trivial;repeat((first|clear zz|with_reducible first|refine A3 ?_|refine A4 fun _=>?_|refine A5 fun _=>?_);try simp(disch:=first|omega|assumption|((repeat(first|exact A1|exact uH|apply A2|apply uT));first|done|fail)|(simp;first|done|omega|fail))[]))
  simp only [List.length_map, List.drop_length, P0] at hψ
  exact A9 (by rw [← hψ])
 ·rintro _ _ rfl
  (have zz:=trivial;repeat((first|clear zz|with_reducible first|refine A3 ?_|refine A4 fun _=>?_|refine A5 fun _=>?_);try simp(disch:=first|omega|assumption|((repeat(first|exact A1|exact uH|apply A2|apply uT));first|done|fail)|(simp;first|done|omega|fail))[]))
  exact A9 rfl
theorem C07 (w : World) (x : EnV) (st : Int) (b : Nat) (hb : w.cell? ⟨b, 0, none⟩ = some (.int .i64 st)) : Fn PR B7 136 #[.agg #[.int .i64 x.st, .string x.key, .int .i64 x.bk, .int .i64 x.dl], .pointer (some ⟨b, 0, none⟩)] w (fun r w' => r = .bool (decide (x.st = st)) ∧ C6 [] w w') := by
 refine Fn.pure (B1V (TW.go (κ := false) (S := []) ?_))
 unfold A38
 (have zz:=trivial;repeat((first|clear zz|with_reducible first|refine A3 ?_|refine A4 fun _=>?_|refine A5 fun _=>?_);try simp(disch:=first|omega|assumption|((repeat(first|exact A1|exact uH|apply A2|apply uT));first|done|fail)|(simp;first|done|omega|fail))[hb]))
 exact A9 rfl
def E9 (l : List EnV) (st : Int) : Nat := l.countP fun x => decide (x.st = st)
theorem B1j {α : Type} {p : α → Bool} {l : List α} {i : Nat} {x : α} (hx : l[i]? = some x) : (l.take (i + 1)).countP p = (l.take i).countP p + if p x then 1 else 0 := by
 rw [List.take_add_one, hx, List.countP_append]; simp [List.countP_cons]
theorem C4W (w : World) (v : Value) (l : List EnV) (p : EnV → Bool) (f : FuncId) (cap : List Value) (hn : l.length ≤ 1000000) (hv : D4 w v l.length (l.flatMap D5)) (he : B0 PR f)
  (hf : ∀ w', KS false [] w w' → ∀ x : EnV, Fn PR B7 f (.agg #[.int .i64 x.st, .string x.key, .int .i64 x.bk, .int .i64 x.dl] :: cap).toArray w' (fun r w'' => r = .bool (p x) ∧ C6 [] w' w'')) :
  Fn PR B7 135 #[v, .func (.func f) #[] cap.toArray] w (fun r w' => r = .int .i64 (l.countP p : Nat) ∧ C6 [] w w') := by
 refine Fn.pure (A4l (TW.go (κ := false) (S := []) ?_))
 unfold A0Q
 obtain ⟨a, c, rfl, hr⟩ := hv.form
 (have zz:=trivial;repeat((first|clear zz|with_reducible first|refine A3 ?_|refine A4 fun _=>?_|refine A5 fun _=>?_);try simp(disch:=first|omega|assumption|((repeat(first|exact A1|exact uH|apply A2|apply uT));first|done|fail)|(simp;first|done|omega|fail))[]))
 refine H4 (α := Unit) l.length (fun i _ => .int .i64 ((l.take i).countP p : Nat)) (fun _ _ => []) (fun i _ => True) () trivial ?_
 rintro i _ hi _ L hL
 by_cases hlt : i < l.length
 ·obtain ⟨b, o, rfl, hrow⟩ := hr (by omega)
  obtain ⟨x, hx⟩ : ∃ x, l[i]? = some x := ⟨_, List.getElem?_eq_getElem (by omega)⟩
  have h1 := hrow.at (f := D5) (k := 4) (fun _ => rfl) hx
  rw [D5] at h1
  (have zz:=trivial;repeat((first|clear zz|with_reducible first|refine A3 ?_|refine A4 fun _=>?_|refine A5 fun _=>?_);try simp(disch:=first|omega|assumption|((repeat(first|exact A1|exact uH|apply A2|apply uT));first|done|fail)|(simp;first|done|omega|fail))[hlt, h1]))
  refine B2B he (φ := fun r => r = .bool (p x)) (fun w' hw' => by simpa using hf w' hw'.ks x) ?_
  rintro _ rfl
  have hc := B1j (p := p) hx
  have hle : (l.take i).countP p ≤ i := Nat.le_trans List.countP_le_length (by simp; omega)
  have hL' := hL hlt () trivial
  rw [hc] at hL'
  cases hb : p x with
  | true =>
   rw [hb] at hL'
   (have zz:=trivial;repeat((first|clear zz|with_reducible first|refine A3 ?_|refine A4 fun _=>?_|refine A5 fun _=>?_);try simp(disch:=first|omega|assumption|((repeat(first|exact A1|exact uH|apply A2|apply uT));first|done|fail)|(simp;first|done|omega|fail))[]))
   exact Sels.tw .nil (by simpa using hL')
  | false =>
   rw [hb] at hL'
   (have zz:=trivial;repeat((first|clear zz|with_reducible first|refine A3 ?_|refine A4 fun _=>?_|refine A5 fun _=>?_);try simp(disch:=first|omega|assumption|((repeat(first|exact A1|exact uH|apply A2|apply uT));first|done|fail)|(simp;first|done|omega|fail))[]))
   exact Sels.tw .nil (by simpa using hL')
 ·obtain rfl : i = l.length := by omega
  (have zz:=trivial;repeat((first|clear zz|with_reducible first|refine A3 ?_|refine A4 fun _=>?_|refine A5 fun _=>?_);try simp(disch:=first|omega|assumption|((repeat(first|exact A1|exact uH|apply A2|apply uT));first|done|fail)|(simp;first|done|omega|fail))[]))
  exact A9 rfl
theorem B2H (w : World) (v : Value) (l : List EnV) (st : Int) (hn : l.length ≤ 1000000) (hv : D4 w v l.length (l.flatMap D5)) :
  Fn PR B7 105 #[v, .int .i64 st] w (fun r w' => r = .int .i64 (E9 l st : Nat) ∧ C6 [] w w') := by
 refine Fn.pure (B4C (TW.go (κ := false) (S := []) ?_))
 unfold A8N
 (have zz:=trivial;repeat((first|clear zz|with_reducible first|refine A3 ?_|refine A4 fun _=>?_|refine A5 fun _=>?_);try simp(disch:=first|omega|assumption|((repeat(first|exact A1|exact uH|apply A2|apply uT));first|done|fail)|(simp;first|done|omega|fail))[]))
 rename_i b
 refine B8 A4P (fun w' hw' => C4W w' v l (fun x => decide (x.st = st)) 136 [.pointer (some ⟨b, 0, none⟩)] hn (hv.ks hw'.ks (by simp)) B0F
  fun w2 h x => C07 w2 x st b (h.cell (by simp) (hw'.cell1 (by (repeat constructor))))) ?_
 exact A9 rfl
end Go.Proofs.YtlplkjgcfjdinaaGreat
namespace Go.Proofs.YtlplkjgcfjdinaaGreat
open Go
theorem B5Y (l : List EnV) : (l.flatMap D5).all plain = true := by
 rw [List.all_eq_true]; intro v hv; rw [List.mem_flatMap] at hv
 obtain ⟨x, _, hx⟩ := hv
 simp only [D5, List.mem_cons, List.not_mem_nil, or_false] at hx
 rcases hx with rfl | rfl | rfl | rfl <;> rfl
theorem A3d {α : Type} {f : α → List Value} {k : Nat} (hk : ∀ x, (f x).length = k) (l : List α) (i : Nat) (y : α) (hi : i < l.length) : A0H (l.flatMap f) (i * k) (f y) = (l.set i y).flatMap f := by
 have e1 := C2L hk l i
 have e2 := B02 hk l (i + 1)
 rw [Nat.add_mul, Nat.one_mul] at e2
 rw [A0H, hk, e1, e2, List.set_eq_take_append_cons_drop, if_pos hi, List.flatMap_append, List.flatMap_cons, List.append_assoc]
abbrev E8 (v : Value) (l : List EnV) : Res := .own 119 4 v l.length (l.flatMap D5)
def newE (n : Nat) : List EnV := List.replicate (min n 64) p5
theorem C5Q (n : Nat) : (Builtin.zeroCells (Value.agg #[.int .i64 0, .string W2, .int .i64 0, .int .i64 0]).cells n).toList = (List.replicate n p5).flatMap D5 := by
 have h4 : (Value.agg #[.int .i64 0, .string W2, .int .i64 0, .int .i64 0]).cells.size = 4 := rfl
 have hz : (Builtin.zeroCells (Value.agg #[.int .i64 0, .string W2, .int .i64 0, .int .i64 0]).cells n).toList.length = n * 4 := by simp [size_zeroCells]
 have hr : ((List.replicate n p5).flatMap D5).length = n * 4 := by rw [L5 (k := 4) fun _ => rfl]; simp
 apply List.ext_getElem (by rw [hz, hr])
 intro i h1 h2
 rw [hz] at h1
 have hf := Y4 (f := D5) (k := 4) (fun _ => rfl) (List.replicate n p5) (i / 4) (i % 4) (by omega)
 rw [show i / 4 * 4 + i % 4 = i by omega, List.getElem?_eq_getElem h2, List.getElem?_replicate_of_lt (by omega)] at hf
 have e : (Builtin.zeroCells (Value.agg #[.int .i64 0, .string W2, .int .i64 0, .int .i64 0]).cells n).toList[i]'(by rw [hz]; exact h1) = (Value.agg #[.int .i64 0, .string W2, .int .i64 0, .int .i64 0]).cells[i % 4]! := by
  simp [Builtin.zeroCells]
 rw [e]
 have h3 : i % 4 = 0 ∨ i % 4 = 1 ∨ i % 4 = 2 ∨ i % 4 = 3 := by omega
 rcases h3 with h3 | h3 | h3 | h3 <;> (rw [h3] at hf ⊢; simp [D5, p5] at hf ⊢; exact hf.symm)
theorem B1x (w : World) (n : Nat) (hn : n ≤ 1000000) : Fn PR B7 33 #[.int .i64 (n : Int)] w (Rn [] w (fun r u => u = r) fun r => [E8 r (newE n)]) := by
 refine B7U (TW.go (κ := false) (S := []) ?_)
 unfold B0W
 have e : max 0 (min (n : Int) 64) = ((min n 64 : Nat) : Int) := by omega
 (have zz:=trivial;repeat((first|clear zz|with_reducible first|refine A3 ?_|refine A4 fun _=>?_|refine A5 fun _=>?_);try simp(disch:=first|omega|assumption|((repeat(first|exact A1|exact uH|apply A2|apply uT));first|done|fail)|(simp;first|done|omega|fail))[e]))
 refine B4F (by omega) (by omega) (by omega) (by omega) fun bs => ?_
 rw [Int.toNat_natCast]
 refine A0K _ rfl ?_
 simp only [E8, newE, List.length_replicate, ← C5Q]
 exact List.Sublist.refl _
def F6 (l : List EnV) (x : EnV) : Option (List EnV) :=
 let at0 := D3 l x.key
 let at1 := if at0 < 0 then S9 l x.key else at0
 if at1 < 0 then none else some (l.set at1.toNat x)
theorem C4F {key : ByteArray} {n : Nat} : ∀ L : List (Nat × EnV), (∀ p ∈ L, p.1 < n) → 0 ≤ H9 key L → (H9 key L).toNat < n := by
 intro L
 induction L with
 | nil => intro _ h; simp [H9] at h
 | cons p L ih =>
  intro h h0
  simp only [H9] at h0 ⊢
  split
  ·rw [if_pos ‹_›] at h0; simp at h0
  ·rw [if_neg ‹_›] at h0
   split
   ·simpa using h p (by simp)
   ·rw [if_neg ‹_›] at h0; exact ih (fun q hq => h q (by simp [hq])) h0
theorem C4y {n : Nat} : ∀ L : List (Nat × EnV), (∀ p ∈ L, p.1 < n) → 0 ≤ P0 L → (P0 L).toNat < n := by
 intro L
 induction L with
 | nil => intro _ h; simp [P0] at h
 | cons p L ih =>
  intro h h0
  simp only [P0] at h0 ⊢
  split
  ·rw [if_pos ‹_›] at h0; exact ih (fun q hq => h q (by simp [hq])) h0
  ·simpa using h p (by simp)
theorem B9Y (l : List EnV) (key : ByteArray) : ∀ p ∈ N1 l key, p.1 < l.length := by
 intro p hp
 obtain ⟨i, hi, rfl⟩ := List.mem_map.1 hp
 exact Nat.mod_lt _ (by simp at hi; omega)
theorem A0L {l : List EnV} {key : ByteArray} (h : 0 ≤ D3 l key) : (D3 l key).toNat < l.length := C4F _ (B9Y l key) h
theorem B2T {l : List EnV} {key : ByteArray} (h : 0 ≤ S9 l key) : (S9 l key).toNat < l.length := by
 unfold S9 at h ⊢
 split
 ·rw [if_pos ‹_›] at h; simp at h
 ·rw [if_neg ‹_›] at h; exact C4y _ (B9Y l key) h
theorem A89 {l m : List EnV} {x : EnV} (h : F6 l x = some m) : m.length = l.length := by
 unfold F6 at h
 simp only at h
 by_cases c : (if D3 l x.key < 0 then S9 l x.key else D3 l x.key) < 0
 ·rw [if_pos c] at h; cases h
 ·rw [if_neg c] at h; injection h with h; rw [← h]; simp
theorem B9L (w : World) (v : Value) (l : List EnV) (x : EnV) (hk : x.key.size < 2 ^ 60) (hn : l.length ≤ 1000000) (hw : LW false (C3 [E8 v l]) w [E8 v l] w) :
  Fn PR B7 131 #[v, .agg #[.int .i64 x.st, .string x.key, .int .i64 x.bk, .int .i64 x.dl]] w (Rn (C3 [E8 v l]) w (fun (_ : Unit) u => u = .bool (F6 l x).isSome) fun _ => [E8 v ((F6 l x).getD l)]) := by
 refine B0J (TW.goH (κ := false) (S := C3 [E8 v l]) ?_ hw)
 unfold A3b
 (have zz:=trivial;repeat((first|clear zz|with_reducible first|refine A3 ?_|refine A4 fun _=>?_|refine A5 fun _=>?_);try simp(disch:=first|omega|assumption|((repeat(first|exact A1|exact uH|apply A2|apply uT));first|done|fail)|(simp;first|done|omega|fail))[]))
 rename_i bx
 refine B8 A0a (fun w' hw' => A2r w' v l x.key hk hn (G0.own (by (repeat constructor)) w' hw')) ?_
 have fin : ∀ r : Int, 0 ≤ r → r.toNat < l.length → F6 l x = some (l.set r.toNat x) → TW false (C3 [E8 v l]) w [.pt bx (.cells #[.int .i64 x.st, .string x.key, .int .i64 x.bk, .int .i64 x.dl] 119), E8 v l]
   (A0 PR (Instr.indexAt 205 v (.int .i64 r)) fun t21 => B6 PR B7 (Instr.storeAt 119 t21 (.agg #[.int .i64 x.st, .string x.key, .int .i64 x.bk, .int .i64 x.dl])) <|
    Rn (C3 [E8 v l]) w (fun (_ : Unit) u => u = .bool (F6 l x).isSome) (fun _ => [E8 v ((F6 l x).getD l)]) (.bool true)) := by
  intro r h0 hi hp
  obtain ⟨i, rfl⟩ : ∃ i : Nat, r = i := ⟨r.toNat, by omega⟩
  rw [Int.toNat_natCast] at hi hp
  refine A1n (e := 119) (k := 4) (v := v) (q := l.length) (xs := l.flatMap D5) (by (repeat constructor)) (by omega) ?_
  rintro g c rfl
  (have zz:=trivial;repeat((first|clear zz|with_reducible first|refine A3 ?_|refine A4 fun _=>?_|refine A5 fun _=>?_);try simp(disch:=first|omega|assumption|((repeat(first|exact A1|exact uH|apply A2|apply uT));first|done|fail)|(simp;first|done|omega|fail))[hi]))
  refine d9 (by (repeat constructor)) (by simp) (by rw [A19]; omega) (by simp) ?_
  refine C0 () (by simp [hp]) ?_
  have := A3d (f := D5) (k := 4) (fun _ => rfl) l i x hi
  simp only [hp, Option.getD_some, E8, List.length_set, ← this]
  (repeat' constructor)
 by_cases c1 : D3 l x.key < 0
 ·(have zz:=trivial;repeat((first|clear zz|with_reducible first|refine A3 ?_|refine A4 fun _=>?_|refine A5 fun _=>?_);try simp(disch:=first|omega|assumption|((repeat(first|exact A1|exact uH|apply A2|apply uT));first|done|fail)|(simp;first|done|omega|fail))[c1]))
  refine B8 B4v (fun w' hw' => B7D w' v l x.key hk hn (G0.own (by (repeat constructor)) w' hw')) ?_
  by_cases c2 : S9 l x.key < 0
  ·have hp : F6 l x = none := by simp [F6, c1, c2]
   (have zz:=trivial;repeat((first|clear zz|with_reducible first|refine A3 ?_|refine A4 fun _=>?_|refine A5 fun _=>?_);try simp(disch:=first|omega|assumption|((repeat(first|exact A1|exact uH|apply A2|apply uT));first|done|fail)|(simp;first|done|omega|fail))[c2]))
   exact C0 () (by simp [hp]) (by simp only [hp, Option.getD_none]; (repeat' constructor))
  ·have hp : F6 l x = some (l.set (S9 l x.key).toNat x) := by simp [F6, c1, c2]
   have := fin _ (by omega) (B2T (by omega)) hp
   simp(disch:=first|omega|assumption|((repeat(first|exact A1|exact uH|apply A2|apply uT));first|done|fail)|(simp;first|done|omega|fail))[c2]
   exact this
 ·have hp : F6 l x = some (l.set (D3 l x.key).toNat x) := by simp [F6, c1]
  have := fin _ (by omega) (A0L (by omega)) hp
  simp(disch:=first|omega|assumption|((repeat(first|exact A1|exact uH|apply A2|apply uT));first|done|fail)|(simp;first|done|omega|fail))[c1]
  exact this
def f7 : Nat → List EnV → List (Nat × EnV)
 | _, [] => []
 | i, x :: r => if x.st = 1 then (i, x) :: f7 (i + 1) r else f7 (i + 1) r
def N9 (l : List EnV) : List (Nat × EnV) := f7 0 l
theorem B47 (i : Nat) (l m : List EnV) : f7 i (l ++ m) = f7 i l ++ f7 (i + l.length) m := by
 induction l generalizing i with
 | nil => simp [f7]
 | cons x l ih =>
  simp only [List.cons_append, f7, ih, List.length_cons]
  split
  ·simp only [List.cons_append]; congr 3; omega
  ·congr 2; omega
theorem B2k {l : List EnV} {i : Nat} {x : EnV} (hx : l[i]? = some x) : N9 (l.take (i + 1)) = N9 (l.take i) ++ (if x.st = 1 then [(i, x)] else []) := by
 obtain ⟨hi, _⟩ := List.getElem?_eq_some_iff.1 hx
 rw [List.take_add_one, hx, N9, B47, Option.toList_some, List.length_take, Nat.zero_add, Nat.min_eq_left (by omega)]
 simp only [f7, N9]
theorem C3E {l : List EnV} {i : Nat} {x : EnV} (hx : l[i]? = some x) (h : x.st = 1) : (N9 l)[(N9 (l.take i)).length]? = some (i, x) := by
 have e : l = l.take (i + 1) ++ l.drop (i + 1) := (List.take_append_drop _ _).symm
 conv => lhs; arg 1; rw [e]
 rw [N9, B47, ← N9, B2k hx, if_pos h, List.append_assoc, List.getElem?_append_right (by omega)]
 simp
abbrev C5E (b : Nat) : Value := .func (.func 162) #[] #[.pointer (some ⟨b, 0, none⟩)]
theorem C5s (w : World) (v : Value) (hv : ∃ a n c, v = .slice a n c) : Fn PR B7 137 #[v] w (Rn [] w (fun b u => u = C5E b) fun b => [.pt b (.cells #[v] 205)]) := by
 obtain ⟨a, n, c, rfl⟩ := hv
 refine A9m (TW.go (κ := false) (S := []) ?_)
 unfold A25
 (have zz:=trivial;repeat((first|clear zz|with_reducible first|refine A3 ?_|refine A4 fun _=>?_|refine A5 fun _=>?_);try simp(disch:=first|omega|assumption|((repeat(first|exact A1|exact uH|apply A2|apply uT));first|done|fail)|(simp;first|done|omega|fail))[]))
 rename_i b
 exact A0K b rfl (by simp)
theorem C6A (b : Nat) (v : Value) (l : List EnV) (hn : l.length ≤ 1000000) : A4U (C5E b) [.pt b (.cells #[v] 205)] (RqS v l.length (l.flatMap D5)) ((N9 l).map A9H) := by
 refine ⟨_, _, _, rfl, fun y J E hJ hE stJ stE hy w0 h0 => ?_⟩
 obtain ⟨a, c, hv, hr⟩ := (hJ _ _ _ h0).2
 subst hv
 refine A6q (A6s (TW.at (κ := true) ?_ (hJ _ _ _ h0).1))
 unfold A1K
 (have zz:=trivial;repeat((first|clear zz|with_reducible first|refine A3 ?_|refine A4 fun _=>?_|refine A5 fun _=>?_);try simp(disch:=first|omega|assumption|((repeat(first|exact A1|exact uH|apply A2|apply uT));first|done|fail)|(simp;first|done|omega|fail))[]))
 refine A5B l.length (fun i => (N9 (l.take i)).length) (fun _ => _) hJ stJ (by simpa [N9, f7] using h0) fun i a' hi hJi hRi L hL => ?_
 by_cases hlt : i < l.length
 ·obtain ⟨_, _, hv, hr⟩ := hRi
  obtain ⟨b', o, hb, hrow, hnb⟩ := hr (by omega)
  cases hv
  subst hb
  obtain ⟨x, hx⟩ : ∃ x, l[i]? = some x := ⟨_, List.getElem?_eq_getElem hlt⟩
  have h1 := hrow.at (f := D5) (k := 4) (fun _ => rfl) hx
  rw [D5] at h1
  have hat := B2k hx
  by_cases c1 : x.st = 1
  ·have hg := C3E hx c1
   rw [if_pos c1] at hat
   obtain ⟨hgi, hg'⟩ := List.getElem?_eq_some_iff.1 hg
   have hlen : (N9 (l.take (i + 1))).length = (N9 (l.take i)).length + 1 := by rw [hat]; simp
   rw [hlen] at hL
   (have zz:=trivial;repeat((first|clear zz|with_reducible first|refine A3 ?_|refine A4 fun _=>?_|refine A5 fun _=>?_);try simp(disch:=first|omega|assumption|((repeat(first|exact A1|exact uH|apply A2|apply uT));first|done|fail)|(simp;first|done|omega|fail))[hlt, h1, c1]))
   refine A6n hJ hE stJ hy hJi (by simpa using hgi) (by rw [List.getElem_map, hg', A9H, c1]) (fun w3 h => ?_) (fun w3 h => ?_)
   ·(have zz:=trivial;repeat((first|clear zz|with_reducible first|refine A3 ?_|refine A4 fun _=>?_|refine A5 fun _=>?_);try simp(disch:=first|omega|assumption|((repeat(first|exact A1|exact uH|apply A2|apply uT));first|done|fail)|(simp;first|done|omega|fail))[]))
    exact fun w' hw' => hL hlt w' (stJ _ _ _ _ _ h (hw'.sub (by simp)))
   ·(have zz:=trivial;repeat((first|clear zz|with_reducible first|refine A3 ?_|refine A4 fun _=>?_|refine A5 fun _=>?_);try simp(disch:=first|omega|assumption|((repeat(first|exact A1|exact uH|apply A2|apply uT));first|done|fail)|(simp;first|done|omega|fail))[]))
    exact A3Y stE h
  ·rw [if_neg c1, List.append_nil] at hat
   rw [hat] at hL
   (have zz:=trivial;repeat((first|clear zz|with_reducible first|refine A3 ?_|refine A4 fun _=>?_|refine A5 fun _=>?_);try simp(disch:=first|omega|assumption|((repeat(first|exact A1|exact uH|apply A2|apply uT));first|done|fail)|(simp;first|done|omega|fail))[hlt, h1, c1]))
   exact fun w' hw' => hL hlt w' (stJ _ _ _ _ _ hJi (hw'.sub (by simp)))
 ·obtain rfl : i = l.length := by omega
  rw [List.take_length] at hJi
  (have zz:=trivial;repeat((first|clear zz|with_reducible first|refine A3 ?_|refine A4 fun _=>?_|refine A5 fun _=>?_);try simp(disch:=first|omega|assumption|((repeat(first|exact A1|exact uH|apply A2|apply uT));first|done|fail)|(simp;first|done|omega|fail))[]))
  exact A3q stJ (by simpa using hJi)
end Go.Proofs.YtlplkjgcfjdinaaGreat
namespace Go.Proofs.YtlplkjgcfjdinaaGreat
open Go
theorem B9v {w : World} {b : Nat} {T : TypeId} {l : List Value} (h : bl w b = some (.cells l.toArray T (0, 0))) : g4 w b 0 l.length = some l := A71 fun i hi => by
 rw [N2 h]; simp
theorem B3E (w : World) (v : Value) (l : List EnV) (f : FuncId) (cap : List Value) (o : Option (List EnV)) (ho : ∀ m, o = some m → m.length = l.length) (hn : l.length ≤ 1000000) (hv : D4 w v l.length (l.flatMap D5)) (he : B0 PR f)
  (hf : ∀ w' r, KS false [] w w' → (∀ b ∈ C3 [E8 r l], sz w ≤ b) → LW false (C3 [E8 r l]) w' [E8 r l] w' → Fn PR B7 f (r :: cap).toArray w' (Rn (C3 [E8 r l]) w' (fun (_ : Unit) u => u = .bool o.isSome) fun _ => [E8 r (o.getD l)])) :
  Fn PR B7 128 #[v, .func (.func f) #[] cap.toArray] w (Rn [] w (fun r u => u = .tuple #[if o.isSome then r else v, .bool o.isSome]) fun r => [E8 r (o.getD l)]) := by
 refine B2f (TW.go (κ := false) (S := []) ?_)
 unfold A5M
 refine F3 W3 (fun w' hw' => B5a w' v l.length (l.flatMap D5) hn (A19 l) (B5Y l) (hv.ks hw'.ks (by simp))) ?_
 rintro _ r rfl
 (have zz:=trivial;repeat((first|clear zz|with_reducible first|refine A3 ?_|refine A4 fun _=>?_|refine A5 fun _=>?_);try simp(disch:=first|omega|assumption|((repeat(first|exact A1|exact uH|apply A2|apply uT));first|done|fail)|(simp;first|done|omega|fail))[]))
 refine F9 (Hc := [E8 r l]) he (fun w' hw hs => hf w' r hw.ks (fun b hb => by
  obtain ⟨s, hs1, hb1⟩ := N5.1 hb
  rcases (hw.own s (List.mem_append_left _ hs1) b hb1).1 with h | h
  ·simp at h
  ·exact h) hs) (by (repeat' constructor)) ?_
 rintro _ _ rfl
 cases o with
 | none =>
  (have zz:=trivial;repeat((first|clear zz|with_reducible first|refine A3 ?_|refine A4 fun _=>?_|refine A5 fun _=>?_);try simp(disch:=first|omega|assumption|((repeat(first|exact A1|exact uH|apply A2|apply uT));first|done|fail)|(simp;first|done|omega|fail))[]))
  exact C0 r rfl (by (repeat' constructor))
 | some m =>
  (have zz:=trivial;repeat((first|clear zz|with_reducible first|refine A3 ?_|refine A4 fun _=>?_|refine A5 fun _=>?_);try simp(disch:=first|omega|assumption|((repeat(first|exact A1|exact uH|apply A2|apply uT));first|done|fail)|(simp;first|done|omega|fail))[]))
  exact C0 r rfl (by (repeat' constructor))
theorem C4M (w : World) (v : Value) (l : List EnV) (x : EnV) (b : Nat) (hk : x.key.size < 2 ^ 60) (hn : l.length ≤ 1000000) (hx : g4 w b 0 4 = some (D5 x)) (hb : b ∉ C3 [E8 v l]) (hw : LW false (C3 [E8 v l]) w [E8 v l] w) :
  Fn PR B7 130 #[v, .pointer (some ⟨b, 0, none⟩)] w (Rn (C3 [E8 v l]) w (fun (_ : Unit) u => u = .bool (F6 l x).isSome) fun _ => [E8 v ((F6 l x).getD l)]) := by
 refine B3N (TW.goH (κ := false) (S := C3 [E8 v l]) ?_ hw)
 unfold A6S
 rw [D5] at hx
 (have zz:=trivial;repeat((first|clear zz|with_reducible first|refine A3 ?_|refine A4 fun _=>?_|refine A5 fun _=>?_);try simp(disch:=first|omega|assumption|((repeat(first|exact A1|exact uH|apply A2|apply uT));first|done|fail)|(simp;first|done|omega|fail))[hx]))
 refine F9 (Hc := [E8 v l]) A21 (fun w' hw hs => B9L w' v l x hk hn hs) (by (repeat' constructor)) ?_
 rintro _ _ rfl
 exact C0 () rfl (by (repeat' constructor))
theorem B83 (w : World) (v : Value) (l : List EnV) (key : ByteArray) (bk dl : Int) (hk : key.size < 2 ^ 60) (hn : l.length ≤ 1000000) (hv : D4 w v l.length (l.flatMap D5)) :
  Fn PR B7 100 #[v, .string key, .int .i64 bk, .int .i64 dl] w (Rn [] w (fun r u => u = .tuple #[if (F6 l ⟨1, key, bk, dl⟩).isSome then r else v, .int .i64 (if (F6 l ⟨1, key, bk, dl⟩).isSome then 0 else 12)]) fun r => [E8 r ((F6 l ⟨1, key, bk, dl⟩).getD l)]) := by
 refine B66 (TW.go (κ := false) (S := []) ?_)
 unfold B0P
 (have zz:=trivial;repeat((first|clear zz|with_reducible first|refine A3 ?_|refine A4 fun _=>?_|refine A5 fun _=>?_);try simp(disch:=first|omega|assumption|((repeat(first|exact A1|exact uH|apply A2|apply uT));first|done|fail)|(simp;first|done|omega|fail))[]))
 rename_i b
 refine F3 A37 (fun w' hw' => B3E w' v l 130 [.pointer (some ⟨b, 0, none⟩)] (F6 l ⟨1, key, bk, dl⟩) (fun m h => A89 h) hn (hv.ks hw'.ks (by simp)) B19
  fun w2 r h hf hr => ?_) ?_
 ·have hp := hw'.pt (b := b) (by (repeat constructor))
  have hb : b < sz w' := M4 hp
  refine C4M w2 r l ⟨1, key, bk, dl⟩ b hk hn ?_ (fun hc => by have := hf b hc; omega) hr
  have hp2 := h.2.1 b _ (by simp) rfl hp
  exact B9v hp2
 ·rintro r _ rfl
  cases h : F6 l ⟨1, key, bk, dl⟩ with
  | none =>
   (have zz:=trivial;repeat((first|clear zz|with_reducible first|refine A3 ?_|refine A4 fun _=>?_|refine A5 fun _=>?_);try simp(disch:=first|omega|assumption|((repeat(first|exact A1|exact uH|apply A2|apply uT));first|done|fail)|(simp;first|done|omega|fail))[]))
   exact C0 r (by simp) (by (repeat' constructor))
  | some m =>
   (have zz:=trivial;repeat((first|clear zz|with_reducible first|refine A3 ?_|refine A4 fun _=>?_|refine A5 fun _=>?_);try simp(disch:=first|omega|assumption|((repeat(first|exact A1|exact uH|apply A2|apply uT));first|done|fail)|(simp;first|done|omega|fail))[]))
   exact C0 r (by simp) (by (repeat' constructor))
def P3 : EnV := ⟨2, W2, 0, 0⟩
def H7 (l : List EnV) : Prop := ∀ x ∈ l, x.key.size < 2 ^ 60
def U8 (acc : List EnV) (x : EnV) : List EnV := (F6 acc x).getD acc
theorem C3N (acc : List EnV) (x : EnV) : (U8 acc x).length = acc.length := by
 unfold U8
 cases h : F6 acc x with
 | none => rfl
 | some m => exact A89 h
def Y1 (l : List EnV) : List EnV := (N9 l).foldl (fun acc p => U8 acc p.2) (newE l.length)
theorem B16 (L : List (Nat × EnV)) (a : List EnV) : (L.foldl (fun acc p => U8 acc p.2) a).length = a.length := by
 induction L generalizing a with
 | nil => rfl
 | cons p L ih => rw [List.foldl_cons, ih, C3N]
theorem A5A (n : Nat) : (newE n).length = min n 64 := by simp [newE]
theorem B48 {i : Nat} {l : List EnV} : ∀ p ∈ f7 i l, p.2 ∈ l ∧ p.2.st = 1 := by
 induction l generalizing i with
 | nil => intro p hp; cases hp
 | cons x l ih =>
  intro p hp
  simp only [f7] at hp
  split at hp
  ·rcases List.mem_cons.1 hp with rfl | hp
   ·exact ⟨by simp, ‹_›⟩
   ·obtain ⟨h1, h2⟩ := ih p hp; exact ⟨by simp [h1], h2⟩
  ·obtain ⟨h1, h2⟩ := ih p hp; exact ⟨by simp [h1], h2⟩
theorem A2f {κ : Bool} {S : List Nat} {w0 : World} {H : List Res} {K0 : WP} {e : TypeId} {k : Nat} {v : Value} {q : Nat} {xs : List Value} (hm : Res.own e k v q xs ∈ H) (h : v.cells = #[v] → v.cells.size = 1 → v.cells.toList.all plain = true → TW κ S w0 H K0) : TW κ S w0 H K0 := fun w hw => by
 obtain ⟨a, c, rfl⟩ := V9.form (hw.hold _ hm); exact h rfl rfl rfl w hw
theorem Y3 {κ : Bool} {S : List Nat} {w0 : World} {H : List Res} {K0 : WP} {e : TypeId} {k : Nat} {v : Value} {q : Nat} {xs : List Value} (hm : Res.own e k v q xs ∈ H) (h : ∀ a c, v = .slice a q c → TW κ S w0 H K0) : TW κ S w0 H K0 := fun w hw => by
 obtain ⟨a, c, rfl⟩ := V9.form (hw.hold _ hm); exact h a c rfl w hw
theorem B9P (w : World) (v : Value) (l : List EnV) (hks : H7 l) (hn : l.length ≤ 1000000) (hv : D4 w v l.length (l.flatMap D5)) :
  Fn PR B7 106 #[v] w (Rn [] w (fun r u => u = r) fun r => [E8 r (Y1 l)]) := by
 refine B5x (TW.go (κ := false) (S := []) ?_)
 unfold A9U
 obtain ⟨a, c, rfl, _⟩ := hv.form
 (have zz:=trivial;repeat((first|clear zz|with_reducible first|refine A3 ?_|refine A4 fun _=>?_|refine A5 fun _=>?_);try simp(disch:=first|omega|assumption|((repeat(first|exact A1|exact uH|apply A2|apply uT));first|done|fail)|(simp;first|done|omega|fail))[]))
 refine F3 A9Y (fun w' _ => B1x w' l.length hn) ?_
 rintro _ r rfl
 refine A2f (e := 119) (k := 4) (v := r) (q := (newE l.length).length) (xs := (newE l.length).flatMap D5) (by (repeat constructor)) fun hr1 hr2 hr3 => ?_
 (have zz:=trivial;repeat((first|clear zz|with_reducible first|refine A3 ?_|refine A4 fun _=>?_|refine A5 fun _=>?_);try simp(disch:=first|omega|assumption|((repeat(first|exact A1|exact uH|apply A2|apply uT));first|done|fail)|(simp;first|done|omega|fail))[hr1]))
 rename_i bt
 refine F3 A80 (fun w' _ => C5s w' (.slice a l.length c) ⟨_, _, _, rfl⟩) ?_
 rintro b _ rfl
 refine A3V (C6A b (.slice a l.length c) l hn) (B2g _) (fun i (acc : List EnV) => acc = ((N9 l).take i).foldl (fun acc p => U8 acc p.2) (newE l.length)) (fun _ acc => [.pt bt (.cells #[r] 205), E8 r acc])
  (fun c (y : Unit) => False) (fun y => []) (newE l.length) (by simp) ?_ ?_ ?_ ?_ (by simp)
 ·intro i _ F w1 _ hw
  exact RqS.of hv (fun h => by rw [A19]; omega) hw
 ·rintro i hi acc F hψ K' hK _
  have hi' : i < (N9 l).length := by simpa using hi
  have hm : (N9 l)[i] ∈ N9 l := List.getElem_mem hi'
  have hst : ((N9 l).take (i + 1)).foldl (fun acc p => U8 acc p.2) (newE l.length) = U8 acc (N9 l)[i].2 := by
   rw [List.take_add_one, List.getElem?_eq_getElem hi', Option.toList_some, List.foldl_append, ← hψ]; rfl
  have hlen : acc.length ≤ 64 := by rw [hψ, B16, A5A]; omega
  simp only [List.getElem_map]
  generalize (N9 l)[i] = p at *
  have hkp := hks p.2 (B48 p hm).1
  simp only [A9H, VF.app]
  (have zz:=trivial;repeat((first|clear zz|with_reducible first|refine A3 ?_|refine A4 fun _=>?_|refine A5 fun _=>?_);try simp(disch:=first|omega|assumption|((repeat(first|exact A1|exact uH|apply A2|apply uT));first|done|fail)|(simp;first|done|omega|fail))[]))
  refine F9 (Hc := [E8 r acc]) A21 (fun w' hw hs => B9L w' r acc p.2 hkp (by omega) hs) (by (repeat' constructor)) ?_
  rintro _ _ rfl
  refine TW.sub (TW.perm (hK (U8 acc p.2) hst.symm) ?_) (H' := E8 r (U8 acc p.2) :: .pt bt (.cells #[r] 205) :: F) ?_
  ·exact List.Perm.swap ..
  ·simp only [U8]; ((try simp only [List.cons_append, List.nil_append, List.append_assoc]); (repeat (first | exact List.Sublist.refl _ | exact List.nil_sublist _ | with_reducible apply List.Sublist.cons_cons | apply List.Sublist.cons)); first | done | fail)
 ·intro acc hψ
  simp only [List.length_map, List.take_length] at hψ
  subst hψ
  (have zz:=trivial;repeat((first|clear zz|with_reducible first|refine A3 ?_|refine A4 fun _=>?_|refine A5 fun _=>?_);try simp(disch:=first|omega|assumption|((repeat(first|exact A1|exact uH|apply A2|apply uT));first|done|fail)|(simp;first|done|omega|fail))[]))
  exact C0 r rfl (by simp only [Y1]; (repeat' constructor))
 ·rintro _ _ h; exact h.elim
def U7 (l : List EnV) (key : ByteArray) : Option (List EnV) := if D3 l key < 0 then none else some (l.set (D3 l key).toNat P3)
theorem B72 {l m : List EnV} {key : ByteArray} (h : U7 l key = some m) : m.length = l.length := by
 unfold U7 at h
 by_cases c : D3 l key < 0
 ·rw [if_pos c] at h; cases h
 ·rw [if_neg c] at h; injection h with h; rw [← h]; simp
def H0 (u : List EnV) : List EnV := if u.length < 2 * E9 u 2 then Y1 u else u
def A1v (l : List EnV) (key : ByteArray) : List EnV := match U7 l key with | some u => H0 u | none => l
theorem B8j (w : World) (v : Value) (l : List EnV) (key : ByteArray) (b : Nat) (hk : key.size < 2 ^ 60) (hn : l.length ≤ 1000000) (hx : w.cell? ⟨b, 0, none⟩ = some (.string key)) (hb : b ∉ C3 [E8 v l]) (hw : LW false (C3 [E8 v l]) w [E8 v l] w) :
  Fn PR B7 129 #[v, .pointer (some ⟨b, 0, none⟩)] w (Rn (C3 [E8 v l]) w (fun (_ : Unit) u => u = .bool (U7 l key).isSome) fun _ => [E8 v ((U7 l key).getD l)]) := by
 refine B0k (TW.goH (κ := false) (S := C3 [E8 v l]) ?_ hw)
 unfold A3g
 (have zz:=trivial;repeat((first|clear zz|with_reducible first|refine A3 ?_|refine A4 fun _=>?_|refine A5 fun _=>?_);try simp(disch:=first|omega|assumption|((repeat(first|exact A1|exact uH|apply A2|apply uT));first|done|fail)|(simp;first|done|omega|fail))[hx]))
 refine B8 A0a (fun w' hw' => A2r w' v l key hk hn (G0.own (by (repeat constructor)) w' hw')) ?_
 by_cases c1 : D3 l key < 0
 ·have hd : U7 l key = none := if_pos c1
  (have zz:=trivial;repeat((first|clear zz|with_reducible first|refine A3 ?_|refine A4 fun _=>?_|refine A5 fun _=>?_);try simp(disch:=first|omega|assumption|((repeat(first|exact A1|exact uH|apply A2|apply uT));first|done|fail)|(simp;first|done|omega|fail))[c1]))
  exact C0 () (by simp [hd]) (by simp only [hd, Option.getD_none]; (repeat' constructor))
 ·have hd : U7 l key = some (l.set (D3 l key).toNat P3) := if_neg c1
  have hlt := A0L (l := l) (key := key) (by omega)
  have h0 : 0 ≤ D3 l key := by omega
  obtain ⟨i, hi⟩ : ∃ i : Nat, D3 l key = i := ⟨(D3 l key).toNat, by omega⟩
  rw [hi] at hd hlt c1 ⊢
  rw [Int.toNat_natCast] at hd hlt
  refine A1n (e := 119) (k := 4) (v := v) (q := l.length) (xs := l.flatMap D5) (by (repeat constructor)) (by omega) ?_
  rintro g c rfl
  (have zz:=trivial;repeat((first|clear zz|with_reducible first|refine A3 ?_|refine A4 fun _=>?_|refine A5 fun _=>?_);try simp(disch:=first|omega|assumption|((repeat(first|exact A1|exact uH|apply A2|apply uT));first|done|fail)|(simp;first|done|omega|fail))[c1, hlt]))
  refine d9 (by (repeat constructor)) (by simp) (by rw [A19]; omega) (by simp) ?_
  refine C0 () (by simp [hd]) ?_
  have := A3d (f := D5) (k := 4) (fun _ => rfl) l i P3 hlt
  simp only [hd, Option.getD_some, E8, List.length_set, ← this]
  (repeat' constructor)
theorem B4l (w : World) (v : Value) (l : List EnV) (key : ByteArray) (hk : key.size < 2 ^ 60) (hks : H7 l) (hn : l.length ≤ 1000000) (hv : D4 w v l.length (l.flatMap D5)) :
  Fn PR B7 99 #[v, .string key] w (Rn [] w (fun r u => u = .tuple #[if (U7 l key).isSome then r else v, .bool (U7 l key).isSome]) fun r => [E8 r (A1v l key)]) := by
 refine B3y (TW.go (κ := false) (S := []) ?_)
 unfold A56
 (have zz:=trivial;repeat((first|clear zz|with_reducible first|refine A3 ?_|refine A4 fun _=>?_|refine A5 fun _=>?_);try simp(disch:=first|omega|assumption|((repeat(first|exact A1|exact uH|apply A2|apply uT));first|done|fail)|(simp;first|done|omega|fail))[]))
 rename_i b
 refine F3 A37 (fun w' hw' => B3E w' v l 129 [.pointer (some ⟨b, 0, none⟩)] (U7 l key) (fun m h => B72 h) hn (hv.ks hw'.ks (by simp)) A9p
  fun w2 r h hf hr => ?_) ?_
 ·have hp := hw'.pt (b := b) (by (repeat constructor))
  have hb : b < sz w' := M4 hp
  exact B8j w2 r l key b hk hn (h.cell (by simp) (hw'.cell1 (by (repeat constructor)))) (fun hc => by have := hf b hc; omega) hr
 ·rintro r _ rfl
  cases h : U7 l key with
  | none =>
   have e : A1v l key = l := by simp [A1v, h]
   (have zz:=trivial;repeat((first|clear zz|with_reducible first|refine A3 ?_|refine A4 fun _=>?_|refine A5 fun _=>?_);try simp(disch:=first|omega|assumption|((repeat(first|exact A1|exact uH|apply A2|apply uT));first|done|fail)|(simp;first|done|omega|fail))[]))
   exact C0 r (by simp) (by rw [e]; (repeat' constructor))
  | some m =>
   have e : A1v l key = H0 m := by simp [A1v, h]
   have hml := B72 h
   have hmk : H7 m := by
    unfold U7 at h
    by_cases c : D3 l key < 0
    ·rw [if_pos c] at h; cases h
    ·rw [if_neg c] at h; injection h with h; rw [← h]
     intro x hx
     rcases List.mem_or_eq_of_mem_set hx with hx | rfl
     ·exact hks x hx
     ·simp [P3]
   simp only [Option.isSome_some, if_true, Option.getD_some]
   refine Y3 (e := 119) (k := 4) (v := r) (q := m.length) (xs := m.flatMap D5) (by (repeat constructor)) ?_
   rintro ra rc rfl
   (have zz:=trivial;repeat((first|clear zz|with_reducible first|refine A3 ?_|refine A4 fun _=>?_|refine A5 fun _=>?_);try simp(disch:=first|omega|assumption|((repeat(first|exact A1|exact uH|apply A2|apply uT));first|done|fail)|(simp;first|done|omega|fail))[]))
   refine B8 A2Y (fun w' hw' => B2H w' _ m 2 (by omega) (G0.own (by (repeat constructor)) w' hw')) ?_
   have hcl : E9 m 2 ≤ m.length := List.countP_le_length
   by_cases c1 : m.length < 2 * E9 m 2
   ·have c1' : (m.length : Int) < 2 * (E9 m 2 : Nat) := by omega
    have e2 : A1v l key = Y1 m := by rw [e, H0, if_pos c1]
    (have zz:=trivial;repeat((first|clear zz|with_reducible first|refine A3 ?_|refine A4 fun _=>?_|refine A5 fun _=>?_);try simp(disch:=first|omega|assumption|((repeat(first|exact A1|exact uH|apply A2|apply uT));first|done|fail)|(simp;first|done|omega|fail))[c1']))
    refine F3 A7r (fun w' hw' => B9P w' _ m hmk (by omega) (G0.own (by (repeat constructor)) w' hw')) ?_
    rintro _ r rfl
    exact C0 r rfl (by rw [e2]; (repeat' constructor))
   ·have c1' : ¬ (m.length : Int) < 2 * (E9 m 2 : Nat) := by omega
    have e2 : A1v l key = m := by rw [e, H0, if_neg c1]
    (have zz:=trivial;repeat((first|clear zz|with_reducible first|refine A3 ?_|refine A4 fun _=>?_|refine A5 fun _=>?_);try simp(disch:=first|omega|assumption|((repeat(first|exact A1|exact uH|apply A2|apply uT));first|done|fail)|(simp;first|done|omega|fail))[c1']))
    exact C0 (.slice ra m.length rc) rfl (by rw [e2]; (repeat' constructor))
def V2 (l : List EnV) : Bool := (N9 l).all fun p => decide (D3 l p.2.key = p.1)
end Go.Proofs.YtlplkjgcfjdinaaGreat
namespace Go.Proofs.YtlplkjgcfjdinaaGreat
open Go
def A99 (X : Nat → Prop) (t0 : Value) (R : Value → WP) : WP :=
 jn (n := 2) (fun t3 t10 =>
 R t3) fun J1 =>
 B2 PR X 158 [t0] fun t7 =>
 B2 PR X 157 [t7, (.func (.func 159) #[] #[])] fun t8 =>
 A0 PR (A7 .len #[239] 0 [t8]) fun t9 =>
 lp (n := 2) (fun L2 t3_1 t10_1 =>
 A0 PR (binOp .lss 3 t10_1 t9) fun t11 =>
 jn (n := 0) (
 jn (n := 1) (fun t3_2 =>
 A0 PR (binOp .add 3 t10_1 (.int .i64 1)) fun t18 =>
 L2 t3_2 t18) fun J3 =>
 A0 PR (Instr.indexAt 239 t8 t10_1) fun t12 =>
 A6 PR (Instr.loadAt 241 t12) fun t13 =>
 B1 PR X (Instr.alloc 241 true (.tuple #[])) fun t5 =>
 B6 PR X (Instr.storeAt 241 t5 t13) <|
 A6 PR (Instr.loadAt 241 t5) fun t15 =>
 B1 PR X (Instr.buildSlice 147 1 #[(0, t15)]) fun t16 =>
 B1 PR X (A7 .append #[147, 147] 147 [t3_1, t16]) fun t17 =>
 J3 t17) fun J4 =>
 B3 t11 (
 J4) (
 J1 t3_1 t10_1)) (.slice none 0 0) (.int .i64 0)
theorem B5y : B0 PR 127 := A8 Tryz.func127 (by kernel_rfl) rfl
theorem B8B {X : Nat → Prop} {t0 : Value} {R : Value → WP} {w : World} (h : A99 X t0 R w) : Fn PR X 127 #[t0] w R := C7 (args := [t0]) mixed Tryz.func127 (by kernel_rfl) h
def A77 (X : Nat → Prop) (t0 : Value) (R : Value → WP) : WP :=
 B1 PR X (Instr.box 50 t0) fun t1 =>
 A0 PR (Instr.makeFunc (.func 174) #[] #[t1]) fun t3 =>
 R t3
theorem B29 : B0 PR 158 := A8 Tryz.func158 (by kernel_rfl) rfl
theorem B45 {X : Nat → Prop} {t0 : Value} {R : Value → WP} {w : World} (h : A77 X t0 R w) : Fn PR X 158 #[t0] w R := C7 (args := [t0]) mixed Tryz.func158 (by kernel_rfl) h
def A2D (X : Nat → Prop) (t0 t1 : Value) (R : Value → WP) : WP :=
 B1 PR X (Instr.box 241 t0) fun t2 =>
 B1 PR X (Instr.box 241 t1) fun t3 =>
 drw <|
 A0 PR (Instr.fieldAt 241 t2 0) fun t5 =>
 A6 PR (Instr.loadAt 122 t5) fun t6 =>
 A0 PR (Instr.fieldAt 241 t3 0) fun t7 =>
 A6 PR (Instr.loadAt 122 t7) fun t8 =>
 A0 PR (Instr.fieldAt 241 t2 1) fun t10 =>
 A6 PR (Instr.loadAt 3 t10) fun t11 =>
 A0 PR (Instr.fieldAt 241 t3 1) fun t12 =>
 A6 PR (Instr.loadAt 3 t12) fun t13 =>
 B2 PR X 177 [t6, t8] fun t9 =>
 watch PR [(none, (Instr.loadAt 3 t12), t13), (none, (Instr.loadAt 3 t10), t11)] <|
 B2 PR X 22 [t11, t13] fun t14 =>
 B1 PR X (Instr.buildSlice 35 2 #[(0, t9), (1, t14)]) fun t15 =>
 B2 PR X 176 [t15] fun t16 =>
 R t16
theorem A64 : B0 PR 159 := A8 Tryz.func159 (by kernel_rfl) rfl
theorem A8a {X : Nat → Prop} {t0 t1 : Value} {R : Value → WP} {w : World} (h : A2D X t0 t1 R w) : Fn PR X 159 #[t0, t1] w R := C7 (args := [t0, t1]) mixed Tryz.func159 (by kernel_rfl) h
def A36 (X : Nat → Prop) (t0 t1 : Value) (R : Value → WP) : WP :=
 A6 PR (Instr.loadAt 50 t1) fun t6 =>
 A0 PR (A7 .len #[50] 0 [t6]) fun t7 =>
 lp (n := 1) (fun L1 t8 =>
 A0 PR (binOp .lss 3 t8 t7) fun t9 =>
 jn (n := 0) (
 jn (n := 1) (fun t17 =>
 A0 PR (binOp .add 3 t8 (.int .i64 1)) fun t31 =>
 L1 t31) fun J2 =>
 A0 PR (Instr.indexAt 50 t6 t8) fun t10 =>
 A6 PR (Instr.loadAt 129 t10) fun t11 =>
 B1 PR X (Instr.alloc 129 true (.tuple #[])) fun t4 =>
 B6 PR X (Instr.storeAt 129 t4 t11) <|
 A0 PR (Instr.fieldAt 129 t4 1) fun t12 =>
 A6 PR (Instr.loadAt 3 t12) fun t13 =>
 A0 PR (A7 .min #[3, 3] 0 [t13, (.int .i64 16)]) fun t14 =>
 A0 PR (A7 .max #[3, 3] 0 [(.int .i64 0), t14]) fun t15 =>
 A0 PR (binOp .mul 3 (.int .i64 8) t15) fun t16 =>
 lp (n := 1) (fun L3 t17_1 =>
 A0 PR (binOp .lss 3 t17_1 t16) fun t18 =>
 jn (n := 0) (
 jn (n := 0) (
 A0 PR (binOp .add 3 t17_1 (.int .i64 1)) fun t30 =>
 L3 t30) fun J4 =>
 drw <|
 A0 PR (Instr.fieldAt 129 t4 0) fun t21 =>
 A6 PR (Instr.loadAt 3 t21) fun t22 =>
 A0 PR (Instr.fieldAt 129 t4 0) fun t25 =>
 A6 PR (Instr.loadAt 3 t25) fun t26 =>
 B2 PR X 175 [t22, t17_1] fun t24 =>
 watch PR [(none, (Instr.loadAt 3 t25), t26)] <|
 A0 PR (Instr.build 241 #[(0, t24), (1, t26)]) fun t27 =>
 J0 PR X t0 [t27] fun t28 =>
 A0 PR (Op.unary .not t28) fun t29 =>
 B3 t29 (
 R (.tuple #[])) (
 J4)) fun J5 =>
 B3 t18 (
 J5) (
 J2 t17_1)) (.int .i64 0)) fun J6 =>
 B3 t9 (
 J6) (
 R (.tuple #[]))) (.int .i64 0)
theorem B0V : B0 PR 174 := A8 Tryz.func174 (by kernel_rfl) rfl
theorem B1e {X : Nat → Prop} {t0 t1 : Value} {R : Value → WP} {w : World} (h : A36 X t0 t1 R w) : Fn PR X 174 #[t0, t1] w R := C7 (args := [t0, t1]) mixed Tryz.func174 (by kernel_rfl) h
theorem B1d {X : Nat → Prop} {t0 t1 : Value} {K : Value → WP} {w : World} (h : Fn PR X 174 #[t0, t1] w K) : A12 PR X 174 [t0, t1] K w := ⟨B0V, h⟩
def A7k (X : Nat → Prop) (t0 t1 : Value) (R : Value → WP) : WP :=
 A0 PR (convert 3 122 t0) fun t6 =>
 B2 PR X 95 [t6, (.int .i64 4)] fun t7 =>
 B2 PR X 96 [t7] fun t8 =>
 A0 PR (convert 3 122 t1) fun t10 =>
 B2 PR X 95 [t10, (.int .i64 2)] fun t11 =>
 B2 PR X 95 [(.int .u64 0), (.int .i64 4)] fun t12 =>
 A0 PR (binOp .add 9 t11 t12) fun t13 =>
 B2 PR X 123 [t8, t13] fun t14 =>
 R t14
theorem B3P : B0 PR 175 := A8 Tryz.func175 (by kernel_rfl) rfl
theorem B46 {X : Nat → Prop} {t0 t1 : Value} {R : Value → WP} {w : World} (h : A7k X t0 t1 R w) : Fn PR X 175 #[t0, t1] w R := C7 (args := [t0, t1]) mixed Tryz.func175 (by kernel_rfl) h
end Go.Proofs.YtlplkjgcfjdinaaGreat
namespace Go.Proofs.YtlplkjgcfjdinaaGreat
open Go
def A4M (id : Int) (n : Nat) : Nat := A87 (S1 (F7 (IntKind.u64.wrap id) 4)) (F7 n 2 ++ F7 0 4)
theorem C6D (w : World) (id : Int) (n : Nat) (hn : n < 2 ^ 62) : Fn PR B7 175 #[.int .i64 id, .int .i64 (n : Int)] w (fun v w' => v = .int .u64 (A4M id n : Nat) ∧ C6 [] w w') := by
 refine Fn.pure (B46 (TW.go (κ := false) (S := []) ?_))
 unfold A7k
 (have zz:=trivial;repeat((first|clear zz|with_reducible first|refine A3 ?_|refine A4 fun _=>?_|refine A5 fun _=>?_);try simp(disch:=first|omega|assumption|((repeat(first|exact A1|exact uH|apply A2|apply uT));first|done|fail)|(simp;first|done|omega|fail))[]))
 refine B8 M9 (fun w' hw' => A0J w' _ _) ?_
 (have zz:=trivial;repeat((first|clear zz|with_reducible first|refine A3 ?_|refine A4 fun _=>?_|refine A5 fun _=>?_);try simp(disch:=first|omega|assumption|((repeat(first|exact A1|exact uH|apply A2|apply uT));first|done|fail)|(simp;first|done|omega|fail))[]))
 refine B8 A3M (fun w' _ => A6f w' _ (by simp)) ?_
 (have zz:=trivial;repeat((first|clear zz|with_reducible first|refine A3 ?_|refine A4 fun _=>?_|refine A5 fun _=>?_);try simp(disch:=first|omega|assumption|((repeat(first|exact A1|exact uH|apply A2|apply uT));first|done|fail)|(simp;first|done|omega|fail))[]))
 refine B8 M9 (fun w' hw' => A0J w' _ _) ?_
 (have zz:=trivial;repeat((first|clear zz|with_reducible first|refine A3 ?_|refine A4 fun _=>?_|refine A5 fun _=>?_);try simp(disch:=first|omega|assumption|((repeat(first|exact A1|exact uH|apply A2|apply uT));first|done|fail)|(simp;first|done|omega|fail))[]))
 refine B8 M9 (fun w' hw' => A0J w' _ _) ?_
 (have zz:=trivial;repeat((first|clear zz|with_reducible first|refine A3 ?_|refine A4 fun _=>?_|refine A5 fun _=>?_);try simp(disch:=first|omega|assumption|((repeat(first|exact A1|exact uH|apply A2|apply uT));first|done|fail)|(simp;first|done|omega|fail))[T6]))
 refine B8 A98 (fun w' _ => B9N w' _ _ (A8W _) (by simp)) ?_
 exact A9 rfl
def n9 (b : G2) : Nat := 8 * (max 0 (min b.2 16)).toNat
def A0M (b : G2) : List (Nat × Int) := (List.range (n9 b)).map fun n => (A4M b.1 n, b.1)
def G4 (p : List G2) : List (Nat × Int) := p.flatMap A0M
def E0 (x : Nat × Int) : List Value := [.int .u64 (x.1 : Nat), .int .i64 x.2]
def ptA (x : Nat × Int) : List Value := [.agg #[.int .u64 (x.1 : Nat), .int .i64 x.2]]
abbrev B3m (b : Nat) : Value := .func (.func 174) #[] #[.pointer (some ⟨b, 0, none⟩)]
theorem C3a (w : World) (v : Value) (hv : ∃ a n c, v = .slice a n c) : Fn PR B7 158 #[v] w (Rn [] w (fun b u => u = B3m b) fun b => [.pt b (.cells #[v] 50)]) := by
 obtain ⟨a, n, c, rfl⟩ := hv
 refine B45 (TW.go (κ := false) (S := []) ?_)
 unfold A77
 (have zz:=trivial;repeat((first|clear zz|with_reducible first|refine A3 ?_|refine A4 fun _=>?_|refine A5 fun _=>?_);try simp(disch:=first|omega|assumption|((repeat(first|exact A1|exact uH|apply A2|apply uT));first|done|fail)|(simp;first|done|omega|fail))[]))
 rename_i b
 exact A0K b rfl (by simp)
theorem B9H {p : List G2} {i : Nat} {x : G2} (hx : p[i]? = some x) : G4 (p.take (i + 1)) = G4 (p.take i) ++ A0M x := by
 rw [List.take_add_one, hx]; simp [G4]
theorem C4z {p : List G2} {i n : Nat} {x : G2} (hx : p[i]? = some x) (hn : n < n9 x) : (G4 p)[(G4 (p.take i)).length + n]? = some (A4M x.1 n, x.1) := by
 have e : p = p.take (i + 1) ++ p.drop (i + 1) := (List.take_append_drop _ _).symm
 conv => lhs; arg 1; rw [e]
 have h2 : G4 (p.take (i + 1) ++ p.drop (i + 1)) = G4 (p.take (i + 1)) ++ G4 (p.drop (i + 1)) := by simp only [G4, List.flatMap_append]
 rw [h2, B9H hx, List.append_assoc, List.getElem?_append_right (by omega), Nat.add_sub_cancel_left, List.getElem?_append_left (by simp [A0M, hn])]
 simp [A0M, hn]
theorem C5C (b : Nat) (v : Value) (p : List G2) (hn : p.length ≤ 1000000) : A4U (B3m b) [.pt b (.cells #[v] 50)] (RqS v p.length (p.flatMap E7)) ((G4 p).map ptA) := by
 refine ⟨_, _, _, rfl, fun y J E hJ hE stJ stE hy w0 h0 => ?_⟩
 obtain ⟨a, c, hv, hr⟩ := (hJ _ _ _ h0).2
 subst hv
 refine B1d (B1e (TW.at (κ := true) ?_ (hJ _ _ _ h0).1))
 unfold A36
 (have zz:=trivial;repeat((first|clear zz|with_reducible first|refine A3 ?_|refine A4 fun _=>?_|refine A5 fun _=>?_);try simp(disch:=first|omega|assumption|((repeat(first|exact A1|exact uH|apply A2|apply uT));first|done|fail)|(simp;first|done|omega|fail))[]))
 refine A5B p.length (fun i => (G4 (p.take i)).length) (fun _ => _) hJ stJ (by simpa [G4] using h0) fun i a' hi hJi hRi L hL => ?_
 by_cases hlt : i < p.length
 ·obtain ⟨_, _, hv, hr⟩ := hRi
  obtain ⟨b', o, hb, hrow, hnb⟩ := hr (by omega)
  cases hv
  subst hb
  obtain ⟨x, hx⟩ : ∃ x, p[i]? = some x := ⟨_, List.getElem?_eq_getElem hlt⟩
  have h1 := hrow.at (f := E7) (k := 2) (fun _ => rfl) hx
  rw [E7] at h1
  have hlen : (G4 (p.take (i + 1))).length = (G4 (p.take i)).length + n9 x := by rw [B9H hx]; simp [A0M]
  rw [hlen] at hL
  have hw : 8 * max 0 (min x.2 16) = (n9 x : Nat) := by unfold n9; omega
  have hwl : n9 x ≤ 128 := by unfold n9; omega
  (have zz:=trivial;repeat((first|clear zz|with_reducible first|refine A3 ?_|refine A4 fun _=>?_|refine A5 fun _=>?_);try simp(disch:=first|omega|assumption|((repeat(first|exact A1|exact uH|apply A2|apply uT));first|done|fail)|(simp;first|done|omega|fail))[hlt, h1]))
  rename_i b4
  rw [hw]
  refine A5B (n9 x) (fun n => (G4 (p.take i)).length + n) (fun _ => _) hJ stJ hJi fun n a2 hi2 hJn hRn L2 hL2 => ?_
  by_cases hlt2 : n < n9 x
  ·have hg := C4z hx hlt2
   obtain ⟨hgi, hg'⟩ := List.getElem?_eq_some_iff.1 hg
   (have zz:=trivial;repeat((first|clear zz|with_reducible first|refine A3 ?_|refine A4 fun _=>?_|refine A5 fun _=>?_);try simp(disch:=first|omega|assumption|((repeat(first|exact A1|exact uH|apply A2|apply uT));first|done|fail)|(simp;first|done|omega|fail))[hlt2]))
   refine B8 B3P (fun w' _ => C6D w' x.1 n (by omega)) ?_
   (have zz:=trivial;repeat((first|clear zz|with_reducible first|refine A3 ?_|refine A4 fun _=>?_|refine A5 fun _=>?_);try simp(disch:=first|omega|assumption|((repeat(first|exact A1|exact uH|apply A2|apply uT));first|done|fail)|(simp;first|done|omega|fail))[]))
   refine A6n hJ hE stJ hy hJn (by simpa using hgi) (by rw [List.getElem_map, hg', ptA]) (fun w3 h => ?_) (fun w3 h => ?_)
   ·(have zz:=trivial;repeat((first|clear zz|with_reducible first|refine A3 ?_|refine A4 fun _=>?_|refine A5 fun _=>?_);try simp(disch:=first|omega|assumption|((repeat(first|exact A1|exact uH|apply A2|apply uT));first|done|fail)|(simp;first|done|omega|fail))[]))
    exact fun w' hw' => hL2 hlt2 w' (stJ _ _ _ _ _ h hw')
   ·(have zz:=trivial;repeat((first|clear zz|with_reducible first|refine A3 ?_|refine A4 fun _=>?_|refine A5 fun _=>?_);try simp(disch:=first|omega|assumption|((repeat(first|exact A1|exact uH|apply A2|apply uT));first|done|fail)|(simp;first|done|omega|fail))[]))
    exact A3Y stE h
  ·obtain rfl : n = n9 x := by omega
   (have zz:=trivial;repeat((first|clear zz|with_reducible first|refine A3 ?_|refine A4 fun _=>?_|refine A5 fun _=>?_);try simp(disch:=first|omega|assumption|((repeat(first|exact A1|exact uH|apply A2|apply uT));first|done|fail)|(simp;first|done|omega|fail))[]))
   exact fun w' hw' => hL hlt w' (stJ _ _ _ _ _ hJn (hw'.sub (by simp)))
 ·obtain rfl : i = p.length := by omega
  rw [List.take_length] at hJi
  (have zz:=trivial;repeat((first|clear zz|with_reducible first|refine A3 ?_|refine A4 fun _=>?_|refine A5 fun _=>?_);try simp(disch:=first|omega|assumption|((repeat(first|exact A1|exact uH|apply A2|apply uT));first|done|fail)|(simp;first|done|omega|fail))[]))
  exact A3q stJ (by simpa using hJi)
end Go.Proofs.YtlplkjgcfjdinaaGreat
