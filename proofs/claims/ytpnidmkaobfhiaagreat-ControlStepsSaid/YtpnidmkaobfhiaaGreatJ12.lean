/- The proof of a given statement, a part of it (Packet Bytes Sl Pool Vals ShProbe ShFnv Fnv Probe). No condition but what each lemma says. -/
import Derived.Lib.SlBytesRow
import Derived.Test.YtpnidmkaobfhiaaGreatJ11
set_option linter.unusedVariables false
set_option linter.unusedSimpArgs false
namespace Go.Proofs.YtpnidmkaobfhiaaGreat
open Go
structure KeyV where
 v : Int
 src : ByteArray
 dst : ByteArray
 fr : Int
 tp : Int
 proto : Int
 deriving DecidableEq
def KeyV.cs (k : KeyV) : List Value := [.int .i64 k.v, .string k.src, .string k.dst, .int .i64 k.fr, .int .i64 k.tp, .int .i64 k.proto]
def KeyV.val (k : KeyV) : Value := .agg #[.int .i64 k.v, .string k.src, .string k.dst, .int .i64 k.fr, .int .i64 k.tp, .int .i64 k.proto]
def noK : KeyV := ⟨0, noB, noB, 0, 0, 0⟩
def C61 (s : ByteArray) : KeyV × ByteArray × Nat :=
 if s.size = 0 then (noK, noB, 2) else if A0A s 0 / 16 = 4 then (⟨4, (B5g s).src, (B5g s).dst, 0, 0, (B5g s).proto⟩, (B5g s).rest, (B5g s).e)
 else if A0A s 0 / 16 = 6 then (⟨6, (B66 s).src, (B66 s).dst, 0, 0, (B66 s).proto⟩, (B66 s).rest, (B66 s).e) else (noK, noB, 3)
def keyed.val (x : KeyV × ByteArray × Nat) : Value := .tuple #[x.1.val, .string x.2.1, .int .i64 x.2.2]
def M2 (s : ByteArray) : KeyV × Nat × Nat :=
 let x := C61 s
 if x.2.2 ≠ 0 then (noK, 0, x.2.2) else let y := C4U x.1.proto x.2.1; if y.2.2.2 ≠ 0 then (noK, 0, y.2.2.2) else ({ x.1 with fr := y.1, tp := y.2.1 }, y.2.2.1, 0)
def C42 (k : KeyV) (f : Int) : Value := .agg #[.int .i64 k.v, .string k.src, .string k.dst, .int .i64 k.fr, .int .i64 k.tp, .int .i64 k.proto, .int .i64 f]
def packet.val (x : KeyV × Nat × Nat) : Value := .tuple #[C42 x.1 x.2.1, .int .i64 x.2.2]
def B14 (k : KeyV) (f : Int) : Bool := decide (k.proto = 6) && !decide (IntKind.i64.wrap ((f % 2 ^ IntKind.i64.bits).toNat &&& 5 % 2 ^ IntKind.i64.bits : Nat) = 0)
end Go.Proofs.YtpnidmkaobfhiaaGreat
namespace Go.Proofs.YtpnidmkaobfhiaaGreat
open Go
section
variable {κ : Bool} {X : Nat → Prop} {S : List Nat} {w0 : World} {H H' : List Res} {K : Value → WP}
def A96 (s : ByteArray) (o : Nat) (t : ByteArray) : ByteArray := s.extract 0 o ++ t ++ s.extract (o + t.size) s.size
def z38 : ByteArray := B8p z1 38
theorem C2b : z38.size = 38 := C0A 38
end
def B2g (v : Int) : Nat := if v = 4 then 4 else if v = 6 then 16 else 0
def B7p (k : KeyV) : Bool := decide (B2g k.v ≠ 0 ∧ k.src.size = B2g k.v ∧ k.dst.size = B2g k.v ∧ (C7H k.proto k.fr k.tp 0).2 = 0)
def C0x (k : KeyV) : ByteArray := A96 (A96 (A96 z38 0 (Z8 (k.v * 256 + k.proto) 2 ++ Z8 k.fr 2 ++ Z8 k.tp 2)) 6 k.src) 22 k.dst
end Go.Proofs.YtpnidmkaobfhiaaGreat
namespace Go.Proofs.YtpnidmkaobfhiaaGreat
open Go
@[simp] theorem D2a {κ : Bool} {S : List Nat} {w0 : World} {H : List Res} {K : Value → WP} {t : TypeId} {z : Value} [h : TS t z] {b o : Nat} {c : Array Value} {T : TypeId} {f : Nat × Nat} (hm : Res.pt b (.cells c T f) ∈ H) :
  TW κ S w0 H (A6 PR (F1 [.c t (.pointer (some ⟨b, o, none⟩))]) K) = TW κ S w0 H (rdc c[o]? K (A6 PR (F1 [.c t (.pointer (some ⟨b, o, none⟩))]) K)) := by
 cases hc : c[o]? with
 | none => rfl
 | some v => rw [C6q hm hc]; rfl
abbrev G8 := Int × Int
def E6 (b : G8) : List Value := [.int .i64 b.1, .int .i64 b.2]
structure EnV where
 st : Int
 key : ByteArray
 bk : Int
 dl : Int
 deriving DecidableEq
def E3 (x : EnV) : List Value := [.int .i64 x.st, .string x.key, .int .i64 x.bk, .int .i64 x.dl]
theorem C6Z {t u : TypeId} {n m : Nat} {z : Value} {a : Option Addr} {l c e : Nat} (h : TI PR t (.slice u) n m z) : EqV PR (e + 1) t (.slice a l c) (.slice none 0 0) a.isNone := by
 intro w
 cases a with
 | none => simp only [Op.equalIn, Sem.run_bind, h.run_und, Result.andThen_ok, Sem.run_pure, Option.isNone]
 | some a => simp only [Op.equalIn, Sem.run_bind, h.run_und, Result.andThen_ok, Sem.run_pure]; rfl
theorem C6c {t u : TypeId} {n m : Nat} {z : Value} (h : TI PR t (.slice u) n m z) (x y : Operand) (a : Option Addr) (l c : Nat) (K : Value → WP) :
  A6 PR (J0 .eql t x y (.slice a l c) (.slice none 0 0)) K = K (.bool a.isNone) := by
 funext w
 refine A0F ?_ K
 have h1 : (eqGuard .eql t x y (.slice a l c) (.slice none 0 0)).run PR w = .ok () w := by simp [eqGuard]
 have h2 : (Op.equalIn 10000 t (.slice a l c) (.slice none 0 0)).run PR w = .ok a.isNone w := C6Z (e := 9999) h w
 simp [J0, h1, binOp, Op.equal, Op.maxDepth, h2]
theorem C4T (x y : Operand) (a : Option Addr) (l c : Nat) (K : Value → WP) : A6 PR (J0 .eql 36 x y (.slice a l c) (.slice none 0 0)) K = K (.bool a.isNone) := C6c A9G x y a l c K
theorem C4S (x y : Operand) (a : Option Addr) (l c : Nat) (K : Value → WP) : A6 PR (J0 .eql 55 x y (.slice a l c) (.slice none 0 0)) K = K (.bool a.isNone) := C6c A8n x y a l c K
theorem C1u (w : World) (v : Value) (n : Nat) (xs : List Value) (hn : n ≤ 1000000) (hx : xs.length = n * 2) (hp : xs.all plain = true) (hv : D2 w v n xs) :
  Fn PR B6 72 #[v] w (Rn [] w (fun r u => u = r) fun r => [.own 83 2 r n xs]) := by
 obtain ⟨a, c, rfl, hr⟩ := hv.form
 refine s8 (TW.go (κ := false) (S := []) ?_)
 unfold V5
 cases a with
 | none =>
  obtain rfl : n = 0 := by
   rcases Nat.eq_zero_or_pos n with h | h
   ·exact h
   ·obtain ⟨_, _, h, _⟩ := hr h; cases h
  obtain rfl : xs = [] := List.length_eq_zero_iff.1 (by omega)
  (have zz:=trivial;repeat((first|clear zz|with_reducible first|refine A3 ?_|refine A5 fun _=>?_|refine A4 fun _=>?_);try simp(disch:=first|omega|assumption|((repeat(first|exact A1|exact uH|apply A2|apply uT));first|done|fail)|(simp;first|done|omega|fail))[C4T]))
  refine j9 83 2 ?_
  exact A40 (.slice none 0 0) rfl (by simp)
 | some a =>
  (have zz:=trivial;repeat((first|clear zz|with_reducible first|refine A3 ?_|refine A5 fun _=>?_|refine A4 fun _=>?_|refine T6 fun _=>?_|refine T0 (hK:=fun _=>?_)|refine T8 (hK:=fun _=>?_)|refine T2 (hK:=fun _=>?_)|refine T3 (hK:=fun _=>?_)|refine T7 (hK:=fun _=>?_));try simp(disch:=first|omega|assumption|((repeat(first|exact A1|exact uH|apply A2|apply uT));first|done|fail)|(simp;first|done|omega|fail))[C4T]))
  refine W9 (by (repeat constructor)) (H3.old0 hv) (by decide) hx hp (by simp only [maxLen]; omega) (by omega) fun a' c' => ?_
  simp only [Nat.zero_add, List.nil_append]
  exact B0 _ rfl (by (repeat' constructor))
theorem C1g (w : World) (v : Value) (n : Nat) (xs : List Value) (hn : n ≤ 1000000) (hx : xs.length = n * 4) (hp : xs.all plain = true) (hv : D2 w v n xs) :
  Fn PR B6 71 #[v] w (Rn [] w (fun r u => u = r) fun r => [.own 155 4 r n xs]) := by
 obtain ⟨a, c, rfl, hr⟩ := hv.form
 refine A0L (TW.go (κ := false) (S := []) ?_)
 unfold Z0
 cases a with
 | none =>
  obtain rfl : n = 0 := by
   rcases Nat.eq_zero_or_pos n with h | h
   ·exact h
   ·obtain ⟨_, _, h, _⟩ := hr h; cases h
  obtain rfl : xs = [] := List.length_eq_zero_iff.1 (by omega)
  (have zz:=trivial;repeat((first|clear zz|with_reducible first|refine A3 ?_|refine A5 fun _=>?_|refine A4 fun _=>?_);try simp(disch:=first|omega|assumption|((repeat(first|exact A1|exact uH|apply A2|apply uT));first|done|fail)|(simp;first|done|omega|fail))[C4S]))
  refine j9 155 4 ?_
  exact A40 (.slice none 0 0) rfl (by simp)
 | some a =>
  (have zz:=trivial;repeat((first|clear zz|with_reducible first|refine A3 ?_|refine A5 fun _=>?_|refine A4 fun _=>?_|refine T6 fun _=>?_|refine T0 (hK:=fun _=>?_)|refine T8 (hK:=fun _=>?_)|refine T2 (hK:=fun _=>?_)|refine T3 (hK:=fun _=>?_)|refine T7 (hK:=fun _=>?_));try simp(disch:=first|omega|assumption|((repeat(first|exact A1|exact uH|apply A2|apply uT));first|done|fail)|(simp;first|done|omega|fail))[C4S]))
  refine W9 (by (repeat constructor)) (H3.old0 hv) (by decide) hx hp (by simp only [maxLen]; omega) (by omega) fun a' c' => ?_
  simp only [Nat.zero_add, List.nil_append]
  exact B0 _ rfl (by (repeat' constructor))
theorem C5p {α : Type} {l m : List α} (hl : l.length = m.length) (h : ∀ j, j < l.length → l[j]? = m[j]?) : l = m := List.ext_getElem? fun i => by
 by_cases hi : i < l.length
 ·exact h i hi
 ·rw [List.getElem?_eq_none (by omega), List.getElem?_eq_none (by omega)]
def B01 {α : Type} (p : α → Bool) (l : List α) : Int := match l.findIdx? p with | some i => i | none => -1
theorem B0l {α : Type} {p : α → Bool} {l : List α} {i : Nat} {x : α} (hx : l[i]? = some x) (hp : p x = true) (h : ∀ j y, j < i → l[j]? = some y → p y = false) : B01 p l = i := by
 have : l.findIdx? p = some i := by
  rw [List.findIdx?_eq_some_iff_getElem]
  obtain ⟨hi, e⟩ := List.getElem?_eq_some_iff.1 hx
  exact ⟨hi, by rw [e]; exact hp, fun j hj => by rw [h j l[j] hj (List.getElem?_eq_getElem (by omega))]; simp⟩
 simp [B01, this]
theorem B4g {α : Type} {p : α → Bool} {l : List α} (h : ∀ (j : Nat) y, l[j]? = some y → p y = false) : B01 p l = -1 := by
 have : l.findIdx? p = none := by
  rw [List.findIdx?_eq_none_iff]; intro x hx; obtain ⟨i, hi, rfl⟩ := List.getElem_of_mem hx; exact h i _ (List.getElem?_eq_getElem hi)
 simp [B01, this]
theorem B5A (w : World) (v : Value) (l : List (Int × Int)) (p : Int × Int → Bool) (f : FuncId) (cap : List Value) (hn : l.length ≤ 1000000) (hv : D2 w v l.length (l.flatMap E6)) (he : B2 PR f)
  (hf : ∀ w', KS false [] w w' → ∀ x : Int × Int, Fn PR B6 f (.agg #[.int .i64 x.1, .int .i64 x.2] :: cap).toArray w' (fun r w'' => r = .bool (p x) ∧ D6 [] w' w'')) :
  Fn PR B6 160 #[v, .func (.func f) #[] cap.toArray] w (fun r w' => r = .int .i64 (B01 p l) ∧ D6 [] w w') := by
 refine Fn.pure (A2Q (TW.go (κ := false) (S := []) ?_))
 unfold e9
 obtain ⟨a, c, rfl, hr⟩ := hv.form
 (have zz:=trivial;repeat((first|clear zz|with_reducible first|refine A3 ?_|refine A5 fun _=>?_|refine A4 fun _=>?_);try simp(disch:=first|omega|assumption|((repeat(first|exact A1|exact uH|apply A2|apply uT));first|done|fail)|(simp;first|done|omega|fail))[]))
 refine Q6 (α := Unit) l.length (fun _ _ => .int .i64 0) (fun _ _ => []) (fun i _ => ∀ j y, j < i → l[j]? = some y → p y = false) () (by intro j _ hj; omega) ?_
 rintro i _ hi hpre L hL
 by_cases hlt : i < l.length
 ·obtain ⟨b, o, rfl, hrow⟩ := hr (by omega)
  obtain ⟨x, hx⟩ : ∃ x, l[i]? = some x := ⟨_, List.getElem?_eq_getElem (by omega)⟩
  have h1 := hrow.at (f := E6) (k := 2) (fun _ => rfl) hx
  rw [E6] at h1
  (have zz:=trivial;repeat((first|clear zz|with_reducible first|refine A3 ?_|refine A5 fun _=>?_|refine A4 fun _=>?_);try simp(disch:=first|omega|assumption|((repeat(first|exact A1|exact uH|apply A2|apply uT));first|done|fail)|(simp;first|done|omega|fail))[hlt, h1]))
  refine C3U he (φ := fun r => r = .bool (p x)) (fun w' hw' => by simpa using hf w' hw'.ks x) ?_
  rintro _ rfl
  cases hb : p x with
  | true =>
   (have zz:=trivial;repeat((first|clear zz|with_reducible first|refine A3 ?_|refine A5 fun _=>?_|refine A4 fun _=>?_);try simp(disch:=first|omega|assumption|((repeat(first|exact A1|exact uH|apply A2|apply uT));first|done|fail)|(simp;first|done|omega|fail))[]))
   exact B4 (by rw [B0l hx hb hpre])
  | false =>
   (have zz:=trivial;repeat((first|clear zz|with_reducible first|refine A3 ?_|refine A5 fun _=>?_|refine A4 fun _=>?_);try simp(disch:=first|omega|assumption|((repeat(first|exact A1|exact uH|apply A2|apply uT));first|done|fail)|(simp;first|done|omega|fail))[]))
   refine Sels.tw .nil (hL hlt () ?_)
   intro j y hj hy
   by_cases hji : j = i
   ·subst hji; rw [hx] at hy; cases hy; exact hb
   ·exact hpre j y (by omega) hy
 ·obtain rfl : i = l.length := by omega
  (have zz:=trivial;repeat((first|clear zz|with_reducible first|refine A3 ?_|refine A5 fun _=>?_|refine A4 fun _=>?_);try simp(disch:=first|omega|assumption|((repeat(first|exact A1|exact uH|apply A2|apply uT));first|done|fail)|(simp;first|done|omega|fail))[]))
  exact B4 (by rw [B4g fun j y hy => hpre j y (List.getElem?_eq_some_iff.1 hy).1 hy])
theorem C2y {α : Type} (p : α → Bool) (l : List α) : decide (0 ≤ B01 p l) = l.any p := by
 unfold B01
 cases h : l.findIdx? p with
 | none =>
  have := List.findIdx?_eq_none_iff.1 h
  rw [Bool.eq_iff_iff]; simp [List.any_eq_true]; intro x hx; have := this x hx; simp_all
 | some i =>
  obtain ⟨hi, h1, _⟩ := List.findIdx?_eq_some_iff_getElem.1 h
  rw [Bool.eq_iff_iff]; simp only [List.any_eq_true, decide_eq_true_eq]
  exact ⟨fun _ => ⟨_, List.getElem_mem hi, h1⟩, fun _ => by omega⟩
theorem B2U (w : World) (v : Value) (l : List (Int × Int)) (p : Int × Int → Bool) (f : FuncId) (cap : List Value) (hn : l.length ≤ 1000000) (hv : D2 w v l.length (l.flatMap E6)) (he : B2 PR f)
  (hf : ∀ w', KS false [] w w' → ∀ x : Int × Int, Fn PR B6 f (.agg #[.int .i64 x.1, .int .i64 x.2] :: cap).toArray w' (fun r w'' => r = .bool (p x) ∧ D6 [] w' w'')) :
  Fn PR B6 125 #[v, .func (.func f) #[] cap.toArray] w (fun r w' => r = .bool (l.any p) ∧ D6 [] w w') := by
 refine Fn.pure (A0q (TW.go (κ := false) (S := []) ?_))
 unfold Z4
 refine D4 A1g (fun w' hw' => B5A w' v l p f cap hn (hv.ks hw'.ks (by simp)) he fun w2 h => hf w2 (hw'.ks.trans h)) ?_
 (have zz:=trivial;repeat((first|clear zz|with_reducible first|refine A3 ?_|refine A5 fun _=>?_|refine A4 fun _=>?_);try simp(disch:=first|omega|assumption|((repeat(first|exact A1|exact uH|apply A2|apply uT));first|done|fail)|(simp;first|done|omega|fail))[]))
 exact B4 (by rw [C2y])
end Go.Proofs.YtpnidmkaobfhiaaGreat
namespace Go.Proofs.YtpnidmkaobfhiaaGreat
open Go
theorem C10 {t e : TypeId} {len n m n' m' : Nat} {z z' : Value} {d' : TypeDesc} {parts : Array (Nat × Value)} {cs : Array Value} {K : Value → WP} (h : TI PR t (.array len e) n m z) (he : TI PR e d' n' m' z')
  (hf : Instr.fill (fun i => some (i * n', n')) z.cells parts.toList = some cs) : A0 PR (Instr.build t parts) K = K (.agg cs) :=
 G6 (fun w => by
  simp only [Instr.build, Sem.run_bind, h.run_zero, Result.andThen_ok, h.run_und, he.run_size, hf, Sem.run_pure]) K
theorem bd2 {k0 k1 : IntKind} {a b : Int} (K : Value → WP) : A0 PR (Instr.build 205 #[(0, .int k0 a), (1, .int k1 b)]) K = K (.agg #[.int k0 a, .int k1 b]) :=
 C10 B20 H4 (by rw [show (#[(0, Value.int k0 a), (1, Value.int k1 b)] : Array (Nat × Value)).toList = [(0, Value.int k0 a), (1, Value.int k1 b)] from rfl, C4 rfl rfl (by simp), C4 rfl rfl (by simp [C7])]; rfl)
theorem B7S (w : World) (x : Int × Int) : Fn PR B6 126 #[.agg #[.int .i64 x.1, .int .i64 x.2]] w (fun r w' => r = .bool (decide (x.1 < 1 ∨ x.2 < x.1)) ∧ D6 [] w w') := by
 refine Fn.pure (B1N (TW.go (κ := false) (S := []) ?_))
 unfold A4T
 by_cases c1 : x.1 < 1
 ·(have zz:=trivial;repeat((first|clear zz|with_reducible first|refine A3 ?_|refine A5 fun _=>?_|refine A4 fun _=>?_);try simp(disch:=first|omega|assumption|((repeat(first|exact A1|exact uH|apply A2|apply uT));first|done|fail)|(simp;first|done|omega|fail))[c1]))
  exact B4 (by simp [c1])
 ·(have zz:=trivial;repeat((first|clear zz|with_reducible first|refine A3 ?_|refine A5 fun _=>?_|refine A4 fun _=>?_);try simp(disch:=first|omega|assumption|((repeat(first|exact A1|exact uH|apply A2|apply uT));first|done|fail)|(simp;first|done|omega|fail))[c1]))
  exact B4 (by simp [c1])
theorem B9f (w : World) (v : Value) (l : List (Int × Int)) (hn : l.length ≤ 1000000) (hv : D2 w v l.length (l.flatMap E6)) :
  Fn PR B6 98 #[v] w (fun r w' => r = .bool (!l.any fun x => decide (x.1 < 1 ∨ x.2 < x.1)) ∧ D6 [] w w') := by
 refine Fn.pure (B30 (TW.go (κ := false) (S := []) ?_))
 unfold A8A
 refine D4 A0M (fun w' hw' => B2U w' v l (fun x => decide (x.1 < 1 ∨ x.2 < x.1)) 126 [] hn (hv.ks hw'.ks (by simp)) B0Q fun w2 h x => B7S w2 x) ?_
 (have zz:=trivial;repeat((first|clear zz|with_reducible first|refine A3 ?_|refine A5 fun _=>?_|refine A4 fun _=>?_);try simp(disch:=first|omega|assumption|((repeat(first|exact A1|exact uH|apply A2|apply uT));first|done|fail)|(simp;first|done|omega|fail))[]))
 exact B4 rfl
def A2p (l : List G8) (id : Int) : Int := B01 (fun x => decide (x.1 = id)) l
def A2q (b : G8) : Bool := decide (1 ≤ b.1 ∧ b.1 ≤ 65535 ∧ 1 ≤ b.2 ∧ b.2 ≤ 16)
def n5 : List G8 → Bool
 | [] => true
 | b :: l => A2q b && !(l.any fun x => decide (x.1 = b.1)) && n5 l
def G2 (l : List G8) : Int := if n5 l && decide (l.length ≤ 32) then 0 else 10
theorem A4g (l : List G8) : n5 l = true ↔ (∀ b ∈ l, A2q b = true) ∧ l.Pairwise fun a b => a.1 ≠ b.1 := by
 induction l with
 | nil => simp [n5]
 | cons b l ih =>
  simp only [n5, Bool.and_eq_true, ih, List.mem_cons, forall_eq_or_imp, List.pairwise_cons, Bool.not_eq_true', List.any_eq_false, decide_eq_true_eq]
  constructor
  ·rintro ⟨⟨h1, h2⟩, h3, h4⟩; exact ⟨⟨h1, h3⟩, fun a ha e => h2 a ha e.symm, h4⟩
  ·rintro ⟨⟨h1, h3⟩, h2, h4⟩; exact ⟨⟨h1, fun a ha e => h2 a ha e.symm⟩, h3, h4⟩
theorem C4M {α : Type} {R : α → α → Prop} {l : List α} (h : l.Pairwise R) {i j : Nat} {x y : α} (hij : i < j) (hx : l[i]? = some x) (hy : l[j]? = some y) : R x y := by
 obtain ⟨h1, rfl⟩ := List.getElem?_eq_some_iff.1 hx
 obtain ⟨h2, rfl⟩ := List.getElem?_eq_some_iff.1 hy
 exact List.pairwise_iff_getElem.1 h i j h1 h2 hij
theorem C5J {α : Type} {R : α → α → Prop} {l : List α} {i : Nat} {x : α} (hx : l[i]? = some x) : (l.take (i + 1)).Pairwise R ↔ (l.take i).Pairwise R ∧ ∀ y ∈ l.take i, R y x := by
 rw [List.take_add_one, hx]; simp [List.pairwise_append]
theorem B0p (w : World) (v : Value) (l : List G8) (hn : l.length ≤ 1000000) (hv : D2 w v l.length (l.flatMap E6)) :
  Fn PR B6 77 #[v] w (fun r w' => r = .int .i64 (G2 l) ∧ D6 [] w w') := by
 refine Fn.pure (B5F (TW.go (κ := false) (S := []) ?_))
 unfold A9p
 obtain ⟨a, c, rfl, hr⟩ := hv.form
 refine C4g (Value.int .i64) fun r => ?_
 (have zz:=trivial;repeat((first|clear zz|with_reducible first|refine A3 ?_|refine A5 fun _=>?_|refine A4 fun _=>?_);try simp(disch:=first|omega|assumption|((repeat(first|exact A1|exact uH|apply A2|apply uT));first|done|fail)|(simp;first|done|omega|fail))[]))
 refine Q6 (α := List (Int × Value)) l.length (fun _ _ => .int .i64 0) (fun _ M => [.pt r (y4 (Value.int .i64) M)]) (fun i M => (∀ k, A5G k M = if (l.take i).any (fun x => decide (x.1 = k)) then some (.bool true) else none) ∧ n5 (l.take i) = true) [] (by simp [A5G, n5]) ?_
 rintro i M hi ⟨hM, hok⟩ L hL
 by_cases hlt : i < l.length
 ·obtain ⟨b, o, rfl, hrow⟩ := hr (by omega)
  obtain ⟨x, hx⟩ : ∃ x, l[i]? = some x := ⟨_, List.getElem?_eq_getElem (by omega)⟩
  have h1 := hrow.at (f := E6) (k := 2) (fun _ => rfl) hx
  rw [E6] at h1
  have hxm : x ∈ l := List.mem_of_getElem? hx
  (have zz:=trivial;repeat((first|clear zz|with_reducible first|refine A3 ?_|refine A5 fun _=>?_|refine A4 fun _=>?_);try simp(disch:=first|omega|assumption|((repeat(first|exact A1|exact uH|apply A2|apply uT));first|done|fail)|(simp;first|done|omega|fail))[hlt, h1]))
  rw [C3w C4P ty4 (KeyT.int H4) (l := M) (by (repeat constructor)), hM]
  cases hseen : (l.take i).any (fun y => decide (y.1 = x.1)) with
  | true =>
   have hbad : G2 l = 10 := by
    have : n5 l = false := by
     rw [← Bool.not_eq_true, A4g]
     rintro ⟨_, h⟩
     obtain ⟨y, hy, he⟩ := List.any_eq_true.1 hseen
     obtain ⟨j, hj, rfl⟩ := List.getElem_of_mem hy
     simp only [List.length_take] at hj
     exact C4M (i := j) (j := i) h (by omega) (List.getElem?_eq_getElem (by omega)) hx (by simpa using he)
    simp [G2, this]
   (have zz:=trivial;repeat((first|clear zz|with_reducible first|refine A3 ?_|refine A5 fun _=>?_|refine A4 fun _=>?_);try simp(disch:=first|omega|assumption|((repeat(first|exact A1|exact uH|apply A2|apply uT));first|done|fail)|(simp;first|done|omega|fail))[]))
   exact B4 (by rw [hbad])
  | false =>
   simp only [Bool.false_eq_true, if_false, Option.getD_none]
   (have zz:=trivial;repeat((first|clear zz|with_reducible first|refine A3 ?_|refine A5 fun _=>?_|refine A4 fun _=>?_|refine T6 fun _=>?_|refine T0 (hK:=fun _=>?_)|refine T8 (hK:=fun _=>?_)|refine T2 (hK:=fun _=>?_)|refine T3 (hK:=fun _=>?_)|refine T7 (hK:=fun _=>?_));try simp(disch:=first|omega|assumption|((repeat(first|exact A1|exact uH|apply A2|apply uT));first|done|fail)|(simp;first|done|omega|fail))[bd2]))
   rename_i bs bx
   refine D4 (u := .bool (A2q x)) B3C (fun w' hw' => ?_) ?_
   ·have := B9f w' (.slice (some ⟨bx, 0, none⟩) 2 2) [(x.1, 65535), (x.2, 16)] (by simp) (by simpa [E6] using H3.own (κ := false) (S := []) (w0 := w) (e := 205) (k := 2) (q := 2) (v := .slice (some ⟨bx, 0, none⟩) 2 2) (by (repeat constructor)) w' hw')
    have e : (!([(x.1, 65535), (x.2, 16)] : List (Int × Int)).any fun x => decide (x.1 < 1 ∨ x.2 < x.1)) = A2q x := by
     rw [Bool.eq_iff_iff]; simp [A2q]; omega
    rw [e] at this
    exact this
   ·cases hbk : A2q x with
    | false =>
     have hbad : G2 l = 10 := by
      have : n5 l = false := by
       rw [← Bool.not_eq_true, A4g]
       rintro ⟨h, _⟩
       rw [h x hxm] at hbk; cases hbk
      simp [G2, this]
     (have zz:=trivial;repeat((first|clear zz|with_reducible first|refine A3 ?_|refine A5 fun _=>?_|refine A4 fun _=>?_);try simp(disch:=first|omega|assumption|((repeat(first|exact A1|exact uH|apply A2|apply uT));first|done|fail)|(simp;first|done|omega|fail))[]))
     exact B4 (by rw [hbad])
    | true =>
     (have zz:=trivial;repeat((first|clear zz|with_reducible first|refine A3 ?_|refine A5 fun _=>?_|refine A4 fun _=>?_);try simp(disch:=first|omega|assumption|((repeat(first|exact A1|exact uH|apply A2|apply uT));first|done|fail)|(simp;first|done|omega|fail))[]))
     refine C3p C4P (KeyT.int H4) (k := x.1) (by (repeat constructor)) ?_
     (have zz:=trivial;repeat((first|clear zz|with_reducible first|refine A3 ?_|refine A5 fun _=>?_|refine A4 fun _=>?_);try simp(disch:=first|omega|assumption|((repeat(first|exact A1|exact uH|apply A2|apply uT));first|done|fail)|(simp;first|done|omega|fail))[]))
     refine Sels.tw (by (repeat' constructor)) (hL hlt _ ⟨?_, ?_⟩)
     ·intro k
      rw [C0Y, hM, List.take_add_one, hx]
      by_cases hk : k = x.1
      ·subst hk; simp
      ·have hk' : ¬ x.1 = k := fun e => hk e.symm
       have hAB : (l.take i ++ (some x).toList).any (fun x => decide (x.1 = k)) = (l.take i).any (fun x => decide (x.1 = k)) := by
        rw [List.any_append]; simp only [Option.toList_some, List.any_cons, List.any_nil, decide_eq_false hk', Bool.or_false]
       rw [if_neg hk, hAB]
     ·rw [A4g] at hok ⊢
      refine ⟨fun y hy => ?_, (C5J hx).2 ⟨hok.2, fun y hy e => ?_⟩⟩
      ·rw [List.take_add_one, hx] at hy
       simp only [Option.toList_some, List.mem_append, List.mem_singleton] at hy
       rcases hy with hy | rfl
       ·exact hok.1 y hy
       ·exact hbk
      ·have := List.any_eq_false.1 hseen y hy
       simp [e] at this
 ·obtain rfl : i = l.length := by omega
  rw [List.take_length] at hok
  by_cases c1 : l.length ≤ 32
  ·have c1' : ¬ (32 : Int) < l.length := by omega
   (have zz:=trivial;repeat((first|clear zz|with_reducible first|refine A3 ?_|refine A5 fun _=>?_|refine A4 fun _=>?_);try simp(disch:=first|omega|assumption|((repeat(first|exact A1|exact uH|apply A2|apply uT));first|done|fail)|(simp;first|done|omega|fail))[c1']))
   exact B4 (by simp [G2, hok, c1])
  ·have c1' : (32 : Int) < l.length := by omega
   (have zz:=trivial;repeat((first|clear zz|with_reducible first|refine A3 ?_|refine A5 fun _=>?_|refine A4 fun _=>?_);try simp(disch:=first|omega|assumption|((repeat(first|exact A1|exact uH|apply A2|apply uT));first|done|fail)|(simp;first|done|omega|fail))[c1']))
   exact B4 (by simp [G2, c1])
end Go.Proofs.YtpnidmkaobfhiaaGreat
namespace Go.Proofs.YtpnidmkaobfhiaaGreat
open Go
structure CfgV where
 wk : Int
 sh : Int
 cp : Int
 idle : Int
 sl : Int
 deriving DecidableEq
def CfgV.val (c : CfgV) : Value := .agg #[.int .i64 c.wk, .int .i64 c.sh, .int .i64 c.cp, .int .i64 c.idle, .int .i64 c.sl]
def e8 (n lo hi : Int) : Bool := decide (lo ≤ n) && decide (n ≤ hi)
def S4 (c : CfgV) : Bool := e8 c.wk 1 64 && e8 c.sh 1 16 && e8 c.cp 1 64 && e8 c.idle 0 1000000 && e8 c.sl 2 8
structure AnsV where
 err : Int
 bk : Int
 made : Bool
 count : Int
 deriving DecidableEq
def AnsV.val (a : AnsV) : Value := .agg #[.int .i64 a.err, .int .i64 a.bk, .bool a.made, .int .i64 a.count]
structure OpV where
 kind : Int
 packet : ByteArray
 pool : List G8
 shard : Int
def OpV.val (o : OpV) (v : Value) : Value := .agg #[.int .i64 o.kind, .string o.packet, v, .int .i64 o.shard]
end Go.Proofs.YtpnidmkaobfhiaaGreat
namespace Go.Proofs.YtpnidmkaobfhiaaGreat
open Go
def A7f (X : Nat → Prop) (t0 t1 : Value) (R : Value → WP) : WP :=
 B9 PR X (Instr.box 3 t1) fun t3 =>
 A0 PR (Instr.makeFunc (.func 157) #[] #[t3]) fun t6 =>
 B3 PR X 156 [t0, t6] fun t7 =>
 R t7
theorem A6D : B2 PR 122 := A7 Tryz.func122 (by kernel_rfl) rfl
theorem B3s {X : Nat → Prop} {t0 t1 : Value} {R : Value → WP} {w : World} (h : A7f X t0 t1 R w) : Fn PR X 122 #[t0, t1] w R := C9 (args := [t0, t1]) mixed Tryz.func122 (by kernel_rfl) h
def A9q (X : Nat → Prop) (t0 t1 : Value) (R : Value → WP) : WP :=
 B9 PR X (Instr.box 9 t1) fun t3 =>
 B9 PR X (Instr.alloc 3 true (.tuple #[])) fun t5 =>
 C2 PR X (Instr.storeAt 3 t5 (.int .i64 (-1))) <|
 jn (n := 0) (
 A6 PR (Instr.loadAt 3 t5) fun t28 =>
 unw (R t28)) fun J1 =>
 A6 PR (Instr.loadAt 9 t3) fun t9 =>
 B3 PR X 179 [t0, t9] fun t10 =>
 rng (N := 2) PR X (fun t11 t12 K2 =>
 B9 PR (fun _ => False) (Instr.alloc 155 true (.tuple #[])) fun t7 =>
 C2 PR (fun _ => False) (Instr.storeAt 155 t7 t12) <|
 bgn <|
 A0 PR (Instr.fieldAt 155 t7 0) fun t14 =>
 A6 PR (Instr.loadAt 3 t14) fun t15 =>
 A0 PR (binOp .eql 3 t15 (.int .i64 0)) fun t16 =>
 B7 t16 (
 K2 (some (.exit 0))) (
 A0 PR (Instr.fieldAt 155 t7 0) fun t18 =>
 A6 PR (Instr.loadAt 3 t18) fun t19 =>
 A0 PR (binOp .eql 3 t19 (.int .i64 1)) fun t20 =>
 gj t20 true (fun J => A0 PR (Instr.fieldAt 155 t7 1) J) fun t22 =>
 gj t20 true (fun J => A6 PR (Instr.loadAt 9 t22) J) fun t23 =>
 gj t20 true (fun J => A6 PR (Instr.loadAt 9 t3) J) fun t24 =>
 gj t20 true (fun J => A0 PR (binOp .eql 9 t23 t24) J) fun t25 =>
 A0 PR (do pure (if ← asBool t20 then t25 else (.bool false))) fun t26 =>
 B7 t26 (
 C2 PR (fun _ => False) (Instr.storeAt 3 t5 t11) <|
 K2 (some (.exit 0))) (
 K2 none))) t10 (fun j => match j with | none => (J1) | some (.exit i) => (match Nat.beq i 0 with | true => (J1) | false => (H8)) | some .ret => (unw (R (.int .i64 0))) | some _ => H8)
theorem A8D : B2 PR 148 := A7 Tryz.func148 (by kernel_rfl) rfl
theorem B44 {X : Nat → Prop} {t0 t1 : Value} {R : Value → WP} {w : World} (h : A9q X t0 t1 R w) : Fn PR X 148 #[t0, t1] w R := C9 (args := [t0, t1]) mixed Tryz.func148 (by kernel_rfl) h
def x9 (X : Nat → Prop) (t0 t1 : Value) (R : Value → WP) : WP :=
 jn (n := 2) (fun t5 t10 =>
 R t5) fun J1 =>
 A0 PR (A8 .len #[55] 0 [t0]) fun t9 =>
 lp (n := 2) (fun L2 t5_1 t10_1 =>
 A0 PR (binOp .lss 3 t10_1 t9) fun t11 =>
 jn (n := 0) (
 jn (n := 1) (fun t5_2 =>
 A0 PR (binOp .add 3 t10_1 (.int .i64 1)) fun t19 =>
 L2 t5_2 t19) fun J3 =>
 A0 PR (Instr.indexAt 55 t0 t10_1) fun t12 =>
 A6 PR (Instr.loadAt 155 t12) fun t13 =>
 B9 PR X (Instr.alloc 155 true (.tuple #[])) fun t7 =>
 C2 PR X (Instr.storeAt 155 t7 t13) <|
 A6 PR (Instr.loadAt 155 t7) fun t15 =>
 q6 PR X t1 [t15] fun t16 =>
 B7 t16 (
 A0 PR (binOp .add 3 t5_1 (.int .i64 1)) fun t18 =>
 J3 t18) (
 J3 t5_1)) fun J4 =>
 B7 t11 (
 J4) (
 J1 t5_1 t10_1)) (.int .i64 0) (.int .i64 0)
theorem A4a : B2 PR 156 := A7 Tryz.func156 (by kernel_rfl) rfl
theorem A5H {X : Nat → Prop} {t0 t1 : Value} {R : Value → WP} {w : World} (h : x9 X t0 t1 R w) : Fn PR X 156 #[t0, t1] w R := C9 (args := [t0, t1]) mixed Tryz.func156 (by kernel_rfl) h
def A4W (X : Nat → Prop) (t0 t1 : Value) (R : Value → WP) : WP :=
 B9 PR X (Instr.box 155 t0) fun t2 =>
 A0 PR (Instr.fieldAt 155 t2 0) fun t4 =>
 A6 PR (Instr.loadAt 3 t4) fun t5 =>
 A6 PR (Instr.loadAt 3 t1) fun t6 =>
 A0 PR (binOp .eql 3 t5 t6) fun t7 =>
 R t7
theorem B04 : B2 PR 157 := A7 Tryz.func157 (by kernel_rfl) rfl
theorem B1U {X : Nat → Prop} {t0 t1 : Value} {R : Value → WP} {w : World} (h : A4W X t0 t1 R w) : Fn PR X 157 #[t0, t1] w R := C9 (args := [t0, t1]) mixed Tryz.func157 (by kernel_rfl) h
def B0s (X : Nat → Prop) (t0 t1 : Value) (R : Value → WP) : WP :=
 B9 PR X (Instr.box 55 t0) fun t2 =>
 B9 PR X (Instr.box 9 t1) fun t3 =>
 A0 PR (Instr.makeFunc (.func 199) #[] #[t3, t2]) fun t5 =>
 R t5
theorem A9c : B2 PR 179 := A7 Tryz.func179 (by kernel_rfl) rfl
theorem B6e {X : Nat → Prop} {t0 t1 : Value} {R : Value → WP} {w : World} (h : B0s X t0 t1 R w) : Fn PR X 179 #[t0, t1] w R := C9 (args := [t0, t1]) mixed Tryz.func179 (by kernel_rfl) h
def A9j (X : Nat → Prop) (t0 t1 : Value) (R : Value → WP) : WP :=
 B9 PR X (Instr.alloc 3 true (.tuple #[])) fun t4 =>
 jn (n := 0) (
 jn (n := 0) (
 C2 PR X (Instr.storeAt 3 t4 (.int .i64 (-1))) <|
 unw (A6 PR (F1 [.c 3 t4]) R)) fun J1 =>
 B3 PR X 179 [t0, t1] fun t13 =>
 rng (N := 2) PR X (fun t14 t15 K2 =>
 B9 PR (fun _ => False) (Instr.alloc 155 true (.tuple #[])) fun t6 =>
 C2 PR (fun _ => False) (Instr.storeAt 155 t6 t15) <|
 bgn <|
 A0 PR (Instr.fieldAt 155 t6 0) fun t16 =>
 A6 PR (Instr.loadAt 3 t16) fun t17 =>
 A0 PR (binOp .neq 3 t17 (.int .i64 1)) fun t18 =>
 B7 t18 (
 C2 PR (fun _ => False) (Instr.storeAt 3 t4 t14) <|
 K2 (some .ret)) (
 K2 none)) t13 (fun j => match j with | none => (J1) | some (.exit i) => (match Nat.beq i 0 with | true => (J1) | false => (H8)) | some .ret => (unw (A6 PR (F1 [.c 3 t4]) R)) | some _ => H8)) fun J3 =>
 B3 PR X 148 [t0, t1] fun t9 =>
 A0 PR (binOp .geq 3 t9 (.int .i64 0)) fun t10 =>
 B7 t10 (
 C2 PR X (Instr.storeAt 3 t4 (.int .i64 (-1))) <|
 unw (A6 PR (F1 [.c 3 t4]) R)) (
 J3)
theorem B37 : B2 PR 183 := A7 Tryz.func183 (by kernel_rfl) rfl
theorem B5M {X : Nat → Prop} {t0 t1 : Value} {R : Value → WP} {w : World} (h : A9j X t0 t1 R w) : Fn PR X 183 #[t0, t1] w R := C9 (args := [t0, t1]) mixed Tryz.func183 (by kernel_rfl) h
def A6B (X : Nat → Prop) (t0 t1 t2 : Value) (R : Value → WP) : WP :=
 A6 PR (Instr.loadAt 9 t1) fun t7 =>
 A6 PR (Instr.loadAt 55 t2) fun t8 =>
 A0 PR (A8 .len #[55] 0 [t8]) fun t9 =>
 B3 PR X 200 [t7, t9] fun t10 =>
 A6 PR (Instr.loadAt 55 t2) fun t11 =>
 A0 PR (A8 .len #[55] 0 [t11]) fun t12 =>
 lp (n := 1) (fun L1 t13 =>
 A0 PR (binOp .lss 3 t13 t12) fun t14 =>
 jn (n := 0) (
 jn (n := 0) (
 A0 PR (binOp .add 3 t13 (.int .i64 1)) fun t30 =>
 L1 t30) fun J2 =>
 A0 PR (binOp .add 3 t10 t13) fun t18 =>
 A6 PR (Instr.loadAt 55 t2) fun t19 =>
 A0 PR (A8 .len #[55] 0 [t19]) fun t20 =>
 A0 PR (binOp .rem 3 t18 t20) fun t21 =>
 A6 PR (Instr.loadAt 55 t2) fun t24 =>
 A0 PR (Instr.indexAt 55 t24 t21) fun t26 =>
 A6 PR (Instr.loadAt 155 t26) fun t27 =>
 q6 PR X t0 [t21, t27] fun t28 =>
 A0 PR (Op.unary .not t28) fun t29 =>
 B7 t29 (
 R (.tuple #[])) (
 J2)) fun J3 =>
 B7 t14 (
 J3) (
 R (.tuple #[]))) (.int .i64 0)
theorem B2T : B2 PR 199 := A7 Tryz.func199 (by kernel_rfl) rfl
theorem B2n {X : Nat → Prop} {t0 t1 t2 : Value} {R : Value → WP} {w : World} (h : A6B X t0 t1 t2 R w) : Fn PR X 199 #[t0, t1, t2] w R := C9 (args := [t0, t1, t2]) mixed Tryz.func199 (by kernel_rfl) h
theorem B2c {X : Nat → Prop} {t0 t1 t2 : Value} {K : Value → WP} {w : World} (h : Fn PR X 199 #[t0, t1, t2] w K) : A2W PR X 199 [t0, t1, t2] K w := ⟨B2T, h⟩
def A9n (X : Nat → Prop) (t0 t1 : Value) (R : Value → WP) : WP :=
 jn (n := 1) (fun t4 =>
 B3 PR X 115 [t0] fun t8 =>
 A0 PR (convert 3 208 t1) fun t10 =>
 A0 PR (binOp .rem 208 t8 t10) fun t11 =>
 A0 PR (convert 208 3 t11) fun t12 =>
 R t12) fun J1 =>
 A0 PR (binOp .lss 3 t1 (.int .i64 1)) fun t6 =>
 B7 t6 (
 R (.int .i64 0)) (
 J1 (.int .i64 0))
theorem B3d : B2 PR 200 := A7 Tryz.func200 (by kernel_rfl) rfl
theorem B5C {X : Nat → Prop} {t0 t1 : Value} {R : Value → WP} {w : World} (h : A9n X t0 t1 R w) : Fn PR X 200 #[t0, t1] w R := C9 (args := [t0, t1]) mixed Tryz.func200 (by kernel_rfl) h
end Go.Proofs.YtpnidmkaobfhiaaGreat
namespace Go.Proofs.YtpnidmkaobfhiaaGreat
open Go
def B2y (X : Nat → Prop) (t0 : Value) (R : Value → WP) : WP :=
 B3 PR X 147 [(.int .u64 14695981039346656037), t0] fun t4 =>
 R t4
theorem B1c : B2 PR 115 := A7 Tryz.func115 (by kernel_rfl) rfl
theorem B9B {X : Nat → Prop} {t0 : Value} {R : Value → WP} {w : World} (h : B2y X t0 R w) : Fn PR X 115 #[t0] w R := C9 (args := [t0]) mixed Tryz.func115 (by kernel_rfl) h
def B1d (X : Nat → Prop) (t0 t1 : Value) (R : Value → WP) : WP :=
 B9 PR X (Instr.alloc 314 true (.tuple #[])) fun t5 =>
 B9 PR X (Instr.alloc 316 true (.tuple #[])) fun t6 =>
 C2 PR X (Instr.storeAt 314 t5 (.func (.func 177) #[] #[])) <|
 C2 PR X (Instr.storeAt 316 t6 t0) <|
 jn (n := 0) (
 A6 PR (Instr.loadAt 316 t6) fun t16 =>
 unw (R t16)) fun J1 =>
 B3 PR X 178 [t1] fun t10 =>
 rng (N := 1) PR X (fun t11 K2 =>
 bgn <|
 A6 PR (Instr.loadAt 314 t5) fun t12 =>
 A6 PR (Instr.loadAt 316 t6) fun t13 =>
 q6 PR (fun _ => False) t12 [t13, t11] fun t15 =>
 C2 PR (fun _ => False) (Instr.storeAt 316 t6 t15) <|
 K2 none) t10 (fun j => match j with | none => (J1) | some (.exit i) => (match Nat.beq i 0 with | true => (J1) | false => (H8)) | some .ret => (unw (R (.int .u64 0))) | some _ => H8)
theorem B0g : B2 PR 147 := A7 Tryz.func147 (by kernel_rfl) rfl
theorem B7L {X : Nat → Prop} {t0 t1 : Value} {R : Value → WP} {w : World} (h : B1d X t0 t1 R w) : Fn PR X 147 #[t0, t1] w R := C9 (args := [t0, t1]) mixed Tryz.func147 (by kernel_rfl) h
def A7x (X : Nat → Prop) (t0 t1 : Value) (R : Value → WP) : WP :=
 A0 PR (convert 5 316 t1) fun t7 =>
 A0 PR (binOp .xor 316 t0 t7) fun t8 =>
 A0 PR (binOp .mul 316 t8 (.int .u64 1099511628211)) fun t9 =>
 R t9
theorem B2r : B2 PR 177 := A7 Tryz.func177 (by kernel_rfl) rfl
theorem B3r {X : Nat → Prop} {t0 t1 : Value} {R : Value → WP} {w : World} (h : A7x X t0 t1 R w) : Fn PR X 177 #[t0, t1] w R := C9 (args := [t0, t1]) mixed Tryz.func177 (by kernel_rfl) h
def B1g (X : Nat → Prop) (t0 : Value) (R : Value → WP) : WP :=
 B9 PR X (Instr.box 9 t0) fun t1 =>
 A0 PR (Instr.makeFunc (.func 198) #[] #[t1]) fun t3 =>
 R t3
theorem B55 : B2 PR 178 := A7 Tryz.func178 (by kernel_rfl) rfl
theorem B7F {X : Nat → Prop} {t0 : Value} {R : Value → WP} {w : World} (h : B1g X t0 R w) : Fn PR X 178 #[t0] w R := C9 (args := [t0]) mixed Tryz.func178 (by kernel_rfl) h
def A7r (X : Nat → Prop) (t0 t1 : Value) (R : Value → WP) : WP :=
 A6 PR (Instr.loadAt 9 t1) fun t4 =>
 A0 PR (A8 .len #[9] 0 [t4]) fun t5 =>
 lp (n := 1) (fun L1 t6 =>
 A0 PR (binOp .lss 3 t6 t5) fun t7 =>
 jn (n := 0) (
 jn (n := 0) (
 A0 PR (binOp .add 3 t6 (.int .i64 1)) fun t15 =>
 L1 t15) fun J2 =>
 A6 PR (Instr.loadAt 9 t1) fun t10 =>
 A0 PR (Instr.index 9 t10 t6) fun t12 =>
 q6 PR X t0 [t12] fun t13 =>
 A0 PR (Op.unary .not t13) fun t14 =>
 B7 t14 (
 R (.tuple #[])) (
 J2)) fun J3 =>
 B7 t7 (
 J3) (
 R (.tuple #[]))) (.int .i64 0)
theorem B2s : B2 PR 198 := A7 Tryz.func198 (by kernel_rfl) rfl
theorem B3T {X : Nat → Prop} {t0 t1 : Value} {R : Value → WP} {w : World} (h : A7r X t0 t1 R w) : Fn PR X 198 #[t0, t1] w R := C9 (args := [t0, t1]) mixed Tryz.func198 (by kernel_rfl) h
theorem B4C {X : Nat → Prop} {t0 t1 : Value} {K : Value → WP} {w : World} (h : Fn PR X 198 #[t0, t1] w K) : A2W PR X 198 [t0, t1] K w := ⟨B2s, h⟩
end Go.Proofs.YtpnidmkaobfhiaaGreat
namespace Go.Proofs.YtpnidmkaobfhiaaGreat
open Go
def A8u (h b : Nat) : Nat := ((h ^^^ b) * 1099511628211) % 18446744073709551616
def B15 (h : Nat) (s : ByteArray) : Nat → Nat
 | 0 => h
 | i + 1 => A8u (B15 h s i) (A0A s i)
def B6f (h : Nat) (s : ByteArray) : Nat := B15 h s s.size
def A44 (s : ByteArray) : Nat := B6f 14695981039346656037 s
theorem C4a (h b : Nat) : A8u h b < 2 ^ 64 := by unfold A8u; omega
theorem B3k {h : Nat} (hh : h < 2 ^ 64) (s : ByteArray) (i : Nat) : B15 h s i < 2 ^ 64 := by
 cases i with
 | zero => exact hh
 | succ i => exact C4a _ _
theorem C8D (w : World) (h b : Nat) (hh : h < 2 ^ 64) (hb : b < 256) : Fn PR B6 177 #[.int .u64 (h : Int), .int .u8 (b : Int)] w (fun v w' => v = .int .u64 (A8u h b : Nat) ∧ D6 [] w w') := by
 refine Fn.pure (B3r (TW.go (κ := false) (S := []) ?_))
 unfold A7x
 (have zz:=trivial;repeat((first|clear zz|with_reducible first|refine A3 ?_|refine A5 fun _=>?_|refine A4 fun _=>?_);try simp(disch:=first|omega|assumption|((repeat(first|exact A1|exact uH|apply A2|apply uT));first|done|fail)|(simp;first|done|omega|fail))[]))
 have e1 : (h % 2 ^ IntKind.u64.bits ^^^ b % 2 ^ IntKind.u64.bits) = h ^^^ b := by rw [show (2 : Nat) ^ IntKind.u64.bits = 2 ^ 64 from rfl, Nat.mod_eq_of_lt hh, Nat.mod_eq_of_lt (by omega)]
 have e2 : h ^^^ b < 2 ^ 64 := Nat.xor_lt_two_pow hh (by omega)
 rw [e1, B7v (n := ((h ^^^ b : Nat) : Int)) (by omega) (by omega)]
 refine B4 ?_
 have e3 : IntKind.u64.wrap (((h ^^^ b : Nat) : Int) * 1099511628211) = (A8u h b : Nat) := by
  simp only [IntKind.wrap, IntKind.bits, IntKind.signed, A8u]
  simp
 rw [e3]
abbrev C4K (b : Nat) : Value := .func (.func 198) #[] #[.pointer (some ⟨b, 0, none⟩)]
theorem C45 (w : World) (s : ByteArray) : Fn PR B6 178 #[.string s] w (Rn [] w (fun b v => v = C4K b) fun b => [.pt b (.cells #[.string s] 9)]) := by
 refine B7F (TW.go (κ := false) (S := []) ?_)
 unfold B1g
 (have zz:=trivial;repeat((first|clear zz|with_reducible first|refine A3 ?_|refine A5 fun _=>?_|refine A4 fun _=>?_);try simp(disch:=first|omega|assumption|((repeat(first|exact A1|exact uH|apply A2|apply uT));first|done|fail)|(simp;first|done|omega|fail))[]))
 rename_i b
 exact A40 b rfl (by simp)
def B5V (s : ByteArray) (i : Nat) : List Value := [.int .u8 (A0A s i : Nat)]
theorem C4c (b : Nat) (s : ByteArray) (hs : s.size < 2 ^ 60) : A57 (C4K b) [.pt b (.cells #[.string s] 9)] (fun _ _ => True) ((List.range s.size).map (B5V s)) := by
 refine ⟨_, _, _, rfl, fun l J E hJ hE stJ stE hy w0 h0 => ?_⟩
 refine B4C (B3T (TW.at (κ := true) ?_ (hJ _ _ _ h0).1))
 unfold A7r
 (have zz:=trivial;repeat((first|clear zz|with_reducible first|refine A3 ?_|refine A5 fun _=>?_|refine A4 fun _=>?_);try simp(disch:=first|omega|assumption|((repeat(first|exact A1|exact uH|apply A2|apply uT));first|done|fail)|(simp;first|done|omega|fail))[]))
 refine A3v s.size (fun i => i) (fun _ => _) hJ stJ h0 fun i a hi hJi _ L hL => ?_
 by_cases hlt : i < s.size
 ·obtain ⟨by0, hb0, hb1⟩ := B6k (s := s) (i := i) hlt
  have hb0' : s[((i : Nat) : Int).toNat]? = some by0 := by rw [Int.toNat_natCast]; exact hb0
  (have zz:=trivial;repeat((first|clear zz|with_reducible first|refine A3 ?_|refine A5 fun _=>?_|refine A4 fun _=>?_);try simp(disch:=first|omega|assumption|((repeat(first|exact A1|exact uH|apply A2|apply uT));first|done|fail)|(simp;first|done|omega|fail))[hlt, C1M]))
  rw [hb1]
  refine A8b hJ hE stJ hy hJi (by simpa using hlt) (by simp [B5V]) (fun w3 h => ?_) (fun w3 h => ?_)
  ·(have zz:=trivial;repeat((first|clear zz|with_reducible first|refine A3 ?_|refine A5 fun _=>?_|refine A4 fun _=>?_);try simp(disch:=first|omega|assumption|((repeat(first|exact A1|exact uH|apply A2|apply uT));first|done|fail)|(simp;first|done|omega|fail))[]))
   exact fun w' hw' => hL hlt w' (stJ _ _ _ _ _ h hw')
  ·(have zz:=trivial;repeat((first|clear zz|with_reducible first|refine A3 ?_|refine A5 fun _=>?_|refine A4 fun _=>?_);try simp(disch:=first|omega|assumption|((repeat(first|exact A1|exact uH|apply A2|apply uT));first|done|fail)|(simp;first|done|omega|fail))[]))
   exact A4z stE h
 ·obtain rfl : i = s.size := by omega
  (have zz:=trivial;repeat((first|clear zz|with_reducible first|refine A3 ?_|refine A5 fun _=>?_|refine A4 fun _=>?_);try simp(disch:=first|omega|assumption|((repeat(first|exact A1|exact uH|apply A2|apply uT));first|done|fail)|(simp;first|done|omega|fail))[]))
  exact A5K stJ (by simpa using hJi)
theorem B78 (w : World) (h : Nat) (s : ByteArray) (hh : h < 2 ^ 64) (hs : s.size < 2 ^ 60) : Fn PR B6 147 #[.int .u64 (h : Int), .string s] w (fun v w' => v = .int .u64 (B6f h s : Nat) ∧ D6 [] w w') := by
 refine Fn.pure (B7L (TW.go (κ := false) (S := []) ?_))
 unfold B1d
 (have zz:=trivial;repeat((first|clear zz|with_reducible first|refine A3 ?_|refine A5 fun _=>?_|refine A4 fun _=>?_);try simp(disch:=first|omega|assumption|((repeat(first|exact A1|exact uH|apply A2|apply uT));first|done|fail)|(simp;first|done|omega|fail))[]))
 rename_i bf bx
 refine G7 B55 (fun w' _ => C45 w' s) ?_
 rintro b v rfl
 refine A6M (C4c b s hs) (by simp [B5V]) (fun _ (_ : Unit) => True) (fun i _ => [.pt bx (.cells #[.int .u64 ((B15 h s i : Nat) : Int)] 316), .pt bf (.cells #[.func (.func 177) #[] #[]] 314)])
  (fun _ (_ : Unit) => False) (fun _ => []) () trivial ?_ ?_ ?_ ?_ (by simp [B15])
 ·intros; trivial
 ·rintro i hi _ F _ K' hK _
  simp only [List.getElem_map, List.getElem_range, B5V, VF.app]
  (have zz:=trivial;repeat((first|clear zz|with_reducible first|refine A3 ?_|refine A5 fun _=>?_|refine A4 fun _=>?_);try simp(disch:=first|omega|assumption|((repeat(first|exact A1|exact uH|apply A2|apply uT));first|done|fail)|(simp;first|done|omega|fail))[]))
  refine D4 B2r (fun w' _ => C8D w' _ _ (B3k hh s i) (B43 s i)) ?_
  (have zz:=trivial;repeat((first|clear zz|with_reducible first|refine A3 ?_|refine A5 fun _=>?_|refine A4 fun _=>?_);try simp(disch:=first|omega|assumption|((repeat(first|exact A1|exact uH|apply A2|apply uT));first|done|fail)|(simp;first|done|omega|fail))[]))
  exact TW.eqH (by simp [B15]) (hK () trivial)
 ·rintro _ _
  (have zz:=trivial;repeat((first|clear zz|with_reducible first|refine A3 ?_|refine A5 fun _=>?_|refine A4 fun _=>?_);try simp(disch:=first|omega|assumption|((repeat(first|exact A1|exact uH|apply A2|apply uT));first|done|fail)|(simp;first|done|omega|fail))[]))
  exact B4 (by simp [B6f])
 ·rintro _ _ h; exact h.elim
theorem B4w (w : World) (s : ByteArray) (hs : s.size < 2 ^ 60) : Fn PR B6 115 #[.string s] w (fun v w' => v = .int .u64 (A44 s : Nat) ∧ D6 [] w w') := by
 refine Fn.pure (B9B (TW.go (κ := false) (S := []) ?_))
 unfold B2y
 refine D4 B0g (fun w' _ => B78 w' 14695981039346656037 s (by omega) hs) ?_
 exact B4 rfl
end Go.Proofs.YtpnidmkaobfhiaaGreat
namespace Go.Proofs.YtpnidmkaobfhiaaGreat
open Go
def G9 (key : ByteArray) (n : Nat) : Nat := A44 key % n
theorem B4F (s : ByteArray) : A44 s < 2 ^ 64 := B3k (by omega) s _
theorem C4u (w : World) (key : ByteArray) (n : Nat) (hk : key.size < 2 ^ 60) (hn : n ≤ 1000000) : Fn PR B6 200 #[.string key, .int .i64 (n : Int)] w (fun v w' => v = .int .i64 (if n = 0 then 0 else G9 key n : Nat) ∧ D6 [] w w') := by
 refine Fn.pure (B5C (TW.go (κ := false) (S := []) ?_))
 unfold A9n
 by_cases c1 : n = 0
 ·have c1' : (n : Int) < 1 := by omega
  (have zz:=trivial;repeat((first|clear zz|with_reducible first|refine A3 ?_|refine A5 fun _=>?_|refine A4 fun _=>?_);try simp(disch:=first|omega|assumption|((repeat(first|exact A1|exact uH|apply A2|apply uT));first|done|fail)|(simp;first|done|omega|fail))[c1']))
  exact B4 (by simp [c1])
 have c1' : ¬ (n : Int) < 1 := by omega
 have c1'' : ¬ (n : Int) = 0 := by omega
 (have zz:=trivial;repeat((first|clear zz|with_reducible first|refine A3 ?_|refine A5 fun _=>?_|refine A4 fun _=>?_);try simp(disch:=first|omega|assumption|((repeat(first|exact A1|exact uH|apply A2|apply uT));first|done|fail)|(simp;first|done|omega|fail))[c1']))
 refine D4 B1c (fun w' _ => B4w w' key hk) ?_
 have hl := B4F key
 have hm : G9 key n < n := Nat.mod_lt _ (by omega)
 have e1 : ((A44 key : Nat) : Int).tmod n = (G9 key n : Nat) := by unfold G9; rw [Int.tmod_eq_emod_of_nonneg (by omega)]; omega
 have e2 : ((A44 key : Nat) : Int) % n = (G9 key n : Nat) := by unfold G9; omega
 (have zz:=trivial;repeat((first|clear zz|with_reducible first|refine A3 ?_|refine A5 fun _=>?_|refine A4 fun _=>?_);try simp(disch:=first|omega|assumption|((repeat(first|exact A1|exact uH|apply A2|apply uT));first|done|fail)|(simp;first|done|omega|fail))[c1'', e1, j6]))
 exact B4 (by simp [c1])
def p7 : EnV := ⟨0, noB, 0, 0⟩
def P3 (l : List EnV) (key : ByteArray) : List (Nat × EnV) := (List.range l.length).map fun i => ((G9 key l.length + i) % l.length, l.getD ((G9 key l.length + i) % l.length) p7)
def A9J (p : Nat × EnV) : List Value := [.int .i64 (p.1 : Nat), .agg #[.int .i64 p.2.st, .string p.2.key, .int .i64 p.2.bk, .int .i64 p.2.dl]]
abbrev C6x (x : Nat × Nat) : Value := .func (.func 199) #[] #[.pointer (some ⟨x.1, 0, none⟩), .pointer (some ⟨x.2, 0, none⟩)]
abbrev B6P (x : Nat × Nat) (v : Value) (key : ByteArray) : List Res := [.pt x.1 (.cells #[.string key] 9), .pt x.2 (.cells #[v] 55)]
theorem C1p (w : World) (v : Value) (key : ByteArray) (hv : ∃ a n c, v = .slice a n c) : Fn PR B6 179 #[v, .string key] w (Rn [] w (fun x u => u = C6x x) fun x => B6P x v key) := by
 obtain ⟨a, n, c, rfl⟩ := hv
 refine B6e (TW.go (κ := false) (S := []) ?_)
 unfold B0s
 (have zz:=trivial;repeat((first|clear zz|with_reducible first|refine A3 ?_|refine A5 fun _=>?_|refine A4 fun _=>?_);try simp(disch:=first|omega|assumption|((repeat(first|exact A1|exact uH|apply A2|apply uT));first|done|fail)|(simp;first|done|omega|fail))[]))
 rename_i b1 b2
 exact B0 (b2, b1) rfl (by (repeat' constructor))
def RqS (v : Value) (n : Nat) (xs : List Value) (F : List Res) (w : World) : Prop := ∃ a c, v = .slice a n c ∧ (0 < n → ∃ b o, a = some ⟨b, o, none⟩ ∧ P9 w b o xs ∧ b ∉ B1 F)
theorem RqS.of {v : Value} {n : Nat} {xs : List Value} {w0 w : World} {A F : List Res} (h : D2 w0 v n xs) (hx : 0 < n → 0 < xs.length) (hw : LW false [] w0 (A ++ F) w) : RqS v n xs F w := by
 obtain ⟨a, c, rfl, hr⟩ := h.form
 refine ⟨a, c, rfl, fun hn => ?_⟩
 obtain ⟨b, o, rfl, hrow⟩ := hr hn
 refine ⟨b, o, rfl, hw.ks.row (by simp) hrow, hw.notin_old ?_ (by simp)⟩
 have h0 := hrow 0 (hx hn)
 rw [List.getElem?_eq_getElem (hx hn)] at h0
 obtain ⟨c', t', z', h1, h2⟩ := A0D h0
 exact P7 h1
theorem A4p (l : List EnV) : (l.flatMap E3).length = l.length * 4 := by
 induction l with
 | nil => rfl
 | cons x l ih => rw [List.flatMap_cons, List.length_append, ih]; simp [E3]; omega
theorem C0Q (x : Nat × Nat) (v : Value) (l : List EnV) (key : ByteArray) (hk : key.size < 2 ^ 60) (hn : l.length ≤ 1000000) : A57 (C6x x) (B6P x v key) (RqS v l.length (l.flatMap E3)) ((P3 l key).map A9J) := by
 obtain ⟨bk, bt⟩ := x
 refine ⟨_, _, _, rfl, fun y J E hJ hE stJ stE hy w0 h0 => ?_⟩
 obtain ⟨a, c, hv, hr⟩ := (hJ _ _ _ h0).2
 subst hv
 refine B2c (B2n (TW.at (κ := true) ?_ (hJ _ _ _ h0).1))
 unfold A6B
 simp only [B6P]
 (have zz:=trivial;repeat((first|clear zz|with_reducible first|refine A3 ?_|refine A5 fun _=>?_|refine A4 fun _=>?_);try simp(disch:=first|omega|assumption|((repeat(first|exact A1|exact uH|apply A2|apply uT));first|done|fail)|(simp;first|done|omega|fail))[]))
 refine D4 B3d (fun w' _ => C4u w' key l.length hk hn) ?_
 (have zz:=trivial;repeat((first|clear zz|with_reducible first|refine A3 ?_|refine A5 fun _=>?_|refine A4 fun _=>?_);try simp(disch:=first|omega|assumption|((repeat(first|exact A1|exact uH|apply A2|apply uT));first|done|fail)|(simp;first|done|omega|fail))[]))
 refine A3v l.length (fun i => i) (fun _ => _) hJ stJ h0 fun i a' hi hJi hRi L hL => ?_
 by_cases hlt : i < l.length
 ·obtain ⟨_, _, hv, hr⟩ := hRi
  obtain ⟨b, o, hb, hrow, hnb⟩ := hr (by omega)
  cases hv
  have hh : G9 key l.length < l.length := Nat.mod_lt _ (by omega)
  have e0 : (if l.length = 0 then 0 else G9 key l.length) = G9 key l.length := if_neg (by omega)
  have hj : (G9 key l.length + i) % l.length < l.length := Nat.mod_lt _ (by omega)
  have hx : l[(G9 key l.length + i) % l.length]? = some (l.getD ((G9 key l.length + i) % l.length) p7) := by
   rw [List.getD_eq_getElem?_getD, List.getElem?_eq_getElem hj]; rfl
  have h1 := hrow.at (f := E3) (k := 4) (fun _ => rfl) hx
  have e1 : (((G9 key l.length : Nat) : Int) + (i : Nat)).tmod l.length = ((G9 key l.length + i) % l.length : Nat) := by rw [Int.tmod_eq_emod_of_nonneg (by omega), Int.natCast_emod, Int.natCast_add]
  have hwi : ∀ h, ((P3 l key).map A9J)[i]'h = A9J ((G9 key l.length + i) % l.length, l.getD ((G9 key l.length + i) % l.length) p7) := by
   intro h; simp only [List.getElem_map, P3, List.getElem_range]
  generalize hjd : (G9 key l.length + i) % l.length = j at *
  generalize hxd : l.getD j p7 = x at *
  rw [E3] at h1
  have hnz : ¬ (l.length : Int) = 0 := by omega
  subst hb
  rw [e0]
  (have zz:=trivial;repeat((first|clear zz|with_reducible first|refine A3 ?_|refine A5 fun _=>?_|refine A4 fun _=>?_);try simp(disch:=first|omega|assumption|((repeat(first|exact A1|exact uH|apply A2|apply uT));first|done|fail)|(simp;first|done|omega|fail))[hlt, e1, h1, hnz, j6]))
  refine A8b hJ hE stJ hy hJi (by simpa [P3] using hlt) (hwi _) (fun w3 h => ?_) (fun w3 h => ?_)
  ·(have zz:=trivial;repeat((first|clear zz|with_reducible first|refine A3 ?_|refine A5 fun _=>?_|refine A4 fun _=>?_);try simp(disch:=first|omega|assumption|((repeat(first|exact A1|exact uH|apply A2|apply uT));first|done|fail)|(simp;first|done|omega|fail))[]))
   exact fun w' hw' => hL hlt w' (stJ _ _ _ _ _ h hw')
  ·(have zz:=trivial;repeat((first|clear zz|with_reducible first|refine A3 ?_|refine A5 fun _=>?_|refine A4 fun _=>?_);try simp(disch:=first|omega|assumption|((repeat(first|exact A1|exact uH|apply A2|apply uT));first|done|fail)|(simp;first|done|omega|fail))[]))
   exact A4z stE h
 ·obtain rfl : i = l.length := by omega
  (have zz:=trivial;repeat((first|clear zz|with_reducible first|refine A3 ?_|refine A5 fun _=>?_|refine A4 fun _=>?_);try simp(disch:=first|omega|assumption|((repeat(first|exact A1|exact uH|apply A2|apply uT));first|done|fail)|(simp;first|done|omega|fail))[]))
  exact A5K stJ (by simpa [P3] using hJi)
def L8 (key : ByteArray) : List (Nat × EnV) → Int
 | [] => -1
 | p :: r => if p.2.st = 0 then -1 else if p.2.st = 1 ∧ p.2.key = key then p.1 else L8 key r
def F3 (l : List EnV) (key : ByteArray) : Int := L8 key (P3 l key)
theorem B4B {α : Type} {l : List α} {i : Nat} (h : i < l.length) : l.drop i = l[i] :: l.drop (i + 1) := List.drop_eq_getElem_cons h
theorem B2B (L : List (Nat × EnV)) : ∀ x ∈ L.map A9J, x.length = 2 := by
 intro x hx; obtain ⟨p, _, rfl⟩ := List.mem_map.1 hx; rfl
theorem B0B (w : World) (v : Value) (l : List EnV) (key : ByteArray) (hk : key.size < 2 ^ 60) (hn : l.length ≤ 1000000) (hv : D2 w v l.length (l.flatMap E3)) :
  Fn PR B6 148 #[v, .string key] w (fun r w' => r = .int .i64 (F3 l key) ∧ D6 [] w w') := by
 refine Fn.pure (B44 (TW.go (κ := false) (S := []) ?_))
 unfold A9q
 (have zz:=trivial;repeat((first|clear zz|with_reducible first|refine A3 ?_|refine A5 fun _=>?_|refine A4 fun _=>?_);try simp(disch:=first|omega|assumption|((repeat(first|exact A1|exact uH|apply A2|apply uT));first|done|fail)|(simp;first|done|omega|fail))[]))
 rename_i bk bf
 refine G7 A9c (fun w' _ => C1p w' v key (by obtain ⟨a, c, rfl, _⟩ := hv.form; exact ⟨a, _, c, rfl⟩)) ?_
 rintro x u rfl
 refine A6M (C0Q x v l key hk hn) (B2B _) (fun i (_ : Unit) => L8 key ((P3 l key).drop i) = F3 l key) (fun _ _ => [.pt bf (.cells #[.int .i64 (-1)] 3), .pt bk (.cells #[.string key] 9)])
  (fun c (y : Unit) => c = .exit 0) (fun y => [.pt bf (.cells #[.int .i64 (F3 l key)] 3)]) () rfl ?_ ?_ ?_ ?_ (by simp [B6P])
 ·intro i _ F w1 _ hw
  exact RqS.of hv (fun h => by rw [A4p]; omega) hw
 ·rintro i hi _ F hψ K' hK hE
  have hi' : i < (P3 l key).length := by simpa using hi
  rw [B4B hi'] at hψ
  simp only [List.getElem_map]
  generalize (P3 l key)[i] = p at *
  simp only [A9J, VF.app]
  by_cases c0 : p.2.st = 0
  ·(have zz:=trivial;repeat((first|clear zz|with_reducible first|refine A3 ?_|refine A5 fun _=>?_|refine A4 fun _=>?_);try simp(disch:=first|omega|assumption|((repeat(first|exact A1|exact uH|apply A2|apply uT));first|done|fail)|(simp;first|done|omega|fail))[c0]))
   refine TW.sub (hE (.exit 0) () rfl) ?_
   rw [← hψ]
   simp only [L8, c0, if_true]
   ((try simp only [List.cons_append, List.nil_append, List.append_assoc]); (repeat (first | exact List.Sublist.refl _ | exact List.nil_sublist _ | with_reducible apply List.Sublist.cons_cons | apply List.Sublist.cons)); first | done | fail)
  by_cases c1 : p.2.st = 1
  ·by_cases c2 : p.2.key = key
   ·(have zz:=trivial;repeat((first|clear zz|with_reducible first|refine A3 ?_|refine A5 fun _=>?_|refine A4 fun _=>?_);try simp(disch:=first|omega|assumption|((repeat(first|exact A1|exact uH|apply A2|apply uT));first|done|fail)|(simp;first|done|omega|fail))[c0, c1, c2]))
    refine TW.sub (hE (.exit 0) () rfl) ?_
    rw [← hψ]
    simp [L8, c1, c2]
    ((try simp only [List.cons_append, List.nil_append, List.append_assoc]); (repeat (first | exact List.Sublist.refl _ | exact List.nil_sublist _ | with_reducible apply List.Sublist.cons_cons | apply List.Sublist.cons)); first | done | fail)
   ·(have zz:=trivial;repeat((first|clear zz|with_reducible first|refine A3 ?_|refine A5 fun _=>?_|refine A4 fun _=>?_);try simp(disch:=first|omega|assumption|((repeat(first|exact A1|exact uH|apply A2|apply uT));first|done|fail)|(simp;first|done|omega|fail))[c0, c1, c2]))
    refine TW.sub (hK () ?_) (by ((try simp only [List.cons_append, List.nil_append, List.append_assoc]); (repeat (first | exact List.Sublist.refl _ | exact List.nil_sublist _ | with_reducible apply List.Sublist.cons_cons | apply List.Sublist.cons)); first | done | fail))
    rw [← hψ]
    simp [L8, c1, c2]
  ·(have zz:=trivial;repeat((first|clear zz|with_reducible first|refine A3 ?_|refine A5 fun _=>?_|refine A4 fun _=>?_);try simp(disch:=first|omega|assumption|((repeat(first|exact A1|exact uH|apply A2|apply uT));first|done|fail)|(simp;first|done|omega|fail))[c0, c1]))
   refine TW.sub (hK () ?_) (by ((try simp only [List.cons_append, List.nil_append, List.append_assoc]); (repeat (first | exact List.Sublist.refl _ | exact List.nil_sublist _ | with_reducible apply List.Sublist.cons_cons | apply List.Sublist.cons)); first | done | fail))
   rw [← hψ]
   simp [L8, c0, c1]
 ·intro _ hψ
  (have zz:=trivial;repeat((first|clear zz|with_reducible first|refine A3 ?_|refine A5 fun _=>?_|refine A4 fun _=>?_);try simp(disch:=first|omega|assumption|((repeat(first|exact A1|exact uH|apply A2|apply uT));first|done|fail)|(simp;first|done|omega|fail))[]))
  simp only [List.length_map, List.drop_length, L8] at hψ
  exact B4 (by rw [← hψ])
 ·rintro _ _ rfl
  (have zz:=trivial;repeat((first|clear zz|with_reducible first|refine A3 ?_|refine A5 fun _=>?_|refine A4 fun _=>?_);try simp(disch:=first|omega|assumption|((repeat(first|exact A1|exact uH|apply A2|apply uT));first|done|fail)|(simp;first|done|omega|fail))[]))
  exact B4 rfl
def Q0 : List (Nat × EnV) → Int
 | [] => -1
 | p :: r => if p.2.st = 1 then Q0 r else p.1
def U4 (l : List EnV) (key : ByteArray) : Int := if 0 ≤ F3 l key then -1 else Q0 (P3 l key)
theorem B6H (w : World) (v : Value) (l : List EnV) (key : ByteArray) (hk : key.size < 2 ^ 60) (hn : l.length ≤ 1000000) (hv : D2 w v l.length (l.flatMap E3)) :
  Fn PR B6 183 #[v, .string key] w (fun r w' => r = .int .i64 (U4 l key) ∧ D6 [] w w') := by
 refine Fn.pure (B5M (TW.go (κ := false) (S := []) ?_))
 unfold A9j
 (have zz:=trivial;repeat((first|clear zz|with_reducible first|refine A3 ?_|refine A5 fun _=>?_|refine A4 fun _=>?_);try simp(disch:=first|omega|assumption|((repeat(first|exact A1|exact uH|apply A2|apply uT));first|done|fail)|(simp;first|done|omega|fail))[]))
 rename_i bf
 refine D4 A8D (fun w' hw' => B0B w' v l key hk hn (hv.ks hw'.ks (by simp))) ?_
 by_cases c1 : 0 ≤ F3 l key
 ·(have zz:=trivial;repeat((first|clear zz|with_reducible first|refine A3 ?_|refine A5 fun _=>?_|refine A4 fun _=>?_);try simp(disch:=first|omega|assumption|((repeat(first|exact A1|exact uH|apply A2|apply uT));first|done|fail)|(simp;first|done|omega|fail))[c1]))
  exact B4 (by simp [U4, c1])
 have e1 : U4 l key = Q0 (P3 l key) := if_neg c1
 (have zz:=trivial;repeat((first|clear zz|with_reducible first|refine A3 ?_|refine A5 fun _=>?_|refine A4 fun _=>?_);try simp(disch:=first|omega|assumption|((repeat(first|exact A1|exact uH|apply A2|apply uT));first|done|fail)|(simp;first|done|omega|fail))[c1]))
 refine G7 A9c (fun w' _ => C1p w' v key (by obtain ⟨a, c, rfl, _⟩ := hv.form; exact ⟨a, _, c, rfl⟩)) ?_
 rintro x u rfl
 refine A6M (C0Q x v l key hk hn) (B2B _) (fun i (_ : Unit) => Q0 ((P3 l key).drop i) = U4 l key) (fun _ _ => [.pt bf (.cells #[.int .i64 0] 3)])
  (fun c (y : Unit) => c = .ret) (fun y => [.pt bf (.cells #[.int .i64 (U4 l key)] 3)]) () (by rw [List.drop_zero, e1]) ?_ ?_ ?_ ?_ (by simp [B6P])
 ·intro i _ F w1 _ hw
  exact RqS.of hv (fun h => by rw [A4p]; omega) hw
 ·rintro i hi _ F hψ K' hK hE
  have hi' : i < (P3 l key).length := by simpa using hi
  rw [B4B hi'] at hψ
  simp only [List.getElem_map]
  generalize (P3 l key)[i] = p at *
  simp only [A9J, VF.app]
  by_cases c1 : p.2.st = 1
  ·(have zz:=trivial;repeat((first|clear zz|with_reducible first|refine A3 ?_|refine A5 fun _=>?_|refine A4 fun _=>?_);try simp(disch:=first|omega|assumption|((repeat(first|exact A1|exact uH|apply A2|apply uT));first|done|fail)|(simp;first|done|omega|fail))[c1]))
   refine TW.sub (hK () ?_) (by ((try simp only [List.cons_append, List.nil_append, List.append_assoc]); (repeat (first | exact List.Sublist.refl _ | exact List.nil_sublist _ | with_reducible apply List.Sublist.cons_cons | apply List.Sublist.cons)); first | done | fail))
   rw [← hψ]
   simp [Q0, c1]
  ·(have zz:=trivial;repeat((first|clear zz|with_reducible first|refine A3 ?_|refine A5 fun _=>?_|refine A4 fun _=>?_);try simp(disch:=first|omega|assumption|((repeat(first|exact A1|exact uH|apply A2|apply uT));first|done|fail)|(simp;first|done|omega|fail))[c1]))
   refine TW.sub (hE .ret () rfl) ?_
   rw [← hψ]
   simp only [Q0, c1, if_false]
   ((try simp only [List.cons_append, List.nil_append, List.append_assoc]); (repeat (first | exact List.Sublist.refl _ | exact List.nil_sublist _ | with_reducible apply List.Sublist.cons_cons | apply List.Sublist.cons)); first | done | fail)
 ·intro _ hψ
  (have zz:=trivial;repeat((first|clear zz|with_reducible first|refine A3 ?_|refine A5 fun _=>?_|refine A4 fun _=>?_);try simp(disch:=first|omega|assumption|((repeat(first|exact A1|exact uH|apply A2|apply uT));first|done|fail)|(simp;first|done|omega|fail))[]))
  simp only [List.length_map, List.drop_length, Q0] at hψ
  exact B4 (by rw [← hψ])
 ·rintro _ _ rfl
  (have zz:=trivial;repeat((first|clear zz|with_reducible first|refine A3 ?_|refine A5 fun _=>?_|refine A4 fun _=>?_);try simp(disch:=first|omega|assumption|((repeat(first|exact A1|exact uH|apply A2|apply uT));first|done|fail)|(simp;first|done|omega|fail))[]))
  exact B4 rfl
theorem B9A (w : World) (x : EnV) (st : Int) (b : Nat) (hb : w.cell? ⟨b, 0, none⟩ = some (.int .i64 st)) : Fn PR B6 157 #[.agg #[.int .i64 x.st, .string x.key, .int .i64 x.bk, .int .i64 x.dl], .pointer (some ⟨b, 0, none⟩)] w (fun r w' => r = .bool (decide (x.st = st)) ∧ D6 [] w w') := by
 refine Fn.pure (B1U (TW.go (κ := false) (S := []) ?_))
 unfold A4W
 (have zz:=trivial;repeat((first|clear zz|with_reducible first|refine A3 ?_|refine A5 fun _=>?_|refine A4 fun _=>?_);try simp(disch:=first|omega|assumption|((repeat(first|exact A1|exact uH|apply A2|apply uT));first|done|fail)|(simp;first|done|omega|fail))[hb]))
 exact B4 rfl
def N3 (l : List EnV) (st : Int) : Nat := l.countP fun x => decide (x.st = st)
theorem B1m {α : Type} {p : α → Bool} {l : List α} {i : Nat} {x : α} (hx : l[i]? = some x) : (l.take (i + 1)).countP p = (l.take i).countP p + if p x then 1 else 0 := by
 rw [List.take_add_one, hx, List.countP_append]; simp [List.countP_cons]
theorem C29 (w : World) (v : Value) (l : List EnV) (p : EnV → Bool) (f : FuncId) (cap : List Value) (hn : l.length ≤ 1000000) (hv : D2 w v l.length (l.flatMap E3)) (he : B2 PR f)
  (hf : ∀ w', KS false [] w w' → ∀ x : EnV, Fn PR B6 f (.agg #[.int .i64 x.st, .string x.key, .int .i64 x.bk, .int .i64 x.dl] :: cap).toArray w' (fun r w'' => r = .bool (p x) ∧ D6 [] w' w'')) :
  Fn PR B6 156 #[v, .func (.func f) #[] cap.toArray] w (fun r w' => r = .int .i64 (l.countP p : Nat) ∧ D6 [] w w') := by
 refine Fn.pure (A5H (TW.go (κ := false) (S := []) ?_))
 unfold x9
 obtain ⟨a, c, rfl, hr⟩ := hv.form
 (have zz:=trivial;repeat((first|clear zz|with_reducible first|refine A3 ?_|refine A5 fun _=>?_|refine A4 fun _=>?_);try simp(disch:=first|omega|assumption|((repeat(first|exact A1|exact uH|apply A2|apply uT));first|done|fail)|(simp;first|done|omega|fail))[]))
 refine Q6 (α := Unit) l.length (fun i _ => .int .i64 ((l.take i).countP p : Nat)) (fun _ _ => []) (fun i _ => True) () trivial ?_
 rintro i _ hi _ L hL
 by_cases hlt : i < l.length
 ·obtain ⟨b, o, rfl, hrow⟩ := hr (by omega)
  obtain ⟨x, hx⟩ : ∃ x, l[i]? = some x := ⟨_, List.getElem?_eq_getElem (by omega)⟩
  have h1 := hrow.at (f := E3) (k := 4) (fun _ => rfl) hx
  rw [E3] at h1
  (have zz:=trivial;repeat((first|clear zz|with_reducible first|refine A3 ?_|refine A5 fun _=>?_|refine A4 fun _=>?_);try simp(disch:=first|omega|assumption|((repeat(first|exact A1|exact uH|apply A2|apply uT));first|done|fail)|(simp;first|done|omega|fail))[hlt, h1]))
  refine C3U he (φ := fun r => r = .bool (p x)) (fun w' hw' => by simpa using hf w' hw'.ks x) ?_
  rintro _ rfl
  have hc := B1m (p := p) hx
  have hle : (l.take i).countP p ≤ i := Nat.le_trans List.countP_le_length (by simp; omega)
  have hL' := hL hlt () trivial
  rw [hc] at hL'
  cases hb : p x with
  | true =>
   rw [hb] at hL'
   (have zz:=trivial;repeat((first|clear zz|with_reducible first|refine A3 ?_|refine A5 fun _=>?_|refine A4 fun _=>?_);try simp(disch:=first|omega|assumption|((repeat(first|exact A1|exact uH|apply A2|apply uT));first|done|fail)|(simp;first|done|omega|fail))[]))
   exact Sels.tw .nil (by simpa using hL')
  | false =>
   rw [hb] at hL'
   (have zz:=trivial;repeat((first|clear zz|with_reducible first|refine A3 ?_|refine A5 fun _=>?_|refine A4 fun _=>?_);try simp(disch:=first|omega|assumption|((repeat(first|exact A1|exact uH|apply A2|apply uT));first|done|fail)|(simp;first|done|omega|fail))[]))
   exact Sels.tw .nil (by simpa using hL')
 ·obtain rfl : i = l.length := by omega
  (have zz:=trivial;repeat((first|clear zz|with_reducible first|refine A3 ?_|refine A5 fun _=>?_|refine A4 fun _=>?_);try simp(disch:=first|omega|assumption|((repeat(first|exact A1|exact uH|apply A2|apply uT));first|done|fail)|(simp;first|done|omega|fail))[]))
  exact B4 rfl
theorem B6E (w : World) (v : Value) (l : List EnV) (st : Int) (hn : l.length ≤ 1000000) (hv : D2 w v l.length (l.flatMap E3)) :
  Fn PR B6 122 #[v, .int .i64 st] w (fun r w' => r = .int .i64 (N3 l st : Nat) ∧ D6 [] w w') := by
 refine Fn.pure (B3s (TW.go (κ := false) (S := []) ?_))
 unfold A7f
 (have zz:=trivial;repeat((first|clear zz|with_reducible first|refine A3 ?_|refine A5 fun _=>?_|refine A4 fun _=>?_);try simp(disch:=first|omega|assumption|((repeat(first|exact A1|exact uH|apply A2|apply uT));first|done|fail)|(simp;first|done|omega|fail))[]))
 rename_i b
 refine D4 A4a (fun w' hw' => C29 w' v l (fun x => decide (x.st = st)) 157 [.pointer (some ⟨b, 0, none⟩)] hn (hv.ks hw'.ks (by simp)) B04
  fun w2 h x => B9A w2 x st b (h.cell (by simp) (hw'.cell1 (by (repeat constructor))))) ?_
 exact B4 rfl
end Go.Proofs.YtpnidmkaobfhiaaGreat
