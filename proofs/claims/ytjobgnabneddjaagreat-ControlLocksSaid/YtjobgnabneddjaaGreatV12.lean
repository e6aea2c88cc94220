/- The proof of a given statement, a part of it (Packet Bytes Sl Pool Vals ShProbe ShFnv Fnv Probe). No condition but what each lemma says. -/
import Derived.Lib.SlBytesRow
import Derived.Test.YtjobgnabneddjaaGreatV11
set_option linter.unusedVariables false
set_option linter.unusedSimpArgs false
namespace Go.Proofs.YtjobgnabneddjaaGreat
open Go
structure KeyV where
 v : Int
 src : ByteArray
 dst : ByteArray
 fr : Int
 tp : Int
 proto : Int
 deriving DecidableEq
def KeyV.cs (k : KeyV) : List Value := [.int .i64 k.v, .string k.src, .string k.dst, .int .i64 k.fr, .int .i64 k.tp, .int .i64 k.proto]
def KeyV.val (k : KeyV) : Value := .agg #[.int .i64 k.v, .string k.src, .string k.dst, .int .i64 k.fr, .int .i64 k.tp, .int .i64 k.proto]
def keyed.val (x : KeyV × ByteArray × Nat) : Value := .tuple #[x.1.val, .string x.2.1, .int .i64 x.2.2]
def B6M (k : KeyV) (f : Int) : Value := .agg #[.int .i64 k.v, .string k.src, .string k.dst, .int .i64 k.fr, .int .i64 k.tp, .int .i64 k.proto, .int .i64 f]
def packet.val (x : KeyV × Nat × Nat) : Value := .tuple #[B6M x.1 x.2.1, .int .i64 x.2.2]
end Go.Proofs.YtjobgnabneddjaaGreat
namespace Go.Proofs.YtjobgnabneddjaaGreat
open Go
section
variable {κ : Bool} {X : Nat → Prop} {S : List Nat} {w0 : World} {H H' : List Res} {K : Value → WP}
end
end Go.Proofs.YtjobgnabneddjaaGreat
namespace Go.Proofs.YtjobgnabneddjaaGreat
open Go
@[simp] theorem C1v {κ : Bool} {S : List Nat} {w0 : World} {H : List Res} {K : Value → WP} {t : TypeId} {z : Value} [h : TS t z] {b o : Nat} {c : Array Value} {T : TypeId} {f : Nat × Nat} (hm : Res.pt b (.cells c T f) ∈ H) :
  TW κ S w0 H (A6 PR (F1 [.c t (.pointer (some ⟨b, o, none⟩))]) K) = TW κ S w0 H (rdc c[o]? K (A6 PR (F1 [.c t (.pointer (some ⟨b, o, none⟩))]) K)) := by
 cases hc : c[o]? with
 | none => rfl
 | some v => rw [B62 hm hc]; rfl
abbrev H8 := Int × Int
def G8 (b : H8) : List Value := [.int .i64 b.1, .int .i64 b.2]
structure EnV where
 st : Int
 key : ByteArray
 bk : Int
 dl : Int
 deriving DecidableEq
def G1 (x : EnV) : List Value := [.int .i64 x.st, .string x.key, .int .i64 x.bk, .int .i64 x.dl]
theorem B6x {t u : TypeId} {n m : Nat} {z : Value} {a : Option Addr} {l c e : Nat} (h : TI PR t (.slice u) n m z) : EqV PR (e + 1) t (.slice a l c) (.slice none 0 0) a.isNone := by
 intro w
 cases a with
 | none => simp only [Op.equalIn, Sem.run_bind, h.run_und, Result.andThen_ok, Sem.run_pure, Option.isNone]
 | some a => simp only [Op.equalIn, Sem.run_bind, h.run_und, Result.andThen_ok, Sem.run_pure]; rfl
theorem B7L {t u : TypeId} {n m : Nat} {z : Value} (h : TI PR t (.slice u) n m z) (x y : Operand) (a : Option Addr) (l c : Nat) (K : Value → WP) :
  A6 PR (F3 .eql t x y (.slice a l c) (.slice none 0 0)) K = K (.bool a.isNone) := by
 funext w
 refine g8 ?_ K
 have h1 : (eqGuard .eql t x y (.slice a l c) (.slice none 0 0)).run PR w = .ok () w := by simp [eqGuard]
 have h2 : (Op.equalIn 10000 t (.slice a l c) (.slice none 0 0)).run PR w = .ok a.isNone w := B6x (e := 9999) h w
 simp [F3, h1, binOp, Op.equal, Op.maxDepth, h2]
theorem B5Y (x y : Operand) (a : Option Addr) (l c : Nat) (K : Value → WP) : A6 PR (F3 .eql 58 x y (.slice a l c) (.slice none 0 0)) K = K (.bool a.isNone) := B7L A6M x y a l c K
theorem B5E (x y : Operand) (a : Option Addr) (l c : Nat) (K : Value → WP) : A6 PR (F3 .eql 84 x y (.slice a l c) (.slice none 0 0)) K = K (.bool a.isNone) := B7L A4s x y a l c K
theorem B16 (w : World) (v : Value) (n : Nat) (xs : List Value) (hn : n ≤ 1000000) (hx : xs.length = n * 2) (hp : xs.all plain = true) (hv : G3 w v n xs) :
  Fn PR B8 123 #[v] w (Rn [] w (fun r u => u = r) fun r => [.own 155 2 r n xs]) := by
 obtain ⟨a, c, rfl, hr⟩ := hv.form
 refine W7 (TW.go (κ := false) (S := []) ?_)
 unfold M0
 cases a with
 | none =>
  obtain rfl : n = 0 := by
   rcases Nat.eq_zero_or_pos n with h | h
   ·exact h
   ·obtain ⟨_, _, h, _⟩ := hr h; cases h
  obtain rfl : xs = [] := List.length_eq_zero_iff.1 (by omega)
  (have zz:=trivial;repeat((first|clear zz|with_reducible first|refine A3 ?_|refine A5 fun _=>?_|refine A4 fun _=>?_);try simp(disch:=first|omega|assumption|((repeat(first|exact A1|exact uH|apply A2|apply uT));first|done|fail)|(simp;first|done|omega|fail))[B5Y]))
  refine A0L 155 2 ?_
  exact A1G (.slice none 0 0) rfl (by simp)
 | some a =>
  (have zz:=trivial;repeat((first|clear zz|with_reducible first|refine A3 ?_|refine A5 fun _=>?_|refine A4 fun _=>?_|refine r6 fun _=>?_|refine u9 (hK:=fun _=>?_)|refine s0 (hK:=fun _=>?_)|refine x6 (hK:=fun _=>?_)|refine v6 (hK:=fun _=>?_)|refine s7 (hK:=fun _=>?_));try simp(disch:=first|omega|assumption|((repeat(first|exact A1|exact uH|apply A2|apply uT));first|done|fail)|(simp;first|done|omega|fail))[B5Y]))
  refine A12 (by (repeat constructor)) (P4.old0 hv) (by decide) hx hp (by simp only [maxLen]; omega) (by omega) fun a' c' => ?_
  simp only [Nat.zero_add, List.nil_append]
  exact B0 _ rfl (by (repeat' constructor))
theorem B27 (w : World) (v : Value) (n : Nat) (xs : List Value) (hn : n ≤ 1000000) (hx : xs.length = n * 4) (hp : xs.all plain = true) (hv : G3 w v n xs) :
  Fn PR B8 122 #[v] w (Rn [] w (fun r u => u = r) fun r => [.own 218 4 r n xs]) := by
 obtain ⟨a, c, rfl, hr⟩ := hv.form
 refine a7 (TW.go (κ := false) (S := []) ?_)
 unfold N9
 cases a with
 | none =>
  obtain rfl : n = 0 := by
   rcases Nat.eq_zero_or_pos n with h | h
   ·exact h
   ·obtain ⟨_, _, h, _⟩ := hr h; cases h
  obtain rfl : xs = [] := List.length_eq_zero_iff.1 (by omega)
  (have zz:=trivial;repeat((first|clear zz|with_reducible first|refine A3 ?_|refine A5 fun _=>?_|refine A4 fun _=>?_);try simp(disch:=first|omega|assumption|((repeat(first|exact A1|exact uH|apply A2|apply uT));first|done|fail)|(simp;first|done|omega|fail))[B5E]))
  refine A0L 218 4 ?_
  exact A1G (.slice none 0 0) rfl (by simp)
 | some a =>
  (have zz:=trivial;repeat((first|clear zz|with_reducible first|refine A3 ?_|refine A5 fun _=>?_|refine A4 fun _=>?_|refine r6 fun _=>?_|refine u9 (hK:=fun _=>?_)|refine s0 (hK:=fun _=>?_)|refine x6 (hK:=fun _=>?_)|refine v6 (hK:=fun _=>?_)|refine s7 (hK:=fun _=>?_));try simp(disch:=first|omega|assumption|((repeat(first|exact A1|exact uH|apply A2|apply uT));first|done|fail)|(simp;first|done|omega|fail))[B5E]))
  refine A12 (by (repeat constructor)) (P4.old0 hv) (by decide) hx hp (by simp only [maxLen]; omega) (by omega) fun a' c' => ?_
  simp only [Nat.zero_add, List.nil_append]
  exact B0 _ rfl (by (repeat' constructor))
def A6P {α : Type} (p : α → Bool) (l : List α) : Int := match l.findIdx? p with | some i => i | none => -1
theorem B3S {α : Type} {p : α → Bool} {l : List α} {i : Nat} {x : α} (hx : l[i]? = some x) (hp : p x = true) (h : ∀ j y, j < i → l[j]? = some y → p y = false) : A6P p l = i := by
 have : l.findIdx? p = some i := by
  rw [List.findIdx?_eq_some_iff_getElem]
  obtain ⟨hi, e⟩ := List.getElem?_eq_some_iff.1 hx
  exact ⟨hi, by rw [e]; exact hp, fun j hj => by rw [h j l[j] hj (List.getElem?_eq_getElem (by omega))]; simp⟩
 simp [A6P, this]
theorem B2B {α : Type} {p : α → Bool} {l : List α} (h : ∀ (j : Nat) y, l[j]? = some y → p y = false) : A6P p l = -1 := by
 have : l.findIdx? p = none := by
  rw [List.findIdx?_eq_none_iff]; intro x hx; obtain ⟨i, hi, rfl⟩ := List.getElem_of_mem hx; exact h i _ (List.getElem?_eq_getElem hi)
 simp [A6P, this]
theorem A82 (w : World) (v : Value) (l : List (Int × Int)) (p : Int × Int → Bool) (f : FuncId) (cap : List Value) (hn : l.length ≤ 1000000) (hv : G3 w v l.length (l.flatMap G8)) (he : A9 PR f)
  (hf : ∀ w', KS false [] w w' → ∀ x : Int × Int, Fn PR B8 f (.agg #[.int .i64 x.1, .int .i64 x.2] :: cap).toArray w' (fun r w'' => r = .bool (p x) ∧ D0 [] w' w'')) :
  Fn PR B8 201 #[v, .func (.func f) #[] cap.toArray] w (fun r w' => r = .int .i64 (A6P p l) ∧ D0 [] w w') := by
 refine Fn.pure (q9 (TW.go (κ := false) (S := []) ?_))
 unfold S0
 obtain ⟨a, c, rfl, hr⟩ := hv.form
 (have zz:=trivial;repeat((first|clear zz|with_reducible first|refine A3 ?_|refine A5 fun _=>?_|refine A4 fun _=>?_);try simp(disch:=first|omega|assumption|((repeat(first|exact A1|exact uH|apply A2|apply uT));first|done|fail)|(simp;first|done|omega|fail))[]))
 refine Z6 (α := Unit) l.length (fun _ _ => .int .i64 0) (fun _ _ => []) (fun i _ => ∀ j y, j < i → l[j]? = some y → p y = false) () (by intro j _ hj; omega) ?_
 rintro i _ hi hpre L hL
 by_cases hlt : i < l.length
 ·obtain ⟨b, o, rfl, hrow⟩ := hr (by omega)
  obtain ⟨x, hx⟩ : ∃ x, l[i]? = some x := ⟨_, List.getElem?_eq_getElem (by omega)⟩
  have h1 := hrow.at (f := G8) (k := 2) (fun _ => rfl) hx
  rw [G8] at h1
  (have zz:=trivial;repeat((first|clear zz|with_reducible first|refine A3 ?_|refine A5 fun _=>?_|refine A4 fun _=>?_);try simp(disch:=first|omega|assumption|((repeat(first|exact A1|exact uH|apply A2|apply uT));first|done|fail)|(simp;first|done|omega|fail))[hlt, h1]))
  refine B32 he (φ := fun r => r = .bool (p x)) (fun w' hw' => by simpa using hf w' hw'.ks x) ?_
  rintro _ rfl
  cases hb : p x with
  | true =>
   (have zz:=trivial;repeat((first|clear zz|with_reducible first|refine A3 ?_|refine A5 fun _=>?_|refine A4 fun _=>?_);try simp(disch:=first|omega|assumption|((repeat(first|exact A1|exact uH|apply A2|apply uT));first|done|fail)|(simp;first|done|omega|fail))[]))
   exact B9 (by rw [B3S hx hb hpre])
  | false =>
   (have zz:=trivial;repeat((first|clear zz|with_reducible first|refine A3 ?_|refine A5 fun _=>?_|refine A4 fun _=>?_);try simp(disch:=first|omega|assumption|((repeat(first|exact A1|exact uH|apply A2|apply uT));first|done|fail)|(simp;first|done|omega|fail))[]))
   refine Sels.tw .nil (hL hlt () ?_)
   intro j y hj hy
   by_cases hji : j = i
   ·subst hji; rw [hx] at hy; cases hy; exact hb
   ·exact hpre j y (by omega) hy
 ·obtain rfl : i = l.length := by omega
  (have zz:=trivial;repeat((first|clear zz|with_reducible first|refine A3 ?_|refine A5 fun _=>?_|refine A4 fun _=>?_);try simp(disch:=first|omega|assumption|((repeat(first|exact A1|exact uH|apply A2|apply uT));first|done|fail)|(simp;first|done|omega|fail))[]))
  exact B9 (by rw [B2B fun j y hy => hpre j y (List.getElem?_eq_some_iff.1 hy).1 hy])
theorem B4s {α : Type} (p : α → Bool) (l : List α) : decide (0 ≤ A6P p l) = l.any p := by
 unfold A6P
 cases h : l.findIdx? p with
 | none =>
  have := List.findIdx?_eq_none_iff.1 h
  rw [Bool.eq_iff_iff]; simp [List.any_eq_true]; intro x hx; have := this x hx; simp_all
 | some i =>
  obtain ⟨hi, h1, _⟩ := List.findIdx?_eq_some_iff_getElem.1 h
  rw [Bool.eq_iff_iff]; simp only [List.any_eq_true, decide_eq_true_eq]
  exact ⟨fun _ => ⟨_, List.getElem_mem hi, h1⟩, fun _ => by omega⟩
theorem A6F (w : World) (v : Value) (l : List (Int × Int)) (p : Int × Int → Bool) (f : FuncId) (cap : List Value) (hn : l.length ≤ 1000000) (hv : G3 w v l.length (l.flatMap G8)) (he : A9 PR f)
  (hf : ∀ w', KS false [] w w' → ∀ x : Int × Int, Fn PR B8 f (.agg #[.int .i64 x.1, .int .i64 x.2] :: cap).toArray w' (fun r w'' => r = .bool (p x) ∧ D0 [] w' w'')) :
  Fn PR B8 148 #[v, .func (.func f) #[] cap.toArray] w (fun r w' => r = .bool (l.any p) ∧ D0 [] w w') := by
 refine Fn.pure (e8 (TW.go (κ := false) (S := []) ?_))
 unfold P5
 refine D1 m0 (fun w' hw' => A82 w' v l p f cap hn (hv.ks hw'.ks (by simp)) he fun w2 h => hf w2 (hw'.ks.trans h)) ?_
 (have zz:=trivial;repeat((first|clear zz|with_reducible first|refine A3 ?_|refine A5 fun _=>?_|refine A4 fun _=>?_);try simp(disch:=first|omega|assumption|((repeat(first|exact A1|exact uH|apply A2|apply uT));first|done|fail)|(simp;first|done|omega|fail))[]))
 exact B9 (by rw [B4s])
end Go.Proofs.YtjobgnabneddjaaGreat
namespace Go.Proofs.YtjobgnabneddjaaGreat
open Go
theorem B4l {t e : TypeId} {len n m n' m' : Nat} {z z' : Value} {d' : TypeDesc} {parts : Array (Nat × Value)} {cs : Array Value} {K : Value → WP} (h : TI PR t (.array len e) n m z) (he : TI PR e d' n' m' z')
  (hf : Instr.fill (fun i => some (i * n', n')) z.cells parts.toList = some cs) : A0 PR (Instr.build t parts) K = K (.agg cs) :=
 D5 (fun w => by
  simp only [Instr.build, Sem.run_bind, h.run_zero, Result.andThen_ok, h.run_und, he.run_size, hf, Sem.run_pure]) K
theorem bd2 {k0 k1 : IntKind} {a b : Int} (K : Value → WP) : A0 PR (Instr.build 158 #[(0, .int k0 a), (1, .int k1 b)]) K = K (.agg #[.int k0 a, .int k1 b]) :=
 B4l A6j H0 (by rw [show (#[(0, Value.int k0 a), (1, Value.int k1 b)] : Array (Nat × Value)).toList = [(0, Value.int k0 a), (1, Value.int k1 b)] from rfl, C1 rfl rfl (by simp), C1 rfl rfl (by simp [C7])]; rfl)
theorem B0Q (w : World) (x : Int × Int) : Fn PR B8 149 #[.agg #[.int .i64 x.1, .int .i64 x.2]] w (fun r w' => r = .bool (decide (x.1 < 1 ∨ x.2 < x.1)) ∧ D0 [] w w') := by
 refine Fn.pure (A5x (TW.go (κ := false) (S := []) ?_))
 unfold A0n
 by_cases c1 : x.1 < 1
 ·(have zz:=trivial;repeat((first|clear zz|with_reducible first|refine A3 ?_|refine A5 fun _=>?_|refine A4 fun _=>?_);try simp(disch:=first|omega|assumption|((repeat(first|exact A1|exact uH|apply A2|apply uT));first|done|fail)|(simp;first|done|omega|fail))[c1]))
  exact B9 (by simp [c1])
 ·(have zz:=trivial;repeat((first|clear zz|with_reducible first|refine A3 ?_|refine A5 fun _=>?_|refine A4 fun _=>?_);try simp(disch:=first|omega|assumption|((repeat(first|exact A1|exact uH|apply A2|apply uT));first|done|fail)|(simp;first|done|omega|fail))[c1]))
  exact B9 (by simp [c1])
theorem B2m (w : World) (v : Value) (l : List (Int × Int)) (hn : l.length ≤ 1000000) (hv : G3 w v l.length (l.flatMap G8)) :
  Fn PR B8 89 #[v] w (fun r w' => r = .bool (!l.any fun x => decide (x.1 < 1 ∨ x.2 < x.1)) ∧ D0 [] w w') := by
 refine Fn.pure (A76 (TW.go (κ := false) (S := []) ?_))
 unfold A20
 refine D1 Z8 (fun w' hw' => A6F w' v l (fun x => decide (x.1 < 1 ∨ x.2 < x.1)) 149 [] hn (hv.ks hw'.ks (by simp)) A5A fun w2 h x => B0Q w2 x) ?_
 (have zz:=trivial;repeat((first|clear zz|with_reducible first|refine A3 ?_|refine A5 fun _=>?_|refine A4 fun _=>?_);try simp(disch:=first|omega|assumption|((repeat(first|exact A1|exact uH|apply A2|apply uT));first|done|fail)|(simp;first|done|omega|fail))[]))
 exact B9 rfl
def A7u (b : H8) : Bool := decide (1 ≤ b.1 ∧ b.1 ≤ 65535 ∧ 1 ≤ b.2 ∧ b.2 ≤ 16)
def j3 : List H8 → Bool
 | [] => true
 | b :: l => A7u b && !(l.any fun x => decide (x.1 = b.1)) && j3 l
def T6 (l : List H8) : Int := if j3 l && decide (l.length ≤ 32) then 0 else 10
theorem A3m (l : List H8) : j3 l = true ↔ (∀ b ∈ l, A7u b = true) ∧ l.Pairwise fun a b => a.1 ≠ b.1 := by
 induction l with
 | nil => simp [j3]
 | cons b l ih =>
  simp only [j3, Bool.and_eq_true, ih, List.mem_cons, forall_eq_or_imp, List.pairwise_cons, Bool.not_eq_true', List.any_eq_false, decide_eq_true_eq]
  constructor
  ·rintro ⟨⟨h1, h2⟩, h3, h4⟩; exact ⟨⟨h1, h3⟩, fun a ha e => h2 a ha e.symm, h4⟩
  ·rintro ⟨⟨h1, h3⟩, h2, h4⟩; exact ⟨⟨h1, fun a ha e => h2 a ha e.symm⟩, h3, h4⟩
theorem B7r {α : Type} {R : α → α → Prop} {l : List α} (h : l.Pairwise R) {i j : Nat} {x y : α} (hij : i < j) (hx : l[i]? = some x) (hy : l[j]? = some y) : R x y := by
 obtain ⟨h1, rfl⟩ := List.getElem?_eq_some_iff.1 hx
 obtain ⟨h2, rfl⟩ := List.getElem?_eq_some_iff.1 hy
 exact List.pairwise_iff_getElem.1 h i j h1 h2 hij
theorem B5n {α : Type} {R : α → α → Prop} {l : List α} {i : Nat} {x : α} (hx : l[i]? = some x) : (l.take (i + 1)).Pairwise R ↔ (l.take i).Pairwise R ∧ ∀ y ∈ l.take i, R y x := by
 rw [List.take_add_one, hx]; simp [List.pairwise_append]
theorem A45 (w : World) (v : Value) (l : List H8) (hn : l.length ≤ 1000000) (hv : G3 w v l.length (l.flatMap G8)) :
  Fn PR B8 29 #[v] w (fun r w' => r = .int .i64 (T6 l) ∧ D0 [] w w') := by
 refine Fn.pure (A8z (TW.go (κ := false) (S := []) ?_))
 unfold A39
 obtain ⟨a, c, rfl, hr⟩ := hv.form
 refine B6L (Value.int .i64) fun r => ?_
 (have zz:=trivial;repeat((first|clear zz|with_reducible first|refine A3 ?_|refine A5 fun _=>?_|refine A4 fun _=>?_);try simp(disch:=first|omega|assumption|((repeat(first|exact A1|exact uH|apply A2|apply uT));first|done|fail)|(simp;first|done|omega|fail))[]))
 refine Z6 (α := List (Int × Value)) l.length (fun _ _ => .int .i64 0) (fun _ M => [.pt r (Z1 (Value.int .i64) M)]) (fun i M => (∀ k, A1S k M = if (l.take i).any (fun x => decide (x.1 = k)) then some (.bool true) else none) ∧ j3 (l.take i) = true) [] (by simp [A1S, j3]) ?_
 rintro i M hi ⟨hM, hok⟩ L hL
 by_cases hlt : i < l.length
 ·obtain ⟨b, o, rfl, hrow⟩ := hr (by omega)
  obtain ⟨x, hx⟩ : ∃ x, l[i]? = some x := ⟨_, List.getElem?_eq_getElem (by omega)⟩
  have h1 := hrow.at (f := G8) (k := 2) (fun _ => rfl) hx
  rw [G8] at h1
  have hxm : x ∈ l := List.mem_of_getElem? hx
  (have zz:=trivial;repeat((first|clear zz|with_reducible first|refine A3 ?_|refine A5 fun _=>?_|refine A4 fun _=>?_);try simp(disch:=first|omega|assumption|((repeat(first|exact A1|exact uH|apply A2|apply uT));first|done|fail)|(simp;first|done|omega|fail))[hlt, h1]))
  rw [B4U B5H ty4 (KeyT.int H0) (l := M) (by (repeat constructor)), hM]
  cases hseen : (l.take i).any (fun y => decide (y.1 = x.1)) with
  | true =>
   have hbad : T6 l = 10 := by
    have : j3 l = false := by
     rw [← Bool.not_eq_true, A3m]
     rintro ⟨_, h⟩
     obtain ⟨y, hy, he⟩ := List.any_eq_true.1 hseen
     obtain ⟨j, hj, rfl⟩ := List.getElem_of_mem hy
     simp only [List.length_take] at hj
     exact B7r (i := j) (j := i) h (by omega) (List.getElem?_eq_getElem (by omega)) hx (by simpa using he)
    simp [T6, this]
   (have zz:=trivial;repeat((first|clear zz|with_reducible first|refine A3 ?_|refine A5 fun _=>?_|refine A4 fun _=>?_);try simp(disch:=first|omega|assumption|((repeat(first|exact A1|exact uH|apply A2|apply uT));first|done|fail)|(simp;first|done|omega|fail))[]))
   exact B9 (by rw [hbad])
  | false =>
   simp only [Bool.false_eq_true, if_false, Option.getD_none]
   (have zz:=trivial;repeat((first|clear zz|with_reducible first|refine A3 ?_|refine A5 fun _=>?_|refine A4 fun _=>?_|refine r6 fun _=>?_|refine u9 (hK:=fun _=>?_)|refine s0 (hK:=fun _=>?_)|refine x6 (hK:=fun _=>?_)|refine v6 (hK:=fun _=>?_)|refine s7 (hK:=fun _=>?_));try simp(disch:=first|omega|assumption|((repeat(first|exact A1|exact uH|apply A2|apply uT));first|done|fail)|(simp;first|done|omega|fail))[bd2]))
   rename_i bs bx
   refine D1 (u := .bool (A7u x)) A64 (fun w' hw' => ?_) ?_
   ·have := B2m w' (.slice (some ⟨bx, 0, none⟩) 2 2) [(x.1, 65535), (x.2, 16)] (by simp) (by simpa [G8] using P4.own (κ := false) (S := []) (w0 := w) (e := 158) (k := 2) (q := 2) (v := .slice (some ⟨bx, 0, none⟩) 2 2) (by (repeat constructor)) w' hw')
    have e : (!([(x.1, 65535), (x.2, 16)] : List (Int × Int)).any fun x => decide (x.1 < 1 ∨ x.2 < x.1)) = A7u x := by
     rw [Bool.eq_iff_iff]; simp [A7u]; omega
    rw [e] at this
    exact this
   ·cases hbk : A7u x with
    | false =>
     have hbad : T6 l = 10 := by
      have : j3 l = false := by
       rw [← Bool.not_eq_true, A3m]
       rintro ⟨h, _⟩
       rw [h x hxm] at hbk; cases hbk
      simp [T6, this]
     (have zz:=trivial;repeat((first|clear zz|with_reducible first|refine A3 ?_|refine A5 fun _=>?_|refine A4 fun _=>?_);try simp(disch:=first|omega|assumption|((repeat(first|exact A1|exact uH|apply A2|apply uT));first|done|fail)|(simp;first|done|omega|fail))[]))
     exact B9 (by rw [hbad])
    | true =>
     (have zz:=trivial;repeat((first|clear zz|with_reducible first|refine A3 ?_|refine A5 fun _=>?_|refine A4 fun _=>?_);try simp(disch:=first|omega|assumption|((repeat(first|exact A1|exact uH|apply A2|apply uT));first|done|fail)|(simp;first|done|omega|fail))[]))
     refine B36 B5H (KeyT.int H0) (k := x.1) (by (repeat constructor)) ?_
     (have zz:=trivial;repeat((first|clear zz|with_reducible first|refine A3 ?_|refine A5 fun _=>?_|refine A4 fun _=>?_);try simp(disch:=first|omega|assumption|((repeat(first|exact A1|exact uH|apply A2|apply uT));first|done|fail)|(simp;first|done|omega|fail))[]))
     refine Sels.tw (by (repeat' constructor)) (hL hlt _ ⟨?_, ?_⟩)
     ·intro k
      rw [B2x, hM, List.take_add_one, hx]
      by_cases hk : k = x.1
      ·subst hk; simp
      ·have hk' : ¬ x.1 = k := fun e => hk e.symm
       have hAB : (l.take i ++ (some x).toList).any (fun x => decide (x.1 = k)) = (l.take i).any (fun x => decide (x.1 = k)) := by
        rw [List.any_append]; simp only [Option.toList_some, List.any_cons, List.any_nil, decide_eq_false hk', Bool.or_false]
       rw [if_neg hk, hAB]
     ·rw [A3m] at hok ⊢
      refine ⟨fun y hy => ?_, (B5n hx).2 ⟨hok.2, fun y hy e => ?_⟩⟩
      ·rw [List.take_add_one, hx] at hy
       simp only [Option.toList_some, List.mem_append, List.mem_singleton] at hy
       rcases hy with hy | rfl
       ·exact hok.1 y hy
       ·exact hbk
      ·have := List.any_eq_false.1 hseen y hy
       simp [e] at this
 ·obtain rfl : i = l.length := by omega
  rw [List.take_length] at hok
  by_cases c1 : l.length ≤ 32
  ·have c1' : ¬ (32 : Int) < l.length := by omega
   (have zz:=trivial;repeat((first|clear zz|with_reducible first|refine A3 ?_|refine A5 fun _=>?_|refine A4 fun _=>?_);try simp(disch:=first|omega|assumption|((repeat(first|exact A1|exact uH|apply A2|apply uT));first|done|fail)|(simp;first|done|omega|fail))[c1']))
   exact B9 (by simp [T6, hok, c1])
  ·have c1' : (32 : Int) < l.length := by omega
   (have zz:=trivial;repeat((first|clear zz|with_reducible first|refine A3 ?_|refine A5 fun _=>?_|refine A4 fun _=>?_);try simp(disch:=first|omega|assumption|((repeat(first|exact A1|exact uH|apply A2|apply uT));first|done|fail)|(simp;first|done|omega|fail))[c1']))
   exact B9 (by simp [T6, c1])
end Go.Proofs.YtjobgnabneddjaaGreat
namespace Go.Proofs.YtjobgnabneddjaaGreat
open Go
structure CfgV where
 wk : Int
 sh : Int
 cp : Int
 idle : Int
 sl : Int
 deriving DecidableEq
def CfgV.val (c : CfgV) : Value := .agg #[.int .i64 c.wk, .int .i64 c.sh, .int .i64 c.cp, .int .i64 c.idle, .int .i64 c.sl]
def V3 (n lo hi : Int) : Bool := decide (lo ≤ n) && decide (n ≤ hi)
def Q9 (c : CfgV) : Bool := V3 c.wk 1 64 && V3 c.sh 1 16 && V3 c.cp 1 64 && V3 c.idle 0 1000000 && V3 c.sl 2 8
structure AnsV where
 err : Int
 bk : Int
 made : Bool
 count : Int
 deriving DecidableEq
def AnsV.val (a : AnsV) : Value := .agg #[.int .i64 a.err, .int .i64 a.bk, .bool a.made, .int .i64 a.count]
structure OpV where
 kind : Int
 packet : ByteArray
 pool : List H8
 shard : Int
def OpV.val (o : OpV) (v : Value) : Value := .agg #[.int .i64 o.kind, .string o.packet, v, .int .i64 o.shard]
end Go.Proofs.YtjobgnabneddjaaGreat
namespace Go.Proofs.YtjobgnabneddjaaGreat
open Go
def A4K (X : Nat → Prop) (t0 t1 : Value) (R : Value → WP) : WP :=
 B7 PR X (Instr.box 9 t1) fun t3 =>
 B7 PR X (Instr.alloc 3 true (.tuple #[])) fun t5 =>
 C6 PR X (Instr.storeAt 3 t5 (.int .i64 (-1))) <|
 jn (n := 0) (
 A6 PR (Instr.loadAt 3 t5) fun t28 =>
 Y6 (R t28)) fun J1 =>
 A6 PR (Instr.loadAt 9 t3) fun t9 =>
 B6 PR X 179 [t0, t9] fun t10 =>
 rng (N := 2) PR X (fun t11 t12 K2 =>
 B7 PR (fun _ => False) (Instr.alloc 218 true (.tuple #[])) fun t7 =>
 C6 PR (fun _ => False) (Instr.storeAt 218 t7 t12) <|
 bgn <|
 A0 PR (Instr.fieldAt 218 t7 0) fun t14 =>
 A6 PR (Instr.loadAt 3 t14) fun t15 =>
 A0 PR (binOp .eql 3 t15 (.int .i64 0)) fun t16 =>
 C2 t16 (
 K2 (some (.exit 0))) (
 A0 PR (Instr.fieldAt 218 t7 0) fun t18 =>
 A6 PR (Instr.loadAt 3 t18) fun t19 =>
 A0 PR (binOp .eql 3 t19 (.int .i64 1)) fun t20 =>
 gj t20 true (fun J => A0 PR (Instr.fieldAt 218 t7 1) J) fun t22 =>
 gj t20 true (fun J => A6 PR (Instr.loadAt 9 t22) J) fun t23 =>
 gj t20 true (fun J => A6 PR (Instr.loadAt 9 t3) J) fun t24 =>
 gj t20 true (fun J => A0 PR (binOp .eql 9 t23 t24) J) fun t25 =>
 A0 PR (do pure (if ← asBool t20 then t25 else (.bool false))) fun t26 =>
 C2 t26 (
 C6 PR (fun _ => False) (Instr.storeAt 3 t5 t11) <|
 K2 (some (.exit 0))) (
 K2 none))) t10 (fun j => match j with | none => (J1) | some (.exit i) => (match Nat.beq i 0 with | true => (J1) | false => (D9)) | some .ret => (Y6 (R (.int .i64 0))) | some _ => D9)
theorem A21 : A9 PR 133 := A7 Tryz.func133 (by kernel_rfl) rfl
theorem A8x {X : Nat → Prop} {t0 t1 : Value} {R : Value → WP} {w : World} (h : A4K X t0 t1 R w) : Fn PR X 133 #[t0, t1] w R := C9 (args := [t0, t1]) mixed Tryz.func133 (by kernel_rfl) h
def A4f (X : Nat → Prop) (t0 t1 : Value) (R : Value → WP) : WP :=
 B7 PR X (Instr.box 84 t0) fun t2 =>
 B7 PR X (Instr.box 9 t1) fun t3 =>
 A0 PR (Instr.makeFunc (.func 235) #[] #[t3, t2]) fun t5 =>
 R t5
theorem A4G : A9 PR 179 := A7 Tryz.func179 (by kernel_rfl) rfl
theorem A9L {X : Nat → Prop} {t0 t1 : Value} {R : Value → WP} {w : World} (h : A4f X t0 t1 R w) : Fn PR X 179 #[t0, t1] w R := C9 (args := [t0, t1]) mixed Tryz.func179 (by kernel_rfl) h
def A2s (X : Nat → Prop) (t0 t1 : Value) (R : Value → WP) : WP :=
 B7 PR X (Instr.box 3 t1) fun t3 =>
 A0 PR (Instr.makeFunc (.func 241) #[] #[t3]) fun t6 =>
 B6 PR X 240 [t0, t6] fun t7 =>
 R t7
theorem A1x : A9 PR 186 := A7 Tryz.func186 (by kernel_rfl) rfl
theorem A7m {X : Nat → Prop} {t0 t1 : Value} {R : Value → WP} {w : World} (h : A2s X t0 t1 R w) : Fn PR X 186 #[t0, t1] w R := C9 (args := [t0, t1]) mixed Tryz.func186 (by kernel_rfl) h
def A15 (X : Nat → Prop) (t0 t1 t2 : Value) (R : Value → WP) : WP :=
 A6 PR (Instr.loadAt 9 t1) fun t7 =>
 A6 PR (Instr.loadAt 84 t2) fun t8 =>
 A0 PR (A8 .len #[84] 0 [t8]) fun t9 =>
 B6 PR X 236 [t7, t9] fun t10 =>
 A6 PR (Instr.loadAt 84 t2) fun t11 =>
 A0 PR (A8 .len #[84] 0 [t11]) fun t12 =>
 lp (n := 1) (fun L1 t13 =>
 A0 PR (binOp .lss 3 t13 t12) fun t14 =>
 jn (n := 0) (
 jn (n := 0) (
 A0 PR (binOp .add 3 t13 (.int .i64 1)) fun t30 =>
 L1 t30) fun J2 =>
 A0 PR (binOp .add 3 t10 t13) fun t18 =>
 A6 PR (Instr.loadAt 84 t2) fun t19 =>
 A0 PR (A8 .len #[84] 0 [t19]) fun t20 =>
 A0 PR (binOp .rem 3 t18 t20) fun t21 =>
 A6 PR (Instr.loadAt 84 t2) fun t24 =>
 A0 PR (Instr.indexAt 84 t24 t21) fun t26 =>
 A6 PR (Instr.loadAt 218 t26) fun t27 =>
 W9 PR X t0 [t21, t27] fun t28 =>
 A0 PR (Op.unary .not t28) fun t29 =>
 C2 t29 (
 R (.tuple #[])) (
 J2)) fun J3 =>
 C2 t14 (
 J3) (
 R (.tuple #[]))) (.int .i64 0)
theorem A6H : A9 PR 235 := A7 Tryz.func235 (by kernel_rfl) rfl
theorem A68 {X : Nat → Prop} {t0 t1 t2 : Value} {R : Value → WP} {w : World} (h : A15 X t0 t1 t2 R w) : Fn PR X 235 #[t0, t1, t2] w R := C9 (args := [t0, t1, t2]) mixed Tryz.func235 (by kernel_rfl) h
theorem A65 {X : Nat → Prop} {t0 t1 t2 : Value} {K : Value → WP} {w : World} (h : Fn PR X 235 #[t0, t1, t2] w K) : w6 PR X 235 [t0, t1, t2] K w := ⟨A6H, h⟩
def A4B (X : Nat → Prop) (t0 t1 : Value) (R : Value → WP) : WP :=
 jn (n := 1) (fun t4 =>
 B6 PR X 135 [t0] fun t8 =>
 A0 PR (convert 3 89 t1) fun t10 =>
 A0 PR (binOp .rem 89 t8 t10) fun t11 =>
 A0 PR (convert 89 3 t11) fun t12 =>
 R t12) fun J1 =>
 A0 PR (binOp .lss 3 t1 (.int .i64 1)) fun t6 =>
 C2 t6 (
 R (.int .i64 0)) (
 J1 (.int .i64 0))
theorem A8A : A9 PR 236 := A7 Tryz.func236 (by kernel_rfl) rfl
theorem A8v {X : Nat → Prop} {t0 t1 : Value} {R : Value → WP} {w : World} (h : A4B X t0 t1 R w) : Fn PR X 236 #[t0, t1] w R := C9 (args := [t0, t1]) mixed Tryz.func236 (by kernel_rfl) h
def Z7 (X : Nat → Prop) (t0 t1 : Value) (R : Value → WP) : WP :=
 jn (n := 2) (fun t5 t10 =>
 R t5) fun J1 =>
 A0 PR (A8 .len #[84] 0 [t0]) fun t9 =>
 lp (n := 2) (fun L2 t5_1 t10_1 =>
 A0 PR (binOp .lss 3 t10_1 t9) fun t11 =>
 jn (n := 0) (
 jn (n := 1) (fun t5_2 =>
 A0 PR (binOp .add 3 t10_1 (.int .i64 1)) fun t19 =>
 L2 t5_2 t19) fun J3 =>
 A0 PR (Instr.indexAt 84 t0 t10_1) fun t12 =>
 A6 PR (Instr.loadAt 218 t12) fun t13 =>
 B7 PR X (Instr.alloc 218 true (.tuple #[])) fun t7 =>
 C6 PR X (Instr.storeAt 218 t7 t13) <|
 A6 PR (Instr.loadAt 218 t7) fun t15 =>
 W9 PR X t1 [t15] fun t16 =>
 C2 t16 (
 A0 PR (binOp .add 3 t5_1 (.int .i64 1)) fun t18 =>
 J3 t18) (
 J3 t5_1)) fun J4 =>
 C2 t11 (
 J4) (
 J1 t5_1 t10_1)) (.int .i64 0) (.int .i64 0)
theorem A0z : A9 PR 240 := A7 Tryz.func240 (by kernel_rfl) rfl
theorem A1E {X : Nat → Prop} {t0 t1 : Value} {R : Value → WP} {w : World} (h : Z7 X t0 t1 R w) : Fn PR X 240 #[t0, t1] w R := C9 (args := [t0, t1]) mixed Tryz.func240 (by kernel_rfl) h
def A0m (X : Nat → Prop) (t0 t1 : Value) (R : Value → WP) : WP :=
 B7 PR X (Instr.box 218 t0) fun t2 =>
 A0 PR (Instr.fieldAt 218 t2 0) fun t4 =>
 A6 PR (Instr.loadAt 3 t4) fun t5 =>
 A6 PR (Instr.loadAt 3 t1) fun t6 =>
 A0 PR (binOp .eql 3 t5 t6) fun t7 =>
 R t7
theorem A48 : A9 PR 241 := A7 Tryz.func241 (by kernel_rfl) rfl
theorem A5y {X : Nat → Prop} {t0 t1 : Value} {R : Value → WP} {w : World} (h : A0m X t0 t1 R w) : Fn PR X 241 #[t0, t1] w R := C9 (args := [t0, t1]) mixed Tryz.func241 (by kernel_rfl) h
def A4L (X : Nat → Prop) (t0 t1 : Value) (R : Value → WP) : WP :=
 B7 PR X (Instr.alloc 3 true (.tuple #[])) fun t4 =>
 jn (n := 0) (
 jn (n := 0) (
 C6 PR X (Instr.storeAt 3 t4 (.int .i64 (-1))) <|
 Y6 (A6 PR (F1 [.c 3 t4]) R)) fun J1 =>
 B6 PR X 179 [t0, t1] fun t13 =>
 rng (N := 2) PR X (fun t14 t15 K2 =>
 B7 PR (fun _ => False) (Instr.alloc 218 true (.tuple #[])) fun t6 =>
 C6 PR (fun _ => False) (Instr.storeAt 218 t6 t15) <|
 bgn <|
 A0 PR (Instr.fieldAt 218 t6 0) fun t16 =>
 A6 PR (Instr.loadAt 3 t16) fun t17 =>
 A0 PR (binOp .neq 3 t17 (.int .i64 1)) fun t18 =>
 C2 t18 (
 C6 PR (fun _ => False) (Instr.storeAt 3 t4 t14) <|
 K2 (some .ret)) (
 K2 none)) t13 (fun j => match j with | none => (J1) | some (.exit i) => (match Nat.beq i 0 with | true => (J1) | false => (D9)) | some .ret => (Y6 (A6 PR (F1 [.c 3 t4]) R)) | some _ => D9)) fun J3 =>
 B6 PR X 133 [t0, t1] fun t9 =>
 A0 PR (binOp .geq 3 t9 (.int .i64 0)) fun t10 =>
 C2 t10 (
 C6 PR X (Instr.storeAt 3 t4 (.int .i64 (-1))) <|
 Y6 (A6 PR (F1 [.c 3 t4]) R)) (
 J3)
theorem A78 : A9 PR 242 := A7 Tryz.func242 (by kernel_rfl) rfl
theorem A84 {X : Nat → Prop} {t0 t1 : Value} {R : Value → WP} {w : World} (h : A4L X t0 t1 R w) : Fn PR X 242 #[t0, t1] w R := C9 (args := [t0, t1]) mixed Tryz.func242 (by kernel_rfl) h
end Go.Proofs.YtjobgnabneddjaaGreat
namespace Go.Proofs.YtjobgnabneddjaaGreat
open Go
def A7J (X : Nat → Prop) (t0 : Value) (R : Value → WP) : WP :=
 B6 PR X 183 [(.int .u64 14695981039346656037), t0] fun t4 =>
 R t4
theorem A59 : A9 PR 135 := A7 Tryz.func135 (by kernel_rfl) rfl
theorem B1n {X : Nat → Prop} {t0 : Value} {R : Value → WP} {w : World} (h : A7J X t0 R w) : Fn PR X 135 #[t0] w R := C9 (args := [t0]) mixed Tryz.func135 (by kernel_rfl) h
def A51 (X : Nat → Prop) (t0 t1 : Value) (R : Value → WP) : WP :=
 B7 PR X (Instr.alloc 368 true (.tuple #[])) fun t5 =>
 B7 PR X (Instr.alloc 370 true (.tuple #[])) fun t6 =>
 C6 PR X (Instr.storeAt 368 t5 (.func (.func 238) #[] #[])) <|
 C6 PR X (Instr.storeAt 370 t6 t0) <|
 jn (n := 0) (
 A6 PR (Instr.loadAt 370 t6) fun t16 =>
 Y6 (R t16)) fun J1 =>
 B6 PR X 239 [t1] fun t10 =>
 rng (N := 1) PR X (fun t11 K2 =>
 bgn <|
 A6 PR (Instr.loadAt 368 t5) fun t12 =>
 A6 PR (Instr.loadAt 370 t6) fun t13 =>
 W9 PR (fun _ => False) t12 [t13, t11] fun t15 =>
 C6 PR (fun _ => False) (Instr.storeAt 370 t6 t15) <|
 K2 none) t10 (fun j => match j with | none => (J1) | some (.exit i) => (match Nat.beq i 0 with | true => (J1) | false => (D9)) | some .ret => (Y6 (R (.int .u64 0))) | some _ => D9)
theorem A43 : A9 PR 183 := A7 Tryz.func183 (by kernel_rfl) rfl
theorem B0T {X : Nat → Prop} {t0 t1 : Value} {R : Value → WP} {w : World} (h : A51 X t0 t1 R w) : Fn PR X 183 #[t0, t1] w R := C9 (args := [t0, t1]) mixed Tryz.func183 (by kernel_rfl) h
def A23 (X : Nat → Prop) (t0 t1 : Value) (R : Value → WP) : WP :=
 A0 PR (convert 5 370 t1) fun t7 =>
 A0 PR (binOp .xor 370 t0 t7) fun t8 =>
 A0 PR (binOp .mul 370 t8 (.int .u64 1099511628211)) fun t9 =>
 R t9
theorem A6m : A9 PR 238 := A7 Tryz.func238 (by kernel_rfl) rfl
theorem A7s {X : Nat → Prop} {t0 t1 : Value} {R : Value → WP} {w : World} (h : A23 X t0 t1 R w) : Fn PR X 238 #[t0, t1] w R := C9 (args := [t0, t1]) mixed Tryz.func238 (by kernel_rfl) h
def A57 (X : Nat → Prop) (t0 : Value) (R : Value → WP) : WP :=
 B7 PR X (Instr.box 9 t0) fun t1 =>
 A0 PR (Instr.makeFunc (.func 268) #[] #[t1]) fun t3 =>
 R t3
theorem A9w : A9 PR 239 := A7 Tryz.func239 (by kernel_rfl) rfl
theorem B0N {X : Nat → Prop} {t0 : Value} {R : Value → WP} {w : World} (h : A57 X t0 R w) : Fn PR X 239 #[t0] w R := C9 (args := [t0]) mixed Tryz.func239 (by kernel_rfl) h
def A26 (X : Nat → Prop) (t0 t1 : Value) (R : Value → WP) : WP :=
 A6 PR (Instr.loadAt 9 t1) fun t4 =>
 A0 PR (A8 .len #[9] 0 [t4]) fun t5 =>
 lp (n := 1) (fun L1 t6 =>
 A0 PR (binOp .lss 3 t6 t5) fun t7 =>
 jn (n := 0) (
 jn (n := 0) (
 A0 PR (binOp .add 3 t6 (.int .i64 1)) fun t15 =>
 L1 t15) fun J2 =>
 A6 PR (Instr.loadAt 9 t1) fun t10 =>
 A0 PR (Instr.index 9 t10 t6) fun t12 =>
 W9 PR X t0 [t12] fun t13 =>
 A0 PR (Op.unary .not t13) fun t14 =>
 C2 t14 (
 R (.tuple #[])) (
 J2)) fun J3 =>
 C2 t7 (
 J3) (
 R (.tuple #[]))) (.int .i64 0)
theorem A6v : A9 PR 268 := A7 Tryz.func268 (by kernel_rfl) rfl
theorem A7b {X : Nat → Prop} {t0 t1 : Value} {R : Value → WP} {w : World} (h : A26 X t0 t1 R w) : Fn PR X 268 #[t0, t1] w R := C9 (args := [t0, t1]) mixed Tryz.func268 (by kernel_rfl) h
theorem A7z {X : Nat → Prop} {t0 t1 : Value} {K : Value → WP} {w : World} (h : Fn PR X 268 #[t0, t1] w K) : w6 PR X 268 [t0, t1] K w := ⟨A6v, h⟩
end Go.Proofs.YtjobgnabneddjaaGreat
namespace Go.Proofs.YtjobgnabneddjaaGreat
open Go
def A7q (h b : Nat) : Nat := ((h ^^^ b) * 1099511628211) % 18446744073709551616
def A7p (h : Nat) (s : ByteArray) : Nat → Nat
 | 0 => h
 | i + 1 => A7q (A7p h s i) (u3 s i)
def B1q (h : Nat) (s : ByteArray) : Nat := A7p h s s.size
def A7U (s : ByteArray) : Nat := B1q 14695981039346656037 s
theorem B6Q (h b : Nat) : A7q h b < 2 ^ 64 := by unfold A7q; omega
theorem B02 {h : Nat} (hh : h < 2 ^ 64) (s : ByteArray) (i : Nat) : A7p h s i < 2 ^ 64 := by
 cases i with
 | zero => exact hh
 | succ i => exact B6Q _ _
theorem B8s (w : World) (h b : Nat) (hh : h < 2 ^ 64) (hb : b < 256) : Fn PR B8 238 #[.int .u64 (h : Int), .int .u8 (b : Int)] w (fun v w' => v = .int .u64 (A7q h b : Nat) ∧ D0 [] w w') := by
 refine Fn.pure (A7s (TW.go (κ := false) (S := []) ?_))
 unfold A23
 (have zz:=trivial;repeat((first|clear zz|with_reducible first|refine A3 ?_|refine A5 fun _=>?_|refine A4 fun _=>?_);try simp(disch:=first|omega|assumption|((repeat(first|exact A1|exact uH|apply A2|apply uT));first|done|fail)|(simp;first|done|omega|fail))[]))
 have e1 : (h % 2 ^ IntKind.u64.bits ^^^ b % 2 ^ IntKind.u64.bits) = h ^^^ b := by rw [show (2 : Nat) ^ IntKind.u64.bits = 2 ^ 64 from rfl, Nat.mod_eq_of_lt hh, Nat.mod_eq_of_lt (by omega)]
 have e2 : h ^^^ b < 2 ^ 64 := Nat.xor_lt_two_pow hh (by omega)
 rw [e1, B5f (n := ((h ^^^ b : Nat) : Int)) (by omega) (by omega)]
 refine B9 ?_
 have e3 : IntKind.u64.wrap (((h ^^^ b : Nat) : Int) * 1099511628211) = (A7q h b : Nat) := by
  simp only [IntKind.wrap, IntKind.bits, IntKind.signed, A7q]
  simp
 rw [e3]
abbrev B5S (b : Nat) : Value := .func (.func 268) #[] #[.pointer (some ⟨b, 0, none⟩)]
theorem B6W (w : World) (s : ByteArray) : Fn PR B8 239 #[.string s] w (Rn [] w (fun b v => v = B5S b) fun b => [.pt b (.cells #[.string s] 9)]) := by
 refine B0N (TW.go (κ := false) (S := []) ?_)
 unfold A57
 (have zz:=trivial;repeat((first|clear zz|with_reducible first|refine A3 ?_|refine A5 fun _=>?_|refine A4 fun _=>?_);try simp(disch:=first|omega|assumption|((repeat(first|exact A1|exact uH|apply A2|apply uT));first|done|fail)|(simp;first|done|omega|fail))[]))
 rename_i b
 exact A1G b rfl (by simp)
def A88 (s : ByteArray) (i : Nat) : List Value := [.int .u8 (u3 s i : Nat)]
theorem B6T (b : Nat) (s : ByteArray) (hs : s.size < 2 ^ 60) : A1z (B5S b) [.pt b (.cells #[.string s] 9)] (fun _ _ => True) ((List.range s.size).map (A88 s)) := by
 refine ⟨_, _, _, rfl, fun l J E hJ hE stJ stE hy w0 h0 => ?_⟩
 refine A7z (A7b (TW.at (κ := true) ?_ (hJ _ _ _ h0).1))
 unfold A26
 (have zz:=trivial;repeat((first|clear zz|with_reducible first|refine A3 ?_|refine A5 fun _=>?_|refine A4 fun _=>?_);try simp(disch:=first|omega|assumption|((repeat(first|exact A1|exact uH|apply A2|apply uT));first|done|fail)|(simp;first|done|omega|fail))[]))
 refine A0P s.size (fun i => i) (fun _ => _) hJ stJ h0 fun i a hi hJi _ L hL => ?_
 by_cases hlt : i < s.size
 ·obtain ⟨by0, hb0, hb1⟩ := B4k (s := s) (i := i) hlt
  have hb0' : s[((i : Nat) : Int).toNat]? = some by0 := by rw [Int.toNat_natCast]; exact hb0
  (have zz:=trivial;repeat((first|clear zz|with_reducible first|refine A3 ?_|refine A5 fun _=>?_|refine A4 fun _=>?_);try simp(disch:=first|omega|assumption|((repeat(first|exact A1|exact uH|apply A2|apply uT));first|done|fail)|(simp;first|done|omega|fail))[hlt, B6w]))
  rw [hb1]
  refine A3a hJ hE stJ hy hJi (by simpa using hlt) (by simp [A88]) (fun w3 h => ?_) (fun w3 h => ?_)
  ·(have zz:=trivial;repeat((first|clear zz|with_reducible first|refine A3 ?_|refine A5 fun _=>?_|refine A4 fun _=>?_);try simp(disch:=first|omega|assumption|((repeat(first|exact A1|exact uH|apply A2|apply uT));first|done|fail)|(simp;first|done|omega|fail))[]))
   exact fun w' hw' => hL hlt w' (stJ _ _ _ _ _ h hw')
  ·(have zz:=trivial;repeat((first|clear zz|with_reducible first|refine A3 ?_|refine A5 fun _=>?_|refine A4 fun _=>?_);try simp(disch:=first|omega|assumption|((repeat(first|exact A1|exact uH|apply A2|apply uT));first|done|fail)|(simp;first|done|omega|fail))[]))
   exact A1J stE h
 ·obtain rfl : i = s.size := by omega
  (have zz:=trivial;repeat((first|clear zz|with_reducible first|refine A3 ?_|refine A5 fun _=>?_|refine A4 fun _=>?_);try simp(disch:=first|omega|assumption|((repeat(first|exact A1|exact uH|apply A2|apply uT));first|done|fail)|(simp;first|done|omega|fail))[]))
  exact A1M stJ (by simpa using hJi)
theorem B07 (w : World) (h : Nat) (s : ByteArray) (hh : h < 2 ^ 64) (hs : s.size < 2 ^ 60) : Fn PR B8 183 #[.int .u64 (h : Int), .string s] w (fun v w' => v = .int .u64 (B1q h s : Nat) ∧ D0 [] w w') := by
 refine Fn.pure (B0T (TW.go (κ := false) (S := []) ?_))
 unfold A51
 (have zz:=trivial;repeat((first|clear zz|with_reducible first|refine A3 ?_|refine A5 fun _=>?_|refine A4 fun _=>?_);try simp(disch:=first|omega|assumption|((repeat(first|exact A1|exact uH|apply A2|apply uT));first|done|fail)|(simp;first|done|omega|fail))[]))
 rename_i bf bx
 refine N4 A9w (fun w' _ => B6W w' s) ?_
 rintro b v rfl
 refine A17 (B6T b s hs) (by simp [A88]) (fun _ (_ : Unit) => True) (fun i _ => [.pt bx (.cells #[.int .u64 ((A7p h s i : Nat) : Int)] 370), .pt bf (.cells #[.func (.func 238) #[] #[]] 368)])
  (fun _ (_ : Unit) => False) (fun _ => []) () trivial ?_ ?_ ?_ ?_ (by simp [A7p])
 ·intros; trivial
 ·rintro i hi _ F _ K' hK _
  simp only [List.getElem_map, List.getElem_range, A88, VF.app]
  (have zz:=trivial;repeat((first|clear zz|with_reducible first|refine A3 ?_|refine A5 fun _=>?_|refine A4 fun _=>?_);try simp(disch:=first|omega|assumption|((repeat(first|exact A1|exact uH|apply A2|apply uT));first|done|fail)|(simp;first|done|omega|fail))[]))
  refine D1 A6m (fun w' _ => B8s w' _ _ (B02 hh s i) (B3G s i)) ?_
  (have zz:=trivial;repeat((first|clear zz|with_reducible first|refine A3 ?_|refine A5 fun _=>?_|refine A4 fun _=>?_);try simp(disch:=first|omega|assumption|((repeat(first|exact A1|exact uH|apply A2|apply uT));first|done|fail)|(simp;first|done|omega|fail))[]))
  exact TW.eqH (by simp [A7p]) (hK () trivial)
 ·rintro _ _
  (have zz:=trivial;repeat((first|clear zz|with_reducible first|refine A3 ?_|refine A5 fun _=>?_|refine A4 fun _=>?_);try simp(disch:=first|omega|assumption|((repeat(first|exact A1|exact uH|apply A2|apply uT));first|done|fail)|(simp;first|done|omega|fail))[]))
  exact B9 (by simp [B1q])
 ·rintro _ _ h; exact h.elim
theorem A8S (w : World) (s : ByteArray) (hs : s.size < 2 ^ 60) : Fn PR B8 135 #[.string s] w (fun v w' => v = .int .u64 (A7U s : Nat) ∧ D0 [] w w') := by
 refine Fn.pure (B1n (TW.go (κ := false) (S := []) ?_))
 unfold A7J
 refine D1 A43 (fun w' _ => B07 w' 14695981039346656037 s (by omega) hs) ?_
 exact B9 rfl
end Go.Proofs.YtjobgnabneddjaaGreat
namespace Go.Proofs.YtjobgnabneddjaaGreat
open Go
def P8 (key : ByteArray) (n : Nat) : Nat := A7U key % n
theorem B08 (s : ByteArray) : A7U s < 2 ^ 64 := B02 (by omega) s _
theorem B6Y (w : World) (key : ByteArray) (n : Nat) (hk : key.size < 2 ^ 60) (hn : n ≤ 1000000) : Fn PR B8 236 #[.string key, .int .i64 (n : Int)] w (fun v w' => v = .int .i64 (if n = 0 then 0 else P8 key n : Nat) ∧ D0 [] w w') := by
 refine Fn.pure (A8v (TW.go (κ := false) (S := []) ?_))
 unfold A4B
 by_cases c1 : n = 0
 ·have c1' : (n : Int) < 1 := by omega
  (have zz:=trivial;repeat((first|clear zz|with_reducible first|refine A3 ?_|refine A5 fun _=>?_|refine A4 fun _=>?_);try simp(disch:=first|omega|assumption|((repeat(first|exact A1|exact uH|apply A2|apply uT));first|done|fail)|(simp;first|done|omega|fail))[c1']))
  exact B9 (by simp [c1])
 have c1' : ¬ (n : Int) < 1 := by omega
 have c1'' : ¬ (n : Int) = 0 := by omega
 (have zz:=trivial;repeat((first|clear zz|with_reducible first|refine A3 ?_|refine A5 fun _=>?_|refine A4 fun _=>?_);try simp(disch:=first|omega|assumption|((repeat(first|exact A1|exact uH|apply A2|apply uT));first|done|fail)|(simp;first|done|omega|fail))[c1']))
 refine D1 A59 (fun w' _ => A8S w' key hk) ?_
 have hl := B08 key
 have hm : P8 key n < n := Nat.mod_lt _ (by omega)
 have e1 : ((A7U key : Nat) : Int).tmod n = (P8 key n : Nat) := by unfold P8; rw [Int.tmod_eq_emod_of_nonneg (by omega)]; omega
 have e2 : ((A7U key : Nat) : Int) % n = (P8 key n : Nat) := by unfold P8; omega
 (have zz:=trivial;repeat((first|clear zz|with_reducible first|refine A3 ?_|refine A5 fun _=>?_|refine A4 fun _=>?_);try simp(disch:=first|omega|assumption|((repeat(first|exact A1|exact uH|apply A2|apply uT));first|done|fail)|(simp;first|done|omega|fail))[c1'', e1, A0K]))
 exact B9 (by simp [c1])
def noE : EnV := ⟨0, noB, 0, 0⟩
def m4 (l : List EnV) (key : ByteArray) : List (Nat × EnV) := (List.range l.length).map fun i => ((P8 key l.length + i) % l.length, l.getD ((P8 key l.length + i) % l.length) noE)
def A3j (p : Nat × EnV) : List Value := [.int .i64 (p.1 : Nat), .agg #[.int .i64 p.2.st, .string p.2.key, .int .i64 p.2.bk, .int .i64 p.2.dl]]
abbrev B61 (x : Nat × Nat) : Value := .func (.func 235) #[] #[.pointer (some ⟨x.1, 0, none⟩), .pointer (some ⟨x.2, 0, none⟩)]
abbrev A9m (x : Nat × Nat) (v : Value) (key : ByteArray) : List Res := [.pt x.1 (.cells #[.string key] 9), .pt x.2 (.cells #[v] 84)]
theorem B2f (w : World) (v : Value) (key : ByteArray) (hv : ∃ a n c, v = .slice a n c) : Fn PR B8 179 #[v, .string key] w (Rn [] w (fun x u => u = B61 x) fun x => A9m x v key) := by
 obtain ⟨a, n, c, rfl⟩ := hv
 refine A9L (TW.go (κ := false) (S := []) ?_)
 unfold A4f
 (have zz:=trivial;repeat((first|clear zz|with_reducible first|refine A3 ?_|refine A5 fun _=>?_|refine A4 fun _=>?_);try simp(disch:=first|omega|assumption|((repeat(first|exact A1|exact uH|apply A2|apply uT));first|done|fail)|(simp;first|done|omega|fail))[]))
 rename_i b1 b2
 exact B0 (b2, b1) rfl (by (repeat' constructor))
def RqS (v : Value) (n : Nat) (xs : List Value) (F : List Res) (w : World) : Prop := ∃ a c, v = .slice a n c ∧ (0 < n → ∃ b o, a = some ⟨b, o, none⟩ ∧ M5 w b o xs ∧ b ∉ B2 F)
theorem RqS.of {v : Value} {n : Nat} {xs : List Value} {w0 w : World} {A F : List Res} (h : G3 w0 v n xs) (hx : 0 < n → 0 < xs.length) (hw : LW false [] w0 (A ++ F) w) : RqS v n xs F w := by
 obtain ⟨a, c, rfl, hr⟩ := h.form
 refine ⟨a, c, rfl, fun hn => ?_⟩
 obtain ⟨b, o, rfl, hrow⟩ := hr hn
 refine ⟨b, o, rfl, hw.ks.row (by simp) hrow, hw.notin_old ?_ (by simp)⟩
 have h0 := hrow 0 (hx hn)
 rw [List.getElem?_eq_getElem (hx hn)] at h0
 obtain ⟨c', t', z', h1, h2⟩ := Y7 h0
 exact G7 h1
theorem A05 (l : List EnV) : (l.flatMap G1).length = l.length * 4 := by
 induction l with
 | nil => rfl
 | cons x l ih => rw [List.flatMap_cons, List.length_append, ih]; simp [G1]; omega
theorem B2Q (x : Nat × Nat) (v : Value) (l : List EnV) (key : ByteArray) (hk : key.size < 2 ^ 60) (hn : l.length ≤ 1000000) : A1z (B61 x) (A9m x v key) (RqS v l.length (l.flatMap G1)) ((m4 l key).map A3j) := by
 obtain ⟨bk, bt⟩ := x
 refine ⟨_, _, _, rfl, fun y J E hJ hE stJ stE hy w0 h0 => ?_⟩
 obtain ⟨a, c, hv, hr⟩ := (hJ _ _ _ h0).2
 subst hv
 refine A65 (A68 (TW.at (κ := true) ?_ (hJ _ _ _ h0).1))
 unfold A15
 simp only [A9m]
 (have zz:=trivial;repeat((first|clear zz|with_reducible first|refine A3 ?_|refine A5 fun _=>?_|refine A4 fun _=>?_);try simp(disch:=first|omega|assumption|((repeat(first|exact A1|exact uH|apply A2|apply uT));first|done|fail)|(simp;first|done|omega|fail))[]))
 refine D1 A8A (fun w' _ => B6Y w' key l.length hk hn) ?_
 (have zz:=trivial;repeat((first|clear zz|with_reducible first|refine A3 ?_|refine A5 fun _=>?_|refine A4 fun _=>?_);try simp(disch:=first|omega|assumption|((repeat(first|exact A1|exact uH|apply A2|apply uT));first|done|fail)|(simp;first|done|omega|fail))[]))
 refine A0P l.length (fun i => i) (fun _ => _) hJ stJ h0 fun i a' hi hJi hRi L hL => ?_
 by_cases hlt : i < l.length
 ·obtain ⟨_, _, hv, hr⟩ := hRi
  obtain ⟨b, o, hb, hrow, hnb⟩ := hr (by omega)
  cases hv
  have hh : P8 key l.length < l.length := Nat.mod_lt _ (by omega)
  have e0 : (if l.length = 0 then 0 else P8 key l.length) = P8 key l.length := if_neg (by omega)
  have hj : (P8 key l.length + i) % l.length < l.length := Nat.mod_lt _ (by omega)
  have hx : l[(P8 key l.length + i) % l.length]? = some (l.getD ((P8 key l.length + i) % l.length) noE) := by
   rw [List.getD_eq_getElem?_getD, List.getElem?_eq_getElem hj]; rfl
  have h1 := hrow.at (f := G1) (k := 4) (fun _ => rfl) hx
  have e1 : (((P8 key l.length : Nat) : Int) + (i : Nat)).tmod l.length = ((P8 key l.length + i) % l.length : Nat) := by rw [Int.tmod_eq_emod_of_nonneg (by omega), Int.natCast_emod, Int.natCast_add]
  have hwi : ∀ h, ((m4 l key).map A3j)[i]'h = A3j ((P8 key l.length + i) % l.length, l.getD ((P8 key l.length + i) % l.length) noE) := by
   intro h; simp only [List.getElem_map, m4, List.getElem_range]
  generalize hjd : (P8 key l.length + i) % l.length = j at *
  generalize hxd : l.getD j noE = x at *
  rw [G1] at h1
  have hnz : ¬ (l.length : Int) = 0 := by omega
  subst hb
  rw [e0]
  (have zz:=trivial;repeat((first|clear zz|with_reducible first|refine A3 ?_|refine A5 fun _=>?_|refine A4 fun _=>?_);try simp(disch:=first|omega|assumption|((repeat(first|exact A1|exact uH|apply A2|apply uT));first|done|fail)|(simp;first|done|omega|fail))[hlt, e1, h1, hnz, A0K]))
  refine A3a hJ hE stJ hy hJi (by simpa [m4] using hlt) (hwi _) (fun w3 h => ?_) (fun w3 h => ?_)
  ·(have zz:=trivial;repeat((first|clear zz|with_reducible first|refine A3 ?_|refine A5 fun _=>?_|refine A4 fun _=>?_);try simp(disch:=first|omega|assumption|((repeat(first|exact A1|exact uH|apply A2|apply uT));first|done|fail)|(simp;first|done|omega|fail))[]))
   exact fun w' hw' => hL hlt w' (stJ _ _ _ _ _ h hw')
  ·(have zz:=trivial;repeat((first|clear zz|with_reducible first|refine A3 ?_|refine A5 fun _=>?_|refine A4 fun _=>?_);try simp(disch:=first|omega|assumption|((repeat(first|exact A1|exact uH|apply A2|apply uT));first|done|fail)|(simp;first|done|omega|fail))[]))
   exact A1J stE h
 ·obtain rfl : i = l.length := by omega
  (have zz:=trivial;repeat((first|clear zz|with_reducible first|refine A3 ?_|refine A5 fun _=>?_|refine A4 fun _=>?_);try simp(disch:=first|omega|assumption|((repeat(first|exact A1|exact uH|apply A2|apply uT));first|done|fail)|(simp;first|done|omega|fail))[]))
  exact A1M stJ (by simpa [m4] using hJi)
def k7 (key : ByteArray) : List (Nat × EnV) → Int
 | [] => -1
 | p :: r => if p.2.st = 0 then -1 else if p.2.st = 1 ∧ p.2.key = key then p.1 else k7 key r
def k6 (l : List EnV) (key : ByteArray) : Int := k7 key (m4 l key)
theorem A7g {α : Type} {l : List α} {i : Nat} (h : i < l.length) : l.drop i = l[i] :: l.drop (i + 1) := List.drop_eq_getElem_cons h
theorem A6V (L : List (Nat × EnV)) : ∀ x ∈ L.map A3j, x.length = 2 := by
 intro x hx; obtain ⟨p, _, rfl⟩ := List.mem_map.1 hx; rfl
theorem A5E (w : World) (v : Value) (l : List EnV) (key : ByteArray) (hk : key.size < 2 ^ 60) (hn : l.length ≤ 1000000) (hv : G3 w v l.length (l.flatMap G1)) :
  Fn PR B8 133 #[v, .string key] w (fun r w' => r = .int .i64 (k6 l key) ∧ D0 [] w w') := by
 refine Fn.pure (A8x (TW.go (κ := false) (S := []) ?_))
 unfold A4K
 (have zz:=trivial;repeat((first|clear zz|with_reducible first|refine A3 ?_|refine A5 fun _=>?_|refine A4 fun _=>?_);try simp(disch:=first|omega|assumption|((repeat(first|exact A1|exact uH|apply A2|apply uT));first|done|fail)|(simp;first|done|omega|fail))[]))
 rename_i bk bf
 refine N4 A4G (fun w' _ => B2f w' v key (by obtain ⟨a, c, rfl, _⟩ := hv.form; exact ⟨a, _, c, rfl⟩)) ?_
 rintro x u rfl
 refine A17 (B2Q x v l key hk hn) (A6V _) (fun i (_ : Unit) => k7 key ((m4 l key).drop i) = k6 l key) (fun _ _ => [.pt bf (.cells #[.int .i64 (-1)] 3), .pt bk (.cells #[.string key] 9)])
  (fun c (y : Unit) => c = .exit 0) (fun y => [.pt bf (.cells #[.int .i64 (k6 l key)] 3)]) () rfl ?_ ?_ ?_ ?_ (by simp [A9m])
 ·intro i _ F w1 _ hw
  exact RqS.of hv (fun h => by rw [A05]; omega) hw
 ·rintro i hi _ F hψ K' hK hE
  have hi' : i < (m4 l key).length := by simpa using hi
  rw [A7g hi'] at hψ
  simp only [List.getElem_map]
  generalize (m4 l key)[i] = p at *
  simp only [A3j, VF.app]
  by_cases c0 : p.2.st = 0
  ·(have zz:=trivial;repeat((first|clear zz|with_reducible first|refine A3 ?_|refine A5 fun _=>?_|refine A4 fun _=>?_);try simp(disch:=first|omega|assumption|((repeat(first|exact A1|exact uH|apply A2|apply uT));first|done|fail)|(simp;first|done|omega|fail))[c0]))
   refine TW.sub (hE (.exit 0) () rfl) ?_
   rw [← hψ]
   simp only [k7, c0, if_true]
   ((try simp only [List.cons_append, List.nil_append, List.append_assoc]); (repeat (first | exact List.Sublist.refl _ | exact List.nil_sublist _ | with_reducible apply List.Sublist.cons_cons | apply List.Sublist.cons)); first | done | fail)
  by_cases c1 : p.2.st = 1
  ·by_cases c2 : p.2.key = key
   ·(have zz:=trivial;repeat((first|clear zz|with_reducible first|refine A3 ?_|refine A5 fun _=>?_|refine A4 fun _=>?_);try simp(disch:=first|omega|assumption|((repeat(first|exact A1|exact uH|apply A2|apply uT));first|done|fail)|(simp;first|done|omega|fail))[c0, c1, c2]))
    refine TW.sub (hE (.exit 0) () rfl) ?_
    rw [← hψ]
    simp [k7, c1, c2]
    ((try simp only [List.cons_append, List.nil_append, List.append_assoc]); (repeat (first | exact List.Sublist.refl _ | exact List.nil_sublist _ | with_reducible apply List.Sublist.cons_cons | apply List.Sublist.cons)); first | done | fail)
   ·(have zz:=trivial;repeat((first|clear zz|with_reducible first|refine A3 ?_|refine A5 fun _=>?_|refine A4 fun _=>?_);try simp(disch:=first|omega|assumption|((repeat(first|exact A1|exact uH|apply A2|apply uT));first|done|fail)|(simp;first|done|omega|fail))[c0, c1, c2]))
    refine TW.sub (hK () ?_) (by ((try simp only [List.cons_append, List.nil_append, List.append_assoc]); (repeat (first | exact List.Sublist.refl _ | exact List.nil_sublist _ | with_reducible apply List.Sublist.cons_cons | apply List.Sublist.cons)); first | done | fail))
    rw [← hψ]
    simp [k7, c1, c2]
  ·(have zz:=trivial;repeat((first|clear zz|with_reducible first|refine A3 ?_|refine A5 fun _=>?_|refine A4 fun _=>?_);try simp(disch:=first|omega|assumption|((repeat(first|exact A1|exact uH|apply A2|apply uT));first|done|fail)|(simp;first|done|omega|fail))[c0, c1]))
   refine TW.sub (hK () ?_) (by ((try simp only [List.cons_append, List.nil_append, List.append_assoc]); (repeat (first | exact List.Sublist.refl _ | exact List.nil_sublist _ | with_reducible apply List.Sublist.cons_cons | apply List.Sublist.cons)); first | done | fail))
   rw [← hψ]
   simp [k7, c0, c1]
 ·intro _ hψ
  (have zz:=trivial;repeat((first|clear zz|with_reducible first|refine A3 ?_|refine A5 fun _=>?_|refine A4 fun _=>?_);try simp(disch:=first|omega|assumption|((repeat(first|exact A1|exact uH|apply A2|apply uT));first|done|fail)|(simp;first|done|omega|fail))[]))
  simp only [List.length_map, List.drop_length, k7] at hψ
  exact B9 (by rw [← hψ])
 ·rintro _ _ rfl
  (have zz:=trivial;repeat((first|clear zz|with_reducible first|refine A3 ?_|refine A5 fun _=>?_|refine A4 fun _=>?_);try simp(disch:=first|omega|assumption|((repeat(first|exact A1|exact uH|apply A2|apply uT));first|done|fail)|(simp;first|done|omega|fail))[]))
  exact B9 rfl
def u7 : List (Nat × EnV) → Int
 | [] => -1
 | p :: r => if p.2.st = 1 then u7 r else p.1
def k5 (l : List EnV) (key : ByteArray) : Int := if 0 ≤ k6 l key then -1 else u7 (m4 l key)
theorem B0J (w : World) (v : Value) (l : List EnV) (key : ByteArray) (hk : key.size < 2 ^ 60) (hn : l.length ≤ 1000000) (hv : G3 w v l.length (l.flatMap G1)) :
  Fn PR B8 242 #[v, .string key] w (fun r w' => r = .int .i64 (k5 l key) ∧ D0 [] w w') := by
 refine Fn.pure (A84 (TW.go (κ := false) (S := []) ?_))
 unfold A4L
 (have zz:=trivial;repeat((first|clear zz|with_reducible first|refine A3 ?_|refine A5 fun _=>?_|refine A4 fun _=>?_);try simp(disch:=first|omega|assumption|((repeat(first|exact A1|exact uH|apply A2|apply uT));first|done|fail)|(simp;first|done|omega|fail))[]))
 rename_i bf
 refine D1 A21 (fun w' hw' => A5E w' v l key hk hn (hv.ks hw'.ks (by simp))) ?_
 by_cases c1 : 0 ≤ k6 l key
 ·(have zz:=trivial;repeat((first|clear zz|with_reducible first|refine A3 ?_|refine A5 fun _=>?_|refine A4 fun _=>?_);try simp(disch:=first|omega|assumption|((repeat(first|exact A1|exact uH|apply A2|apply uT));first|done|fail)|(simp;first|done|omega|fail))[c1]))
  exact B9 (by simp [k5, c1])
 have e1 : k5 l key = u7 (m4 l key) := if_neg c1
 (have zz:=trivial;repeat((first|clear zz|with_reducible first|refine A3 ?_|refine A5 fun _=>?_|refine A4 fun _=>?_);try simp(disch:=first|omega|assumption|((repeat(first|exact A1|exact uH|apply A2|apply uT));first|done|fail)|(simp;first|done|omega|fail))[c1]))
 refine N4 A4G (fun w' _ => B2f w' v key (by obtain ⟨a, c, rfl, _⟩ := hv.form; exact ⟨a, _, c, rfl⟩)) ?_
 rintro x u rfl
 refine A17 (B2Q x v l key hk hn) (A6V _) (fun i (_ : Unit) => u7 ((m4 l key).drop i) = k5 l key) (fun _ _ => [.pt bf (.cells #[.int .i64 0] 3)])
  (fun c (y : Unit) => c = .ret) (fun y => [.pt bf (.cells #[.int .i64 (k5 l key)] 3)]) () (by rw [List.drop_zero, e1]) ?_ ?_ ?_ ?_ (by simp [A9m])
 ·intro i _ F w1 _ hw
  exact RqS.of hv (fun h => by rw [A05]; omega) hw
 ·rintro i hi _ F hψ K' hK hE
  have hi' : i < (m4 l key).length := by simpa using hi
  rw [A7g hi'] at hψ
  simp only [List.getElem_map]
  generalize (m4 l key)[i] = p at *
  simp only [A3j, VF.app]
  by_cases c1 : p.2.st = 1
  ·(have zz:=trivial;repeat((first|clear zz|with_reducible first|refine A3 ?_|refine A5 fun _=>?_|refine A4 fun _=>?_);try simp(disch:=first|omega|assumption|((repeat(first|exact A1|exact uH|apply A2|apply uT));first|done|fail)|(simp;first|done|omega|fail))[c1]))
   refine TW.sub (hK () ?_) (by ((try simp only [List.cons_append, List.nil_append, List.append_assoc]); (repeat (first | exact List.Sublist.refl _ | exact List.nil_sublist _ | with_reducible apply List.Sublist.cons_cons | apply List.Sublist.cons)); first | done | fail))
   rw [← hψ]
   simp [u7, c1]
  ·(have zz:=trivial;repeat((first|clear zz|with_reducible first|refine A3 ?_|refine A5 fun _=>?_|refine A4 fun _=>?_);try simp(disch:=first|omega|assumption|((repeat(first|exact A1|exact uH|apply A2|apply uT));first|done|fail)|(simp;first|done|omega|fail))[c1]))
   refine TW.sub (hE .ret () rfl) ?_
   rw [← hψ]
   simp only [u7, c1, if_false]
   ((try simp only [List.cons_append, List.nil_append, List.append_assoc]); (repeat (first | exact List.Sublist.refl _ | exact List.nil_sublist _ | with_reducible apply List.Sublist.cons_cons | apply List.Sublist.cons)); first | done | fail)
 ·intro _ hψ
  (have zz:=trivial;repeat((first|clear zz|with_reducible first|refine A3 ?_|refine A5 fun _=>?_|refine A4 fun _=>?_);try simp(disch:=first|omega|assumption|((repeat(first|exact A1|exact uH|apply A2|apply uT));first|done|fail)|(simp;first|done|omega|fail))[]))
  simp only [List.length_map, List.drop_length, u7] at hψ
  exact B9 (by rw [← hψ])
 ·rintro _ _ rfl
  (have zz:=trivial;repeat((first|clear zz|with_reducible first|refine A3 ?_|refine A5 fun _=>?_|refine A4 fun _=>?_);try simp(disch:=first|omega|assumption|((repeat(first|exact A1|exact uH|apply A2|apply uT));first|done|fail)|(simp;first|done|omega|fail))[]))
  exact B9 rfl
theorem B1s (w : World) (x : EnV) (st : Int) (b : Nat) (hb : w.cell? ⟨b, 0, none⟩ = some (.int .i64 st)) : Fn PR B8 241 #[.agg #[.int .i64 x.st, .string x.key, .int .i64 x.bk, .int .i64 x.dl], .pointer (some ⟨b, 0, none⟩)] w (fun r w' => r = .bool (decide (x.st = st)) ∧ D0 [] w w') := by
 refine Fn.pure (A5y (TW.go (κ := false) (S := []) ?_))
 unfold A0m
 (have zz:=trivial;repeat((first|clear zz|with_reducible first|refine A3 ?_|refine A5 fun _=>?_|refine A4 fun _=>?_);try simp(disch:=first|omega|assumption|((repeat(first|exact A1|exact uH|apply A2|apply uT));first|done|fail)|(simp;first|done|omega|fail))[hb]))
 exact B9 rfl
def A0N (l : List EnV) (st : Int) : Nat := l.countP fun x => decide (x.st = st)
theorem B0d {α : Type} {p : α → Bool} {l : List α} {i : Nat} {x : α} (hx : l[i]? = some x) : (l.take (i + 1)).countP p = (l.take i).countP p + if p x then 1 else 0 := by
 rw [List.take_add_one, hx, List.countP_append]; simp [List.countP_cons]
theorem B4d (w : World) (v : Value) (l : List EnV) (p : EnV → Bool) (f : FuncId) (cap : List Value) (hn : l.length ≤ 1000000) (hv : G3 w v l.length (l.flatMap G1)) (he : A9 PR f)
  (hf : ∀ w', KS false [] w w' → ∀ x : EnV, Fn PR B8 f (.agg #[.int .i64 x.st, .string x.key, .int .i64 x.bk, .int .i64 x.dl] :: cap).toArray w' (fun r w'' => r = .bool (p x) ∧ D0 [] w' w'')) :
  Fn PR B8 240 #[v, .func (.func f) #[] cap.toArray] w (fun r w' => r = .int .i64 (l.countP p : Nat) ∧ D0 [] w w') := by
 refine Fn.pure (A1E (TW.go (κ := false) (S := []) ?_))
 unfold Z7
 obtain ⟨a, c, rfl, hr⟩ := hv.form
 (have zz:=trivial;repeat((first|clear zz|with_reducible first|refine A3 ?_|refine A5 fun _=>?_|refine A4 fun _=>?_);try simp(disch:=first|omega|assumption|((repeat(first|exact A1|exact uH|apply A2|apply uT));first|done|fail)|(simp;first|done|omega|fail))[]))
 refine Z6 (α := Unit) l.length (fun i _ => .int .i64 ((l.take i).countP p : Nat)) (fun _ _ => []) (fun i _ => True) () trivial ?_
 rintro i _ hi _ L hL
 by_cases hlt : i < l.length
 ·obtain ⟨b, o, rfl, hrow⟩ := hr (by omega)
  obtain ⟨x, hx⟩ : ∃ x, l[i]? = some x := ⟨_, List.getElem?_eq_getElem (by omega)⟩
  have h1 := hrow.at (f := G1) (k := 4) (fun _ => rfl) hx
  rw [G1] at h1
  (have zz:=trivial;repeat((first|clear zz|with_reducible first|refine A3 ?_|refine A5 fun _=>?_|refine A4 fun _=>?_);try simp(disch:=first|omega|assumption|((repeat(first|exact A1|exact uH|apply A2|apply uT));first|done|fail)|(simp;first|done|omega|fail))[hlt, h1]))
  refine B32 he (φ := fun r => r = .bool (p x)) (fun w' hw' => by simpa using hf w' hw'.ks x) ?_
  rintro _ rfl
  have hc := B0d (p := p) hx
  have hle : (l.take i).countP p ≤ i := Nat.le_trans List.countP_le_length (by simp; omega)
  have hL' := hL hlt () trivial
  rw [hc] at hL'
  cases hb : p x with
  | true =>
   rw [hb] at hL'
   (have zz:=trivial;repeat((first|clear zz|with_reducible first|refine A3 ?_|refine A5 fun _=>?_|refine A4 fun _=>?_);try simp(disch:=first|omega|assumption|((repeat(first|exact A1|exact uH|apply A2|apply uT));first|done|fail)|(simp;first|done|omega|fail))[]))
   exact Sels.tw .nil (by simpa using hL')
  | false =>
   rw [hb] at hL'
   (have zz:=trivial;repeat((first|clear zz|with_reducible first|refine A3 ?_|refine A5 fun _=>?_|refine A4 fun _=>?_);try simp(disch:=first|omega|assumption|((repeat(first|exact A1|exact uH|apply A2|apply uT));first|done|fail)|(simp;first|done|omega|fail))[]))
   exact Sels.tw .nil (by simpa using hL')
 ·obtain rfl : i = l.length := by omega
  (have zz:=trivial;repeat((first|clear zz|with_reducible first|refine A3 ?_|refine A5 fun _=>?_|refine A4 fun _=>?_);try simp(disch:=first|omega|assumption|((repeat(first|exact A1|exact uH|apply A2|apply uT));first|done|fail)|(simp;first|done|omega|fail))[]))
  exact B9 rfl
theorem A9s (w : World) (v : Value) (l : List EnV) (st : Int) (hn : l.length ≤ 1000000) (hv : G3 w v l.length (l.flatMap G1)) :
  Fn PR B8 186 #[v, .int .i64 st] w (fun r w' => r = .int .i64 (A0N l st : Nat) ∧ D0 [] w w') := by
 refine Fn.pure (A7m (TW.go (κ := false) (S := []) ?_))
 unfold A2s
 (have zz:=trivial;repeat((first|clear zz|with_reducible first|refine A3 ?_|refine A5 fun _=>?_|refine A4 fun _=>?_);try simp(disch:=first|omega|assumption|((repeat(first|exact A1|exact uH|apply A2|apply uT));first|done|fail)|(simp;first|done|omega|fail))[]))
 rename_i b
 refine D1 A0z (fun w' hw' => B4d w' v l (fun x => decide (x.st = st)) 241 [.pointer (some ⟨b, 0, none⟩)] hn (hv.ks hw'.ks (by simp)) A48
  fun w2 h x => B1s w2 x st b (h.cell (by simp) (hw'.cell1 (by (repeat constructor))))) ?_
 exact B9 rfl
end Go.Proofs.YtjobgnabneddjaaGreat
