/- The proof of a given statement, a part of it (Packet Bytes Sl Pool Vals ShProbe ShFnv Fnv Probe). No condition but what each lemma says. -/
import Derived.Lib.SlBytesRow
import Derived.Test.YtjobgnabneddjaaGreatZ11
set_option linter.unusedVariables false
set_option linter.unusedSimpArgs false
namespace Go.Proofs.YtjobgnabneddjaaGreat
open Go
structure KeyV where
 v : Int
 src : ByteArray
 dst : ByteArray
 fr : Int
 tp : Int
 proto : Int
 deriving DecidableEq
def KeyV.cs (k : KeyV) : List Value := [.int .i64 k.v, .string k.src, .string k.dst, .int .i64 k.fr, .int .i64 k.tp, .int .i64 k.proto]
def KeyV.val (k : KeyV) : Value := .agg #[.int .i64 k.v, .string k.src, .string k.dst, .int .i64 k.fr, .int .i64 k.tp, .int .i64 k.proto]
def keyed.val (x : KeyV × ByteArray × Nat) : Value := .tuple #[x.1.val, .string x.2.1, .int .i64 x.2.2]
def B3S (k : KeyV) (f : Int) : Value := .agg #[.int .i64 k.v, .string k.src, .string k.dst, .int .i64 k.fr, .int .i64 k.tp, .int .i64 k.proto, .int .i64 f]
def packet.val (x : KeyV × Nat × Nat) : Value := .tuple #[B3S x.1 x.2.1, .int .i64 x.2.2]
end Go.Proofs.YtjobgnabneddjaaGreat
namespace Go.Proofs.YtjobgnabneddjaaGreat
open Go
section
variable {κ : Bool} {X : Nat → Prop} {S : List Nat} {w0 : World} {H H' : List Res} {K : Value → WP}
end
end Go.Proofs.YtjobgnabneddjaaGreat
namespace Go.Proofs.YtjobgnabneddjaaGreat
open Go
@[simp] theorem B88 {κ : Bool} {S : List Nat} {w0 : World} {H : List Res} {K : Value → WP} {t : TypeId} {z : Value} [h : TS t z] {b o : Nat} {c : Array Value} {T : TypeId} {f : Nat × Nat} (hm : Res.pt b (.cells c T f) ∈ H) :
  TW κ S w0 H (A6 PR (G7 [.c t (.pointer (some ⟨b, o, none⟩))]) K) = TW κ S w0 H (rdc c[o]? K (A6 PR (G7 [.c t (.pointer (some ⟨b, o, none⟩))]) K)) := by
 cases hc : c[o]? with
 | none => rfl
 | some v => rw [B4k hm hc]; rfl
abbrev E8 := Int × Int
def G2 (b : E8) : List Value := [.int .i64 b.1, .int .i64 b.2]
structure EnV where
 st : Int
 key : ByteArray
 bk : Int
 dl : Int
 deriving DecidableEq
def A37 (x : EnV) : List Value := [.int .i64 x.st, .string x.key, .int .i64 x.bk, .int .i64 x.dl]
theorem B41 {t u : TypeId} {n m : Nat} {z : Value} {a : Option Addr} {l c e : Nat} (h : TI PR t (.slice u) n m z) : EqV PR (e + 1) t (.slice a l c) (.slice none 0 0) a.isNone := by
 intro w
 cases a with
 | none => simp only [Op.equalIn, Sem.run_bind, h.run_und, Result.andThen_ok, Sem.run_pure, Option.isNone]
 | some a => simp only [Op.equalIn, Sem.run_bind, h.run_und, Result.andThen_ok, Sem.run_pure]; rfl
theorem B8D {t u : TypeId} {n m : Nat} {z : Value} (h : TI PR t (.slice u) n m z) (x y : Operand) (a : Option Addr) (l c : Nat) (K : Value → WP) :
  A6 PR (F4 .eql t x y (.slice a l c) (.slice none 0 0)) K = K (.bool a.isNone) := by
 funext w
 refine U2 ?_ K
 have h1 : (eqGuard .eql t x y (.slice a l c) (.slice none 0 0)).run PR w = .ok () w := by simp [eqGuard]
 have h2 : (Op.equalIn 10000 t (.slice a l c) (.slice none 0 0)).run PR w = .ok a.isNone w := B41 (e := 9999) h w
 simp [F4, h1, binOp, Op.equal, Op.maxDepth, h2]
theorem B26 (x y : Operand) (a : Option Addr) (l c : Nat) (K : Value → WP) : A6 PR (F4 .eql 58 x y (.slice a l c) (.slice none 0 0)) K = K (.bool a.isNone) := B8D A4H x y a l c K
theorem B06 (w : World) (v : Value) (n : Nat) (xs : List Value) (hn : n ≤ 1000000) (hx : xs.length = n * 2) (hp : xs.all plain = true) (hv : G1 w v n xs) :
  Fn PR B7 123 #[v] w (Rn [] w (fun r u => u = r) fun r => [.own 155 2 r n xs]) := by
 obtain ⟨a, c, rfl, hr⟩ := hv.form
 refine T3 (TW.go (κ := false) (S := []) ?_)
 unfold L5
 cases a with
 | none =>
  obtain rfl : n = 0 := by
   rcases Nat.eq_zero_or_pos n with h | h
   ·exact h
   ·obtain ⟨_, _, h, _⟩ := hr h; cases h
  obtain rfl : xs = [] := List.length_eq_zero_iff.1 (by omega)
  (have zz:=trivial;repeat((first|clear zz|with_reducible first|refine A3 ?_|refine A5 fun _=>?_|refine A4 fun _=>?_);try simp(disch:=first|omega|assumption|((repeat(first|exact A1|exact uH|apply A2|apply uT));first|done|fail)|(simp;first|done|omega|fail))[B26]))
  refine A0a 155 2 ?_
  exact A3G (.slice none 0 0) rfl (by simp)
 | some a =>
  (have zz:=trivial;repeat((first|clear zz|with_reducible first|refine A3 ?_|refine A5 fun _=>?_|refine A4 fun _=>?_|refine p8 fun _=>?_|refine n8 (hK:=fun _=>?_)|refine p5 (hK:=fun _=>?_)|refine n7 (hK:=fun _=>?_)|refine n9 (hK:=fun _=>?_)|refine p4 (hK:=fun _=>?_));try simp(disch:=first|omega|assumption|((repeat(first|exact A1|exact uH|apply A2|apply uT));first|done|fail)|(simp;first|done|omega|fail))[B26]))
  refine A1s (by (repeat constructor)) (W1.old0 hv) (by decide) hx hp (by simp only [maxLen]; omega) (by omega) fun a' c' => ?_
  simp only [Nat.zero_add, List.nil_append]
  exact B2 _ rfl (by (repeat' constructor))
def A4A {α : Type} (p : α → Bool) (l : List α) : Int := match l.findIdx? p with | some i => i | none => -1
theorem A9x {α : Type} {p : α → Bool} {l : List α} {i : Nat} {x : α} (hx : l[i]? = some x) (hp : p x = true) (h : ∀ j y, j < i → l[j]? = some y → p y = false) : A4A p l = i := by
 have : l.findIdx? p = some i := by
  rw [List.findIdx?_eq_some_iff_getElem]
  obtain ⟨hi, e⟩ := List.getElem?_eq_some_iff.1 hx
  exact ⟨hi, by rw [e]; exact hp, fun j hj => by rw [h j l[j] hj (List.getElem?_eq_getElem (by omega))]; simp⟩
 simp [A4A, this]
theorem A96 {α : Type} {p : α → Bool} {l : List α} (h : ∀ (j : Nat) y, l[j]? = some y → p y = false) : A4A p l = -1 := by
 have : l.findIdx? p = none := by
  rw [List.findIdx?_eq_none_iff]; intro x hx; obtain ⟨i, hi, rfl⟩ := List.getElem_of_mem hx; exact h i _ (List.getElem?_eq_getElem hi)
 simp [A4A, this]
theorem A6S (w : World) (v : Value) (l : List (Int × Int)) (p : Int × Int → Bool) (f : FuncId) (cap : List Value) (hn : l.length ≤ 1000000) (hv : G1 w v l.length (l.flatMap G2)) (he : A8 PR f)
  (hf : ∀ w', KS false [] w w' → ∀ x : Int × Int, Fn PR B7 f (.agg #[.int .i64 x.1, .int .i64 x.2] :: cap).toArray w' (fun r w'' => r = .bool (p x) ∧ C3 [] w' w'')) :
  Fn PR B7 201 #[v, .func (.func f) #[] cap.toArray] w (fun r w' => r = .int .i64 (A4A p l) ∧ C3 [] w w') := by
 refine Fn.pure (e6 (TW.go (κ := false) (S := []) ?_))
 unfold P0
 obtain ⟨a, c, rfl, hr⟩ := hv.form
 (have zz:=trivial;repeat((first|clear zz|with_reducible first|refine A3 ?_|refine A5 fun _=>?_|refine A4 fun _=>?_);try simp(disch:=first|omega|assumption|((repeat(first|exact A1|exact uH|apply A2|apply uT));first|done|fail)|(simp;first|done|omega|fail))[]))
 refine A3Q (α := Unit) l.length (fun _ _ => .int .i64 0) (fun _ _ => []) (fun i _ => ∀ j y, j < i → l[j]? = some y → p y = false) () (by intro j _ hj; omega) ?_
 rintro i _ hi hpre L hL
 by_cases hlt : i < l.length
 ·obtain ⟨b, o, rfl, hrow⟩ := hr (by omega)
  obtain ⟨x, hx⟩ : ∃ x, l[i]? = some x := ⟨_, List.getElem?_eq_getElem (by omega)⟩
  have h1 := hrow.at (f := G2) (k := 2) (fun _ => rfl) hx
  rw [G2] at h1
  (have zz:=trivial;repeat((first|clear zz|with_reducible first|refine A3 ?_|refine A5 fun _=>?_|refine A4 fun _=>?_);try simp(disch:=first|omega|assumption|((repeat(first|exact A1|exact uH|apply A2|apply uT));first|done|fail)|(simp;first|done|omega|fail))[hlt, h1]))
  refine B1u he (φ := fun r => r = .bool (p x)) (fun w' hw' => by simpa using hf w' hw'.ks x) ?_
  rintro _ rfl
  cases hb : p x with
  | true =>
   (have zz:=trivial;repeat((first|clear zz|with_reducible first|refine A3 ?_|refine A5 fun _=>?_|refine A4 fun _=>?_);try simp(disch:=first|omega|assumption|((repeat(first|exact A1|exact uH|apply A2|apply uT));first|done|fail)|(simp;first|done|omega|fail))[]))
   exact C1 (by rw [A9x hx hb hpre])
  | false =>
   (have zz:=trivial;repeat((first|clear zz|with_reducible first|refine A3 ?_|refine A5 fun _=>?_|refine A4 fun _=>?_);try simp(disch:=first|omega|assumption|((repeat(first|exact A1|exact uH|apply A2|apply uT));first|done|fail)|(simp;first|done|omega|fail))[]))
   refine Sels.tw .nil (hL hlt () ?_)
   intro j y hj hy
   by_cases hji : j = i
   ·subst hji; rw [hx] at hy; cases hy; exact hb
   ·exact hpre j y (by omega) hy
 ·obtain rfl : i = l.length := by omega
  (have zz:=trivial;repeat((first|clear zz|with_reducible first|refine A3 ?_|refine A5 fun _=>?_|refine A4 fun _=>?_);try simp(disch:=first|omega|assumption|((repeat(first|exact A1|exact uH|apply A2|apply uT));first|done|fail)|(simp;first|done|omega|fail))[]))
  exact C1 (by rw [A96 fun j y hy => hpre j y (List.getElem?_eq_some_iff.1 hy).1 hy])
theorem B1J {α : Type} (p : α → Bool) (l : List α) : decide (0 ≤ A4A p l) = l.any p := by
 unfold A4A
 cases h : l.findIdx? p with
 | none =>
  have := List.findIdx?_eq_none_iff.1 h
  rw [Bool.eq_iff_iff]; simp [List.any_eq_true]; intro x hx; have := this x hx; simp_all
 | some i =>
  obtain ⟨hi, h1, _⟩ := List.findIdx?_eq_some_iff_getElem.1 h
  rw [Bool.eq_iff_iff]; simp only [List.any_eq_true, decide_eq_true_eq]
  exact ⟨fun _ => ⟨_, List.getElem_mem hi, h1⟩, fun _ => by omega⟩
theorem A39 (w : World) (v : Value) (l : List (Int × Int)) (p : Int × Int → Bool) (f : FuncId) (cap : List Value) (hn : l.length ≤ 1000000) (hv : G1 w v l.length (l.flatMap G2)) (he : A8 PR f)
  (hf : ∀ w', KS false [] w w' → ∀ x : Int × Int, Fn PR B7 f (.agg #[.int .i64 x.1, .int .i64 x.2] :: cap).toArray w' (fun r w'' => r = .bool (p x) ∧ C3 [] w' w'')) :
  Fn PR B7 148 #[v, .func (.func f) #[] cap.toArray] w (fun r w' => r = .bool (l.any p) ∧ C3 [] w w') := by
 refine Fn.pure (Y1 (TW.go (κ := false) (S := []) ?_))
 unfold M7
 refine E7 a6 (fun w' hw' => A6S w' v l p f cap hn (hv.ks hw'.ks (by simp)) he fun w2 h => hf w2 (hw'.ks.trans h)) ?_
 (have zz:=trivial;repeat((first|clear zz|with_reducible first|refine A3 ?_|refine A5 fun _=>?_|refine A4 fun _=>?_);try simp(disch:=first|omega|assumption|((repeat(first|exact A1|exact uH|apply A2|apply uT));first|done|fail)|(simp;first|done|omega|fail))[]))
 exact C1 (by rw [B1J])
end Go.Proofs.YtjobgnabneddjaaGreat
namespace Go.Proofs.YtjobgnabneddjaaGreat
open Go
theorem B1F {t e : TypeId} {len n m n' m' : Nat} {z z' : Value} {d' : TypeDesc} {parts : Array (Nat × Value)} {cs : Array Value} {K : Value → WP} (h : TI PR t (.array len e) n m z) (he : TI PR e d' n' m' z')
  (hf : Instr.fill (fun i => some (i * n', n')) z.cells parts.toList = some cs) : A0 PR (Instr.build t parts) K = K (.agg cs) :=
 E1 (fun w => by
  simp only [Instr.build, Sem.run_bind, h.run_zero, Result.andThen_ok, h.run_und, he.run_size, hf, Sem.run_pure]) K
theorem bd2 {k0 k1 : IntKind} {a b : Int} (K : Value → WP) : A0 PR (Instr.build 158 #[(0, .int k0 a), (1, .int k1 b)]) K = K (.agg #[.int k0 a, .int k1 b]) :=
 B1F A4Z H3 (by rw [show (#[(0, Value.int k0 a), (1, Value.int k1 b)] : Array (Nat × Value)).toList = [(0, Value.int k0 a), (1, Value.int k1 b)] from rfl, C0 rfl rfl (by simp), C0 rfl rfl (by simp [C4])]; rfl)
theorem A7y (w : World) (x : Int × Int) : Fn PR B7 149 #[.agg #[.int .i64 x.1, .int .i64 x.2]] w (fun r w' => r = .bool (decide (x.1 < 1 ∨ x.2 < x.1)) ∧ C3 [] w w') := by
 refine Fn.pure (A3u (TW.go (κ := false) (S := []) ?_))
 unfold s6
 by_cases c1 : x.1 < 1
 ·(have zz:=trivial;repeat((first|clear zz|with_reducible first|refine A3 ?_|refine A5 fun _=>?_|refine A4 fun _=>?_);try simp(disch:=first|omega|assumption|((repeat(first|exact A1|exact uH|apply A2|apply uT));first|done|fail)|(simp;first|done|omega|fail))[c1]))
  exact C1 (by simp [c1])
 ·(have zz:=trivial;repeat((first|clear zz|with_reducible first|refine A3 ?_|refine A5 fun _=>?_|refine A4 fun _=>?_);try simp(disch:=first|omega|assumption|((repeat(first|exact A1|exact uH|apply A2|apply uT));first|done|fail)|(simp;first|done|omega|fail))[c1]))
  exact C1 (by simp [c1])
theorem B0w (w : World) (v : Value) (l : List (Int × Int)) (hn : l.length ≤ 1000000) (hv : G1 w v l.length (l.flatMap G2)) :
  Fn PR B7 89 #[v] w (fun r w' => r = .bool (!l.any fun x => decide (x.1 < 1 ∨ x.2 < x.1)) ∧ C3 [] w w') := by
 refine Fn.pure (A5Y (TW.go (κ := false) (S := []) ?_))
 unfold A1A
 refine E7 V4 (fun w' hw' => A39 w' v l (fun x => decide (x.1 < 1 ∨ x.2 < x.1)) 149 [] hn (hv.ks hw'.ks (by simp)) A2n fun w2 h x => A7y w2 x) ?_
 (have zz:=trivial;repeat((first|clear zz|with_reducible first|refine A3 ?_|refine A5 fun _=>?_|refine A4 fun _=>?_);try simp(disch:=first|omega|assumption|((repeat(first|exact A1|exact uH|apply A2|apply uT));first|done|fail)|(simp;first|done|omega|fail))[]))
 exact C1 rfl
def A5s (b : E8) : Bool := decide (1 ≤ b.1 ∧ b.1 ≤ 65535 ∧ 1 ≤ b.2 ∧ b.2 ≤ 16)
def Y4 : List E8 → Bool
 | [] => true
 | b :: l => A5s b && !(l.any fun x => decide (x.1 = b.1)) && Y4 l
def F7 (l : List E8) : Int := if Y4 l && decide (l.length ≤ 32) then 0 else 10
theorem A1y (l : List E8) : Y4 l = true ↔ (∀ b ∈ l, A5s b = true) ∧ l.Pairwise fun a b => a.1 ≠ b.1 := by
 induction l with
 | nil => simp [Y4]
 | cons b l ih =>
  simp only [Y4, Bool.and_eq_true, ih, List.mem_cons, forall_eq_or_imp, List.pairwise_cons, Bool.not_eq_true', List.any_eq_false, decide_eq_true_eq]
  constructor
  ·rintro ⟨⟨h1, h2⟩, h3, h4⟩; exact ⟨⟨h1, h3⟩, fun a ha e => h2 a ha e.symm, h4⟩
  ·rintro ⟨⟨h1, h3⟩, h2, h4⟩; exact ⟨⟨h1, fun a ha e => h2 a ha e.symm⟩, h3, h4⟩
theorem B6d {α : Type} {R : α → α → Prop} {l : List α} (h : l.Pairwise R) {i j : Nat} {x y : α} (hij : i < j) (hx : l[i]? = some x) (hy : l[j]? = some y) : R x y := by
 obtain ⟨h1, rfl⟩ := List.getElem?_eq_some_iff.1 hx
 obtain ⟨h2, rfl⟩ := List.getElem?_eq_some_iff.1 hy
 exact List.pairwise_iff_getElem.1 h i j h1 h2 hij
theorem B3s {α : Type} {R : α → α → Prop} {l : List α} {i : Nat} {x : α} (hx : l[i]? = some x) : (l.take (i + 1)).Pairwise R ↔ (l.take i).Pairwise R ∧ ∀ y ∈ l.take i, R y x := by
 rw [List.take_add_one, hx]; simp [List.pairwise_append]
theorem y7 (w : World) (v : Value) (l : List E8) (hn : l.length ≤ 1000000) (hv : G1 w v l.length (l.flatMap G2)) :
  Fn PR B7 29 #[v] w (fun r w' => r = .int .i64 (F7 l) ∧ C3 [] w w') := by
 refine Fn.pure (A6P (TW.go (κ := false) (S := []) ?_))
 unfold A2H
 obtain ⟨a, c, rfl, hr⟩ := hv.form
 refine B3K (Value.int .i64) fun r => ?_
 (have zz:=trivial;repeat((first|clear zz|with_reducible first|refine A3 ?_|refine A5 fun _=>?_|refine A4 fun _=>?_);try simp(disch:=first|omega|assumption|((repeat(first|exact A1|exact uH|apply A2|apply uT));first|done|fail)|(simp;first|done|omega|fail))[]))
 refine A3Q (α := List (Int × Value)) l.length (fun _ _ => .int .i64 0) (fun _ M => [.pt r (U4 (Value.int .i64) M)]) (fun i M => (∀ k, x8 k M = if (l.take i).any (fun x => decide (x.1 = k)) then some (.bool true) else none) ∧ Y4 (l.take i) = true) [] (by simp [x8, Y4]) ?_
 rintro i M hi ⟨hM, hok⟩ L hL
 by_cases hlt : i < l.length
 ·obtain ⟨b, o, rfl, hrow⟩ := hr (by omega)
  obtain ⟨x, hx⟩ : ∃ x, l[i]? = some x := ⟨_, List.getElem?_eq_getElem (by omega)⟩
  have h1 := hrow.at (f := G2) (k := 2) (fun _ => rfl) hx
  rw [G2] at h1
  have hxm : x ∈ l := List.mem_of_getElem? hx
  (have zz:=trivial;repeat((first|clear zz|with_reducible first|refine A3 ?_|refine A5 fun _=>?_|refine A4 fun _=>?_);try simp(disch:=first|omega|assumption|((repeat(first|exact A1|exact uH|apply A2|apply uT));first|done|fail)|(simp;first|done|omega|fail))[hlt, h1]))
  rw [B13 B3A ty4 (KeyT.int H3) (l := M) (by (repeat constructor)), hM]
  cases hseen : (l.take i).any (fun y => decide (y.1 = x.1)) with
  | true =>
   have hbad : F7 l = 10 := by
    have : Y4 l = false := by
     rw [← Bool.not_eq_true, A1y]
     rintro ⟨_, h⟩
     obtain ⟨y, hy, he⟩ := List.any_eq_true.1 hseen
     obtain ⟨j, hj, rfl⟩ := List.getElem_of_mem hy
     simp only [List.length_take] at hj
     exact B6d (i := j) (j := i) h (by omega) (List.getElem?_eq_getElem (by omega)) hx (by simpa using he)
    simp [F7, this]
   (have zz:=trivial;repeat((first|clear zz|with_reducible first|refine A3 ?_|refine A5 fun _=>?_|refine A4 fun _=>?_);try simp(disch:=first|omega|assumption|((repeat(first|exact A1|exact uH|apply A2|apply uT));first|done|fail)|(simp;first|done|omega|fail))[]))
   exact C1 (by rw [hbad])
  | false =>
   simp only [Bool.false_eq_true, if_false, Option.getD_none]
   (have zz:=trivial;repeat((first|clear zz|with_reducible first|refine A3 ?_|refine A5 fun _=>?_|refine A4 fun _=>?_|refine p8 fun _=>?_|refine n8 (hK:=fun _=>?_)|refine p5 (hK:=fun _=>?_)|refine n7 (hK:=fun _=>?_)|refine n9 (hK:=fun _=>?_)|refine p4 (hK:=fun _=>?_));try simp(disch:=first|omega|assumption|((repeat(first|exact A1|exact uH|apply A2|apply uT));first|done|fail)|(simp;first|done|omega|fail))[bd2]))
   rename_i bs bx
   refine E7 (u := .bool (A5s x)) A4c (fun w' hw' => ?_) ?_
   ·have := B0w w' (.slice (some ⟨bx, 0, none⟩) 2 2) [(x.1, 65535), (x.2, 16)] (by simp) (by simpa [G2] using W1.own (κ := false) (S := []) (w0 := w) (e := 158) (k := 2) (q := 2) (v := .slice (some ⟨bx, 0, none⟩) 2 2) (by (repeat constructor)) w' hw')
    have e : (!([(x.1, 65535), (x.2, 16)] : List (Int × Int)).any fun x => decide (x.1 < 1 ∨ x.2 < x.1)) = A5s x := by
     rw [Bool.eq_iff_iff]; simp [A5s]; omega
    rw [e] at this
    exact this
   ·cases hbk : A5s x with
    | false =>
     have hbad : F7 l = 10 := by
      have : Y4 l = false := by
       rw [← Bool.not_eq_true, A1y]
       rintro ⟨h, _⟩
       rw [h x hxm] at hbk; cases hbk
      simp [F7, this]
     (have zz:=trivial;repeat((first|clear zz|with_reducible first|refine A3 ?_|refine A5 fun _=>?_|refine A4 fun _=>?_);try simp(disch:=first|omega|assumption|((repeat(first|exact A1|exact uH|apply A2|apply uT));first|done|fail)|(simp;first|done|omega|fail))[]))
     exact C1 (by rw [hbad])
    | true =>
     (have zz:=trivial;repeat((first|clear zz|with_reducible first|refine A3 ?_|refine A5 fun _=>?_|refine A4 fun _=>?_);try simp(disch:=first|omega|assumption|((repeat(first|exact A1|exact uH|apply A2|apply uT));first|done|fail)|(simp;first|done|omega|fail))[]))
     refine B1M B3A (KeyT.int H3) (k := x.1) (by (repeat constructor)) ?_
     (have zz:=trivial;repeat((first|clear zz|with_reducible first|refine A3 ?_|refine A5 fun _=>?_|refine A4 fun _=>?_);try simp(disch:=first|omega|assumption|((repeat(first|exact A1|exact uH|apply A2|apply uT));first|done|fail)|(simp;first|done|omega|fail))[]))
     refine Sels.tw (by (repeat' constructor)) (hL hlt _ ⟨?_, ?_⟩)
     ·intro k
      rw [A90, hM, List.take_add_one, hx]
      by_cases hk : k = x.1
      ·subst hk; simp
      ·have hk' : ¬ x.1 = k := fun e => hk e.symm
       have hAB : (l.take i ++ (some x).toList).any (fun x => decide (x.1 = k)) = (l.take i).any (fun x => decide (x.1 = k)) := by
        rw [List.any_append]; simp only [Option.toList_some, List.any_cons, List.any_nil, decide_eq_false hk', Bool.or_false]
       rw [if_neg hk, hAB]
     ·rw [A1y] at hok ⊢
      refine ⟨fun y hy => ?_, (B3s hx).2 ⟨hok.2, fun y hy e => ?_⟩⟩
      ·rw [List.take_add_one, hx] at hy
       simp only [Option.toList_some, List.mem_append, List.mem_singleton] at hy
       rcases hy with hy | rfl
       ·exact hok.1 y hy
       ·exact hbk
      ·have := List.any_eq_false.1 hseen y hy
       simp [e] at this
 ·obtain rfl : i = l.length := by omega
  rw [List.take_length] at hok
  by_cases c1 : l.length ≤ 32
  ·have c1' : ¬ (32 : Int) < l.length := by omega
   (have zz:=trivial;repeat((first|clear zz|with_reducible first|refine A3 ?_|refine A5 fun _=>?_|refine A4 fun _=>?_);try simp(disch:=first|omega|assumption|((repeat(first|exact A1|exact uH|apply A2|apply uT));first|done|fail)|(simp;first|done|omega|fail))[c1']))
   exact C1 (by simp [F7, hok, c1])
  ·have c1' : (32 : Int) < l.length := by omega
   (have zz:=trivial;repeat((first|clear zz|with_reducible first|refine A3 ?_|refine A5 fun _=>?_|refine A4 fun _=>?_);try simp(disch:=first|omega|assumption|((repeat(first|exact A1|exact uH|apply A2|apply uT));first|done|fail)|(simp;first|done|omega|fail))[c1']))
   exact C1 (by simp [F7, c1])
end Go.Proofs.YtjobgnabneddjaaGreat
namespace Go.Proofs.YtjobgnabneddjaaGreat
open Go
structure CfgV where
 wk : Int
 sh : Int
 cp : Int
 idle : Int
 sl : Int
 deriving DecidableEq
def CfgV.val (c : CfgV) : Value := .agg #[.int .i64 c.wk, .int .i64 c.sh, .int .i64 c.cp, .int .i64 c.idle, .int .i64 c.sl]
def T4 (n lo hi : Int) : Bool := decide (lo ≤ n) && decide (n ≤ hi)
def S6 (c : CfgV) : Bool := T4 c.wk 1 64 && T4 c.sh 1 16 && T4 c.cp 1 64 && T4 c.idle 0 1000000 && T4 c.sl 2 8
structure AnsV where
 err : Int
 bk : Int
 made : Bool
 count : Int
 deriving DecidableEq
def AnsV.val (a : AnsV) : Value := .agg #[.int .i64 a.err, .int .i64 a.bk, .bool a.made, .int .i64 a.count]
structure OpV where
 kind : Int
 packet : ByteArray
 pool : List E8
 shard : Int
def OpV.val (o : OpV) (v : Value) : Value := .agg #[.int .i64 o.kind, .string o.packet, v, .int .i64 o.shard]
end Go.Proofs.YtjobgnabneddjaaGreat
namespace Go.Proofs.YtjobgnabneddjaaGreat
open Go
end Go.Proofs.YtjobgnabneddjaaGreat
namespace Go.Proofs.YtjobgnabneddjaaGreat
open Go
def A47 (X : Nat → Prop) (t0 : Value) (R : Value → WP) : WP :=
 B6 PR X 183 [(.int .u64 14695981039346656037), t0] fun t4 =>
 R t4
theorem A74 : A8 PR 135 := A7 Tryz.func135 (by kernel_rfl) rfl
theorem A9b {X : Nat → Prop} {t0 : Value} {R : Value → WP} {w : World} (h : A47 X t0 R w) : Fn PR X 135 #[t0] w R := D1 (args := [t0]) mixed Tryz.func135 (by kernel_rfl) h
def A3y (X : Nat → Prop) (t0 t1 : Value) (R : Value → WP) : WP :=
 B5 PR X (Instr.alloc 368 true (.tuple #[])) fun t5 =>
 B5 PR X (Instr.alloc 370 true (.tuple #[])) fun t6 =>
 D9 PR X (Instr.storeAt 368 t5 (.func (.func 238) #[] #[])) <|
 D9 PR X (Instr.storeAt 370 t6 t0) <|
 jn (n := 0) (
 A6 PR (Instr.loadAt 370 t6) fun t16 =>
 unw (R t16)) fun J1 =>
 B6 PR X 239 [t1] fun t10 =>
 rng (N := 1) PR X (fun t11 K2 =>
 bgn <|
 A6 PR (Instr.loadAt 368 t5) fun t12 =>
 A6 PR (Instr.loadAt 370 t6) fun t13 =>
 V8 PR (fun _ => False) t12 [t13, t11] fun t15 =>
 D9 PR (fun _ => False) (Instr.storeAt 370 t6 t15) <|
 K2 none) t10 (fun j => match j with | none => (J1) | some (.exit i) => (match Nat.beq i 0 with | true => (J1) | false => (E9)) | some .ret => (unw (R (.int .u64 0))) | some _ => E9)
theorem A3K : A8 PR 183 := A7 Tryz.func183 (by kernel_rfl) rfl
theorem A75 {X : Nat → Prop} {t0 t1 : Value} {R : Value → WP} {w : World} (h : A3y X t0 t1 R w) : Fn PR X 183 #[t0, t1] w R := D1 (args := [t0, t1]) mixed Tryz.func183 (by kernel_rfl) h
def A01 (X : Nat → Prop) (t0 t1 : Value) (R : Value → WP) : WP :=
 A0 PR (convert 5 370 t1) fun t7 =>
 A0 PR (binOp .xor 370 t0 t7) fun t8 =>
 A0 PR (binOp .mul 370 t8 (.int .u64 1099511628211)) fun t9 =>
 R t9
theorem A49 : A8 PR 238 := A7 Tryz.func238 (by kernel_rfl) rfl
theorem A5T {X : Nat → Prop} {t0 t1 : Value} {R : Value → WP} {w : World} (h : A01 X t0 t1 R w) : Fn PR X 238 #[t0, t1] w R := D1 (args := [t0, t1]) mixed Tryz.func238 (by kernel_rfl) h
def A3x (X : Nat → Prop) (t0 : Value) (R : Value → WP) : WP :=
 B5 PR X (Instr.box 9 t0) fun t1 =>
 A0 PR (Instr.makeFunc (.func 268) #[] #[t1]) fun t3 =>
 R t3
theorem A7E : A8 PR 239 := A7 Tryz.func239 (by kernel_rfl) rfl
theorem A8A {X : Nat → Prop} {t0 : Value} {R : Value → WP} {w : World} (h : A3x X t0 R w) : Fn PR X 239 #[t0] w R := D1 (args := [t0]) mixed Tryz.func239 (by kernel_rfl) h
def A08 (X : Nat → Prop) (t0 t1 : Value) (R : Value → WP) : WP :=
 A6 PR (Instr.loadAt 9 t1) fun t4 =>
 A0 PR (A9 .len #[9] 0 [t4]) fun t5 =>
 lp (n := 1) (fun L1 t6 =>
 A0 PR (binOp .lss 3 t6 t5) fun t7 =>
 jn (n := 0) (
 jn (n := 0) (
 A0 PR (binOp .add 3 t6 (.int .i64 1)) fun t15 =>
 L1 t15) fun J2 =>
 A6 PR (Instr.loadAt 9 t1) fun t10 =>
 A0 PR (Instr.index 9 t10 t6) fun t12 =>
 V8 PR X t0 [t12] fun t13 =>
 A0 PR (Op.unary .not t13) fun t14 =>
 C8 t14 (
 R (.tuple #[])) (
 J2)) fun J3 =>
 C8 t7 (
 J3) (
 R (.tuple #[]))) (.int .i64 0)
theorem A4g : A8 PR 268 := A7 Tryz.func268 (by kernel_rfl) rfl
theorem A5Z {X : Nat → Prop} {t0 t1 : Value} {R : Value → WP} {w : World} (h : A08 X t0 t1 R w) : Fn PR X 268 #[t0, t1] w R := D1 (args := [t0, t1]) mixed Tryz.func268 (by kernel_rfl) h
theorem A5W {X : Nat → Prop} {t0 t1 : Value} {K : Value → WP} {w : World} (h : Fn PR X 268 #[t0, t1] w K) : w8 PR X 268 [t0, t1] K w := ⟨A4g, h⟩
end Go.Proofs.YtjobgnabneddjaaGreat
namespace Go.Proofs.YtjobgnabneddjaaGreat
open Go
def A5Q (h b : Nat) : Nat := ((h ^^^ b) * 1099511628211) % 18446744073709551616
def A5L (h : Nat) (s : ByteArray) : Nat → Nat
 | 0 => h
 | i + 1 => A5Q (A5L h s i) (f8 s i)
def A9f (h : Nat) (s : ByteArray) : Nat := A5L h s s.size
def A9A (s : ByteArray) : Nat := A9f 14695981039346656037 s
theorem B3z (h b : Nat) : A5Q h b < 2 ^ 64 := by unfold A5Q; omega
theorem A8T {h : Nat} (hh : h < 2 ^ 64) (s : ByteArray) (i : Nat) : A5L h s i < 2 ^ 64 := by
 cases i with
 | zero => exact hh
 | succ i => exact B3z _ _
theorem B5c (w : World) (h b : Nat) (hh : h < 2 ^ 64) (hb : b < 256) : Fn PR B7 238 #[.int .u64 (h : Int), .int .u8 (b : Int)] w (fun v w' => v = .int .u64 (A5Q h b : Nat) ∧ C3 [] w w') := by
 refine Fn.pure (A5T (TW.go (κ := false) (S := []) ?_))
 unfold A01
 (have zz:=trivial;repeat((first|clear zz|with_reducible first|refine A3 ?_|refine A5 fun _=>?_|refine A4 fun _=>?_);try simp(disch:=first|omega|assumption|((repeat(first|exact A1|exact uH|apply A2|apply uT));first|done|fail)|(simp;first|done|omega|fail))[]))
 have e1 : (h % 2 ^ IntKind.u64.bits ^^^ b % 2 ^ IntKind.u64.bits) = h ^^^ b := by rw [show (2 : Nat) ^ IntKind.u64.bits = 2 ^ 64 from rfl, Nat.mod_eq_of_lt hh, Nat.mod_eq_of_lt (by omega)]
 have e2 : h ^^^ b < 2 ^ 64 := Nat.xor_lt_two_pow hh (by omega)
 rw [e1, B33 (n := ((h ^^^ b : Nat) : Int)) (by omega) (by omega)]
 refine C1 ?_
 have e3 : IntKind.u64.wrap (((h ^^^ b : Nat) : Int) * 1099511628211) = (A5Q h b : Nat) := by
  simp only [IntKind.wrap, IntKind.bits, IntKind.signed, A5Q]
  simp
 rw [e3]
abbrev B2y (b : Nat) : Value := .func (.func 268) #[] #[.pointer (some ⟨b, 0, none⟩)]
theorem B3p (w : World) (s : ByteArray) : Fn PR B7 239 #[.string s] w (Rn [] w (fun b v => v = B2y b) fun b => [.pt b (.cells #[.string s] 9)]) := by
 refine A8A (TW.go (κ := false) (S := []) ?_)
 unfold A3x
 (have zz:=trivial;repeat((first|clear zz|with_reducible first|refine A3 ?_|refine A5 fun _=>?_|refine A4 fun _=>?_);try simp(disch:=first|omega|assumption|((repeat(first|exact A1|exact uH|apply A2|apply uT));first|done|fail)|(simp;first|done|omega|fail))[]))
 rename_i b
 exact A3G b rfl (by simp)
def A6e (s : ByteArray) (i : Nat) : List Value := [.int .u8 (f8 s i : Nat)]
theorem B3f (b : Nat) (s : ByteArray) (hs : s.size < 2 ^ 60) : A5D (B2y b) [.pt b (.cells #[.string s] 9)] (fun _ _ => True) ((List.range s.size).map (A6e s)) := by
 refine ⟨_, _, _, rfl, fun l J E hJ hE stJ stE hy w0 h0 => ?_⟩
 refine A5W (A5Z (TW.at (κ := true) ?_ (hJ _ _ _ h0).1))
 unfold A08
 (have zz:=trivial;repeat((first|clear zz|with_reducible first|refine A3 ?_|refine A5 fun _=>?_|refine A4 fun _=>?_);try simp(disch:=first|omega|assumption|((repeat(first|exact A1|exact uH|apply A2|apply uT));first|done|fail)|(simp;first|done|omega|fail))[]))
 refine A2q s.size (fun i => i) (fun _ => _) hJ stJ h0 fun i a hi hJi _ L hL => ?_
 by_cases hlt : i < s.size
 ·obtain ⟨by0, hb0, hb1⟩ := B1j (s := s) (i := i) hlt
  have hb0' : s[((i : Nat) : Int).toNat]? = some by0 := by rw [Int.toNat_natCast]; exact hb0
  (have zz:=trivial;repeat((first|clear zz|with_reducible first|refine A3 ?_|refine A5 fun _=>?_|refine A4 fun _=>?_);try simp(disch:=first|omega|assumption|((repeat(first|exact A1|exact uH|apply A2|apply uT));first|done|fail)|(simp;first|done|omega|fail))[hlt, B4v]))
  rw [hb1]
  refine A6g hJ hE stJ hy hJi (by simpa using hlt) (by simp [A6e]) (fun w3 h => ?_) (fun w3 h => ?_)
  ·(have zz:=trivial;repeat((first|clear zz|with_reducible first|refine A3 ?_|refine A5 fun _=>?_|refine A4 fun _=>?_);try simp(disch:=first|omega|assumption|((repeat(first|exact A1|exact uH|apply A2|apply uT));first|done|fail)|(simp;first|done|omega|fail))[]))
   exact fun w' hw' => hL hlt w' (stJ _ _ _ _ _ h hw')
  ·(have zz:=trivial;repeat((first|clear zz|with_reducible first|refine A3 ?_|refine A5 fun _=>?_|refine A4 fun _=>?_);try simp(disch:=first|omega|assumption|((repeat(first|exact A1|exact uH|apply A2|apply uT));first|done|fail)|(simp;first|done|omega|fail))[]))
   exact A5C stE h
 ·obtain rfl : i = s.size := by omega
  (have zz:=trivial;repeat((first|clear zz|with_reducible first|refine A3 ?_|refine A5 fun _=>?_|refine A4 fun _=>?_);try simp(disch:=first|omega|assumption|((repeat(first|exact A1|exact uH|apply A2|apply uT));first|done|fail)|(simp;first|done|omega|fail))[]))
  exact A4r stJ (by simpa using hJi)
theorem A8W (w : World) (h : Nat) (s : ByteArray) (hh : h < 2 ^ 64) (hs : s.size < 2 ^ 60) : Fn PR B7 183 #[.int .u64 (h : Int), .string s] w (fun v w' => v = .int .u64 (A9f h s : Nat) ∧ C3 [] w w') := by
 refine Fn.pure (A75 (TW.go (κ := false) (S := []) ?_))
 unfold A3y
 (have zz:=trivial;repeat((first|clear zz|with_reducible first|refine A3 ?_|refine A5 fun _=>?_|refine A4 fun _=>?_);try simp(disch:=first|omega|assumption|((repeat(first|exact A1|exact uH|apply A2|apply uT));first|done|fail)|(simp;first|done|omega|fail))[]))
 rename_i bf bx
 refine V2 A7E (fun w' _ => B3p w' s) ?_
 rintro b v rfl
 refine A6a (B3f b s hs) (by simp [A6e]) (fun _ (_ : Unit) => True) (fun i _ => [.pt bx (.cells #[.int .u64 ((A5L h s i : Nat) : Int)] 370), .pt bf (.cells #[.func (.func 238) #[] #[]] 368)])
  (fun _ (_ : Unit) => False) (fun _ => []) () trivial ?_ ?_ ?_ ?_ (by simp [A5L])
 ·intros; trivial
 ·rintro i hi _ F _ K' hK _
  simp only [List.getElem_map, List.getElem_range, A6e, VF.app]
  (have zz:=trivial;repeat((first|clear zz|with_reducible first|refine A3 ?_|refine A5 fun _=>?_|refine A4 fun _=>?_);try simp(disch:=first|omega|assumption|((repeat(first|exact A1|exact uH|apply A2|apply uT));first|done|fail)|(simp;first|done|omega|fail))[]))
  refine E7 A49 (fun w' _ => B5c w' _ _ (A8T hh s i) (A9v s i)) ?_
  (have zz:=trivial;repeat((first|clear zz|with_reducible first|refine A3 ?_|refine A5 fun _=>?_|refine A4 fun _=>?_);try simp(disch:=first|omega|assumption|((repeat(first|exact A1|exact uH|apply A2|apply uT));first|done|fail)|(simp;first|done|omega|fail))[]))
  exact TW.eqH (by simp [A5L]) (hK () trivial)
 ·rintro _ _
  (have zz:=trivial;repeat((first|clear zz|with_reducible first|refine A3 ?_|refine A5 fun _=>?_|refine A4 fun _=>?_);try simp(disch:=first|omega|assumption|((repeat(first|exact A1|exact uH|apply A2|apply uT));first|done|fail)|(simp;first|done|omega|fail))[]))
  exact C1 (by simp [A9f])
 ·rintro _ _ h; exact h.elim
theorem A97 (w : World) (s : ByteArray) (hs : s.size < 2 ^ 60) : Fn PR B7 135 #[.string s] w (fun v w' => v = .int .u64 (A9A s : Nat) ∧ C3 [] w w') := by
 refine Fn.pure (A9b (TW.go (κ := false) (S := []) ?_))
 unfold A47
 refine E7 A3K (fun w' _ => A8W w' 14695981039346656037 s (by omega) hs) ?_
 exact C1 rfl
end Go.Proofs.YtjobgnabneddjaaGreat
namespace Go.Proofs.YtjobgnabneddjaaGreat
open Go
def B28 (key : ByteArray) (n : Nat) : Nat := A9A key % n
theorem B3w (s : ByteArray) : A9A s < 2 ^ 64 := A8T (by omega) s _
def noE : EnV := ⟨0, noB, 0, 0⟩
def B4n (l : List EnV) (key : ByteArray) : List (Nat × EnV) := (List.range l.length).map fun i => ((B28 key l.length + i) % l.length, l.getD ((B28 key l.length + i) % l.length) noE)
def RqS (v : Value) (n : Nat) (xs : List Value) (F : List Res) (w : World) : Prop := ∃ a c, v = .slice a n c ∧ (0 < n → ∃ b o, a = some ⟨b, o, none⟩ ∧ K5 w b o xs ∧ b ∉ B1 F)
theorem RqS.of {v : Value} {n : Nat} {xs : List Value} {w0 w : World} {A F : List Res} (h : G1 w0 v n xs) (hx : 0 < n → 0 < xs.length) (hw : LW false [] w0 (A ++ F) w) : RqS v n xs F w := by
 obtain ⟨a, c, rfl, hr⟩ := h.form
 refine ⟨a, c, rfl, fun hn => ?_⟩
 obtain ⟨b, o, rfl, hrow⟩ := hr hn
 refine ⟨b, o, rfl, hw.ks.row (by simp) hrow, hw.notin_old ?_ (by simp)⟩
 have h0 := hrow 0 (hx hn)
 rw [List.getElem?_eq_getElem (hx hn)] at h0
 obtain ⟨c', t', z', h1, h2⟩ := V1 h0
 exact G3 h1
def B27 (key : ByteArray) : List (Nat × EnV) → Int
 | [] => -1
 | p :: r => if p.2.st = 0 then -1 else if p.2.st = 1 ∧ p.2.key = key then p.1 else B27 key r
def B2u (l : List EnV) (key : ByteArray) : Int := B27 key (B4n l key)
theorem B3n {α : Type} {l : List α} {i : Nat} (h : i < l.length) : l.drop i = l[i] :: l.drop (i + 1) := List.drop_eq_getElem_cons h
def B2w : List (Nat × EnV) → Int
 | [] => -1
 | p :: r => if p.2.st = 1 then B2w r else p.1
def B6C (l : List EnV) (key : ByteArray) : Int := if 0 ≤ B2u l key then -1 else B2w (B4n l key)
def B0B (l : List EnV) (st : Int) : Nat := l.countP fun x => decide (x.st = st)
end Go.Proofs.YtjobgnabneddjaaGreat
