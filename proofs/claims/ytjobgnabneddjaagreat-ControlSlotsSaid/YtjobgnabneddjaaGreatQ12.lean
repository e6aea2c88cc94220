/- The proof of a given statement, a part of it (Packet Bytes Sl Pool Vals ShProbe ShFnv Fnv Probe). No condition but what each lemma says. -/
import Derived.Lib.SlBytesRow
import Derived.Test.YtjobgnabneddjaaGreatQ11
set_option linter.unusedVariables false
set_option linter.unusedSimpArgs false
namespace Go.Proofs.YtjobgnabneddjaaGreat
open Go
structure KeyV where
 v : Int
 src : ByteArray
 dst : ByteArray
 fr : Int
 tp : Int
 proto : Int
 deriving DecidableEq
def KeyV.cs (k : KeyV) : List Value := [.int .i64 k.v, .string k.src, .string k.dst, .int .i64 k.fr, .int .i64 k.tp, .int .i64 k.proto]
def KeyV.val (k : KeyV) : Value := .agg #[.int .i64 k.v, .string k.src, .string k.dst, .int .i64 k.fr, .int .i64 k.tp, .int .i64 k.proto]
def keyed.val (x : KeyV × ByteArray × Nat) : Value := .tuple #[x.1.val, .string x.2.1, .int .i64 x.2.2]
def B3d (k : KeyV) (f : Int) : Value := .agg #[.int .i64 k.v, .string k.src, .string k.dst, .int .i64 k.fr, .int .i64 k.tp, .int .i64 k.proto, .int .i64 f]
def packet.val (x : KeyV × Nat × Nat) : Value := .tuple #[B3d x.1 x.2.1, .int .i64 x.2.2]
end Go.Proofs.YtjobgnabneddjaaGreat
namespace Go.Proofs.YtjobgnabneddjaaGreat
open Go
section
variable {κ : Bool} {X : Nat → Prop} {S : List Nat} {w0 : World} {H H' : List Res} {K : Value → WP}
end
end Go.Proofs.YtjobgnabneddjaaGreat
namespace Go.Proofs.YtjobgnabneddjaaGreat
open Go
@[simp] theorem B9M {κ : Bool} {S : List Nat} {w0 : World} {H : List Res} {K : Value → WP} {t : TypeId} {z : Value} [h : TS t z] {b o : Nat} {c : Array Value} {T : TypeId} {f : Nat × Nat} (hm : Res.pt b (.cells c T f) ∈ H) :
  TW κ S w0 H (A6 PR (H0 [.c t (.pointer (some ⟨b, o, none⟩))]) K) = TW κ S w0 H (rdc c[o]? K (A6 PR (H0 [.c t (.pointer (some ⟨b, o, none⟩))]) K)) := by
 cases hc : c[o]? with
 | none => rfl
 | some v => rw [B4N hm hc]; rfl
abbrev E6 := Int × Int
def G2 (b : E6) : List Value := [.int .i64 b.1, .int .i64 b.2]
structure EnV where
 st : Int
 key : ByteArray
 bk : Int
 dl : Int
 deriving DecidableEq
def A4J (x : EnV) : List Value := [.int .i64 x.st, .string x.key, .int .i64 x.bk, .int .i64 x.dl]
theorem B5D {t u : TypeId} {n m : Nat} {z : Value} {a : Option Addr} {l c e : Nat} (h : TI PR t (.slice u) n m z) : EqV PR (e + 1) t (.slice a l c) (.slice none 0 0) a.isNone := by
 intro w
 cases a with
 | none => simp only [Op.equalIn, Sem.run_bind, h.run_und, Result.andThen_ok, Sem.run_pure, Option.isNone]
 | some a => simp only [Op.equalIn, Sem.run_bind, h.run_und, Result.andThen_ok, Sem.run_pure]; rfl
theorem B89 {t u : TypeId} {n m : Nat} {z : Value} (h : TI PR t (.slice u) n m z) (x y : Operand) (a : Option Addr) (l c : Nat) (K : Value → WP) :
  A6 PR (G0 .eql t x y (.slice a l c) (.slice none 0 0)) K = K (.bool a.isNone) := by
 funext w
 refine Y6 ?_ K
 have h1 : (eqGuard .eql t x y (.slice a l c) (.slice none 0 0)).run PR w = .ok () w := by simp [eqGuard]
 have h2 : (Op.equalIn 10000 t (.slice a l c) (.slice none 0 0)).run PR w = .ok a.isNone w := B5D (e := 9999) h w
 simp [G0, h1, binOp, Op.equal, Op.maxDepth, h2]
theorem B3F (x y : Operand) (a : Option Addr) (l c : Nat) (K : Value → WP) : A6 PR (G0 .eql 58 x y (.slice a l c) (.slice none 0 0)) K = K (.bool a.isNone) := B89 A3Y x y a l c K
theorem B0e (w : World) (v : Value) (n : Nat) (xs : List Value) (hn : n ≤ 1000000) (hx : xs.length = n * 2) (hp : xs.all plain = true) (hv : F7 w v n xs) :
  Fn PR B7 123 #[v] w (Rn [] w (fun r u => u = r) fun r => [.own 155 2 r n xs]) := by
 obtain ⟨a, c, rfl, hr⟩ := hv.form
 refine T5 (TW.go (κ := false) (S := []) ?_)
 unfold L7
 cases a with
 | none =>
  obtain rfl : n = 0 := by
   rcases Nat.eq_zero_or_pos n with h | h
   ·exact h
   ·obtain ⟨_, _, h, _⟩ := hr h; cases h
  obtain rfl : xs = [] := List.length_eq_zero_iff.1 (by omega)
  (have zz:=trivial;repeat((first|clear zz|with_reducible first|refine A2 ?_|refine A5 fun _=>?_|refine A4 fun _=>?_);try simp(disch:=first|omega|assumption|((repeat(first|exact A1|exact uH|apply A3|apply uT));first|done|fail)|(simp;first|done|omega|fail))[B3F]))
  refine A0W 155 2 ?_
  exact A2p (.slice none 0 0) rfl (by simp)
 | some a =>
  (have zz:=trivial;repeat((first|clear zz|with_reducible first|refine A2 ?_|refine A5 fun _=>?_|refine A4 fun _=>?_|refine p4 fun _=>?_|refine p9 (hK:=fun _=>?_)|refine q7 (hK:=fun _=>?_)|refine p5 (hK:=fun _=>?_)|refine q5 (hK:=fun _=>?_)|refine q6 (hK:=fun _=>?_));try simp(disch:=first|omega|assumption|((repeat(first|exact A1|exact uH|apply A3|apply uT));first|done|fail)|(simp;first|done|omega|fail))[B3F]))
  refine A2M (by (repeat constructor)) (Z3.old0 hv) (by decide) hx hp (by simp only [maxLen]; omega) (by omega) fun a' c' => ?_
  simp only [Nat.zero_add, List.nil_append]
  exact B3 _ rfl (by (repeat' constructor))
def A4W {α : Type} (p : α → Bool) (l : List α) : Int := match l.findIdx? p with | some i => i | none => -1
theorem B1B {α : Type} {p : α → Bool} {l : List α} {i : Nat} {x : α} (hx : l[i]? = some x) (hp : p x = true) (h : ∀ j y, j < i → l[j]? = some y → p y = false) : A4W p l = i := by
 have : l.findIdx? p = some i := by
  rw [List.findIdx?_eq_some_iff_getElem]
  obtain ⟨hi, e⟩ := List.getElem?_eq_some_iff.1 hx
  exact ⟨hi, by rw [e]; exact hp, fun j hj => by rw [h j l[j] hj (List.getElem?_eq_getElem (by omega))]; simp⟩
 simp [A4W, this]
theorem B1F {α : Type} {p : α → Bool} {l : List α} (h : ∀ (j : Nat) y, l[j]? = some y → p y = false) : A4W p l = -1 := by
 have : l.findIdx? p = none := by
  rw [List.findIdx?_eq_none_iff]; intro x hx; obtain ⟨i, hi, rfl⟩ := List.getElem_of_mem hx; exact h i _ (List.getElem?_eq_getElem hi)
 simp [A4W, this]
theorem A6Y (w : World) (v : Value) (l : List (Int × Int)) (p : Int × Int → Bool) (f : FuncId) (cap : List Value) (hn : l.length ≤ 1000000) (hv : F7 w v l.length (l.flatMap G2)) (he : A9 PR f)
  (hf : ∀ w', KS false [] w w' → ∀ x : Int × Int, Fn PR B7 f (.agg #[.int .i64 x.1, .int .i64 x.2] :: cap).toArray w' (fun r w'' => r = .bool (p x) ∧ C4 [] w' w'')) :
  Fn PR B7 201 #[v, .func (.func f) #[] cap.toArray] w (fun r w' => r = .int .i64 (A4W p l) ∧ C4 [] w w') := by
 refine Fn.pure (f7 (TW.go (κ := false) (S := []) ?_))
 unfold P1
 obtain ⟨a, c, rfl, hr⟩ := hv.form
 (have zz:=trivial;repeat((first|clear zz|with_reducible first|refine A2 ?_|refine A5 fun _=>?_|refine A4 fun _=>?_);try simp(disch:=first|omega|assumption|((repeat(first|exact A1|exact uH|apply A3|apply uT));first|done|fail)|(simp;first|done|omega|fail))[]))
 refine A2s (α := Unit) l.length (fun _ _ => .int .i64 0) (fun _ _ => []) (fun i _ => ∀ j y, j < i → l[j]? = some y → p y = false) () (by intro j _ hj; omega) ?_
 rintro i _ hi hpre L hL
 by_cases hlt : i < l.length
 ·obtain ⟨b, o, rfl, hrow⟩ := hr (by omega)
  obtain ⟨x, hx⟩ : ∃ x, l[i]? = some x := ⟨_, List.getElem?_eq_getElem (by omega)⟩
  have h1 := hrow.at (f := G2) (k := 2) (fun _ => rfl) hx
  rw [G2] at h1
  (have zz:=trivial;repeat((first|clear zz|with_reducible first|refine A2 ?_|refine A5 fun _=>?_|refine A4 fun _=>?_);try simp(disch:=first|omega|assumption|((repeat(first|exact A1|exact uH|apply A3|apply uT));first|done|fail)|(simp;first|done|omega|fail))[hlt, h1]))
  refine B2Q he (φ := fun r => r = .bool (p x)) (fun w' hw' => by simpa using hf w' hw'.ks x) ?_
  rintro _ rfl
  cases hb : p x with
  | true =>
   (have zz:=trivial;repeat((first|clear zz|with_reducible first|refine A2 ?_|refine A5 fun _=>?_|refine A4 fun _=>?_);try simp(disch:=first|omega|assumption|((repeat(first|exact A1|exact uH|apply A3|apply uT));first|done|fail)|(simp;first|done|omega|fail))[]))
   exact C1 (by rw [B1B hx hb hpre])
  | false =>
   (have zz:=trivial;repeat((first|clear zz|with_reducible first|refine A2 ?_|refine A5 fun _=>?_|refine A4 fun _=>?_);try simp(disch:=first|omega|assumption|((repeat(first|exact A1|exact uH|apply A3|apply uT));first|done|fail)|(simp;first|done|omega|fail))[]))
   refine Sels.tw .nil (hL hlt () ?_)
   intro j y hj hy
   by_cases hji : j = i
   ·subst hji; rw [hx] at hy; cases hy; exact hb
   ·exact hpre j y (by omega) hy
 ·obtain rfl : i = l.length := by omega
  (have zz:=trivial;repeat((first|clear zz|with_reducible first|refine A2 ?_|refine A5 fun _=>?_|refine A4 fun _=>?_);try simp(disch:=first|omega|assumption|((repeat(first|exact A1|exact uH|apply A3|apply uT));first|done|fail)|(simp;first|done|omega|fail))[]))
  exact C1 (by rw [B1F fun j y hy => hpre j y (List.getElem?_eq_some_iff.1 hy).1 hy])
theorem B1d {α : Type} (p : α → Bool) (l : List α) : decide (0 ≤ A4W p l) = l.any p := by
 unfold A4W
 cases h : l.findIdx? p with
 | none =>
  have := List.findIdx?_eq_none_iff.1 h
  rw [Bool.eq_iff_iff]; simp [List.any_eq_true]; intro x hx; have := this x hx; simp_all
 | some i =>
  obtain ⟨hi, h1, _⟩ := List.findIdx?_eq_some_iff_getElem.1 h
  rw [Bool.eq_iff_iff]; simp only [List.any_eq_true, decide_eq_true_eq]
  exact ⟨fun _ => ⟨_, List.getElem_mem hi, h1⟩, fun _ => by omega⟩
theorem A4H (w : World) (v : Value) (l : List (Int × Int)) (p : Int × Int → Bool) (f : FuncId) (cap : List Value) (hn : l.length ≤ 1000000) (hv : F7 w v l.length (l.flatMap G2)) (he : A9 PR f)
  (hf : ∀ w', KS false [] w w' → ∀ x : Int × Int, Fn PR B7 f (.agg #[.int .i64 x.1, .int .i64 x.2] :: cap).toArray w' (fun r w'' => r = .bool (p x) ∧ C4 [] w' w'')) :
  Fn PR B7 148 #[v, .func (.func f) #[] cap.toArray] w (fun r w' => r = .bool (l.any p) ∧ C4 [] w w') := by
 refine Fn.pure (Y0 (TW.go (κ := false) (S := []) ?_))
 unfold M7
 refine D9 b8 (fun w' hw' => A6Y w' v l p f cap hn (hv.ks hw'.ks (by simp)) he fun w2 h => hf w2 (hw'.ks.trans h)) ?_
 (have zz:=trivial;repeat((first|clear zz|with_reducible first|refine A2 ?_|refine A5 fun _=>?_|refine A4 fun _=>?_);try simp(disch:=first|omega|assumption|((repeat(first|exact A1|exact uH|apply A3|apply uT));first|done|fail)|(simp;first|done|omega|fail))[]))
 exact C1 (by rw [B1d])
end Go.Proofs.YtjobgnabneddjaaGreat
namespace Go.Proofs.YtjobgnabneddjaaGreat
open Go
theorem B2M {t e : TypeId} {len n m n' m' : Nat} {z z' : Value} {d' : TypeDesc} {parts : Array (Nat × Value)} {cs : Array Value} {K : Value → WP} (h : TI PR t (.array len e) n m z) (he : TI PR e d' n' m' z')
  (hf : Instr.fill (fun i => some (i * n', n')) z.cells parts.toList = some cs) : A0 PR (Instr.build t parts) K = K (.agg cs) :=
 E1 (fun w => by
  simp only [Instr.build, Sem.run_bind, h.run_zero, Result.andThen_ok, h.run_und, he.run_size, hf, Sem.run_pure]) K
theorem bd2 {k0 k1 : IntKind} {a b : Int} (K : Value → WP) : A0 PR (Instr.build 158 #[(0, .int k0 a), (1, .int k1 b)]) K = K (.agg #[.int k0 a, .int k1 b]) :=
 B2M A5C L0 (by rw [show (#[(0, Value.int k0 a), (1, Value.int k1 b)] : Array (Nat × Value)).toList = [(0, Value.int k0 a), (1, Value.int k1 b)] from rfl, B9 rfl rfl (by simp), B9 rfl rfl (by simp [C6])]; rfl)
theorem A78 (w : World) (x : Int × Int) : Fn PR B7 149 #[.agg #[.int .i64 x.1, .int .i64 x.2]] w (fun r w' => r = .bool (decide (x.1 < 1 ∨ x.2 < x.1)) ∧ C4 [] w w') := by
 refine Fn.pure (A32 (TW.go (κ := false) (S := []) ?_))
 unfold u3
 by_cases c1 : x.1 < 1
 ·(have zz:=trivial;repeat((first|clear zz|with_reducible first|refine A2 ?_|refine A5 fun _=>?_|refine A4 fun _=>?_);try simp(disch:=first|omega|assumption|((repeat(first|exact A1|exact uH|apply A3|apply uT));first|done|fail)|(simp;first|done|omega|fail))[c1]))
  exact C1 (by simp [c1])
 ·(have zz:=trivial;repeat((first|clear zz|with_reducible first|refine A2 ?_|refine A5 fun _=>?_|refine A4 fun _=>?_);try simp(disch:=first|omega|assumption|((repeat(first|exact A1|exact uH|apply A3|apply uT));first|done|fail)|(simp;first|done|omega|fail))[c1]))
  exact C1 (by simp [c1])
theorem B0q (w : World) (v : Value) (l : List (Int × Int)) (hn : l.length ≤ 1000000) (hv : F7 w v l.length (l.flatMap G2)) :
  Fn PR B7 89 #[v] w (fun r w' => r = .bool (!l.any fun x => decide (x.1 < 1 ∨ x.2 < x.1)) ∧ C4 [] w w') := by
 refine Fn.pure (A5m (TW.go (κ := false) (S := []) ?_))
 unfold A09
 refine D9 V5 (fun w' hw' => A4H w' v l (fun x => decide (x.1 < 1 ∨ x.2 < x.1)) 149 [] hn (hv.ks hw'.ks (by simp)) A3J fun w2 h x => A78 w2 x) ?_
 (have zz:=trivial;repeat((first|clear zz|with_reducible first|refine A2 ?_|refine A5 fun _=>?_|refine A4 fun _=>?_);try simp(disch:=first|omega|assumption|((repeat(first|exact A1|exact uH|apply A3|apply uT));first|done|fail)|(simp;first|done|omega|fail))[]))
 exact C1 rfl
def A5U (b : E6) : Bool := decide (1 ≤ b.1 ∧ b.1 ≤ 65535 ∧ 1 ≤ b.2 ∧ b.2 ≤ 16)
def Z2 : List E6 → Bool
 | [] => true
 | b :: l => A5U b && !(l.any fun x => decide (x.1 = b.1)) && Z2 l
def F2 (l : List E6) : Int := if Z2 l && decide (l.length ≤ 32) then 0 else 10
theorem A12 (l : List E6) : Z2 l = true ↔ (∀ b ∈ l, A5U b = true) ∧ l.Pairwise fun a b => a.1 ≠ b.1 := by
 induction l with
 | nil => simp [Z2]
 | cons b l ih =>
  simp only [Z2, Bool.and_eq_true, ih, List.mem_cons, forall_eq_or_imp, List.pairwise_cons, Bool.not_eq_true', List.any_eq_false, decide_eq_true_eq]
  constructor
  ·rintro ⟨⟨h1, h2⟩, h3, h4⟩; exact ⟨⟨h1, h3⟩, fun a ha e => h2 a ha e.symm, h4⟩
  ·rintro ⟨⟨h1, h3⟩, h2, h4⟩; exact ⟨⟨h1, fun a ha e => h2 a ha e.symm⟩, h3, h4⟩
theorem B55 {α : Type} {R : α → α → Prop} {l : List α} (h : l.Pairwise R) {i j : Nat} {x y : α} (hij : i < j) (hx : l[i]? = some x) (hy : l[j]? = some y) : R x y := by
 obtain ⟨h1, rfl⟩ := List.getElem?_eq_some_iff.1 hx
 obtain ⟨h2, rfl⟩ := List.getElem?_eq_some_iff.1 hy
 exact List.pairwise_iff_getElem.1 h i j h1 h2 hij
theorem B3y {α : Type} {R : α → α → Prop} {l : List α} {i : Nat} {x : α} (hx : l[i]? = some x) : (l.take (i + 1)).Pairwise R ↔ (l.take i).Pairwise R ∧ ∀ y ∈ l.take i, R y x := by
 rw [List.take_add_one, hx]; simp [List.pairwise_append]
theorem g7 (w : World) (v : Value) (l : List E6) (hn : l.length ≤ 1000000) (hv : F7 w v l.length (l.flatMap G2)) :
  Fn PR B7 29 #[v] w (fun r w' => r = .int .i64 (F2 l) ∧ C4 [] w w') := by
 refine Fn.pure (A6T (TW.go (κ := false) (S := []) ?_))
 unfold A2Z
 obtain ⟨a, c, rfl, hr⟩ := hv.form
 refine B3n (Value.int .i64) fun r => ?_
 (have zz:=trivial;repeat((first|clear zz|with_reducible first|refine A2 ?_|refine A5 fun _=>?_|refine A4 fun _=>?_);try simp(disch:=first|omega|assumption|((repeat(first|exact A1|exact uH|apply A3|apply uT));first|done|fail)|(simp;first|done|omega|fail))[]))
 refine A2s (α := List (Int × Value)) l.length (fun _ _ => .int .i64 0) (fun _ M => [.pt r (V4 (Value.int .i64) M)]) (fun i M => (∀ k, x6 k M = if (l.take i).any (fun x => decide (x.1 = k)) then some (.bool true) else none) ∧ Z2 (l.take i) = true) [] (by simp [x6, Z2]) ?_
 rintro i M hi ⟨hM, hok⟩ L hL
 by_cases hlt : i < l.length
 ·obtain ⟨b, o, rfl, hrow⟩ := hr (by omega)
  obtain ⟨x, hx⟩ : ∃ x, l[i]? = some x := ⟨_, List.getElem?_eq_getElem (by omega)⟩
  have h1 := hrow.at (f := G2) (k := 2) (fun _ => rfl) hx
  rw [G2] at h1
  have hxm : x ∈ l := List.mem_of_getElem? hx
  (have zz:=trivial;repeat((first|clear zz|with_reducible first|refine A2 ?_|refine A5 fun _=>?_|refine A4 fun _=>?_);try simp(disch:=first|omega|assumption|((repeat(first|exact A1|exact uH|apply A3|apply uT));first|done|fail)|(simp;first|done|omega|fail))[hlt, h1]))
  rw [B10 B27 ty4 (KeyT.int L0) (l := M) (by (repeat constructor)), hM]
  cases hseen : (l.take i).any (fun y => decide (y.1 = x.1)) with
  | true =>
   have hbad : F2 l = 10 := by
    have : Z2 l = false := by
     rw [← Bool.not_eq_true, A12]
     rintro ⟨_, h⟩
     obtain ⟨y, hy, he⟩ := List.any_eq_true.1 hseen
     obtain ⟨j, hj, rfl⟩ := List.getElem_of_mem hy
     simp only [List.length_take] at hj
     exact B55 (i := j) (j := i) h (by omega) (List.getElem?_eq_getElem (by omega)) hx (by simpa using he)
    simp [F2, this]
   (have zz:=trivial;repeat((first|clear zz|with_reducible first|refine A2 ?_|refine A5 fun _=>?_|refine A4 fun _=>?_);try simp(disch:=first|omega|assumption|((repeat(first|exact A1|exact uH|apply A3|apply uT));first|done|fail)|(simp;first|done|omega|fail))[]))
   exact C1 (by rw [hbad])
  | false =>
   simp only [Bool.false_eq_true, if_false, Option.getD_none]
   (have zz:=trivial;repeat((first|clear zz|with_reducible first|refine A2 ?_|refine A5 fun _=>?_|refine A4 fun _=>?_|refine p4 fun _=>?_|refine p9 (hK:=fun _=>?_)|refine q7 (hK:=fun _=>?_)|refine p5 (hK:=fun _=>?_)|refine q5 (hK:=fun _=>?_)|refine q6 (hK:=fun _=>?_));try simp(disch:=first|omega|assumption|((repeat(first|exact A1|exact uH|apply A3|apply uT));first|done|fail)|(simp;first|done|omega|fail))[bd2]))
   rename_i bs bx
   refine D9 (u := .bool (A5U x)) A5D (fun w' hw' => ?_) ?_
   ·have := B0q w' (.slice (some ⟨bx, 0, none⟩) 2 2) [(x.1, 65535), (x.2, 16)] (by simp) (by simpa [G2] using Z3.own (κ := false) (S := []) (w0 := w) (e := 158) (k := 2) (q := 2) (v := .slice (some ⟨bx, 0, none⟩) 2 2) (by (repeat constructor)) w' hw')
    have e : (!([(x.1, 65535), (x.2, 16)] : List (Int × Int)).any fun x => decide (x.1 < 1 ∨ x.2 < x.1)) = A5U x := by
     rw [Bool.eq_iff_iff]; simp [A5U]; omega
    rw [e] at this
    exact this
   ·cases hbk : A5U x with
    | false =>
     have hbad : F2 l = 10 := by
      have : Z2 l = false := by
       rw [← Bool.not_eq_true, A12]
       rintro ⟨h, _⟩
       rw [h x hxm] at hbk; cases hbk
      simp [F2, this]
     (have zz:=trivial;repeat((first|clear zz|with_reducible first|refine A2 ?_|refine A5 fun _=>?_|refine A4 fun _=>?_);try simp(disch:=first|omega|assumption|((repeat(first|exact A1|exact uH|apply A3|apply uT));first|done|fail)|(simp;first|done|omega|fail))[]))
     exact C1 (by rw [hbad])
    | true =>
     (have zz:=trivial;repeat((first|clear zz|with_reducible first|refine A2 ?_|refine A5 fun _=>?_|refine A4 fun _=>?_);try simp(disch:=first|omega|assumption|((repeat(first|exact A1|exact uH|apply A3|apply uT));first|done|fail)|(simp;first|done|omega|fail))[]))
     refine B18 B27 (KeyT.int L0) (k := x.1) (by (repeat constructor)) ?_
     (have zz:=trivial;repeat((first|clear zz|with_reducible first|refine A2 ?_|refine A5 fun _=>?_|refine A4 fun _=>?_);try simp(disch:=first|omega|assumption|((repeat(first|exact A1|exact uH|apply A3|apply uT));first|done|fail)|(simp;first|done|omega|fail))[]))
     refine Sels.tw (by (repeat' constructor)) (hL hlt _ ⟨?_, ?_⟩)
     ·intro k
      rw [B1G, hM, List.take_add_one, hx]
      by_cases hk : k = x.1
      ·subst hk; simp
      ·have hk' : ¬ x.1 = k := fun e => hk e.symm
       have hAB : (l.take i ++ (some x).toList).any (fun x => decide (x.1 = k)) = (l.take i).any (fun x => decide (x.1 = k)) := by
        rw [List.any_append]; simp only [Option.toList_some, List.any_cons, List.any_nil, decide_eq_false hk', Bool.or_false]
       rw [if_neg hk, hAB]
     ·rw [A12] at hok ⊢
      refine ⟨fun y hy => ?_, (B3y hx).2 ⟨hok.2, fun y hy e => ?_⟩⟩
      ·rw [List.take_add_one, hx] at hy
       simp only [Option.toList_some, List.mem_append, List.mem_singleton] at hy
       rcases hy with hy | rfl
       ·exact hok.1 y hy
       ·exact hbk
      ·have := List.any_eq_false.1 hseen y hy
       simp [e] at this
 ·obtain rfl : i = l.length := by omega
  rw [List.take_length] at hok
  by_cases c1 : l.length ≤ 32
  ·have c1' : ¬ (32 : Int) < l.length := by omega
   (have zz:=trivial;repeat((first|clear zz|with_reducible first|refine A2 ?_|refine A5 fun _=>?_|refine A4 fun _=>?_);try simp(disch:=first|omega|assumption|((repeat(first|exact A1|exact uH|apply A3|apply uT));first|done|fail)|(simp;first|done|omega|fail))[c1']))
   exact C1 (by simp [F2, hok, c1])
  ·have c1' : (32 : Int) < l.length := by omega
   (have zz:=trivial;repeat((first|clear zz|with_reducible first|refine A2 ?_|refine A5 fun _=>?_|refine A4 fun _=>?_);try simp(disch:=first|omega|assumption|((repeat(first|exact A1|exact uH|apply A3|apply uT));first|done|fail)|(simp;first|done|omega|fail))[c1']))
   exact C1 (by simp [F2, c1])
end Go.Proofs.YtjobgnabneddjaaGreat
namespace Go.Proofs.YtjobgnabneddjaaGreat
open Go
structure CfgV where
 wk : Int
 sh : Int
 cp : Int
 idle : Int
 sl : Int
 deriving DecidableEq
def CfgV.val (c : CfgV) : Value := .agg #[.int .i64 c.wk, .int .i64 c.sh, .int .i64 c.cp, .int .i64 c.idle, .int .i64 c.sl]
def T7 (n lo hi : Int) : Bool := decide (lo ≤ n) && decide (n ≤ hi)
def T3 (c : CfgV) : Bool := T7 c.wk 1 64 && T7 c.sh 1 16 && T7 c.cp 1 64 && T7 c.idle 0 1000000 && T7 c.sl 2 8
structure AnsV where
 err : Int
 bk : Int
 made : Bool
 count : Int
 deriving DecidableEq
def AnsV.val (a : AnsV) : Value := .agg #[.int .i64 a.err, .int .i64 a.bk, .bool a.made, .int .i64 a.count]
structure OpV where
 kind : Int
 packet : ByteArray
 pool : List E6
 shard : Int
def OpV.val (o : OpV) (v : Value) : Value := .agg #[.int .i64 o.kind, .string o.packet, v, .int .i64 o.shard]
end Go.Proofs.YtjobgnabneddjaaGreat
namespace Go.Proofs.YtjobgnabneddjaaGreat
open Go
end Go.Proofs.YtjobgnabneddjaaGreat
namespace Go.Proofs.YtjobgnabneddjaaGreat
open Go
def A5J (X : Nat → Prop) (t0 : Value) (R : Value → WP) : WP :=
 B5 PR X 183 [(.int .u64 14695981039346656037), t0] fun t4 =>
 R t4
theorem A76 : A9 PR 135 := A7 Tryz.func135 (by kernel_rfl) rfl
theorem A9x {X : Nat → Prop} {t0 : Value} {R : Value → WP} {w : World} (h : A5J X t0 R w) : Fn PR X 135 #[t0] w R := D3 (args := [t0]) mixed Tryz.func135 (by kernel_rfl) h
def A39 (X : Nat → Prop) (t0 t1 : Value) (R : Value → WP) : WP :=
 B6 PR X (Instr.alloc 368 true (.tuple #[])) fun t5 =>
 B6 PR X (Instr.alloc 370 true (.tuple #[])) fun t6 =>
 E2 PR X (Instr.storeAt 368 t5 (.func (.func 238) #[] #[])) <|
 E2 PR X (Instr.storeAt 370 t6 t0) <|
 jn (n := 0) (
 A6 PR (Instr.loadAt 370 t6) fun t16 =>
 unw (R t16)) fun J1 =>
 B5 PR X 239 [t1] fun t10 =>
 rng (N := 1) PR X (fun t11 K2 =>
 bgn <|
 A6 PR (Instr.loadAt 368 t5) fun t12 =>
 A6 PR (Instr.loadAt 370 t6) fun t13 =>
 W3 PR (fun _ => False) t12 [t13, t11] fun t15 =>
 E2 PR (fun _ => False) (Instr.storeAt 370 t6 t15) <|
 K2 none) t10 (fun j => match j with | none => (J1) | some (.exit i) => (match Nat.beq i 0 with | true => (J1) | false => (F3)) | some .ret => (unw (R (.int .u64 0))) | some _ => F3)
theorem A3S : A9 PR 183 := A7 Tryz.func183 (by kernel_rfl) rfl
theorem A8E {X : Nat → Prop} {t0 t1 : Value} {R : Value → WP} {w : World} (h : A39 X t0 t1 R w) : Fn PR X 183 #[t0, t1] w R := D3 (args := [t0, t1]) mixed Tryz.func183 (by kernel_rfl) h
def A1B (X : Nat → Prop) (t0 t1 : Value) (R : Value → WP) : WP :=
 A0 PR (convert 5 370 t1) fun t7 =>
 A0 PR (binOp .xor 370 t0 t7) fun t8 =>
 A0 PR (binOp .mul 370 t8 (.int .u64 1099511628211)) fun t9 =>
 R t9
theorem A5A : A9 PR 238 := A7 Tryz.func238 (by kernel_rfl) rfl
theorem A5q {X : Nat → Prop} {t0 t1 : Value} {R : Value → WP} {w : World} (h : A1B X t0 t1 R w) : Fn PR X 238 #[t0, t1] w R := D3 (args := [t0, t1]) mixed Tryz.func238 (by kernel_rfl) h
def A35 (X : Nat → Prop) (t0 : Value) (R : Value → WP) : WP :=
 B6 PR X (Instr.box 9 t0) fun t1 =>
 A0 PR (Instr.makeFunc (.func 268) #[] #[t1]) fun t3 =>
 R t3
theorem A7r : A9 PR 239 := A7 Tryz.func239 (by kernel_rfl) rfl
theorem A75 {X : Nat → Prop} {t0 : Value} {R : Value → WP} {w : World} (h : A35 X t0 R w) : Fn PR X 239 #[t0] w R := D3 (args := [t0]) mixed Tryz.func239 (by kernel_rfl) h
def A1N (X : Nat → Prop) (t0 t1 : Value) (R : Value → WP) : WP :=
 A6 PR (Instr.loadAt 9 t1) fun t4 =>
 A0 PR (A8 .len #[9] 0 [t4]) fun t5 =>
 lp (n := 1) (fun L1 t6 =>
 A0 PR (binOp .lss 3 t6 t5) fun t7 =>
 jn (n := 0) (
 jn (n := 0) (
 A0 PR (binOp .add 3 t6 (.int .i64 1)) fun t15 =>
 L1 t15) fun J2 =>
 A6 PR (Instr.loadAt 9 t1) fun t10 =>
 A0 PR (Instr.index 9 t10 t6) fun t12 =>
 W3 PR X t0 [t12] fun t13 =>
 A0 PR (Op.unary .not t13) fun t14 =>
 C8 t14 (
 R (.tuple #[])) (
 J2)) fun J3 =>
 C8 t7 (
 J3) (
 R (.tuple #[]))) (.int .i64 0)
theorem A5E : A9 PR 268 := A7 Tryz.func268 (by kernel_rfl) rfl
theorem A5b {X : Nat → Prop} {t0 t1 : Value} {R : Value → WP} {w : World} (h : A1N X t0 t1 R w) : Fn PR X 268 #[t0, t1] w R := D3 (args := [t0, t1]) mixed Tryz.func268 (by kernel_rfl) h
theorem A5x {X : Nat → Prop} {t0 t1 : Value} {K : Value → WP} {w : World} (h : Fn PR X 268 #[t0, t1] w K) : y9 PR X 268 [t0, t1] K w := ⟨A5E, h⟩
end Go.Proofs.YtjobgnabneddjaaGreat
namespace Go.Proofs.YtjobgnabneddjaaGreat
open Go
def A54 (h b : Nat) : Nat := ((h ^^^ b) * 1099511628211) % 18446744073709551616
def A5N (h : Nat) (s : ByteArray) : Nat → Nat
 | 0 => h
 | i + 1 => A54 (A5N h s i) (j6 s i)
def A9G (h : Nat) (s : ByteArray) : Nat := A5N h s s.size
def A87 (s : ByteArray) : Nat := A9G 14695981039346656037 s
theorem B3V (h b : Nat) : A54 h b < 2 ^ 64 := by unfold A54; omega
theorem A8j {h : Nat} (hh : h < 2 ^ 64) (s : ByteArray) (i : Nat) : A5N h s i < 2 ^ 64 := by
 cases i with
 | zero => exact hh
 | succ i => exact B3V _ _
theorem B58 (w : World) (h b : Nat) (hh : h < 2 ^ 64) (hb : b < 256) : Fn PR B7 238 #[.int .u64 (h : Int), .int .u8 (b : Int)] w (fun v w' => v = .int .u64 (A54 h b : Nat) ∧ C4 [] w w') := by
 refine Fn.pure (A5q (TW.go (κ := false) (S := []) ?_))
 unfold A1B
 (have zz:=trivial;repeat((first|clear zz|with_reducible first|refine A2 ?_|refine A5 fun _=>?_|refine A4 fun _=>?_);try simp(disch:=first|omega|assumption|((repeat(first|exact A1|exact uH|apply A3|apply uT));first|done|fail)|(simp;first|done|omega|fail))[]))
 have e1 : (h % 2 ^ IntKind.u64.bits ^^^ b % 2 ^ IntKind.u64.bits) = h ^^^ b := by rw [show (2 : Nat) ^ IntKind.u64.bits = 2 ^ 64 from rfl, Nat.mod_eq_of_lt hh, Nat.mod_eq_of_lt (by omega)]
 have e2 : h ^^^ b < 2 ^ 64 := Nat.xor_lt_two_pow hh (by omega)
 rw [e1, B34 (n := ((h ^^^ b : Nat) : Int)) (by omega) (by omega)]
 refine C1 ?_
 have e3 : IntKind.u64.wrap (((h ^^^ b : Nat) : Int) * 1099511628211) = (A54 h b : Nat) := by
  simp only [IntKind.wrap, IntKind.bits, IntKind.signed, A54]
  simp
 rw [e3]
abbrev B3N (b : Nat) : Value := .func (.func 268) #[] #[.pointer (some ⟨b, 0, none⟩)]
theorem B3u (w : World) (s : ByteArray) : Fn PR B7 239 #[.string s] w (Rn [] w (fun b v => v = B3N b) fun b => [.pt b (.cells #[.string s] 9)]) := by
 refine A75 (TW.go (κ := false) (S := []) ?_)
 unfold A35
 (have zz:=trivial;repeat((first|clear zz|with_reducible first|refine A2 ?_|refine A5 fun _=>?_|refine A4 fun _=>?_);try simp(disch:=first|omega|assumption|((repeat(first|exact A1|exact uH|apply A3|apply uT));first|done|fail)|(simp;first|done|omega|fail))[]))
 rename_i b
 exact A2p b rfl (by simp)
def A6x (s : ByteArray) (i : Nat) : List Value := [.int .u8 (j6 s i : Nat)]
theorem B3w (b : Nat) (s : ByteArray) (hs : s.size < 2 ^ 60) : A4e (B3N b) [.pt b (.cells #[.string s] 9)] (fun _ _ => True) ((List.range s.size).map (A6x s)) := by
 refine ⟨_, _, _, rfl, fun l J E hJ hE stJ stE hy w0 h0 => ?_⟩
 refine A5x (A5b (TW.at (κ := true) ?_ (hJ _ _ _ h0).1))
 unfold A1N
 (have zz:=trivial;repeat((first|clear zz|with_reducible first|refine A2 ?_|refine A5 fun _=>?_|refine A4 fun _=>?_);try simp(disch:=first|omega|assumption|((repeat(first|exact A1|exact uH|apply A3|apply uT));first|done|fail)|(simp;first|done|omega|fail))[]))
 refine A2q s.size (fun i => i) (fun _ => _) hJ stJ h0 fun i a hi hJi _ L hL => ?_
 by_cases hlt : i < s.size
 ·obtain ⟨by0, hb0, hb1⟩ := B2T (s := s) (i := i) hlt
  have hb0' : s[((i : Nat) : Int).toNat]? = some by0 := by rw [Int.toNat_natCast]; exact hb0
  (have zz:=trivial;repeat((first|clear zz|with_reducible first|refine A2 ?_|refine A5 fun _=>?_|refine A4 fun _=>?_);try simp(disch:=first|omega|assumption|((repeat(first|exact A1|exact uH|apply A3|apply uT));first|done|fail)|(simp;first|done|omega|fail))[hlt, B4j]))
  rw [hb1]
  refine A6u hJ hE stJ hy hJi (by simpa using hlt) (by simp [A6x]) (fun w3 h => ?_) (fun w3 h => ?_)
  ·(have zz:=trivial;repeat((first|clear zz|with_reducible first|refine A2 ?_|refine A5 fun _=>?_|refine A4 fun _=>?_);try simp(disch:=first|omega|assumption|((repeat(first|exact A1|exact uH|apply A3|apply uT));first|done|fail)|(simp;first|done|omega|fail))[]))
   exact fun w' hw' => hL hlt w' (stJ _ _ _ _ _ h hw')
  ·(have zz:=trivial;repeat((first|clear zz|with_reducible first|refine A2 ?_|refine A5 fun _=>?_|refine A4 fun _=>?_);try simp(disch:=first|omega|assumption|((repeat(first|exact A1|exact uH|apply A3|apply uT));first|done|fail)|(simp;first|done|omega|fail))[]))
   exact A41 stE h
 ·obtain rfl : i = s.size := by omega
  (have zz:=trivial;repeat((first|clear zz|with_reducible first|refine A2 ?_|refine A5 fun _=>?_|refine A4 fun _=>?_);try simp(disch:=first|omega|assumption|((repeat(first|exact A1|exact uH|apply A3|apply uT));first|done|fail)|(simp;first|done|omega|fail))[]))
  exact A46 stJ (by simpa using hJi)
theorem A8W (w : World) (h : Nat) (s : ByteArray) (hh : h < 2 ^ 64) (hs : s.size < 2 ^ 60) : Fn PR B7 183 #[.int .u64 (h : Int), .string s] w (fun v w' => v = .int .u64 (A9G h s : Nat) ∧ C4 [] w w') := by
 refine Fn.pure (A8E (TW.go (κ := false) (S := []) ?_))
 unfold A39
 (have zz:=trivial;repeat((first|clear zz|with_reducible first|refine A2 ?_|refine A5 fun _=>?_|refine A4 fun _=>?_);try simp(disch:=first|omega|assumption|((repeat(first|exact A1|exact uH|apply A3|apply uT));first|done|fail)|(simp;first|done|omega|fail))[]))
 rename_i bf bx
 refine W9 A7r (fun w' _ => B3u w' s) ?_
 rintro b v rfl
 refine A6p (B3w b s hs) (by simp [A6x]) (fun _ (_ : Unit) => True) (fun i _ => [.pt bx (.cells #[.int .u64 ((A5N h s i : Nat) : Int)] 370), .pt bf (.cells #[.func (.func 238) #[] #[]] 368)])
  (fun _ (_ : Unit) => False) (fun _ => []) () trivial ?_ ?_ ?_ ?_ (by simp [A5N])
 ·intros; trivial
 ·rintro i hi _ F _ K' hK _
  simp only [List.getElem_map, List.getElem_range, A6x, VF.app]
  (have zz:=trivial;repeat((first|clear zz|with_reducible first|refine A2 ?_|refine A5 fun _=>?_|refine A4 fun _=>?_);try simp(disch:=first|omega|assumption|((repeat(first|exact A1|exact uH|apply A3|apply uT));first|done|fail)|(simp;first|done|omega|fail))[]))
  refine D9 A5A (fun w' _ => B58 w' _ _ (A8j hh s i) (A97 s i)) ?_
  (have zz:=trivial;repeat((first|clear zz|with_reducible first|refine A2 ?_|refine A5 fun _=>?_|refine A4 fun _=>?_);try simp(disch:=first|omega|assumption|((repeat(first|exact A1|exact uH|apply A3|apply uT));first|done|fail)|(simp;first|done|omega|fail))[]))
  exact TW.eqH (by simp [A5N]) (hK () trivial)
 ·rintro _ _
  (have zz:=trivial;repeat((first|clear zz|with_reducible first|refine A2 ?_|refine A5 fun _=>?_|refine A4 fun _=>?_);try simp(disch:=first|omega|assumption|((repeat(first|exact A1|exact uH|apply A3|apply uT));first|done|fail)|(simp;first|done|omega|fail))[]))
  exact C1 (by simp [A9G])
 ·rintro _ _ h; exact h.elim
theorem B04 (w : World) (s : ByteArray) (hs : s.size < 2 ^ 60) : Fn PR B7 135 #[.string s] w (fun v w' => v = .int .u64 (A87 s : Nat) ∧ C4 [] w w') := by
 refine Fn.pure (A9x (TW.go (κ := false) (S := []) ?_))
 unfold A5J
 refine D9 A3S (fun w' _ => A8W w' 14695981039346656037 s (by omega) hs) ?_
 exact C1 rfl
end Go.Proofs.YtjobgnabneddjaaGreat
namespace Go.Proofs.YtjobgnabneddjaaGreat
open Go
def B3D (key : ByteArray) (n : Nat) : Nat := A87 key % n
theorem B3s (s : ByteArray) : A87 s < 2 ^ 64 := A8j (by omega) s _
def noE : EnV := ⟨0, noB, 0, 0⟩
def B4a (l : List EnV) (key : ByteArray) : List (Nat × EnV) := (List.range l.length).map fun i => ((B3D key l.length + i) % l.length, l.getD ((B3D key l.length + i) % l.length) noE)
def RqS (v : Value) (n : Nat) (xs : List Value) (F : List Res) (w : World) : Prop := ∃ a c, v = .slice a n c ∧ (0 < n → ∃ b o, a = some ⟨b, o, none⟩ ∧ K7 w b o xs ∧ b ∉ B1 F)
theorem RqS.of {v : Value} {n : Nat} {xs : List Value} {w0 w : World} {A F : List Res} (h : F7 w0 v n xs) (hx : 0 < n → 0 < xs.length) (hw : LW false [] w0 (A ++ F) w) : RqS v n xs F w := by
 obtain ⟨a, c, rfl, hr⟩ := h.form
 refine ⟨a, c, rfl, fun hn => ?_⟩
 obtain ⟨b, o, rfl, hrow⟩ := hr hn
 refine ⟨b, o, rfl, hw.ks.row (by simp) hrow, hw.notin_old ?_ (by simp)⟩
 have h0 := hrow 0 (hx hn)
 rw [List.getElem?_eq_getElem (hx hn)] at h0
 obtain ⟨c', t', z', h1, h2⟩ := V0 h0
 exact G4 h1
def B3A (key : ByteArray) : List (Nat × EnV) → Int
 | [] => -1
 | p :: r => if p.2.st = 0 then -1 else if p.2.st = 1 ∧ p.2.key = key then p.1 else B3A key r
def B3K (l : List EnV) (key : ByteArray) : Int := B3A key (B4a l key)
theorem B3Y {α : Type} {l : List α} {i : Nat} (h : i < l.length) : l.drop i = l[i] :: l.drop (i + 1) := List.drop_eq_getElem_cons h
def B3J : List (Nat × EnV) → Int
 | [] => -1
 | p :: r => if p.2.st = 1 then B3J r else p.1
def B6J (l : List EnV) (key : ByteArray) : Int := if 0 ≤ B3K l key then -1 else B3J (B4a l key)
def B0G (l : List EnV) (st : Int) : Nat := l.countP fun x => decide (x.st = st)
end Go.Proofs.YtjobgnabneddjaaGreat
