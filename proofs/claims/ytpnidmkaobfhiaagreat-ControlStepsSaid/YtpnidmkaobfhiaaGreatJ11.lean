/- The proof of a given statement, a part of it (Map ShIp6 ShIp4 ShSum Sum Ip4 Ip6 Port). No condition but what each lemma says. -/
import Derived.MapKept
import Derived.Test.YtpnidmkaobfhiaaGreatJ10
set_option linter.unusedVariables false
set_option linter.unusedSimpArgs false
namespace Go.Proofs.YtpnidmkaobfhiaaGreat
open Go
section
variable {κ : Type} [DecidableEq κ]
def Z1 (enc : κ → Value) : List (κ × Value) → Nat → List MapEntry
 | [], _ => []
 | p :: l, i => ⟨enc p.1, p.2, i⟩ :: Z1 enc l (i + 1)
def y4 (enc : κ → Value) (l : List (κ × Value)) : Obj := .map (Z1 enc l 0).toArray l.length
def A4M (k : κ) : List (κ × Value) → Nat → Option (Nat × Value)
 | [], _ => none
 | p :: l, i => if k = p.1 then some (i, p.2) else A4M k l (i + 1)
def A5G (k : κ) : List (κ × Value) → Option Value
 | [] => none
 | p :: l => if k = p.1 then some p.2 else A5G k l
def v6 (k : κ) (v : Value) : List (κ × Value) → List (κ × Value)
 | [] => [(k, v)]
 | p :: l => if k = p.1 then (k, v) :: l else p :: v6 k v l
theorem C0Y (k k' : κ) (v : Value) (l : List (κ × Value)) : A5G k' (v6 k v l) = if k' = k then some v else A5G k' l := by
 induction l with
 | nil => simp [v6, A5G]
 | cons p l ih =>
  simp only [v6]
  by_cases h : k = p.1
  ·rw [if_pos h]; simp only [A5G]
   by_cases h' : k' = k
   ·rw [if_pos h', if_pos h']
   ·rw [if_neg h', if_neg h', if_neg (by rw [← h]; exact h')]
  ·rw [if_neg h]; simp only [A5G, ih]
   by_cases h' : k' = p.1
   ·rw [if_pos h', if_pos h', if_neg (by rw [h']; exact fun e => h e.symm)]
   ·rw [if_neg h', if_neg h']
theorem C0D (k : κ) (l : List (κ × Value)) (i : Nat) : (A4M k l i).map (·.2) = A5G k l := by
 induction l generalizing i with
 | nil => rfl
 | cons p l ih => simp only [A4M, A5G]; split <;> simp [ih]
@[simp] theorem D2Q {α : Type} (enc : α → Value) (l : List (α × Value)) (i : Nat) : (Z1 enc l i).length = l.length := by
 induction l generalizing i with
 | nil => rfl
 | cons p l ih => simp [Z1, ih]
theorem B7V {α : Type} (enc : α → Value) (l m : List (α × Value)) (i : Nat) : Z1 enc (l ++ m) i = Z1 enc l i ++ Z1 enc m (i + l.length) := by
 induction l generalizing i with
 | nil => simp [Z1]
 | cons p l ih => simp only [List.cons_append, Z1, ih, List.length_cons]; congr 3; omega
theorem C0w (k : κ) (v : Value) (l : List (κ × Value)) (j : Nat) (h : A4M k l j = none) : v6 k v l = l ++ [(k, v)] := by
 induction l generalizing j with
 | nil => rfl
 | cons p l ih =>
  simp only [A4M] at h
  split at h
  ·cases h
  ·rename_i hn; simp only [v6, if_neg hn, List.cons_append, ih _ h]
theorem C2w (enc : κ → Value) (k : κ) (v : Value) (l : List (κ × Value)) : ∀ (j n : Nat) (u : Value), A4M k l j = some (n, u) → j ≤ n ∧ n < j + l.length ∧ ((Z1 enc l j)[n - j]?).map (·.key) = some (enc k) ∧
  Z1 enc (v6 k v l) j = (Z1 enc l j).modify (n - j) (fun e => { e with key := enc k, val := v }) := by
 induction l with
 | nil => intro j n u h; cases h
 | cons p l ih =>
  intro j n u h
  simp only [A4M] at h
  split at h
  ·rename_i hk; cases h
   refine ⟨Nat.le_refl _, by simp, by simp [Z1, hk], ?_⟩
   simp only [v6, if_pos hk, Z1, Nat.sub_self, List.modify_zero_cons]
  ·rename_i hn
   obtain ⟨h1, h2, h3, h4⟩ := ih _ _ _ h
   have e : n - j = n - (j + 1) + 1 := by omega
   refine ⟨by omega, by simp only [List.length_cons]; omega, by rw [e]; simpa [Z1] using h3, ?_⟩
   simp only [v6, if_neg hn, Z1, e, List.modify_succ_cons, h4]
structure KeyT (P : Program) (kt : TypeId) (enc : κ → Value) : Prop where
 find : ∀ k l j w, (Instr.findKey kt (enc k) (Z1 enc l j)).run P w = .ok (A4M k l 0) w
 check : ∀ k e w, (Instr.checkKey e 10000 kt (enc k)).run P w = .ok () w
 stays : ∀ k, Instr.sameBits 10000 (enc k) (enc k) = true
theorem B0S {d : TypeDesc} {enc : κ → Value} (hs : ∀ a b, Instr.sameNow d (enc a) (enc b) = some (decide (a = b))) (k : κ) (l : List (κ × Value)) : ∀ j i, Instr.findNow d (enc k) (Z1 enc l j) i = some (A4M k l i) := by
 induction l with
 | nil => intro j i; rfl
 | cons p l ih =>
  intro j i
  simp only [Z1, Instr.findNow, hs, A4M]
  by_cases h : k = p.1
  ·simp [h]
  ·simp [h, ih]
end
theorem KeyT.int {P : Program} {kt : TypeId} {n m : Nat} {z : Value} (h : TI P kt (.int .i64) n m z) : KeyT P kt (fun a : Int => Value.int .i64 a) := by
 refine ⟨fun k l j w => ?_, fun k e w => ?_, fun k => ?_⟩
 ·exact MapKept.run_findKey h.und (B0S (fun a b => by simp [Instr.sameNow]; exact B4E a b) k l j 0)
 ·exact MapKept.run_checkKey h.und (by trivial) e 9999
 ·simp [Instr.sameBits]
theorem KeyT.string {P : Program} {kt : TypeId} {n m : Nat} {z : Value} (h : TI P kt .string n m z) : KeyT P kt Value.string := by
 refine ⟨fun k l j w => ?_, fun k e w => ?_, fun k => ?_⟩
 ·exact MapKept.run_findKey h.und (B0S (fun a b => by simp only [Instr.sameNow, C0C]) k l j 0)
 ·exact MapKept.run_checkKey h.und (by trivial) e 9999
 ·simp only [Instr.sameBits, C0C, decide_true]
section
variable {κ : Type} [DecidableEq κ] {enc : κ → Value} {σ : Bool} {P : Program} {X : Nat → Prop} {S : List Nat} {w0 : World} {H H' : List Res} {K : Value → WP} {K0 : WP} {t kt et : TypeId} {n m n2 m2 : Nat} {z z2 : Value} {d : TypeDesc}
theorem C4g {α : Type} (enc : α → Value) (hK : ∀ r, TW σ S w0 (.pt r (y4 enc []) :: H) (K (.map (some r)))) : TW σ S w0 H (B9 P X (Instr.makeMap t none) K) := fun w hw => by
 have : (Instr.makeMap t none).run P w = .ok (.map (some (sz w))) (w.alloc (y4 enc [])) := by simp [Instr.makeMap, run_newObj, y4, Z1, sz]
 rw [A1G this (Sk.alloc X w _ (Or.inl rfl))]
 exact hK _ _ (hw.new rfl (Or.inl rfl))
theorem C3w (hm : TI P t (.map kt et) n m z) (he : TI P et d n2 m2 z2) (hk : KeyT P kt enc) {r : Nat} {l : List (κ × Value)} {k : κ} (hr : Res.pt r (y4 enc l) ∈ H) :
  TW σ S w0 H (A6 P (Instr.lookup t (.map (some r)) (enc k) false) K) = TW σ S w0 H (K ((A5G k l).getD z2)) := TW.congr fun w hw => by
 have hb : w.heap[r]? = some (.map (Z1 enc l 0).toArray l.length) := hw.pt hr
 refine A0F ?_ K
 have h1 : (getObj r).run P w = .ok (.map (Z1 enc l 0).toArray l.length) w := MapKept.run_getObj_map hb
 simp only [Instr.lookup, Sem.run_bind, hm.run_und, Result.andThen_ok, h1, Sem.run_pure, hk.check, hk.find]
 rw [← C0D k l 0]
 cases A4M k l 0 with
 | none => simp [he.run_zero]
 | some p => simp
theorem C3p (hm : TI P t (.map kt et) n m z) (hk : KeyT P kt enc) {r : Nat} {l : List (κ × Value)} {k : κ} {v : Value} (hu : Up (.pt r (y4 enc l)) (.pt r (y4 enc (v6 k v l))) H H') (hK : TW σ S w0 H' K0) :
  TW σ S w0 H (C2 P X (Instr.mapUpdate t (.map (some r)) (enc k) v) K0) := fun w hw => by
 have hmem : Res.pt r (y4 enc l) ∈ H := by obtain ⟨A, B, rfl, _⟩ := hu.parts; simp
 have hb0 := hw.pt hmem
 have hb : w.heap[r]? = some (.map (Z1 enc l 0).toArray l.length) := hb0
 have h1 : (getObj r).run P w = .ok (.map (Z1 enc l 0).toArray l.length) w := MapKept.run_getObj_map hb
 have hrun : (Instr.mapUpdate t (.map (some r)) (enc k) v).run P w = .ok () (World.putb w r (y4 enc (v6 k v l))) := by
  simp only [Instr.mapUpdate, Sem.run_bind, hm.run_und, Result.andThen_ok, h1, hk.check, hk.find]
  cases hf : A4M k l 0 with
  | none =>
   have e := C0w k v l 0 hf
   simp [y4, e, B7V, Z1, World.putb, MapKept.run_setObj_map _ hb]
  | some p =>
   obtain ⟨i, u⟩ := p
   obtain ⟨_, h2, h3, h4⟩ := C2w enc k v l 0 i u hf
   have hl : (v6 k v l).length = l.length := by
    have := congrArg List.length h4; simpa using this
   simp only [Nat.sub_zero] at h3 h4
   simp [y4, h4, hl, World.putb, MapKept.run_setObj_map _ hb, Instr.keyThatStays, h3, hk.stays]
 have hks : KS σ [r] w (World.putb w r (y4 enc (v6 k v l))) := by
  refine ((D6.refl [r] w).putb _ (Or.inl (by simp))).ks fun _ => ?_
  have h2 : ∀ (q : Nat) x, (∀ c T, x ≠ Obj.map c T) → w.heap[q]? = some x → (World.putb w r (y4 enc (v6 k v l))).heap[q]? = some x := fun q x hx e => by
   have : r ≠ q := by rintro rfl; rw [hb] at e; cases e; exact hx _ _ rfl
   exact (u3 (w := w) (o := y4 enc (v6 k v l)) this).trans e
  exact ⟨by simp [World.putb], fun q d => h2 q _ (by simp), fun q lo _ => h2 q _ (by simp), rfl, rfl⟩
 have hsk : Sk X w (World.putb w r (y4 enc (v6 k v l))) := by
  have h2 : ∀ (q : Nat) x, (∀ c T, x ≠ Obj.map c T) → w.heap[q]? = some x → (World.putb w r (y4 enc (v6 k v l))).heap[q]? = some x := fun q x hx e => by
   have : r ≠ q := by rintro rfl; rw [hb] at e; cases e; exact hx _ _ rfl
   exact (u3 (w := w) (o := y4 enc (v6 k v l)) this).trans e
  exact ⟨by simp [World.putb], fun q d => h2 q _ (by simp), fun q lo _ => h2 q _ (by simp), rfl, rfl⟩
 rw [C0n hrun hsk]
 refine hK _ (hw.up hu ⟨hks, ?_, ?_, by simp⟩)
 ·simp only [List.mem_singleton, forall_eq, Res.holds]; exact ⟨c8 (P7 hb0), rfl⟩
 ·simp only [List.mem_singleton, forall_eq, Res.foot]; exact ⟨Or.inl (by simp), by have := P7 hb0; simpa using this⟩
end
end Go.Proofs.YtpnidmkaobfhiaaGreat
namespace Go.Proofs.YtpnidmkaobfhiaaGreat
open Go
end Go.Proofs.YtpnidmkaobfhiaaGreat
namespace Go.Proofs.YtpnidmkaobfhiaaGreat
open Go
end Go.Proofs.YtpnidmkaobfhiaaGreat
namespace Go.Proofs.YtpnidmkaobfhiaaGreat
open Go
end Go.Proofs.YtpnidmkaobfhiaaGreat
namespace Go.Proofs.YtpnidmkaobfhiaaGreat
open Go
def C6g (s : ByteArray) : Nat := (s.size + 1) / 2
def C5q (s : ByteArray) : Nat → Nat
 | 0 => 0
 | i + 1 => C5q s i + beV s (2 * i) 2
def fld (n : Nat) : Nat := if n = 0 then 0 else (n - 1) % 65535 + 1
def C7v (s : ByteArray) : Nat := fld (C5q s (C6g s))
end Go.Proofs.YtpnidmkaobfhiaaGreat
namespace Go.Proofs.YtpnidmkaobfhiaaGreat
open Go
def gv (s : ByteArray) (a n : Nat) : Nat := if a + n ≤ s.size then beV s a n else 0
structure HeadV where
 src : ByteArray
 dst : ByteArray
 proto : Nat
 rest : ByteArray
 e : Nat
abbrev noB : ByteArray := ByteArray.mk #[]
def HeadV.err (e : Nat) : HeadV := ⟨noB, noB, 0, noB, e⟩
def HeadV.val (h : HeadV) : Value := .tuple #[.agg #[.string h.src, .string h.dst, .int .i64 h.proto], .string h.rest, .int .i64 h.e]
def B3P (s : ByteArray) : Nat := gv s 0 1 % 16 * 4
def C6J (s : ByteArray) : Nat := if s.size < 20 then 2 else if gv s 0 1 / 16 ≠ 4 then 3 else if B3P s < 20 ∨ s.size < B3P s ∨ gv s 2 2 < B3P s ∨ s.size < gv s 2 2 then 4
 else if C7v (s.extract 0 (B3P s)) ≠ 65535 then 5 else if gv s 6 2 % 16384 ≠ 0 then 6 else 0
def B5g (s : ByteArray) : HeadV := if C6J s = 0 then ⟨s.extract 12 16, s.extract 16 20, gv s 9 1, s.extract (B3P s) (gv s 2 2), 0⟩ else .err (C6J s)
section
variable (w : World) (s : ByteArray) (hs : s.size < 2 ^ 63) (b1 b5 b6 b7 : Nat) (h1 : w.cell? ⟨b1, 0, none⟩ = some (.string s)) (h5 : w.cell? ⟨b5, 0, none⟩ = some (.func (.func 167) #[] #[.pointer (some ⟨b1, 0, none⟩)]))
 (h6 : w.cell? ⟨b6, 0, none⟩ = some (.int .i64 (B3P s : Nat))) (h7 : w.cell? ⟨b7, 0, none⟩ = some (.int .i64 (gv s 2 2 : Nat)))
include h1
include hs h5
omit h5
include h6
omit hs in
include h7
end
end Go.Proofs.YtpnidmkaobfhiaaGreat
namespace Go.Proofs.YtpnidmkaobfhiaaGreat
open Go
def C6y (s : ByteArray) : Nat := if s.size < 40 then 2 else if gv s 0 1 / 16 ≠ 6 then 3 else if s.size - 40 < gv s 4 2 then 4 else 0
def B66 (s : ByteArray) : HeadV := if C6y s = 0 then ⟨s.extract 8 24, s.extract 24 40, gv s 6 1, s.extract 40 (40 + gv s 4 2), 0⟩ else .err (C6y s)
end Go.Proofs.YtpnidmkaobfhiaaGreat
namespace Go.Proofs.YtpnidmkaobfhiaaGreat
open Go
theorem B9T {κ : Bool} {X : Nat → Prop} {S : List Nat} {w0 : World} {H : List Res} {K : Value → WP} {g u : Value} {name : String} {args : List Value} {f : FuncId} {args' : Array Value} (hr : ∀ w, (callMethod g name args.toArray).run PR w = .ok (.enter f args') w)
  (hf : ∀ w, LW κ S w0 H w → Fn PR B6 f args' w (fun v w' => v = u ∧ D6 [] w w')) (hK : TW κ S w0 H (K u)) : TW κ S w0 H (inv PR X g name args K) := fun w hw =>
 ⟨f, args', hr w, (hf w hw).use fun v w' ⟨h1, h2⟩ hsk => by subst h1; exact hK w' (hw.ext (h2.ks fun _ => hsk))⟩
def D1J (s : ByteArray) : Nat × Nat := if s.size < 20 then (0, 2) else if A0A s 12 / 16 * 4 < 20 ∨ s.size < A0A s 12 / 16 * 4 then (0, 8) else (A0A s 13, 0)
def D1q (s : ByteArray) : Nat × Nat := if s.size < 8 then (0, 2) else if gv s 4 2 < 8 ∨ s.size < gv s 4 2 then (0, 4) else (0, 0)
def z1 : ByteArray := ByteArray.mk #[0]
def D1Q (f : Int) : ByteArray × Nat := if f < 0 ∨ 255 < f then (noB, 1) else (B8p z1 8 ++ ByteArray.mk #[80] ++ Z8 f 1 ++ B8p z1 6, 0)
def D1Z (f : Int) : ByteArray × Nat := if f ≠ 0 then (noB, 1) else (ByteArray.mk #[0, 8, 0, 0], 0)
theorem C0A (c : Nat) : (B8p z1 c).size = c := by
 have : ∀ (l : List UInt8) (n : Nat), (Lib.repeatL l n).length = n * l.length := by
  intro l n
  induction n with
  | zero => simp [Lib.repeatL]
  | succ n ih => simp [Lib.repeatL, ih, Nat.add_mul, Nat.add_comm]
 show (Lib.repeatL z1.data.toList c).toArray.size = c
 rw [List.size_toArray, this]; simp [z1]
def B6Q (number : Int) (s : ByteArray) : Nat × Nat := if number = 6 then D1J s else if number = 17 then D1q s else (0, 7)
def C4U (number : Int) (s : ByteArray) : Nat × Nat × Nat × Nat := if (B6Q number s).2 ≠ 0 then (0, 0, 0, (B6Q number s).2) else (gv s 0 2, gv s 2 2, (B6Q number s).1, 0)
def C4U.val (x : Nat × Nat × Nat × Nat) : Value := .tuple #[.agg #[.int .i64 x.1, .int .i64 x.2.1, .int .i64 x.2.2.1], .int .i64 x.2.2.2]
def C40 (x y : Int) : Bool := decide (0 ≤ x ∧ x ≤ 65535 ∧ 0 ≤ y ∧ y ≤ 65535)
def C0z (number f : Int) : ByteArray × Nat := if number = 6 then D1Q f else if number = 17 then D1Z f else (noB, 7)
def C7H (number x y f : Int) : ByteArray × Nat := if number ≠ 6 ∧ number ≠ 17 then (noB, 7) else if C40 x y = false ∨ (C0z number f).2 ≠ 0 then (noB, 1) else (Z8 x 2 ++ Z8 y 2 ++ (C0z number f).1, 0)
end Go.Proofs.YtpnidmkaobfhiaaGreat
