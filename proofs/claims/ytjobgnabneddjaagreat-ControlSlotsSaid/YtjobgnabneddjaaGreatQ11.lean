/- The proof of a given statement, a part of it (Map ShIp6 ShIp4 ShSum Sum Ip4 Ip6 Port). No condition but what each lemma says. -/
import Derived.MapKept
import Derived.Test.YtjobgnabneddjaaGreatQ10
set_option linter.unusedVariables false
set_option linter.unusedSimpArgs false
namespace Go.Proofs.YtjobgnabneddjaaGreat
open Go
section
variable {κ : Type} [DecidableEq κ]
def M4 (enc : κ → Value) : List (κ × Value) → Nat → List MapEntry
 | [], _ => []
 | p :: l, i => ⟨enc p.1, p.2, i⟩ :: M4 enc l (i + 1)
def V4 (enc : κ → Value) (l : List (κ × Value)) : Obj := .map (M4 enc l 0).toArray l.length
def s9 (k : κ) : List (κ × Value) → Nat → Option (Nat × Value)
 | [], _ => none
 | p :: l, i => if k = p.1 then some (i, p.2) else s9 k l (i + 1)
def x6 (k : κ) : List (κ × Value) → Option Value
 | [] => none
 | p :: l => if k = p.1 then some p.2 else x6 k l
def U1 (k : κ) (v : Value) : List (κ × Value) → List (κ × Value)
 | [] => [(k, v)]
 | p :: l => if k = p.1 then (k, v) :: l else p :: U1 k v l
theorem B1G (k k' : κ) (v : Value) (l : List (κ × Value)) : x6 k' (U1 k v l) = if k' = k then some v else x6 k' l := by
 induction l with
 | nil => simp [U1, x6]
 | cons p l ih =>
  simp only [U1]
  by_cases h : k = p.1
  ·rw [if_pos h]; simp only [x6]
   by_cases h' : k' = k
   ·rw [if_pos h', if_pos h']
   ·rw [if_neg h', if_neg h', if_neg (by rw [← h]; exact h')]
  ·rw [if_neg h]; simp only [x6, ih]
   by_cases h' : k' = p.1
   ·rw [if_pos h', if_pos h', if_neg (by rw [h']; exact fun e => h e.symm)]
   ·rw [if_neg h', if_neg h']
theorem B0F (k : κ) (l : List (κ × Value)) (i : Nat) : (s9 k l i).map (·.2) = x6 k l := by
 induction l generalizing i with
 | nil => rfl
 | cons p l ih => simp only [s9, x6]; split <;> simp [ih]
@[simp] theorem B8V {α : Type} (enc : α → Value) (l : List (α × Value)) (i : Nat) : (M4 enc l i).length = l.length := by
 induction l generalizing i with
 | nil => rfl
 | cons p l ih => simp [M4, ih]
theorem A8Q {α : Type} (enc : α → Value) (l m : List (α × Value)) (i : Nat) : M4 enc (l ++ m) i = M4 enc l i ++ M4 enc m (i + l.length) := by
 induction l generalizing i with
 | nil => simp [M4]
 | cons p l ih => simp only [List.cons_append, M4, ih, List.length_cons]; congr 3; omega
theorem B1D (k : κ) (v : Value) (l : List (κ × Value)) (j : Nat) (h : s9 k l j = none) : U1 k v l = l ++ [(k, v)] := by
 induction l generalizing j with
 | nil => rfl
 | cons p l ih =>
  simp only [s9] at h
  split at h
  ·cases h
  ·rename_i hn; simp only [U1, if_neg hn, List.cons_append, ih _ h]
theorem B2G (enc : κ → Value) (k : κ) (v : Value) (l : List (κ × Value)) : ∀ (j n : Nat) (u : Value), s9 k l j = some (n, u) → j ≤ n ∧ n < j + l.length ∧ ((M4 enc l j)[n - j]?).map (·.key) = some (enc k) ∧
  M4 enc (U1 k v l) j = (M4 enc l j).modify (n - j) (fun e => { e with key := enc k, val := v }) := by
 induction l with
 | nil => intro j n u h; cases h
 | cons p l ih =>
  intro j n u h
  simp only [s9] at h
  split at h
  ·rename_i hk; cases h
   refine ⟨Nat.le_refl _, by simp, by simp [M4, hk], ?_⟩
   simp only [U1, if_pos hk, M4, Nat.sub_self, List.modify_zero_cons]
  ·rename_i hn
   obtain ⟨h1, h2, h3, h4⟩ := ih _ _ _ h
   have e : n - j = n - (j + 1) + 1 := by omega
   refine ⟨by omega, by simp only [List.length_cons]; omega, by rw [e]; simpa [M4] using h3, ?_⟩
   simp only [U1, if_neg hn, M4, e, List.modify_succ_cons, h4]
structure KeyT (P : Program) (kt : TypeId) (enc : κ → Value) : Prop where
 find : ∀ k l j w, (Instr.findKey kt (enc k) (M4 enc l j)).run P w = .ok (s9 k l 0) w
 check : ∀ k e w, (Instr.checkKey e 10000 kt (enc k)).run P w = .ok () w
 stays : ∀ k, Instr.sameBits 10000 (enc k) (enc k) = true
theorem A24 {d : TypeDesc} {enc : κ → Value} (hs : ∀ a b, Instr.sameNow d (enc a) (enc b) = some (decide (a = b))) (k : κ) (l : List (κ × Value)) : ∀ j i, Instr.findNow d (enc k) (M4 enc l j) i = some (s9 k l i) := by
 induction l with
 | nil => intro j i; rfl
 | cons p l ih =>
  intro j i
  simp only [M4, Instr.findNow, hs, s9]
  by_cases h : k = p.1
  ·simp [h]
  ·simp [h, ih]
end
theorem KeyT.int {P : Program} {kt : TypeId} {n m : Nat} {z : Value} (h : TI P kt (.int .i64) n m z) : KeyT P kt (fun a : Int => Value.int .i64 a) := by
 refine ⟨fun k l j w => ?_, fun k e w => ?_, fun k => ?_⟩
 ·exact MapKept.run_findKey h.und (A24 (fun a b => by simp [Instr.sameNow]; exact A5u a b) k l j 0)
 ·exact MapKept.run_checkKey h.und (by trivial) e 9999
 ·simp [Instr.sameBits]
theorem KeyT.string {P : Program} {kt : TypeId} {n m : Nat} {z : Value} (h : TI P kt .string n m z) : KeyT P kt Value.string := by
 refine ⟨fun k l j w => ?_, fun k e w => ?_, fun k => ?_⟩
 ·exact MapKept.run_findKey h.und (A24 (fun a b => by simp only [Instr.sameNow, A91]) k l j 0)
 ·exact MapKept.run_checkKey h.und (by trivial) e 9999
 ·simp only [Instr.sameBits, A91, decide_true]
section
variable {κ : Type} [DecidableEq κ] {enc : κ → Value} {σ : Bool} {P : Program} {X : Nat → Prop} {S : List Nat} {w0 : World} {H H' : List Res} {K : Value → WP} {K0 : WP} {t kt et : TypeId} {n m n2 m2 : Nat} {z z2 : Value} {d : TypeDesc}
theorem B3n {α : Type} (enc : α → Value) (hK : ∀ r, TW σ S w0 (.pt r (V4 enc []) :: H) (K (.map (some r)))) : TW σ S w0 H (B6 P X (Instr.makeMap t none) K) := fun w hw => by
 have : (Instr.makeMap t none).run P w = .ok (.map (some (sz w))) (w.alloc (V4 enc [])) := by simp [Instr.makeMap, run_newObj, V4, M4, sz]
 rw [Z6 this (Sk.alloc X w _ (Or.inl rfl))]
 exact hK _ _ (hw.new rfl (Or.inl rfl))
theorem B10 (hm : TI P t (.map kt et) n m z) (he : TI P et d n2 m2 z2) (hk : KeyT P kt enc) {r : Nat} {l : List (κ × Value)} {k : κ} (hr : Res.pt r (V4 enc l) ∈ H) :
  TW σ S w0 H (A6 P (Instr.lookup t (.map (some r)) (enc k) false) K) = TW σ S w0 H (K ((x6 k l).getD z2)) := TW.congr fun w hw => by
 have hb : w.heap[r]? = some (.map (M4 enc l 0).toArray l.length) := hw.pt hr
 refine Y6 ?_ K
 have h1 : (getObj r).run P w = .ok (.map (M4 enc l 0).toArray l.length) w := MapKept.run_getObj_map hb
 simp only [Instr.lookup, Sem.run_bind, hm.run_und, Result.andThen_ok, h1, Sem.run_pure, hk.check, hk.find]
 rw [← B0F k l 0]
 cases s9 k l 0 with
 | none => simp [he.run_zero]
 | some p => simp
theorem B18 (hm : TI P t (.map kt et) n m z) (hk : KeyT P kt enc) {r : Nat} {l : List (κ × Value)} {k : κ} {v : Value} (hu : Up (.pt r (V4 enc l)) (.pt r (V4 enc (U1 k v l))) H H') (hK : TW σ S w0 H' K0) :
  TW σ S w0 H (E2 P X (Instr.mapUpdate t (.map (some r)) (enc k) v) K0) := fun w hw => by
 have hmem : Res.pt r (V4 enc l) ∈ H := by obtain ⟨A, B, rfl, _⟩ := hu.parts; simp
 have hb0 := hw.pt hmem
 have hb : w.heap[r]? = some (.map (M4 enc l 0).toArray l.length) := hb0
 have h1 : (getObj r).run P w = .ok (.map (M4 enc l 0).toArray l.length) w := MapKept.run_getObj_map hb
 have hrun : (Instr.mapUpdate t (.map (some r)) (enc k) v).run P w = .ok () (World.putb w r (V4 enc (U1 k v l))) := by
  simp only [Instr.mapUpdate, Sem.run_bind, hm.run_und, Result.andThen_ok, h1, hk.check, hk.find]
  cases hf : s9 k l 0 with
  | none =>
   have e := B1D k v l 0 hf
   simp [V4, e, A8Q, M4, World.putb, MapKept.run_setObj_map _ hb]
  | some p =>
   obtain ⟨i, u⟩ := p
   obtain ⟨_, h2, h3, h4⟩ := B2G enc k v l 0 i u hf
   have hl : (U1 k v l).length = l.length := by
    have := congrArg List.length h4; simpa using this
   simp only [Nat.sub_zero] at h3 h4
   simp [V4, h4, hl, World.putb, MapKept.run_setObj_map _ hb, Instr.keyThatStays, h3, hk.stays]
 have hks : KS σ [r] w (World.putb w r (V4 enc (U1 k v l))) := by
  refine ((C4.refl [r] w).putb _ (Or.inl (by simp))).ks fun _ => ?_
  have h2 : ∀ (q : Nat) x, (∀ c T, x ≠ Obj.map c T) → w.heap[q]? = some x → (World.putb w r (V4 enc (U1 k v l))).heap[q]? = some x := fun q x hx e => by
   have : r ≠ q := by rintro rfl; rw [hb] at e; cases e; exact hx _ _ rfl
   exact (T8 (w := w) (o := V4 enc (U1 k v l)) this).trans e
  exact ⟨by simp [World.putb], fun q d => h2 q _ (by simp), fun q lo _ => h2 q _ (by simp), rfl, rfl⟩
 have hsk : Sk X w (World.putb w r (V4 enc (U1 k v l))) := by
  have h2 : ∀ (q : Nat) x, (∀ c T, x ≠ Obj.map c T) → w.heap[q]? = some x → (World.putb w r (V4 enc (U1 k v l))).heap[q]? = some x := fun q x hx e => by
   have : r ≠ q := by rintro rfl; rw [hb] at e; cases e; exact hx _ _ rfl
   exact (T8 (w := w) (o := V4 enc (U1 k v l)) this).trans e
  exact ⟨by simp [World.putb], fun q d => h2 q _ (by simp), fun q lo _ => h2 q _ (by simp), rfl, rfl⟩
 rw [B0N hrun hsk]
 refine hK _ (hw.up hu ⟨hks, ?_, ?_, by simp⟩)
 ·simp only [List.mem_singleton, forall_eq, Res.holds]; exact ⟨N8 (G4 hb0), rfl⟩
 ·simp only [List.mem_singleton, forall_eq, Res.foot]; exact ⟨Or.inl (by simp), by have := G4 hb0; simpa using this⟩
end
end Go.Proofs.YtjobgnabneddjaaGreat
namespace Go.Proofs.YtjobgnabneddjaaGreat
open Go
end Go.Proofs.YtjobgnabneddjaaGreat
namespace Go.Proofs.YtjobgnabneddjaaGreat
open Go
end Go.Proofs.YtjobgnabneddjaaGreat
namespace Go.Proofs.YtjobgnabneddjaaGreat
open Go
end Go.Proofs.YtjobgnabneddjaaGreat
namespace Go.Proofs.YtjobgnabneddjaaGreat
open Go
end Go.Proofs.YtjobgnabneddjaaGreat
namespace Go.Proofs.YtjobgnabneddjaaGreat
open Go
def gv (s : ByteArray) (a n : Nat) : Nat := if a + n ≤ s.size then beV s a n else 0
structure HeadV where
 src : ByteArray
 dst : ByteArray
 proto : Nat
 rest : ByteArray
 e : Nat
abbrev noB : ByteArray := ByteArray.mk #[]
def HeadV.err (e : Nat) : HeadV := ⟨noB, noB, 0, noB, e⟩
def HeadV.val (h : HeadV) : Value := .tuple #[.agg #[.string h.src, .string h.dst, .int .i64 h.proto], .string h.rest, .int .i64 h.e]
def B8U (s : ByteArray) : Nat := gv s 0 1 % 16 * 4
section
variable (w : World) (s : ByteArray) (hs : s.size < 2 ^ 40) (b1 b5 b6 b7 : Nat) (h1 : w.cell? ⟨b1, 0, none⟩ = some (.string s)) (h5 : w.cell? ⟨b5, 0, none⟩ = some (.func (.func 190) #[] #[.pointer (some ⟨b1, 0, none⟩)]))
 (h6 : w.cell? ⟨b6, 0, none⟩ = some (.int .i64 (B8U s : Nat))) (h7 : w.cell? ⟨b7, 0, none⟩ = some (.int .i64 (gv s 2 2 : Nat)))
include h1
include hs h5
omit h5
include h6
include h7
end
end Go.Proofs.YtjobgnabneddjaaGreat
namespace Go.Proofs.YtjobgnabneddjaaGreat
open Go
end Go.Proofs.YtjobgnabneddjaaGreat
namespace Go.Proofs.YtjobgnabneddjaaGreat
open Go
theorem A89 {κ : Bool} {X : Nat → Prop} {S : List Nat} {w0 : World} {H : List Res} {K : Value → WP} {g u : Value} {name : String} {args : List Value} {f : FuncId} {args' : Array Value} (hr : ∀ w, (callMethod g name args.toArray).run PR w = .ok (.enter f args') w)
  (hf : ∀ w, LW κ S w0 H w → Fn PR B7 f args' w (fun v w' => v = u ∧ C4 [] w w')) (hK : TW κ S w0 H (K u)) : TW κ S w0 H (inv PR X g name args K) := fun w hw =>
 ⟨f, args', hr w, (hf w hw).use fun v w' ⟨h1, h2⟩ hsk => by subst h1; exact hK w' (hw.ext (h2.ks fun _ => hsk))⟩
def B9F (s : ByteArray) : Nat × Nat := if s.size < 20 then (0, 2) else if j6 s 12 / 16 * 4 < 20 ∨ s.size < j6 s 12 / 16 * 4 then (0, 8) else (j6 s 13, 0)
def B8L (s : ByteArray) : Nat × Nat := if s.size < 8 then (0, 2) else if gv s 4 2 < 8 ∨ s.size < gv s 4 2 then (0, 4) else (0, 0)
def z1 : ByteArray := ByteArray.mk #[0]
def A7s (number : Int) (s : ByteArray) : Nat × Nat := if number = 6 then B9F s else if number = 17 then B8L s else (0, 7)
def B6D (number : Int) (s : ByteArray) : Nat × Nat × Nat × Nat := if (A7s number s).2 ≠ 0 then (0, 0, 0, (A7s number s).2) else (gv s 0 2, gv s 2 2, (A7s number s).1, 0)
def B6D.val (x : Nat × Nat × Nat × Nat) : Value := .tuple #[.agg #[.int .i64 x.1, .int .i64 x.2.1, .int .i64 x.2.2.1], .int .i64 x.2.2.2]
end Go.Proofs.YtjobgnabneddjaaGreat
