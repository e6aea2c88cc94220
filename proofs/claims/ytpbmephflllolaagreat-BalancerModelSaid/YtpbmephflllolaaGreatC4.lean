/- The proof of a given statement, a part of it (Lib Iter). No condition but what each lemma says. -/
import Derived.Laws.World
import Derived.Test.YtpbmephflllolaaGreatC3
set_option linter.unusedVariables false
set_option linter.unusedSimpArgs false
namespace Go.Proofs.YtpbmephflllolaaGreat
open Go
def bl (w : World) (r : Nat) : Option Obj := w.heap[r]?
def sz (w : World) : Nat := w.heap.size
def World.putb (w : World) (b : Nat) (o : Obj) : World := { w with heap := w.heap.setIfInBounds b o }
theorem G9 {w : World} {r : Nat} {o : Obj} (h : bl w r = some o) : r < sz w := (Array.getElem?_eq_some_iff.1 h).1
@[simp] theorem C7d (w : World) (r : Nat) : bl w.drew r = bl w r := rfl
@[simp] theorem C7s (w : World) : sz w.drew = sz w := rfl
@[simp] theorem B3M (w : World) (o : Obj) : sz (w.alloc o) = sz w + 1 := by simp [sz]
@[simp] theorem V5 (w : World) (o : Obj) : bl (w.alloc o) (sz w) = some o := by unfold bl sz World.alloc; simp only [Array.getElem?_push_size]
theorem B9q (w : World) (o : Obj) (r : Nat) : bl (w.alloc o) r = if r = sz w then some o else bl w r := by
 unfold bl sz World.alloc; simp only [Array.getElem?_push]
@[simp] theorem A2F {w : World} {o : Obj} {r : Nat} (h : r < sz w) : bl (w.alloc o) r = bl w r := by rw [B9q, if_neg (by omega)]
@[simp] theorem C1c (w : World) (b : Nat) (o : Obj) : sz (World.putb w b o) = sz w := by simp [sz, World.putb]
@[simp] theorem P1 {w : World} {b : Nat} {o : Obj} (h : b < sz w) : bl (World.putb w b o) b = some o := by
 have h' : b < w.heap.size := h
 simp [bl, World.putb, h']
@[simp] theorem j5 {w : World} {b r : Nat} {o : Obj} (h : b ≠ r) : bl (World.putb w b o) r = bl w r := by
 simp [bl, World.putb, Array.getElem?_setIfInBounds_ne h]
def C5 (S : List Nat) (w w' : World) : Prop := sz w ≤ sz w' ∧ ∀ r o, r ∉ S → bl w r = some o → bl w' r = some o
theorem C5.refl (S : List Nat) (w : World) : C5 S w w := ⟨Nat.le_refl _, fun _ _ _ h => h⟩
theorem C5.trans {S : List Nat} {a b c : World} (h : C5 S a b) (h' : C5 S b c) : C5 S a c := ⟨Nat.le_trans h.1 h'.1, fun r o n e => h'.2 r o n (h.2 r o n e)⟩
theorem C5.mono {S T : List Nat} {a b : World} (h : C5 S a b) (hs : ∀ x ∈ S, x ∈ T) : C5 T a b := ⟨h.1, fun r o n e => h.2 r o (fun hh => n (hs r hh)) e⟩
theorem C5.drew {S : List Nat} {a b : World} (h : C5 S a b) : C5 S a b.drew := h
theorem C5.alloc {S : List Nat} {a b : World} (h : C5 S a b) (o : Obj) : C5 S a (b.alloc o) :=
 ⟨by have := h.1; simp; omega, fun r x n e => by have := h.2 r x n e; rw [A2F (G9 this)]; exact this⟩
theorem C5.putb {S : List Nat} {a b : World} {r : Nat} (h : C5 S a b) (o : Obj) (hr : r ∈ S ∨ sz a ≤ r) : C5 S a (World.putb b r o) :=
 ⟨by have := h.1; simp; omega, fun s x n e => by
  have := h.2 s x n e
  rw [j5]; · exact this
  ·rintro rfl
   rcases hr with hr | hr
   ·exact n hr
   ·have := G9 e; omega⟩
theorem C5.get {S : List Nat} {a b : World} (h : C5 S a b) {r : Nat} {o : Obj} (e : bl a r = some o) (n : r ∉ S) : bl b r = some o := h.2 r o n e
theorem C5.fresh {S T : List Nat} {a b : World} (h : C5 S a b) (hs : ∀ x ∈ S, x ∈ T ∨ sz a ≤ x) : C5 T a b :=
 ⟨h.1, fun r o n e => h.2 r o (fun hh => (hs r hh).elim n fun h2 => by have := G9 e; omega) e⟩
theorem a8.but {a b : World} (h : a8 a b) (S : List Nat) : C5 S a b := ⟨h.1, fun r o _ e => h.2 r o e⟩
theorem B4x (w : World) (b o : Nat) : w.cell? ⟨b, o, none⟩ = match bl w b with | some (.cells c _ _) => c[o]? | _ => none := by
 simp only [World.cell?, bl]
 cases w.heap[b]? with
 | none => rfl
 | some x => cases x <;> rfl
theorem H6 {w : World} {b : Nat} {c : Array Value} {T : TypeId} {z : Nat × Nat} (h : bl w b = some (.cells c T z)) (o : Nat) : w.cell? ⟨b, o, none⟩ = c[o]? := by
 rw [B4x, h]
def K9 (w : World) (b o : Nat) (l : List Value) : Prop := ∀ i, i < l.length → w.cell? ⟨b, o + i, none⟩ = l[i]?
theorem K9.of {w : World} {b : Nat} {c : Array Value} {T : TypeId} {z : Nat × Nat} (h : bl w b = some (.cells c T z)) {o n : Nat} : K9 w b o ((c.toList.drop o).take n) := by
 intro i hi
 simp at hi
 rw [H6 h, List.getElem?_take_of_lt (by omega), List.getElem?_drop]; simp
theorem K9.get {w : World} {b o : Nat} {l : List Value} (h : K9 w b o l) {i : Nat} {v : Value} (hv : l[i]? = some v) : w.cell? ⟨b, o + i, none⟩ = some v := by
 rw [h i (List.getElem?_eq_some_iff.1 hv).1, hv]
theorem e8 {w : World} {b o : Nat} {v : Value} (h : w.cell? ⟨b, o, none⟩ = some v) : ∃ c T z, bl w b = some (.cells c T z) ∧ c[o]? = some v := by
 rw [B4x] at h
 cases hb : bl w b with
 | none => rw [hb] at h; cases h
 | some x => rw [hb] at h; cases x <;> first | (cases h; done) | exact ⟨_, _, _, rfl, h⟩
theorem C5.cell {S : List Nat} {a b : World} (h : C5 S a b) {r o : Nat} {v : Value} (e : a.cell? ⟨r, o, none⟩ = some v) (n : r ∉ S) : b.cell? ⟨r, o, none⟩ = some v := by
 obtain ⟨c, T, z, h1, h2⟩ := e8 e
 rw [H6 (h.get h1 n)]; exact h2
theorem C5.row {S : List Nat} {a b : World} (h : C5 S a b) {r o : Nat} {l : List Value} (e : K9 a r o l) (n : r ∉ S) : K9 b r o l := by
 intro i hi
 have h1 : a.cell? ⟨r, o + i, none⟩ = some l[i] := by rw [e i hi]; exact List.getElem?_eq_getElem hi
 rw [h.cell h1 n]; exact (List.getElem?_eq_getElem hi).symm
@[simp] theorem C72 (K : WP) (w : World) : drw K w = K w.drew := rfl
@[simp] theorem C8S {n : Nat} (F : VF WP n) (A : VF WP n → WP) : jn F A = A F := rfl
@[simp] theorem C7e (A B : WP) (w : World) : both A B w = (A w ∧ B w) := rfl
@[simp] theorem B8Y (P : Program) (K : WP) : watch P [] K = K := rfl
@[simp] theorem A9G (P : Program) (s : Sem Value) (v : Value) (l : List Rd) (K : WP) (w : World) : watch P ((none, s, v) :: l) K w = (s.run P w = .ok v w ∧ watch P l K w) := rfl
@[simp] theorem C2Q (P : Program) (g : Value) (t : Bool) (s : Sem Value) (v : Value) (l : List Rd) (K : WP) (w : World) : watch P ((some (g, t), s, v) :: l) K w = ((g = .bool t → s.run P w = .ok v w) ∧ watch P l K w) := rfl
@[simp] theorem C7D (b : Bool) (A B : WP) (w : World) : C3 (.bool b) A B w = if b = true then A w else B w := by
 cases b <;> simp [C3]
def V6 : Nat := 0
@[simp] theorem C7y : V6 = 1 - 1 := by unfold V6; exact (Nat.sub_self 1).symm
@[congr] theorem C5K {P : Program} {s s' : Sem Value} {K : Value → WP} (h : s = s') {q : Nat} (hq : V6 = q) : A0 P s K = A0 P s' K := by rw [h]
@[congr] theorem C6G {P : Program} {s s' : Sem Value} {K : Value → WP} (h : s = s') {q : Nat} (hq : V6 = q) : A6 P s K = A6 P s' K := by rw [h]
@[congr] theorem C5f {P : Program} {X : Nat → Prop} {s s' : Sem Value} {K : Value → WP} (h : s = s') {q : Nat} (hq : V6 = q) : B2 P X s K = B2 P X s' K := by rw [h]
@[congr] theorem C5U {P : Program} {X : Nat → Prop} {s s' : Sem Unit} {K : WP} (h : s = s') {q : Nat} (hq : V6 = q) : B9 P X s K = B9 P X s' K := by rw [h]
@[congr] theorem C5S {P : Program} {X : Nat → Prop} {f : FuncId} {l l' : List Value} {K : Value → WP} (h : l = l') {q : Nat} (hq : V6 = q) : B1 P X f l K = B1 P X f l' K := by rw [h]
@[congr] theorem C5q {P : Program} {X : Nat → Prop} {g g' : Value} {l l' : List Value} {K : Value → WP} (hg : g = g') (h : l = l') {q : Nat} (hq : V6 = q) : H9 P X g l K = H9 P X g' l' K := by rw [h, hg]
@[congr] theorem C5d {P : Program} {X : Nat → Prop} {g g' : Value} {s : String} {l l' : List Value} {K : Value → WP} (hg : g = g') (h : l = l') {q : Nat} (hq : V6 = q) : inv P X g s l K = inv P X g' s l' K := by rw [h, hg]
@[congr] theorem C6C {P : Program} {X : Nat → Prop} {g : Nat} {l l' : List Value} {K : Value → WP} (h : l = l') {q : Nat} (hq : V6 = q) : yie P X g l K = yie P X g l' K := by rw [h]
@[congr] theorem C45 {c c' : Value} {A B : WP} (h : c = c') {q : Nat} (hq : V6 = q) : C3 c A B = C3 c' A B := by rw [h]
@[congr] theorem C7Y {c c' : Value} {t : Bool} {A : (Value → WP) → WP} {F : Value → WP} (h : c = c') {q : Nat} (hq : V6 = q) : gj c t A F = gj c' t A F := by rw [h]
@[congr] theorem C68 {n : Nat} {F : VF WP n → VF WP n} {q : Nat} (hq : V6 = q) : lp F = lp F := rfl
@[congr] theorem C6W {N : Nat} {P : Program} {X : Nat → Prop} {B : VF ((Option Code → WP) → WP) N} {g g' : Value} {KJ : Option Code → WP} (h : g = g') {q : Nat} (hq : V6 = q) : rng P X B g KJ = rng P X B g' KJ := by rw [h]
@[congr] theorem C7V {n : Nat} {F : VF WP n} {A : VF WP n → WP} {q : Nat} (hq : V6 = q) : jn F A = jn F A := rfl
@[congr] theorem C6m {n : Nat} {F : VF WP n} {A : VF WP n → WP} {q : Nat} (hq : V6 = q) : kt F A = kt F A := rfl
@[congr] theorem C6V {K : WP} {q : Nat} (hq : V6 = q) : drw K = drw K := rfl
@[congr] theorem C59 {K : WP} {q : Nat} (hq : V6 = q) : V8 K = V8 K := rfl
@[congr] theorem C5Y {K : WP} {q : Nat} (hq : V6 = q) : bgn K = bgn K := rfl
@[congr] theorem C34 {A B : WP} {q : Nat} (hq : V6 = q) : both A B = both A B := rfl
@[congr] theorem C3F {P : Program} {l l' : List Rd} {K : WP} (h : l = l') {q : Nat} (hq : V6 = q) : watch P l K = watch P l' K := by rw [h]
def rdc (x : Option Value) (K : Value → WP) (F : WP) : WP := match x with | some v => K v | none => F
@[simp] theorem A8S (v : Value) (K : Value → WP) (F : WP) : rdc (some v) K F = K v := id rfl
@[congr] theorem C5Q {x x' : Option Value} {K : Value → WP} {F : WP} (h : x = x') {q : Nat} (hq : V6 = q) : rdc x K F = rdc x' K F := by rw [h]
def rdl (x : Option (List Value)) (K : Value → WP) (F : WP) : WP := match x with | some l => K (.agg l.toArray) | none => F
@[simp] theorem A5K (l : List Value) (K : Value → WP) (F : WP) : rdl (some l) K F = K (.agg l.toArray) := id rfl
def b9 (w : World) (b : Nat) : Nat → Nat → Option (List Value)
 | _, 0 => some []
 | o, n + 1 => match w.cell? ⟨b, o, none⟩ with
  | some v => (b9 w b (o + 1) n).map (v :: ·)
  | none => none
@[simp] theorem C6P (w : World) (b o : Nat) : b9 w b o 0 = some [] := rfl
theorem m9 {w : World} {b : Nat} : ∀ {n o : Nat} {l : List Value}, b9 w b o n = some l → l.length = n ∧ K9 w b o l := by
 intro n
 induction n with
 | zero => intro o l h; cases h; exact ⟨rfl, fun i hi => by simp at hi⟩
 | succ n ih =>
  intro o l h
  simp only [b9] at h
  split at h
  ·rename_i v hv
   cases hr : b9 w b (o + 1) n with
   | none => rw [hr] at h; cases h
   | some l' =>
    rw [hr] at h; cases h
    obtain ⟨h1, h2⟩ := ih hr
    refine ⟨by simp [h1], fun i hi => ?_⟩
    cases i with
    | zero => simpa using hv
    | succ i => have := h2 i (by simpa using hi); rw [List.getElem?_cons_succ, ← this]; congr 2; omega
  ·cases h
theorem A2B {w : World} {b o : Nat} {l : List Value} (h : K9 w b o l) : b9 w b o l.length = some l := by
 induction l generalizing o with
 | nil => rfl
 | cons v l ih =>
  have h0 := h 0 (by simp)
  simp only [Nat.add_zero, List.getElem?_cons_zero] at h0
  have h1 : K9 w b (o + 1) l := fun i hi => by have := h (i + 1) (by simpa using hi); rw [List.getElem?_cons_succ] at this; rw [← this]; congr 2; omega
  simp only [List.length_cons, b9, h0, ih h1, Option.map_some]
def far (P : Program) (t : TypeId) (a : Addr) (K : Value → WP) : WP := A6 P (Instr.loadAt t (.pointer (some a))) K
def F1 (c : Array Value) : Nat → List Value → Array Value
 | _, [] => c
 | o, v :: l => F1 (c.setIfInBounds o v) (o + 1) l
@[simp] theorem C01 (c : Array Value) (o : Nat) : F1 c o [] = c := rfl
@[simp] theorem B3e (c : Array Value) (o : Nat) (v : Value) (l : List Value) : F1 c o (v :: l) = F1 (c.setIfInBounds o v) (o + 1) l := rfl
theorem C0 (c : Array Value) (o : Nat) (l : List Value) : (F1 c o l).size = c.size := by
 induction l generalizing c o with
 | nil => rfl
 | cons v l ih => simp [F1, ih]
def plain : Value → Bool
 | .agg _ | .tuple _ => false
 | _ => true
@[simp] theorem C47 (k : IntKind) (n : Int) : plain (.int k n) = true := rfl
@[simp] theorem C3m (n : Bool) : plain (.bool n) = true := rfl
@[simp] theorem C2s (n : ByteArray) : plain (.string n) = true := rfl
@[simp] theorem C10 (n : Option Addr) : plain (.pointer n) = true := rfl
@[simp] theorem C3S (n : Option Addr) (l c : Nat) : plain (.slice n l c) = true := rfl
@[simp] theorem C5p (n : Option Nat) : plain (.map n) = true := rfl
@[simp] theorem C3u (n : Go.Fn) (l c : Array Value) : plain (.func n l c) = true := rfl
@[simp] theorem C1z : plain .nilFunc = true := rfl
@[simp] theorem C1T : plain .nilIface = true := rfl
@[simp] theorem C3M (t : TypeId) (v : Value) : plain (.iface t v) = true := rfl
def stc (b o : Nat) (l : List Value) (x : Option Obj) (K : WP) (F : WP) : WP := match x with
 | some (.cells c T (0, 0)) => fun w => if o + l.length ≤ c.size ∧ l.all plain = true then K (World.putb w b (.cells (F1 c o l) T (0, 0))) else F w
 | _ => F
@[simp] theorem C62 (b o : Nat) (l : List Value) (c : Array Value) (T : TypeId) (K F : WP) (w : World) :
  stc b o l (some (.cells c T (0, 0))) K F w = if o + l.length ≤ c.size ∧ l.all plain = true then K (World.putb w b (.cells (F1 c o l) T (0, 0))) else F w := rfl
def C6v (P : Program) (X : Nat → Prop) (t : TypeId) (b o : Nat) (v : Value) (K : WP) : WP := B9 P X (Instr.storeAt t (.pointer (some ⟨b, o, none⟩)) v) K
@[simp] theorem B8Q (k : IntKind) (n : Int) : (Value.int k n).cells = #[.int k n] := rfl
@[simp] theorem C3p (n : Bool) : (Value.bool n).cells = #[.bool n] := rfl
@[simp] theorem C21 (n : ByteArray) : (Value.string n).cells = #[.string n] := rfl
@[simp] theorem C12 (n : Option Addr) : (Value.pointer n).cells = #[.pointer n] := rfl
@[simp] theorem C3K (n : Option Addr) (l c : Nat) : (Value.slice n l c).cells = #[.slice n l c] := rfl
@[simp] theorem C5z (n : Option Nat) : (Value.map n).cells = #[.map n] := rfl
@[simp] theorem C41 (n : Go.Fn) (l c : Array Value) : (Value.func n l c).cells = #[.func n l c] := rfl
@[simp] theorem C11 : (Value.nilFunc).cells = #[.nilFunc] := rfl
@[simp] theorem C1b : (Value.nilIface).cells = #[.nilIface] := rfl
@[simp] theorem C3H (t : TypeId) (v : Value) : (Value.iface t v).cells = #[.iface t v] := rfl
@[simp] theorem C50 (cs : Array Value) : (Value.agg cs).cells = cs := rfl
theorem F4 {P : Program} {s : Sem Value} {v : Value} (h : ∀ w, s.run P w = .ok v w) (K : Value → WP) : A0 P s K = K v := by
 funext w
 refine propext ⟨fun ⟨v', h1, h2⟩ => ?_, fun hk => ⟨v, h, hk⟩⟩
 have := h1 w; rw [h w] at this; cases this; exact h2
theorem P3 {P : Program} {s : Sem Value} {v : Value} {w : World} (h : s.run P w = .ok v w) (K : Value → WP) : A6 P s K w = K v w := by
 refine propext ⟨fun ⟨v', h1, h2⟩ => ?_, fun hk => ⟨v, h, hk⟩⟩
 rw [h] at h1; cases h1; exact h2
theorem T6 {P : Program} {X : Nat → Prop} {s : Sem Value} {v : Value} {w w' : World} (h : s.run P w = .ok v w') (hs : Sk X w w') (K : Value → WP) : B2 P X s K w = K v w' := by
 refine propext ⟨fun ⟨v', w'', h1, h2, h3⟩ => ?_, fun hk => ⟨v, w', h, hs, hk⟩⟩
 rw [h] at h1; cases h1; exact h3
theorem B8B {P : Program} {X : Nat → Prop} {s : Sem Unit} {w w' : World} (h : s.run P w = .ok () w') (hs : Sk X w w') (K : WP) : B9 P X s K w = K w' := by
 refine propext ⟨fun ⟨w'', h1, h2, h3⟩ => ?_, fun hk => ⟨w', h, hs, hk⟩⟩
 rw [h] at h1; cases h1; exact h3
theorem B5x (w : World) {o : Obj} (ho : soft (some o) = true ∨ ∃ c t, o = .cells c t (0, 0)) : g6 w (w.alloc o) := ⟨rfl, rfl⟩
theorem Sk.alloc (X : Nat → Prop) (w : World) (o : Obj) (ho : soft (some o) = true ∨ ∃ c t, o = .cells c t (0, 0)) : Sk X w (w.alloc o) := by
 have h : ∀ (r : Nat) x, w.heap[r]? = some x → (w.alloc o).heap[r]? = some x := fun r x e => by
  have := A2F (o := o) (G9 (w := w) e); exact this.trans e
 exact ⟨by simp, fun r d => h r _, fun r lo _ => h r _, B5x w ho⟩
theorem B7V {w : World} {b : Nat} {c c' : Array Value} {T T' : TypeId} {z : Nat × Nat} (h : bl w b = some (.cells c T z)) : g6 w (World.putb w b (.cells c' T' z)) := ⟨rfl, rfl⟩
theorem Sk.putb (X : Nat → Prop) {w : World} {b : Nat} {c c' : Array Value} {T T' : TypeId} {z : Nat × Nat} (h : bl w b = some (.cells c T z)) : Sk X w (World.putb w b (.cells c' T' z)) := by
 have h2 : ∀ (r : Nat) x, (∀ c T z, x ≠ Obj.cells c T z) → w.heap[r]? = some x → (World.putb w b (.cells c' T' z)).heap[r]? = some x := fun r x hx e => by
  have : b ≠ r := by rintro rfl; rw [bl, e] at h; cases h; exact hx _ _ _ rfl
  exact (j5 (w := w) (o := .cells c' T' z) this).trans e
 exact ⟨by simp [World.putb], fun r d => h2 r _ (by simp), fun r lo _ => h2 r _ (by simp), B7V h⟩
section
variable {P : Program} {k j : IntKind} {a b : Int} {t : TypeId} {K : Value → WP}
@[simp] theorem C8K : A0 P (binOp .lss t (.int k a) (.int k b)) K = K (.bool (decide (a < b))) := F4 (fun w => by simp [binOp, Op.intCmp]) K
@[simp] theorem C8Z : A0 P (binOp .leq t (.int k a) (.int k b)) K = K (.bool (decide (a ≤ b))) := F4 (fun w => by simp [binOp, Op.intCmp]) K
@[simp] theorem C8J : A0 P (binOp .gtr t (.int k a) (.int k b)) K = K (.bool (decide (b < a))) := F4 (fun w => by simp [binOp, Op.intCmp]) K
@[simp] theorem C8Y : A0 P (binOp .geq t (.int k a) (.int k b)) K = K (.bool (decide (b ≤ a))) := F4 (fun w => by simp [binOp, Op.intCmp]) K
theorem B0u (a b : Int) : (a == b) = decide (a = b) := by by_cases h : a = b <;> simp [h]
@[simp] theorem C8U : A0 P (binOp .eql t (.int k a) (.int k b)) K = K (.bool (decide (a = b))) := F4 (fun w => by simp [binOp, Op.intCmp, B0u]) K
@[simp] theorem C8H : A0 P (binOp .neq t (.int k a) (.int k b)) K = K (.bool (decide (a ≠ b))) := F4 (fun w => by simp [binOp, Op.intCmp, bne, B0u]) K
@[simp] theorem C8D : A0 P (binOp .add t (.int k a) (.int k b)) K = K (.int k (k.wrap (a + b))) := F4 (fun w => by simp [binOp, Op.intArith]) K
@[simp] theorem C8P : A0 P (binOp .sub t (.int k a) (.int k b)) K = K (.int k (k.wrap (a - b))) := F4 (fun w => by simp [binOp, Op.intArith]) K
@[simp] theorem C8N : A0 P (binOp .mul t (.int k a) (.int k b)) K = K (.int k (k.wrap (a * b))) := F4 (fun w => by simp [binOp, Op.intArith]) K
theorem A13 (h : b ≠ 0) : A0 P (binOp .rem t (.int k a) (.int k b)) K = K (.int k (a.tmod b)) := F4 (fun w => by simp [binOp, Op.intDiv, h]) K
@[simp] theorem C8E (b : Bool) : A0 P (Op.unary .not (.bool b)) K = K (.bool !b) := F4 (fun w => by simp [Op.unary]) K
@[simp] theorem C8F (ts : Array TypeId) : A0 P (A8 .min ts 0 [.int k a, .int j b]) K = K (.int k (min a b)) :=
 F4 (fun w => by simp [A8, Builtin.min_, Builtin.min2]; omega) K
@[simp] theorem C8M (ts : Array TypeId) : A0 P (A8 .max ts 0 [.int k a, .int j b]) K = K (.int k (max a b)) :=
 F4 (fun w => by simp [A8, Builtin.max_, Builtin.max2]; omega) K
@[simp] theorem C49 (ad : Addr) : A0 P (E2 (.pointer (some ad))) K = K (.pointer (some ad)) := F4 (fun w => by simp [E2]) K
@[simp] theorem C8B (fn : Go.Fn) (x y : Array Value) : A0 P (Instr.makeFunc fn x y) K = K (.func fn x y) := F4 (fun w => by simp [Instr.makeFunc]) K
theorem A1A {vs : Array Value} {i : Nat} {v : Value} (h : vs[i]? = some v) : A0 P (Instr.extract (.tuple vs) i) K = K v := F4 (fun w => by simp [Instr.extract, h]) K
@[simp] theorem A6m (x y : Value) : A0 P (Instr.extract (.tuple #[x, y]) 0) K = K x := A1A rfl
@[simp] theorem A6p (x y : Value) : A0 P (Instr.extract (.tuple #[x, y]) 1) K = K y := A1A rfl
@[simp] theorem C15 (x y z : Value) : A0 P (Instr.extract (.tuple #[x, y, z]) 0) K = K x := A1A rfl
@[simp] theorem C18 (x y z : Value) : A0 P (Instr.extract (.tuple #[x, y, z]) 1) K = K y := A1A rfl
@[simp] theorem C2B (x y z : Value) : A0 P (Instr.extract (.tuple #[x, y, z]) 2) K = K z := A1A rfl
end
@[simp] theorem A1W {n : Int} (h1 : -9223372036854775808 ≤ n) (h2 : n ≤ 9223372036854775807) : IntKind.i64.wrap n = n := by
 simp [IntKind.wrap, IntKind.bits, IntKind.signed]; omega
structure TI (P : Program) (t : TypeId) (d : TypeDesc) (n m : Nat) (z : Value) : Prop where
 und : P.underlying t = some d
 info : ∃ i, P.info? t = some i ∧ i.size = n ∧ i.bytes = m ∧ i.zero = some z
def N4 : TypeDesc → Bool
 | .struct _ | .array .. => true
 | _ => false
section
variable {P : Program} {X : Nat → Prop} {t e : TypeId} {d d' : TypeDesc} {n m n' m' : Nat} {z z' : Value} {K : Value → WP} {w : World}
theorem TI.run_und (h : TI P t d n m z) : (underlying t).run P w = .ok d w := by simp [underlying, h.und]
theorem TI.run_size (h : TI P t d n m z) : (sizeOf t).run P w = .ok n w := by obtain ⟨i, h1, h2, _, _⟩ := h.info; simp [sizeOf, typeInfo, h1, h2]
theorem TI.run_zero (h : TI P t d n m z) : (zeroValue t).run P w = .ok z w := by obtain ⟨i, h1, _, _, h2⟩ := h.info; simp [zeroValue, typeInfo, h1, h2]
theorem TI.run_agg (h : TI P t d n m z) : (isAgg t).run P w = .ok (N4 d) w := by
 simp only [isAgg, Sem.run_bind, h.run_und, Result.andThen_ok]
 cases d <;> rfl
theorem Y7 (b o n : Nat) : (⟨b, o, none⟩ : Addr).add n = ⟨b, o + n, none⟩ := by
 unfold Addr.add; split
 ·rename_i h; simp [h]
 ·rfl
theorem B5 {fs : Array Field} {f : Field} (h : TI P t (.struct fs) n m z) {i : Nat} (hf : fs[i]? = some f) (hz : ∃ d' n' m' z', TI P f.type d' (n' + 1) m' z') (b o : Nat) :
  A0 P (Instr.fieldAt t (.pointer (some ⟨b, o, none⟩)) i) K = K (.pointer (some ⟨b, o + f.offset, none⟩)) :=
 F4 (fun w => by
  obtain ⟨d', n', m', z', hz⟩ := hz
  simp [Instr.fieldAt, h.run_und, hf, Instr.sureAddr, fieldPlace, hz.run_size, Y7]) K
theorem N1 (h : TI P t (.slice e) n m z) (he : TI P e d' n' m' z') {k : IntKind} {i : Int} {len cap : Nat} (h0 : 0 ≤ i) (h1 : i < len) (b o : Nat) :
  A0 P (Instr.indexAt t (.slice (some ⟨b, o, none⟩) len cap) (.int k i)) K = K (.pointer (some ⟨b, o + i.toNat * n', none⟩)) :=
 F4 (fun w => by simp [Instr.indexAt, asIntOf, h.run_und, h0, h1, he.run_size, Y7]) K
theorem A9n {len : Nat} (h : TI P t (.array len e) n m z) (he : TI P e d' n' m' z') {k : IntKind} {i : Int} (h0 : 0 ≤ i) (h1 : i < len) (b o : Nat) :
  A0 P (Instr.indexAt t (.pointer (some ⟨b, o, none⟩)) (.int k i)) K = K (.pointer (some ⟨b, o + i.toNat * n', none⟩)) :=
 F4 (fun w => by simp [Instr.indexAt, asIntOf, h.run_und, h0, h1, he.run_size, Y7, Instr.sureAddr]) K
theorem l7 (h : TI P t d n m z) (hd : N4 d = false) {a : Addr} {v : Value} (hc : w.cell? a = some v) : (Instr.loadAt t (.pointer (some a))).run P w = .ok v w := by
 simp [Instr.loadAt, Instr.sureAddr, loadVar, h.run_agg, hd, hc]
theorem C1J (h : TI P t d n m z) (hd : N4 d = false) {a : Addr} {v : Value} (hc : w.cell? a = some v) : A6 P (Instr.loadAt t (.pointer (some a))) K w = K v w :=
 P3 (l7 h hd hc) K
theorem A5s {b o : Nat} : ∀ (n i : Nat) (acc : Array Value) (l : List Value), (∀ j, j < n → w.cell? ⟨b, o + (i + j), none⟩ = l[j]?) → l.length = n →
  (loadCellsFrom ⟨b, o, none⟩ i n acc).run P w = .ok (acc ++ l.toArray) w := by
 intro n
 induction n with
 | zero => intro i acc l _ hl; rw [List.length_eq_zero_iff.1 hl]; simp [loadCellsFrom]
 | succ n ih =>
  intro i acc l h hl
  match l, hl with
  | v :: l, hl =>
   have h0 := h 0 (by omega)
   simp only [List.getElem?_cons_zero, Nat.add_zero] at h0
   simp only [loadCellsFrom, Y7, Sem.run_bind, run_load, h0, Result.andThen_ok]
   rw [ih (i + 1) (acc.push v) l (fun j hj => by have := h (j + 1) (by omega); rw [List.getElem?_cons_succ] at this; rw [← this]; congr 2; omega) (by simpa using hl)]
   simp
theorem x6 (h : TI P t d n m z) (hd : N4 d = true) {b o : Nat} {l : List Value} (hl : l.length = n) (hr : K9 w b o l) :
  (Instr.loadAt t (.pointer (some ⟨b, o, none⟩))).run P w = .ok (.agg l.toArray) w := by
 simp only [Instr.loadAt, Instr.sureAddr, loadVar, Sem.run_bind, Sem.run_pure, Result.andThen_ok, h.run_agg, hd, if_true, h.run_size, loadCells]
 rw [A5s n 0 #[] l (fun j hj => by simpa using hr j (by omega)) hl]
 simp
theorem C1L (h : TI P t d n m z) (hd : N4 d = true) {b o : Nat} {l : List Value} (hl : l.length = n) (hr : K9 w b o l) :
  A6 P (Instr.loadAt t (.pointer (some ⟨b, o, none⟩))) K w = K (.agg l.toArray) w := P3 (x6 h hd hl hr) K
theorem C1f (h : TI P t d n m z) : B2 P X (Instr.alloc t true (.tuple #[])) K w = K (.pointer (some ⟨sz w, 0, none⟩)) (w.alloc (.cells z.cells t)) :=
 T6 (by simp [Instr.alloc, h.run_zero, newVar, newRow, newObj, Sem.run]; rfl) (Sk.alloc X w _ (Or.inr ⟨_, _, rfl⟩)) K
@[simp] theorem B5w (v : Value) : B2 P X (Instr.box t v) K w = K (.pointer (some ⟨sz w, 0, none⟩)) (w.alloc (.cells v.cells t)) :=
 T6 (by simp [Instr.box, newVar, newRow, newObj, Sem.run]; rfl) (Sk.alloc X w _ (Or.inr ⟨_, _, rfl⟩)) K
theorem B2Z (h : TI P t d 1 m z) (hd : N4 d = false) (a : Addr) : A6 P (Instr.loadAt t (.pointer (some a))) K w = rdc (w.cell? a) K (far P t a K) w := by
 cases hc : w.cell? a with
 | none => rfl
 | some v => rw [C1J h hd hc]; rfl
theorem B6p (h : TI P t d n m z) (hd : N4 d = true) (b o : Nat) : A6 P (Instr.loadAt t (.pointer (some ⟨b, o, none⟩))) K w = rdl (b9 w b o n) K (far P t ⟨b, o, none⟩ K) w := by
 cases hc : b9 w b o n with
 | none => rfl
 | some l => obtain ⟨h1, h2⟩ := m9 hc; rw [C1L h hd h1 h2]; rfl
theorem d9 {b : Nat} {T : TypeId} {o0 : Nat} : ∀ (l : List Value) (i : Nat) (w : World) (c : Array Value), bl w b = some (.cells c T (0, 0)) → o0 + i + l.length ≤ c.size → l.all plain = true →
  (storeCells ⟨b, o0, none⟩ l i).run P w = .ok () (World.putb w b (.cells (F1 c (o0 + i) l) T (0, 0))) := by
 intro l
 induction l with
 | nil =>
  intro i w c hb _ _
  have : World.putb w b (.cells (F1 c (o0 + i) []) T (0, 0)) = w := by
   simp only [C01, World.putb]
   have h1 : w.heap.setIfInBounds b (.cells c T (0, 0)) = w.heap := by
    apply Array.ext_getElem?
    intro r
    by_cases hr : b = r
    ·subst hr
     have hlt := (Array.getElem?_eq_some_iff.1 hb).1
     rw [Array.getElem?_setIfInBounds_self_of_lt hlt]; exact hb.symm
    ·rw [Array.getElem?_setIfInBounds_ne hr]
   rw [h1]
  rw [this]; rfl
 | cons v l ih =>
  intro i w c hb hs hp
  simp only [List.all_cons, Bool.and_eq_true] at hp
  simp only [List.length_cons] at hs
  have hlt : b < sz w := G9 hb
  have hc : w.cell? ⟨b, o0 + i, none⟩ = some (c[o0 + i]'(by omega)) := by rw [H6 hb]; exact Array.getElem?_eq_getElem (by omega)
  have hf : w.frozen? ⟨b, o0 + i, none⟩ = false := by
   have : w.heap[b]? = some (.cells c T (0, 0)) := hb
   simp [World.frozen?, this]
  have hset : w.setCell ⟨b, o0 + i, none⟩ v = World.putb w b (.cells (c.setIfInBounds (o0 + i) v) T (0, 0)) := by
   unfold World.setCell World.putb
   congr 1
   apply Array.ext_getElem?
   intro r
   rw [Array.getElem?_modify]
   by_cases hr : b = r
   ·subst hr
    have : w.heap[b]? = some (.cells c T (0, 0)) := hb
    rw [Array.getElem?_setIfInBounds_self_of_lt (show b < w.heap.size from hlt)]
    simp [this]
   ·rw [Array.getElem?_setIfInBounds_ne hr]; simp [hr]
  have hv : v.oneCell' = true := by cases v <;> first | rfl | (exact absurd hp.1 (by simp [plain]))
  have h1 : (store (Addr.add ⟨b, o0, none⟩ i) v).run P w = .ok () (World.putb w b (.cells (c.setIfInBounds (o0 + i) v) T (0, 0))) := by
   rw [Y7, run_store P w _ v .plain hv, hc]
   simp [hf, hset]
  simp only [storeCells, Sem.run_bind, h1, Result.andThen_ok]
  have hb2 : bl (World.putb w b (.cells (c.setIfInBounds (o0 + i) v) T (0, 0))) b = some (.cells (c.setIfInBounds (o0 + i) v) T (0, 0)) := P1 hlt
  rw [ih (i + 1) _ _ hb2 (by simp; omega) hp.2]
  have : World.putb (World.putb w b (.cells (c.setIfInBounds (o0 + i) v) T (0, 0))) b (.cells (F1 (c.setIfInBounds (o0 + i) v) (o0 + (i + 1)) l) T (0, 0)) =
    World.putb w b (.cells (F1 c (o0 + i) (v :: l)) T (0, 0)) := by
   simp [World.putb, Nat.add_assoc]
  rw [this]
theorem C25 (h : TI P t d n m z) (v : Value) (hv : v.cells.size = n) (b o : Nat) (K : WP) : B9 P X (Instr.storeAt t (.pointer (some ⟨b, o, none⟩)) v) K w = stc b o v.cells.toList (bl w b) K (C6v P X t b o v K) w := by
 cases hb : bl w b with
 | none => rfl
 | some x =>
  cases x <;> first | rfl | skip
  rename_i c T fz
  obtain ⟨lo, hi⟩ := fz
  match lo, hi with
  | 0, 0 =>
   simp only [stc]
   split
   ·rename_i hc
    refine B8B ?_ (Sk.putb X hb) K
    have := d9 (P := P) (o0 := o) v.cells.toList 0 w c hb (by simpa using hc.1) hc.2
    have hne : ¬ v.cells.size ≠ n := by simp [hv]
    simp only [Instr.storeAt, Instr.sureAddr, storeVar, Sem.run_bind, Sem.run_pure, Result.andThen_ok, h.run_size, hne, if_false]
    simpa using this
   ·rfl
  | 0, _ + 1 => rfl
  | _ + 1, _ => rfl
theorem B8e (l : List Value) : ∀ (cs : Array Value) (o i : Nat), (l.zipIdx i).foldl (fun cs (p : Value × Nat) => cs.setIfInBounds (o + p.2) p.1) cs = F1 cs (o + i) l := by
 induction l with
 | nil => intro cs o i; rfl
 | cons v l ih => intro cs o i; simp only [List.zipIdx_cons, List.foldl_cons, F1]; rw [ih]; rfl
theorem B7 {pl : Nat → Option (Nat × Nat)} {cs : Array Value} {i o s : Nat} {v : Value} {l : List (Nat × Value)} (h : pl i = some (o, s)) (hs : v.cells.size = s) (ho : o + s ≤ cs.size) :
  Instr.fill pl cs ((i, v) :: l) = Instr.fill pl (F1 cs o v.cells.toList) l := by
 simp only [Instr.fill, h]
 have h1 : (v.cells.size ≠ s || decide (o + v.cells.size > cs.size)) = false := by simp [hs]; omega
 simp only [h1]
 have h2 := B8e v.cells.toList cs o 0
 simp only [Bool.false_eq_true, if_false]
 rw [← Array.foldl_toList]
 simp only [Array.toList_zipIdx]
 rw [h2]; rfl
theorem F6 {fs : Array Field} {pl : Array (Nat × Nat)} {parts : Array (Nat × Value)} {cs : Array Value} (h : TI P t (.struct fs) n m z)
  (hp : ∀ w, (fs.mapM (fun f => do pure (f.offset, ← sizeOf f.type) : Field → Sem (Nat × Nat))).run P w = .ok pl w) (hf : Instr.fill (pl[·]?) z.cells parts.toList = some cs) :
  A0 P (Instr.build t parts) K = K (.agg cs) :=
 F4 (fun w => by
  have hp := hp w
  simp only [Instr.build, Sem.run_bind, h.run_zero, Result.andThen_ok, h.run_und, hp, hf, Sem.run_pure]) K
theorem A7L {len : Nat} {parts : Array (Nat × Value)} {cs : Array Value} (h : TI P t (.slice e) n m z) (he : TI P e d' n' m' z') (hb : len * n' ≤ 2 ^ 24) (h0 : len * n' ≠ 0)
  (hf : Instr.fill (fun i => some (i * n', n')) ((Array.range (len * n')).map (z'.cells[· % z'.cells.size]!)) parts.toList = some cs) :
  B2 P X (Instr.buildSlice t len parts) K w = K (.slice (some ⟨sz w, 0, none⟩) len len) (w.alloc (.cells cs e)) :=
 T6 (by
  have hb' : ¬ (len * n' > 2 ^ 24) := by omega
  simp only [Instr.buildSlice, Sem.run_bind, h.run_und, Result.andThen_ok, he.run_size, hb', if_false, h0, he.run_zero, Sem.run_pure, hf, newRow, run_newObj]
  rfl) (Sk.alloc X w _ (Or.inr ⟨_, _, rfl⟩)) K
theorem B34 {fs : Array Field} {f : Field} (h : TI P t (.struct fs) n m z) {i : Nat} (hf : fs[i]? = some f) (hz : TI P f.type d' n' m' z') (hd : N4 d' = false) {cs : Array Value} {v : Value} (hv : cs[f.offset]? = some v) :
  A0 P (Instr.field t (.agg cs) i) K = K v :=
 F4 (fun w => by simp [Instr.field, h.run_und, hf, asAgg, part, hz.run_agg, hd, hv]) K
theorem k6 (h : TI P t (.slice e) n m z) (a : Option Addr) (len cap : Nat) : A0 P (A8 .len #[t] 0 [.slice a len cap]) K = K (.int .i64 len) :=
 F4 (fun w => by simp [A8, Builtin.len_, h.run_und, goInt]) K
theorem C3D (h : TI P t .string n m z) (s : ByteArray) : A0 P (A8 .len #[t] 0 [.string s]) K = K (.int .i64 s.size) :=
 F4 (fun w => by simp [A8, Builtin.len_, h.run_und, goInt]) K
theorem B8G {len : Nat} (h : TI P t (.array len e) n m z) (he : TI P e d' n' m' z') (b o : Nat) :
  A0 P (Instr.sliceAt t (.pointer (some ⟨b, o, none⟩)) none none none) K = K (.slice (some ⟨b, o, none⟩) len len) :=
 F4 (fun w => by
  simp [Instr.sliceAt, h.run_und, Instr.sliceBounds, he.run_size, Instr.sureAddr, Y7]) K
theorem A1J {k k' : IntKind} {a : Int} (h : TI P t (.int k) n m z) {u : TypeId} {d2 : TypeDesc} {n2 m2 : Nat} {z2 : Value} (h2 : TI P u d2 n2 m2 z2) : A0 P (convert u t (.int k' a)) K = K (.int k (k.wrap a)) :=
 F4 (fun w => by simp only [convert, Sem.run_bind, h2.run_und, h.run_und, Result.andThen_ok]; cases d2 <;> rfl) K
theorem B05 (h : TI P t d n m z) (hd : ∀ ms, d ≠ .interface ms) (v : Value) : A0 P (Instr.makeInterface t v) K = K (.iface t v) :=
 F4 (fun w => by
  simp only [Instr.makeInterface, Sem.run_bind, h.run_und, Result.andThen_ok]
  cases d <;> first | rfl | exact absurd rfl (hd _)) K
theorem C2U (h : TI P t d 1 m z) (hd : N4 d = false) (a : Addr) : A6 P (D9 [.c t (.pointer (some a))]) K w = rdc (w.cell? a) K (A6 P (D9 [.c t (.pointer (some a))]) K) w := by
 cases hc : w.cell? a with
 | none => rfl
 | some v =>
  refine P3 ?_ K
  simp [D9, A1f, RV.sem, asAddr, loadVar, h.run_agg, hd, hc, one]
theorem C2m (h : TI P t d n m z) (hd : N4 d = true) (b o : Nat) : A6 P (D9 [.c t (.pointer (some ⟨b, o, none⟩))]) K w = rdl (b9 w b o n) K (A6 P (D9 [.c t (.pointer (some ⟨b, o, none⟩))]) K) w := by
 cases hc : b9 w b o n with
 | none => rfl
 | some l =>
  obtain ⟨h1, h2⟩ := m9 hc
  refine P3 ?_ K
  have h3 : (loadVar t ⟨b, o, none⟩).run P w = .ok (.agg l.toArray) w := by
   simp only [loadVar, Sem.run_bind, h.run_agg, hd, if_true, Result.andThen_ok, h.run_size, loadCells]
   rw [A5s n 0 #[] l (fun j hj => by simpa using h2 j (by omega)) h1]
   simp
  simp [D9, A1f, RV.sem, asAddr, h3, one]
end
theorem A0C (c : Array Value) (o : Nat) (l : List Value) (h : o + l.length ≤ c.size) : (F1 c o l).toList = c.toList.take o ++ l ++ c.toList.drop (o + l.length) := by
 induction l generalizing c o with
 | nil => simp
 | cons v l ih =>
  simp only [List.length_cons] at h
  rw [B3e, ih _ _ (by simp; omega)]
  have hlt : o < c.toList.length := by simp; omega
  simp only [Array.toList_setIfInBounds, List.length_cons]
  rw [List.take_set, List.drop_set_of_lt (by omega)]
  have e1 : (c.toList.take (o + 1)).set o v = c.toList.take o ++ [v] := by
   rw [List.take_succ_eq_append_getElem hlt, List.set_append_right _ _ (by simp; omega)]
   have : o - (c.toList.take o).length = 0 := by simp; omega
   rw [this]; rfl
  have e2 : o + 1 + l.length = o + (l.length + 1) := by omega
  rw [e1, e2]
  simp
theorem H4 {α : Type} {f : α → List Value} {k : Nat} (hk : ∀ x, (f x).length = k) (l : List α) : (l.flatMap f).length = l.length * k := by
 induction l with
 | nil => simp
 | cons x l ih => simp [hk, ih, Nat.add_mul, Nat.add_comm]
theorem A6r {α : Type} {f : α → List Value} {k : Nat} (hk : ∀ x, (f x).length = k) (l : List α) (i : Nat) : (l.flatMap f).drop (i * k) = (l.drop i).flatMap f := by
 induction i generalizing l with
 | zero => simp
 | succ i ih =>
  cases l with
  | nil => simp
  | cons x l =>
   have e : (i + 1) * k = (f x).length + i * k := by rw [hk, Nat.add_mul]; omega
   rw [List.flatMap_cons, e, ← List.drop_drop, List.drop_left, ih]; rfl
theorem B8T {α : Type} {f : α → List Value} {k : Nat} (hk : ∀ x, (f x).length = k) (l : List α) (i : Nat) : (l.flatMap f).take (i * k) = (l.take i).flatMap f := by
 induction i generalizing l with
 | zero => simp
 | succ i ih =>
  cases l with
  | nil => simp
  | cons x l =>
   have e : (i + 1) * k = (f x).length + i * k := by rw [hk, Nat.add_mul]; omega
   rw [List.flatMap_cons, e, List.take_length_add_append, ih]; rfl
theorem T0 {α : Type} {f : α → List Value} {k : Nat} (hk : ∀ x, (f x).length = k) (l : List α) (i j : Nat) (hj : j < k) : (l.flatMap f)[i * k + j]? = (l[i]?).bind fun x => (f x)[j]? := by
 rw [← List.getElem?_drop, A6r hk]
 cases h : l[i]? with
 | none => rw [List.drop_eq_nil_of_le (List.getElem?_eq_none_iff.1 h)]; rfl
 | some x =>
  obtain ⟨hlt, hx⟩ := List.getElem?_eq_some_iff.1 h
  rw [List.drop_eq_getElem_cons hlt, List.flatMap_cons, List.getElem?_append_left (by rw [hk]; exact hj), hx]; rfl
end Go.Proofs.YtpbmephflllolaaGreat
namespace Go.Proofs.YtpbmephflllolaaGreat
open Go
theorem s6.sk {a b : World} (h : s6 a b) (hk : Sk B4 a b) : a8 a b := h.all hk
theorem a8.drew (w : World) : a8 w w.drew := ⟨Nat.le_refl _, fun _ _ h => h⟩
theorem j1.sz {a b : World} (h : j1 a b) : sz b = sz a := h.1
theorem s6.cell {a b : World} (h : s6 a b) {r o : Nat} {v : Value} (e : a.cell? ⟨r, o, none⟩ = some v) : b.cell? ⟨r, o, none⟩ = some v := by
 obtain ⟨c, T, z, h1, h2⟩ := e8 e
 have h3 : bl b r = some (.cells c T z) := h.2 r _ h1 (by intro lo hh; cases hh)
 rw [H6 h3]; exact h2
theorem s6.row {a b : World} (h : s6 a b) {r o : Nat} {l : List Value} (e : K9 a r o l) : K9 b r o l := by
 intro i hi
 have h1 : a.cell? ⟨r, o + i, none⟩ = some l[i] := by rw [e i hi]; exact List.getElem?_eq_getElem hi
 rw [h.cell h1]; exact (List.getElem?_eq_getElem hi).symm
def A1g (a b : World) : Prop := a.heap.size ≤ b.heap.size ∧ ∀ (r : Nat) o, a.heap[r]? = some o → (∀ lo, o ≠ Obj.loop lo) → (∀ d, o ≠ Obj.deferred d) → b.heap[r]? = some o
theorem A1g.all {a b : World} (h : A1g a b) (hk : Sk B4 a b) : a8 a b := by
 refine ⟨h.1, fun r o e => ?_⟩
 by_cases hl : ∃ lo, o = Obj.loop lo
 ·obtain ⟨lo, rfl⟩ := hl; exact hk.2.2.1 r lo (fun h => h) e
 ·by_cases hd : ∃ d, o = Obj.deferred d
  ·obtain ⟨d, rfl⟩ := hd; exact hk.2.1 r d e
  ·exact h.2 r o e (fun lo hlo => hl ⟨lo, hlo⟩) (fun d hdd => hd ⟨d, hdd⟩)
theorem s6.extD {a b : World} (h : s6 a b) : A1g a b := ⟨h.1, fun r o e n _ => h.2 r o e n⟩
theorem A1g.trans {a b c : World} (h : A1g a b) (h' : A1g b c) : A1g a c := ⟨Nat.le_trans h.1 h'.1, fun r o e n m => h'.2 r o (h.2 r o e n m) n m⟩
theorem U5.extD {a b : World} (h : U5 a b) : A1g a b := ⟨by rw [h.1]; exact Nat.le_refl _, fun r o e _ m => by rw [h.2 r (by rw [e]; intro d hh; exact m d (Option.some.inj hh))]; exact e⟩
theorem A1g.cell {a b : World} (h : A1g a b) {r o : Nat} {v : Value} (e : a.cell? ⟨r, o, none⟩ = some v) : b.cell? ⟨r, o, none⟩ = some v := by
 obtain ⟨c, T, z, h1, h2⟩ := e8 e
 have h3 : bl b r = some (.cells c T z) := h.2 r _ h1 (by intro lo hh; cases hh) (by intro lo hh; cases hh)
 rw [H6 h3]; exact h2
theorem s6.putb {a b : World} (h : s6 a b) {r : Nat} (o : Obj) (hr : sz a ≤ r) : s6 a (World.putb b r o) :=
 ⟨by have := h.1; have := C1c b r o; simp only [sz] at *; omega, fun s x e n => by
  have h1 := h.2 s x e n
  have : s < sz a := G9 e
  have h2 := j5 (w := b) (o := o) (show r ≠ s by omega)
  simp only [bl] at h2; rw [h2]; exact h1⟩
theorem Fn.ext {f : FuncId} {args : Array Value} {w : World} {R : Value → WP} (h : Fn PR B4 f args w (fun v w' => R v w' ∧ A1g w w')) : Fn PR B4 f args w (fun v w' => R v w' ∧ C5 [] w w') :=
 Calls.mono h fun _ w' ⟨v, he, hr, hs⟩ => ⟨v, he, ⟨hr.1, (hr.2.all hs).but _⟩, hs⟩
theorem B9Y {P : Program} {X Y : Nat → Prop} {f : FuncId} {args : List Value} {K : Value → WP} {w : World} (h : w7 P X f args K w) (hx : ∀ r, X r → Y r) : w7 P Y f args K w :=
 ⟨h.1, Calls.mono h.2 fun _ w' ⟨v, he, hr, hs⟩ => ⟨v, he, hr, hs.mono hx⟩⟩
theorem B81 {P : Program} {X : Nat → Prop} {f : FuncId} {args : List Value} {K K' : Value → WP} {w : World} (h : w7 P X f args K w) (hk : ∀ v w', K v w' → Sk X w w' → K' v w') : w7 P X f args K' w :=
 ⟨h.1, Calls.mono h.2 fun _ w' ⟨v, he, hr, hs⟩ => ⟨v, he, hk v w' hr hs, hs⟩⟩
theorem B30 {P : Program} {X : Nat → Prop} {l : Nat} {args : List Value} {K K' : Value → WP} {w : World} (h : yie P X l args K w) (hk : ∀ v w', K v w' → K' v w') : yie P X l args K' w := by
 obtain ⟨f, tmps, asg, body, h1, h2⟩ := h
 exact ⟨f, tmps, asg, body, h1, fun c cs => let ⟨v, w', ⟨a, b⟩, st⟩ := h2 c cs; ⟨v, w', ⟨hk v w' a, b⟩, st⟩⟩
theorem Sk.drw (X : Nat → Prop) (w : World) : Sk X w w.drew := Sk.of_heap rfl
@[simp] theorem C5k (P : Program) (X : Nat → Prop) (l : Nat) (cap : Array Value) (args : List Value) (K : Value → WP) : H9 P X (.func (.yield l) #[] cap) args K = yie P X l args K := by simp [H9]
@[simp] theorem C7W (P : Program) (X : Nat → Prop) (f : FuncId) (first cap : Array Value) (args : List Value) (K : Value → WP) : H9 P X (.func (.func f) first cap) args K = B1 P X f (first.toList ++ args ++ cap.toList) K := rfl
theorem C2l {F : (Value → Value → WP) → Value → Value → WP} {x v : Value} {w : World} (I : Value → Value → WP) (μ : Value → Value → World → Nat) (h0 : I x v w)
  (hs : ∀ x v w, I x v w → ∀ L : Value → Value → WP, (∀ x' v' w', I x' v' w' → μ x' v' w' < μ x v w → L x' v' w') → F L x v w) : lp (n := 2) F x v w := by
 refine ⟨fun vs => match vs with | [a, b] => I a b | _ => E6, fun vs w => match vs with | [a, b] => μ a b w | _ => 0, h0, fun vs w hl hI => ?_⟩
 match vs, hl with
 | [a, b], _ => exact hs a b w hI _ fun x' v' w' h1 h2 => ⟨h1, h2⟩
def num (v : Value) : Int := match v with | .int _ k => k | _ => 0
theorem C7c {F : (Value → Value → WP) → Value → Value → WP} {w : World} {x : Value} (n : Nat) (I : Value → Nat → WP) (h0 : I x 0 w)
  (hs : ∀ x (i : Nat) w, i ≤ n → I x i w → ∀ L : Value → Value → WP, (i < n → ∀ x' w', I x' (i + 1) w' → L x' (.int .i64 ((i : Int) + 1)) w') → F L x (.int .i64 (i : Int)) w) : lp (n := 2) F x (.int .i64 0) w := by
 refine C2l (fun x v w => ∃ i : Nat, v = .int .i64 i ∧ i ≤ n ∧ I x i w) (fun _ v _ => n - (num v).toNat) ⟨0, rfl, Nat.zero_le _, h0⟩ ?_
 rintro x v w ⟨i, rfl, hi, hI⟩ L hL
 refine hs x i w hi hI L fun hlt x' w' hI' => ?_
 refine hL _ _ w' ⟨i + 1, by simp, hlt, hI'⟩ ?_
 simp only [num]; omega
end Go.Proofs.YtpbmephflllolaaGreat
