/- The proof of a given statement, a part of it (Lib Iter). No condition but what each lemma says. -/
import Derived.Laws.World
import Derived.Test.YtpbmephflllolaaGreatE3
set_option linter.unusedVariables false
set_option linter.unusedSimpArgs false
namespace Go.Proofs.YtpbmephflllolaaGreat
open Go
def bl (w : World) (r : Nat) : Option Obj := w.heap[r]?
def sz (w : World) : Nat := w.heap.size
def World.putb (w : World) (b : Nat) (o : Obj) : World := { w with heap := w.heap.setIfInBounds b o }
theorem G3 {w : World} {r : Nat} {o : Obj} (h : bl w r = some o) : r < sz w := (Array.getElem?_eq_some_iff.1 h).1
@[simp] theorem C6a (w : World) (r : Nat) : bl w.drew r = bl w r := rfl
@[simp] theorem C6u (w : World) : sz w.drew = sz w := rfl
@[simp] theorem B12 (w : World) (o : Obj) : sz (w.alloc o) = sz w + 1 := by simp [sz]
@[simp] theorem V3 (w : World) (o : Obj) : bl (w.alloc o) (sz w) = some o := by unfold bl sz World.alloc; simp only [Array.getElem?_push_size]
theorem B9K (w : World) (o : Obj) (r : Nat) : bl (w.alloc o) r = if r = sz w then some o else bl w r := by
 unfold bl sz World.alloc; simp only [Array.getElem?_push]
@[simp] theorem A2j {w : World} {o : Obj} {r : Nat} (h : r < sz w) : bl (w.alloc o) r = bl w r := by rw [B9K, if_neg (by omega)]
@[simp] theorem B96 (w : World) (b : Nat) (o : Obj) : sz (World.putb w b o) = sz w := by simp [sz, World.putb]
@[simp] theorem P3 {w : World} {b : Nat} {o : Obj} (h : b < sz w) : bl (World.putb w b o) b = some o := by
 have h' : b < w.heap.size := h
 simp [bl, World.putb, h']
@[simp] theorem j2 {w : World} {b r : Nat} {o : Obj} (h : b ≠ r) : bl (World.putb w b o) r = bl w r := by
 simp [bl, World.putb, Array.getElem?_setIfInBounds_ne h]
def C4 (S : List Nat) (w w' : World) : Prop := sz w ≤ sz w' ∧ ∀ r o, r ∉ S → bl w r = some o → bl w' r = some o
theorem C4.refl (S : List Nat) (w : World) : C4 S w w := ⟨Nat.le_refl _, fun _ _ _ h => h⟩
theorem C4.trans {S : List Nat} {a b c : World} (h : C4 S a b) (h' : C4 S b c) : C4 S a c := ⟨Nat.le_trans h.1 h'.1, fun r o n e => h'.2 r o n (h.2 r o n e)⟩
theorem C4.mono {S T : List Nat} {a b : World} (h : C4 S a b) (hs : ∀ x ∈ S, x ∈ T) : C4 T a b := ⟨h.1, fun r o n e => h.2 r o (fun hh => n (hs r hh)) e⟩
theorem C4.drew {S : List Nat} {a b : World} (h : C4 S a b) : C4 S a b.drew := h
theorem C4.alloc {S : List Nat} {a b : World} (h : C4 S a b) (o : Obj) : C4 S a (b.alloc o) :=
 ⟨by have := h.1; simp; omega, fun r x n e => by have := h.2 r x n e; rw [A2j (G3 this)]; exact this⟩
theorem C4.putb {S : List Nat} {a b : World} {r : Nat} (h : C4 S a b) (o : Obj) (hr : r ∈ S ∨ sz a ≤ r) : C4 S a (World.putb b r o) :=
 ⟨by have := h.1; simp; omega, fun s x n e => by
  have := h.2 s x n e
  rw [j2]; · exact this
  ·rintro rfl
   rcases hr with hr | hr
   ·exact n hr
   ·have := G3 e; omega⟩
theorem C4.get {S : List Nat} {a b : World} (h : C4 S a b) {r : Nat} {o : Obj} (e : bl a r = some o) (n : r ∉ S) : bl b r = some o := h.2 r o n e
theorem C4.fresh {S T : List Nat} {a b : World} (h : C4 S a b) (hs : ∀ x ∈ S, x ∈ T ∨ sz a ≤ x) : C4 T a b :=
 ⟨h.1, fun r o n e => h.2 r o (fun hh => (hs r hh).elim n fun h2 => by have := G3 e; omega) e⟩
theorem Z7.but {a b : World} (h : Z7 a b) (S : List Nat) : C4 S a b := ⟨h.1, fun r o _ e => h.2 r o e⟩
theorem B3x (w : World) (b o : Nat) : w.cell? ⟨b, o, none⟩ = match bl w b with | some (.cells c _ _) => c[o]? | _ => none := by
 simp only [World.cell?, bl]
 cases w.heap[b]? with
 | none => rfl
 | some x => cases x <;> rfl
theorem G7 {w : World} {b : Nat} {c : Array Value} {T : TypeId} {z : Nat × Nat} (h : bl w b = some (.cells c T z)) (o : Nat) : w.cell? ⟨b, o, none⟩ = c[o]? := by
 rw [B3x, h]
def K8 (w : World) (b o : Nat) (l : List Value) : Prop := ∀ i, i < l.length → w.cell? ⟨b, o + i, none⟩ = l[i]?
theorem K8.of {w : World} {b : Nat} {c : Array Value} {T : TypeId} {z : Nat × Nat} (h : bl w b = some (.cells c T z)) {o n : Nat} : K8 w b o ((c.toList.drop o).take n) := by
 intro i hi
 simp at hi
 rw [G7 h, List.getElem?_take_of_lt (by omega), List.getElem?_drop]; simp
theorem K8.get {w : World} {b o : Nat} {l : List Value} (h : K8 w b o l) {i : Nat} {v : Value} (hv : l[i]? = some v) : w.cell? ⟨b, o + i, none⟩ = some v := by
 rw [h i (List.getElem?_eq_some_iff.1 hv).1, hv]
theorem e9 {w : World} {b o : Nat} {v : Value} (h : w.cell? ⟨b, o, none⟩ = some v) : ∃ c T z, bl w b = some (.cells c T z) ∧ c[o]? = some v := by
 rw [B3x] at h
 cases hb : bl w b with
 | none => rw [hb] at h; cases h
 | some x => rw [hb] at h; cases x <;> first | (cases h; done) | exact ⟨_, _, _, rfl, h⟩
theorem C4.cell {S : List Nat} {a b : World} (h : C4 S a b) {r o : Nat} {v : Value} (e : a.cell? ⟨r, o, none⟩ = some v) (n : r ∉ S) : b.cell? ⟨r, o, none⟩ = some v := by
 obtain ⟨c, T, z, h1, h2⟩ := e9 e
 rw [G7 (h.get h1 n)]; exact h2
theorem C4.row {S : List Nat} {a b : World} (h : C4 S a b) {r o : Nat} {l : List Value} (e : K8 a r o l) (n : r ∉ S) : K8 b r o l := by
 intro i hi
 have h1 : a.cell? ⟨r, o + i, none⟩ = some l[i] := by rw [e i hi]; exact List.getElem?_eq_getElem hi
 rw [h.cell h1 n]; exact (List.getElem?_eq_getElem hi).symm
@[simp] theorem C6x (K : WP) (w : World) : drw K w = K w.drew := rfl
@[simp] theorem C7C {n : Nat} (F : VF WP n) (A : VF WP n → WP) : jn F A = A F := rfl
@[simp] theorem C6e (A B : WP) (w : World) : both A B w = (A w ∧ B w) := rfl
@[simp] theorem B7E (P : Program) (K : WP) : watch P [] K = K := rfl
@[simp] theorem A8Z (P : Program) (s : Sem Value) (v : Value) (l : List Rd) (K : WP) (w : World) : watch P ((none, s, v) :: l) K w = (s.run P w = .ok v w ∧ watch P l K w) := rfl
@[simp] theorem C1E (P : Program) (g : Value) (t : Bool) (s : Sem Value) (v : Value) (l : List Rd) (K : WP) (w : World) : watch P ((some (g, t), s, v) :: l) K w = ((g = .bool t → s.run P w = .ok v w) ∧ watch P l K w) := rfl
@[simp] theorem C6D (b : Bool) (A B : WP) (w : World) : C5 (.bool b) A B w = if b = true then A w else B w := by
 cases b <;> simp [C5]
def V6 : Nat := 0
@[simp] theorem C6r : V6 = 1 - 1 := by unfold V6; exact (Nat.sub_self 1).symm
@[congr] theorem C4V {P : Program} {s s' : Sem Value} {K : Value → WP} (h : s = s') {q : Nat} (hq : V6 = q) : A0 P s K = A0 P s' K := by rw [h]
@[congr] theorem C39 {P : Program} {s s' : Sem Value} {K : Value → WP} (h : s = s') {q : Nat} (hq : V6 = q) : A6 P s K = A6 P s' K := by rw [h]
@[congr] theorem C44 {P : Program} {X : Nat → Prop} {s s' : Sem Value} {K : Value → WP} (h : s = s') {q : Nat} (hq : V6 = q) : B1 P X s K = B1 P X s' K := by rw [h]
@[congr] theorem C4P {P : Program} {X : Nat → Prop} {s s' : Sem Unit} {K : WP} (h : s = s') {q : Nat} (hq : V6 = q) : C3 P X s K = C3 P X s' K := by rw [h]
@[congr] theorem C4L {P : Program} {X : Nat → Prop} {f : FuncId} {l l' : List Value} {K : Value → WP} (h : l = l') {q : Nat} (hq : V6 = q) : B2 P X f l K = B2 P X f l' K := by rw [h]
@[congr] theorem C47 {P : Program} {X : Nat → Prop} {g g' : Value} {l l' : List Value} {K : Value → WP} (hg : g = g') (h : l = l') {q : Nat} (hq : V6 = q) : H3 P X g l K = H3 P X g' l' K := by rw [h, hg]
@[congr] theorem C4n {P : Program} {X : Nat → Prop} {g g' : Value} {s : String} {l l' : List Value} {K : Value → WP} (hg : g = g') (h : l = l') {q : Nat} (hq : V6 = q) : inv P X g s l K = inv P X g' s l' K := by rw [h, hg]
@[congr] theorem C4x {P : Program} {X : Nat → Prop} {g : Nat} {l l' : List Value} {K : Value → WP} (h : l = l') {q : Nat} (hq : V6 = q) : yie P X g l K = yie P X g l' K := by rw [h]
@[congr] theorem C5M {c c' : Value} {A B : WP} (h : c = c') {q : Nat} (hq : V6 = q) : C5 c A B = C5 c' A B := by rw [h]
@[congr] theorem C59 {c c' : Value} {t : Bool} {A : (Value → WP) → WP} {F : Value → WP} (h : c = c') {q : Nat} (hq : V6 = q) : gj c t A F = gj c' t A F := by rw [h]
@[congr] theorem C6T {n : Nat} {F : VF WP n → VF WP n} {q : Nat} (hq : V6 = q) : lp F = lp F := rfl
@[congr] theorem C42 {N : Nat} {P : Program} {X : Nat → Prop} {B : VF ((Option Code → WP) → WP) N} {g g' : Value} {KJ : Option Code → WP} (h : g = g') {q : Nat} (hq : V6 = q) : rng P X B g KJ = rng P X B g' KJ := by rw [h]
@[congr] theorem C5l {n : Nat} {F : VF WP n} {A : VF WP n → WP} {q : Nat} (hq : V6 = q) : jn F A = jn F A := rfl
@[congr] theorem C6J {n : Nat} {F : VF WP n} {A : VF WP n → WP} {q : Nat} (hq : V6 = q) : kt F A = kt F A := rfl
@[congr] theorem C4A {K : WP} {q : Nat} (hq : V6 = q) : drw K = drw K := rfl
@[congr] theorem C4B {K : WP} {q : Nat} (hq : V6 = q) : V5 K = V5 K := rfl
@[congr] theorem C5H {K : WP} {q : Nat} (hq : V6 = q) : bgn K = bgn K := rfl
@[congr] theorem C21 {A B : WP} {q : Nat} (hq : V6 = q) : both A B = both A B := rfl
@[congr] theorem C2S {P : Program} {l l' : List Rd} {K : WP} (h : l = l') {q : Nat} (hq : V6 = q) : watch P l K = watch P l' K := by rw [h]
def rdc (x : Option Value) (K : Value → WP) (F : WP) : WP := match x with | some v => K v | none => F
@[simp] theorem A7x (v : Value) (K : Value → WP) (F : WP) : rdc (some v) K F = K v := id rfl
@[congr] theorem C4W {x x' : Option Value} {K : Value → WP} {F : WP} (h : x = x') {q : Nat} (hq : V6 = q) : rdc x K F = rdc x' K F := by rw [h]
def rdl (x : Option (List Value)) (K : Value → WP) (F : WP) : WP := match x with | some l => K (.agg l.toArray) | none => F
@[simp] theorem A4b (l : List Value) (K : Value → WP) (F : WP) : rdl (some l) K F = K (.agg l.toArray) := id rfl
def d4 (w : World) (b : Nat) : Nat → Nat → Option (List Value)
 | _, 0 => some []
 | o, n + 1 => match w.cell? ⟨b, o, none⟩ with
  | some v => (d4 w b (o + 1) n).map (v :: ·)
  | none => none
@[simp] theorem C4v (w : World) (b o : Nat) : d4 w b o 0 = some [] := rfl
theorem A0f {w : World} {b : Nat} : ∀ {n o : Nat} {l : List Value}, d4 w b o n = some l → l.length = n ∧ K8 w b o l := by
 intro n
 induction n with
 | zero => intro o l h; cases h; exact ⟨rfl, fun i hi => by simp at hi⟩
 | succ n ih =>
  intro o l h
  simp only [d4] at h
  split at h
  ·rename_i v hv
   cases hr : d4 w b (o + 1) n with
   | none => rw [hr] at h; cases h
   | some l' =>
    rw [hr] at h; cases h
    obtain ⟨h1, h2⟩ := ih hr
    refine ⟨by simp [h1], fun i hi => ?_⟩
    cases i with
    | zero => simpa using hv
    | succ i => have := h2 i (by simpa using hi); rw [List.getElem?_cons_succ, ← this]; congr 2; omega
  ·cases h
theorem A13 {w : World} {b o : Nat} {l : List Value} (h : K8 w b o l) : d4 w b o l.length = some l := by
 induction l generalizing o with
 | nil => rfl
 | cons v l ih =>
  have h0 := h 0 (by simp)
  simp only [Nat.add_zero, List.getElem?_cons_zero] at h0
  have h1 : K8 w b (o + 1) l := fun i hi => by have := h (i + 1) (by simpa using hi); rw [List.getElem?_cons_succ] at this; rw [← this]; congr 2; omega
  simp only [List.length_cons, d4, h0, ih h1, Option.map_some]
def far (P : Program) (t : TypeId) (a : Addr) (K : Value → WP) : WP := A6 P (Instr.loadAt t (.pointer (some a))) K
def E2 (c : Array Value) : Nat → List Value → Array Value
 | _, [] => c
 | o, v :: l => E2 (c.setIfInBounds o v) (o + 1) l
@[simp] theorem C0K (c : Array Value) (o : Nat) : E2 c o [] = c := rfl
@[simp] theorem B1k (c : Array Value) (o : Nat) (v : Value) (l : List Value) : E2 c o (v :: l) = E2 (c.setIfInBounds o v) (o + 1) l := rfl
theorem C1 (c : Array Value) (o : Nat) (l : List Value) : (E2 c o l).size = c.size := by
 induction l generalizing c o with
 | nil => rfl
 | cons v l ih => simp [E2, ih]
def plain : Value → Bool
 | .agg _ | .tuple _ => false
 | _ => true
@[simp] theorem C4T (k : IntKind) (n : Int) : plain (.int k n) = true := rfl
@[simp] theorem C2Y (n : Bool) : plain (.bool n) = true := rfl
@[simp] theorem C2J (n : ByteArray) : plain (.string n) = true := rfl
@[simp] theorem C05 (n : Option Addr) : plain (.pointer n) = true := rfl
@[simp] theorem C2L (n : Option Addr) (l c : Nat) : plain (.slice n l c) = true := rfl
@[simp] theorem C5E (n : Option Nat) : plain (.map n) = true := rfl
@[simp] theorem C26 (n : Go.Fn) (l c : Array Value) : plain (.func n l c) = true := rfl
@[simp] theorem C08 : plain .nilFunc = true := rfl
@[simp] theorem C0s : plain .nilIface = true := rfl
@[simp] theorem C2N (t : TypeId) (v : Value) : plain (.iface t v) = true := rfl
def stc (b o : Nat) (l : List Value) (x : Option Obj) (K : WP) (F : WP) : WP := match x with
 | some (.cells c T (0, 0)) => fun w => if o + l.length ≤ c.size ∧ l.all plain = true then K (World.putb w b (.cells (E2 c o l) T (0, 0))) else F w
 | _ => F
@[simp] theorem C5k (b o : Nat) (l : List Value) (c : Array Value) (T : TypeId) (K F : WP) (w : World) :
  stc b o l (some (.cells c T (0, 0))) K F w = if o + l.length ≤ c.size ∧ l.all plain = true then K (World.putb w b (.cells (E2 c o l) T (0, 0))) else F w := rfl
def C6H (P : Program) (X : Nat → Prop) (t : TypeId) (b o : Nat) (v : Value) (K : WP) : WP := C3 P X (Instr.storeAt t (.pointer (some ⟨b, o, none⟩)) v) K
@[simp] theorem C4F (k : IntKind) (n : Int) : (Value.int k n).cells = #[.int k n] := rfl
@[simp] theorem C3q (n : Bool) : (Value.bool n).cells = #[.bool n] := rfl
@[simp] theorem C1A (n : ByteArray) : (Value.string n).cells = #[.string n] := rfl
@[simp] theorem C07 (n : Option Addr) : (Value.pointer n).cells = #[.pointer n] := rfl
@[simp] theorem C2M (n : Option Addr) (l c : Nat) : (Value.slice n l c).cells = #[.slice n l c] := rfl
@[simp] theorem C36 (n : Option Nat) : (Value.map n).cells = #[.map n] := rfl
@[simp] theorem C25 (n : Go.Fn) (l c : Array Value) : (Value.func n l c).cells = #[.func n l c] := rfl
@[simp] theorem C06 : (Value.nilFunc).cells = #[.nilFunc] := rfl
@[simp] theorem C03 : (Value.nilIface).cells = #[.nilIface] := rfl
@[simp] theorem C2W (t : TypeId) (v : Value) : (Value.iface t v).cells = #[.iface t v] := rfl
@[simp] theorem C4d (cs : Array Value) : (Value.agg cs).cells = cs := rfl
theorem E6 {P : Program} {s : Sem Value} {v : Value} (h : ∀ w, s.run P w = .ok v w) (K : Value → WP) : A0 P s K = K v := by
 funext w
 refine propext ⟨fun ⟨v', h1, h2⟩ => ?_, fun hk => ⟨v, h, hk⟩⟩
 have := h1 w; rw [h w] at this; cases this; exact h2
theorem S5 {P : Program} {s : Sem Value} {v : Value} {w : World} (h : s.run P w = .ok v w) (K : Value → WP) : A6 P s K w = K v w := by
 refine propext ⟨fun ⟨v', h1, h2⟩ => ?_, fun hk => ⟨v, h, hk⟩⟩
 rw [h] at h1; cases h1; exact h2
theorem T5 {P : Program} {X : Nat → Prop} {s : Sem Value} {v : Value} {w w' : World} (h : s.run P w = .ok v w') (hs : Sk X w w') (K : Value → WP) : B1 P X s K w = K v w' := by
 refine propext ⟨fun ⟨v', w'', h1, h2, h3⟩ => ?_, fun hk => ⟨v, w', h, hs, hk⟩⟩
 rw [h] at h1; cases h1; exact h3
theorem B6T {P : Program} {X : Nat → Prop} {s : Sem Unit} {w w' : World} (h : s.run P w = .ok () w') (hs : Sk X w w') (K : WP) : C3 P X s K w = K w' := by
 refine propext ⟨fun ⟨w'', h1, h2, h3⟩ => ?_, fun hk => ⟨w', h, hs, hk⟩⟩
 rw [h] at h1; cases h1; exact h3
theorem B5Q (w : World) {o : Obj} (ho : soft (some o) = true ∨ ∃ c t, o = .cells c t (0, 0)) : f8 w (w.alloc o) := ⟨rfl, rfl⟩
theorem Sk.alloc (X : Nat → Prop) (w : World) (o : Obj) (ho : soft (some o) = true ∨ ∃ c t, o = .cells c t (0, 0)) : Sk X w (w.alloc o) := by
 have h : ∀ (r : Nat) x, w.heap[r]? = some x → (w.alloc o).heap[r]? = some x := fun r x e => by
  have := A2j (o := o) (G3 (w := w) e); exact this.trans e
 exact ⟨by simp, fun r d => h r _, fun r lo _ => h r _, B5Q w ho⟩
theorem B65 {w : World} {b : Nat} {c c' : Array Value} {T T' : TypeId} {z : Nat × Nat} (h : bl w b = some (.cells c T z)) : f8 w (World.putb w b (.cells c' T' z)) := ⟨rfl, rfl⟩
theorem Sk.putb (X : Nat → Prop) {w : World} {b : Nat} {c c' : Array Value} {T T' : TypeId} {z : Nat × Nat} (h : bl w b = some (.cells c T z)) : Sk X w (World.putb w b (.cells c' T' z)) := by
 have h2 : ∀ (r : Nat) x, (∀ c T z, x ≠ Obj.cells c T z) → w.heap[r]? = some x → (World.putb w b (.cells c' T' z)).heap[r]? = some x := fun r x hx e => by
  have : b ≠ r := by rintro rfl; rw [bl, e] at h; cases h; exact hx _ _ _ rfl
  exact (j2 (w := w) (o := .cells c' T' z) this).trans e
 exact ⟨by simp [World.putb], fun r d => h2 r _ (by simp), fun r lo _ => h2 r _ (by simp), B65 h⟩
section
variable {P : Program} {k j : IntKind} {a b : Int} {t : TypeId} {K : Value → WP}
@[simp] theorem C7H : A0 P (binOp .lss t (.int k a) (.int k b)) K = K (.bool (decide (a < b))) := E6 (fun w => by simp [binOp, Op.intCmp]) K
@[simp] theorem C7T : A0 P (binOp .leq t (.int k a) (.int k b)) K = K (.bool (decide (a ≤ b))) := E6 (fun w => by simp [binOp, Op.intCmp]) K
@[simp] theorem C7P : A0 P (binOp .gtr t (.int k a) (.int k b)) K = K (.bool (decide (b < a))) := E6 (fun w => by simp [binOp, Op.intCmp]) K
@[simp] theorem C69 : A0 P (binOp .geq t (.int k a) (.int k b)) K = K (.bool (decide (b ≤ a))) := E6 (fun w => by simp [binOp, Op.intCmp]) K
theorem A9z (a b : Int) : (a == b) = decide (a = b) := by by_cases h : a = b <;> simp [h]
@[simp] theorem C7G : A0 P (binOp .eql t (.int k a) (.int k b)) K = K (.bool (decide (a = b))) := E6 (fun w => by simp [binOp, Op.intCmp, A9z]) K
@[simp] theorem C7D : A0 P (binOp .neq t (.int k a) (.int k b)) K = K (.bool (decide (a ≠ b))) := E6 (fun w => by simp [binOp, Op.intCmp, bne, A9z]) K
@[simp] theorem C7A : A0 P (binOp .add t (.int k a) (.int k b)) K = K (.int k (k.wrap (a + b))) := E6 (fun w => by simp [binOp, Op.intArith]) K
@[simp] theorem C7K : A0 P (binOp .sub t (.int k a) (.int k b)) K = K (.int k (k.wrap (a - b))) := E6 (fun w => by simp [binOp, Op.intArith]) K
@[simp] theorem C68 : A0 P (binOp .mul t (.int k a) (.int k b)) K = K (.int k (k.wrap (a * b))) := E6 (fun w => by simp [binOp, Op.intArith]) K
theorem A1z (h : b ≠ 0) : A0 P (binOp .rem t (.int k a) (.int k b)) K = K (.int k (a.tmod b)) := E6 (fun w => by simp [binOp, Op.intDiv, h]) K
@[simp] theorem C7S (b : Bool) : A0 P (Op.unary .not (.bool b)) K = K (.bool !b) := E6 (fun w => by simp [Op.unary]) K
@[simp] theorem C7J (ts : Array TypeId) : A0 P (A8 .min ts 0 [.int k a, .int j b]) K = K (.int k (min a b)) :=
 E6 (fun w => by simp [A8, Builtin.min_, Builtin.min2]; omega) K
@[simp] theorem C7F (ts : Array TypeId) : A0 P (A8 .max ts 0 [.int k a, .int j b]) K = K (.int k (max a b)) :=
 E6 (fun w => by simp [A8, Builtin.max_, Builtin.max2]; omega) K
@[simp] theorem C5A (ad : Addr) : A0 P (F5 (.pointer (some ad))) K = K (.pointer (some ad)) := E6 (fun w => by simp [F5]) K
@[simp] theorem C6z (fn : Go.Fn) (x y : Array Value) : A0 P (Instr.makeFunc fn x y) K = K (.func fn x y) := E6 (fun w => by simp [Instr.makeFunc]) K
theorem A0z {vs : Array Value} {i : Nat} {v : Value} (h : vs[i]? = some v) : A0 P (Instr.extract (.tuple vs) i) K = K v := E6 (fun w => by simp [Instr.extract, h]) K
@[simp] theorem B2S (x y : Value) : A0 P (Instr.extract (.tuple #[x, y]) 0) K = K x := A0z rfl
@[simp] theorem B1v (x y : Value) : A0 P (Instr.extract (.tuple #[x, y]) 1) K = K y := A0z rfl
@[simp] theorem C15 (x y z : Value) : A0 P (Instr.extract (.tuple #[x, y, z]) 0) K = K x := A0z rfl
@[simp] theorem C1e (x y z : Value) : A0 P (Instr.extract (.tuple #[x, y, z]) 1) K = K y := A0z rfl
@[simp] theorem C1B (x y z : Value) : A0 P (Instr.extract (.tuple #[x, y, z]) 2) K = K z := A0z rfl
end
@[simp] theorem y8 {n : Int} (h1 : -9223372036854775808 ≤ n) (h2 : n ≤ 9223372036854775807) : IntKind.i64.wrap n = n := by
 simp [IntKind.wrap, IntKind.bits, IntKind.signed]; omega
structure TI (P : Program) (t : TypeId) (d : TypeDesc) (n m : Nat) (z : Value) : Prop where
 und : P.underlying t = some d
 info : ∃ i, P.info? t = some i ∧ i.size = n ∧ i.bytes = m ∧ i.zero = some z
def N2 : TypeDesc → Bool
 | .struct _ | .array .. => true
 | _ => false
section
variable {P : Program} {X : Nat → Prop} {t e : TypeId} {d d' : TypeDesc} {n m n' m' : Nat} {z z' : Value} {K : Value → WP} {w : World}
theorem TI.run_und (h : TI P t d n m z) : (underlying t).run P w = .ok d w := by simp [underlying, h.und]
theorem TI.run_size (h : TI P t d n m z) : (sizeOf t).run P w = .ok n w := by obtain ⟨i, h1, h2, _, _⟩ := h.info; simp [sizeOf, typeInfo, h1, h2]
theorem TI.run_zero (h : TI P t d n m z) : (zeroValue t).run P w = .ok z w := by obtain ⟨i, h1, _, _, h2⟩ := h.info; simp [zeroValue, typeInfo, h1, h2]
theorem TI.run_agg (h : TI P t d n m z) : (isAgg t).run P w = .ok (N2 d) w := by
 simp only [isAgg, Sem.run_bind, h.run_und, Result.andThen_ok]
 cases d <;> rfl
theorem Y3 (b o n : Nat) : (⟨b, o, none⟩ : Addr).add n = ⟨b, o + n, none⟩ := by
 unfold Addr.add; split
 ·rename_i h; simp [h]
 ·rfl
theorem B4 {fs : Array Field} {f : Field} (h : TI P t (.struct fs) n m z) {i : Nat} (hf : fs[i]? = some f) (hz : ∃ d' n' m' z', TI P f.type d' (n' + 1) m' z') (b o : Nat) :
  A0 P (Instr.fieldAt t (.pointer (some ⟨b, o, none⟩)) i) K = K (.pointer (some ⟨b, o + f.offset, none⟩)) :=
 E6 (fun w => by
  obtain ⟨d', n', m', z', hz⟩ := hz
  simp [Instr.fieldAt, h.run_und, hf, Instr.sureAddr, fieldPlace, hz.run_size, Y3]) K
theorem N8 (h : TI P t (.slice e) n m z) (he : TI P e d' n' m' z') {k : IntKind} {i : Int} {len cap : Nat} (h0 : 0 ≤ i) (h1 : i < len) (b o : Nat) :
  A0 P (Instr.indexAt t (.slice (some ⟨b, o, none⟩) len cap) (.int k i)) K = K (.pointer (some ⟨b, o + i.toNat * n', none⟩)) :=
 E6 (fun w => by simp [Instr.indexAt, asIntOf, h.run_und, h0, h1, he.run_size, Y3]) K
theorem B5P {len : Nat} (h : TI P t (.array len e) n m z) (he : TI P e d' n' m' z') {k : IntKind} {i : Int} (h0 : 0 ≤ i) (h1 : i < len) (b o : Nat) :
  A0 P (Instr.indexAt t (.pointer (some ⟨b, o, none⟩)) (.int k i)) K = K (.pointer (some ⟨b, o + i.toNat * n', none⟩)) :=
 E6 (fun w => by simp [Instr.indexAt, asIntOf, h.run_und, h0, h1, he.run_size, Y3, Instr.sureAddr]) K
theorem w8 (h : TI P t d n m z) (hd : N2 d = false) {a : Addr} {v : Value} (hc : w.cell? a = some v) : (Instr.loadAt t (.pointer (some a))).run P w = .ok v w := by
 simp [Instr.loadAt, Instr.sureAddr, loadVar, h.run_agg, hd, hc]
theorem C0F (h : TI P t d n m z) (hd : N2 d = false) {a : Addr} {v : Value} (hc : w.cell? a = some v) : A6 P (Instr.loadAt t (.pointer (some a))) K w = K v w :=
 S5 (w8 h hd hc) K
theorem A49 {b o : Nat} : ∀ (n i : Nat) (acc : Array Value) (l : List Value), (∀ j, j < n → w.cell? ⟨b, o + (i + j), none⟩ = l[j]?) → l.length = n →
  (loadCellsFrom ⟨b, o, none⟩ i n acc).run P w = .ok (acc ++ l.toArray) w := by
 intro n
 induction n with
 | zero => intro i acc l _ hl; rw [List.length_eq_zero_iff.1 hl]; simp [loadCellsFrom]
 | succ n ih =>
  intro i acc l h hl
  match l, hl with
  | v :: l, hl =>
   have h0 := h 0 (by omega)
   simp only [List.getElem?_cons_zero, Nat.add_zero] at h0
   simp only [loadCellsFrom, Y3, Sem.run_bind, run_load, h0, Result.andThen_ok]
   rw [ih (i + 1) (acc.push v) l (fun j hj => by have := h (j + 1) (by omega); rw [List.getElem?_cons_succ] at this; rw [← this]; congr 2; omega) (by simpa using hl)]
   simp
theorem A2u (h : TI P t d n m z) (hd : N2 d = true) {b o : Nat} {l : List Value} (hl : l.length = n) (hr : K8 w b o l) :
  (Instr.loadAt t (.pointer (some ⟨b, o, none⟩))).run P w = .ok (.agg l.toArray) w := by
 simp only [Instr.loadAt, Instr.sureAddr, loadVar, Sem.run_bind, Sem.run_pure, Result.andThen_ok, h.run_agg, hd, if_true, h.run_size, loadCells]
 rw [A49 n 0 #[] l (fun j hj => by simpa using hr j (by omega)) hl]
 simp
theorem C0u (h : TI P t d n m z) (hd : N2 d = true) {b o : Nat} {l : List Value} (hl : l.length = n) (hr : K8 w b o l) :
  A6 P (Instr.loadAt t (.pointer (some ⟨b, o, none⟩))) K w = K (.agg l.toArray) w := S5 (A2u h hd hl hr) K
theorem C0l (h : TI P t d n m z) : B1 P X (Instr.alloc t true (.tuple #[])) K w = K (.pointer (some ⟨sz w, 0, none⟩)) (w.alloc (.cells z.cells t)) :=
 T5 (by simp [Instr.alloc, h.run_zero, newVar, newRow, newObj, Sem.run]; rfl) (Sk.alloc X w _ (Or.inr ⟨_, _, rfl⟩)) K
@[simp] theorem B5Y (v : Value) : B1 P X (Instr.box t v) K w = K (.pointer (some ⟨sz w, 0, none⟩)) (w.alloc (.cells v.cells t)) :=
 T5 (by simp [Instr.box, newVar, newRow, newObj, Sem.run]; rfl) (Sk.alloc X w _ (Or.inr ⟨_, _, rfl⟩)) K
theorem B1r (h : TI P t d 1 m z) (hd : N2 d = false) (a : Addr) : A6 P (Instr.loadAt t (.pointer (some a))) K w = rdc (w.cell? a) K (far P t a K) w := by
 cases hc : w.cell? a with
 | none => rfl
 | some v => rw [C0F h hd hc]; rfl
theorem B5U (h : TI P t d n m z) (hd : N2 d = true) (b o : Nat) : A6 P (Instr.loadAt t (.pointer (some ⟨b, o, none⟩))) K w = rdl (d4 w b o n) K (far P t ⟨b, o, none⟩ K) w := by
 cases hc : d4 w b o n with
 | none => rfl
 | some l => obtain ⟨h1, h2⟩ := A0f hc; rw [C0u h hd h1 h2]; rfl
theorem c8 {b : Nat} {T : TypeId} {o0 : Nat} : ∀ (l : List Value) (i : Nat) (w : World) (c : Array Value), bl w b = some (.cells c T (0, 0)) → o0 + i + l.length ≤ c.size → l.all plain = true →
  (storeCells ⟨b, o0, none⟩ l i).run P w = .ok () (World.putb w b (.cells (E2 c (o0 + i) l) T (0, 0))) := by
 intro l
 induction l with
 | nil =>
  intro i w c hb _ _
  have : World.putb w b (.cells (E2 c (o0 + i) []) T (0, 0)) = w := by
   simp only [C0K, World.putb]
   have h1 : w.heap.setIfInBounds b (.cells c T (0, 0)) = w.heap := by
    apply Array.ext_getElem?
    intro r
    by_cases hr : b = r
    ·subst hr
     have hlt := (Array.getElem?_eq_some_iff.1 hb).1
     rw [Array.getElem?_setIfInBounds_self_of_lt hlt]; exact hb.symm
    ·rw [Array.getElem?_setIfInBounds_ne hr]
   rw [h1]
  rw [this]; rfl
 | cons v l ih =>
  intro i w c hb hs hp
  simp only [List.all_cons, Bool.and_eq_true] at hp
  simp only [List.length_cons] at hs
  have hlt : b < sz w := G3 hb
  have hc : w.cell? ⟨b, o0 + i, none⟩ = some (c[o0 + i]'(by omega)) := by rw [G7 hb]; exact Array.getElem?_eq_getElem (by omega)
  have hf : w.frozen? ⟨b, o0 + i, none⟩ = false := by
   have : w.heap[b]? = some (.cells c T (0, 0)) := hb
   simp [World.frozen?, this]
  have hset : w.setCell ⟨b, o0 + i, none⟩ v = World.putb w b (.cells (c.setIfInBounds (o0 + i) v) T (0, 0)) := by
   unfold World.setCell World.putb
   congr 1
   apply Array.ext_getElem?
   intro r
   rw [Array.getElem?_modify]
   by_cases hr : b = r
   ·subst hr
    have : w.heap[b]? = some (.cells c T (0, 0)) := hb
    rw [Array.getElem?_setIfInBounds_self_of_lt (show b < w.heap.size from hlt)]
    simp [this]
   ·rw [Array.getElem?_setIfInBounds_ne hr]; simp [hr]
  have hv : v.oneCell' = true := by cases v <;> first | rfl | (exact absurd hp.1 (by simp [plain]))
  have h1 : (store (Addr.add ⟨b, o0, none⟩ i) v).run P w = .ok () (World.putb w b (.cells (c.setIfInBounds (o0 + i) v) T (0, 0))) := by
   rw [Y3, run_store P w _ v .plain hv, hc]
   simp [hf, hset]
  simp only [storeCells, Sem.run_bind, h1, Result.andThen_ok]
  have hb2 : bl (World.putb w b (.cells (c.setIfInBounds (o0 + i) v) T (0, 0))) b = some (.cells (c.setIfInBounds (o0 + i) v) T (0, 0)) := P3 hlt
  rw [ih (i + 1) _ _ hb2 (by simp; omega) hp.2]
  have : World.putb (World.putb w b (.cells (c.setIfInBounds (o0 + i) v) T (0, 0))) b (.cells (E2 (c.setIfInBounds (o0 + i) v) (o0 + (i + 1)) l) T (0, 0)) =
    World.putb w b (.cells (E2 c (o0 + i) (v :: l)) T (0, 0)) := by
   simp [World.putb, Nat.add_assoc]
  rw [this]
theorem C1G (h : TI P t d n m z) (v : Value) (hv : v.cells.size = n) (b o : Nat) (K : WP) : C3 P X (Instr.storeAt t (.pointer (some ⟨b, o, none⟩)) v) K w = stc b o v.cells.toList (bl w b) K (C6H P X t b o v K) w := by
 cases hb : bl w b with
 | none => rfl
 | some x =>
  cases x <;> first | rfl | skip
  rename_i c T fz
  obtain ⟨lo, hi⟩ := fz
  match lo, hi with
  | 0, 0 =>
   simp only [stc]
   split
   ·rename_i hc
    refine B6T ?_ (Sk.putb X hb) K
    have := c8 (P := P) (o0 := o) v.cells.toList 0 w c hb (by simpa using hc.1) hc.2
    have hne : ¬ v.cells.size ≠ n := by simp [hv]
    simp only [Instr.storeAt, Instr.sureAddr, storeVar, Sem.run_bind, Sem.run_pure, Result.andThen_ok, h.run_size, hne, if_false]
    simpa using this
   ·rfl
  | 0, _ + 1 => rfl
  | _ + 1, _ => rfl
theorem B6p (l : List Value) : ∀ (cs : Array Value) (o i : Nat), (l.zipIdx i).foldl (fun cs (p : Value × Nat) => cs.setIfInBounds (o + p.2) p.1) cs = E2 cs (o + i) l := by
 induction l with
 | nil => intro cs o i; rfl
 | cons v l ih => intro cs o i; simp only [List.zipIdx_cons, List.foldl_cons, E2]; rw [ih]; rfl
theorem B8 {pl : Nat → Option (Nat × Nat)} {cs : Array Value} {i o s : Nat} {v : Value} {l : List (Nat × Value)} (h : pl i = some (o, s)) (hs : v.cells.size = s) (ho : o + s ≤ cs.size) :
  Instr.fill pl cs ((i, v) :: l) = Instr.fill pl (E2 cs o v.cells.toList) l := by
 simp only [Instr.fill, h]
 have h1 : (v.cells.size ≠ s || decide (o + v.cells.size > cs.size)) = false := by simp [hs]; omega
 simp only [h1]
 have h2 := B6p v.cells.toList cs o 0
 simp only [Bool.false_eq_true, if_false]
 rw [← Array.foldl_toList]
 simp only [Array.toList_zipIdx]
 rw [h2]; rfl
theorem E8 {fs : Array Field} {pl : Array (Nat × Nat)} {parts : Array (Nat × Value)} {cs : Array Value} (h : TI P t (.struct fs) n m z)
  (hp : ∀ w, (fs.mapM (fun f => do pure (f.offset, ← sizeOf f.type) : Field → Sem (Nat × Nat))).run P w = .ok pl w) (hf : Instr.fill (pl[·]?) z.cells parts.toList = some cs) :
  A0 P (Instr.build t parts) K = K (.agg cs) :=
 E6 (fun w => by
  have hp := hp w
  simp only [Instr.build, Sem.run_bind, h.run_zero, Result.andThen_ok, h.run_und, hp, hf, Sem.run_pure]) K
theorem A6k {len : Nat} {parts : Array (Nat × Value)} {cs : Array Value} (h : TI P t (.slice e) n m z) (he : TI P e d' n' m' z') (hb : len * n' ≤ 2 ^ 24) (h0 : len * n' ≠ 0)
  (hf : Instr.fill (fun i => some (i * n', n')) ((Array.range (len * n')).map (z'.cells[· % z'.cells.size]!)) parts.toList = some cs) :
  B1 P X (Instr.buildSlice t len parts) K w = K (.slice (some ⟨sz w, 0, none⟩) len len) (w.alloc (.cells cs e)) :=
 T5 (by
  have hb' : ¬ (len * n' > 2 ^ 24) := by omega
  simp only [Instr.buildSlice, Sem.run_bind, h.run_und, Result.andThen_ok, he.run_size, hb', if_false, h0, he.run_zero, Sem.run_pure, hf, newRow, run_newObj]
  rfl) (Sk.alloc X w _ (Or.inr ⟨_, _, rfl⟩)) K
theorem B9E {fs : Array Field} {f : Field} (h : TI P t (.struct fs) n m z) {i : Nat} (hf : fs[i]? = some f) (hz : TI P f.type d' n' m' z') (hd : N2 d' = false) {cs : Array Value} {v : Value} (hv : cs[f.offset]? = some v) :
  A0 P (Instr.field t (.agg cs) i) K = K v :=
 E6 (fun w => by simp [Instr.field, h.run_und, hf, asAgg, part, hz.run_agg, hd, hv]) K
theorem m7 (h : TI P t (.slice e) n m z) (a : Option Addr) (len cap : Nat) : A0 P (A8 .len #[t] 0 [.slice a len cap]) K = K (.int .i64 len) :=
 E6 (fun w => by simp [A8, Builtin.len_, h.run_und, goInt]) K
theorem C1y (h : TI P t .string n m z) (s : ByteArray) : A0 P (A8 .len #[t] 0 [.string s]) K = K (.int .i64 s.size) :=
 E6 (fun w => by simp [A8, Builtin.len_, h.run_und, goInt]) K
theorem B66 {len : Nat} (h : TI P t (.array len e) n m z) (he : TI P e d' n' m' z') (b o : Nat) :
  A0 P (Instr.sliceAt t (.pointer (some ⟨b, o, none⟩)) none none none) K = K (.slice (some ⟨b, o, none⟩) len len) :=
 E6 (fun w => by
  simp [Instr.sliceAt, h.run_und, Instr.sliceBounds, he.run_size, Instr.sureAddr, Y3]) K
theorem A1K {k k' : IntKind} {a : Int} (h : TI P t (.int k) n m z) {u : TypeId} {d2 : TypeDesc} {n2 m2 : Nat} {z2 : Value} (h2 : TI P u d2 n2 m2 z2) : A0 P (convert u t (.int k' a)) K = K (.int k (k.wrap a)) :=
 E6 (fun w => by simp only [convert, Sem.run_bind, h2.run_und, h.run_und, Result.andThen_ok]; cases d2 <;> rfl) K
theorem B0V (h : TI P t d n m z) (hd : ∀ ms, d ≠ .interface ms) (v : Value) : A0 P (Instr.makeInterface t v) K = K (.iface t v) :=
 E6 (fun w => by
  simp only [Instr.makeInterface, Sem.run_bind, h.run_und, Result.andThen_ok]
  cases d <;> first | rfl | exact absurd rfl (hd _)) K
theorem C1u (h : TI P t d 1 m z) (hd : N2 d = false) (a : Addr) : A6 P (E3 [.c t (.pointer (some a))]) K w = rdc (w.cell? a) K (A6 P (E3 [.c t (.pointer (some a))]) K) w := by
 cases hc : w.cell? a with
 | none => rfl
 | some v =>
  refine S5 ?_ K
  simp [E3, A2U, RV.sem, asAddr, loadVar, h.run_agg, hd, hc, one]
theorem C1q (h : TI P t d n m z) (hd : N2 d = true) (b o : Nat) : A6 P (E3 [.c t (.pointer (some ⟨b, o, none⟩))]) K w = rdl (d4 w b o n) K (A6 P (E3 [.c t (.pointer (some ⟨b, o, none⟩))]) K) w := by
 cases hc : d4 w b o n with
 | none => rfl
 | some l =>
  obtain ⟨h1, h2⟩ := A0f hc
  refine S5 ?_ K
  have h3 : (loadVar t ⟨b, o, none⟩).run P w = .ok (.agg l.toArray) w := by
   simp only [loadVar, Sem.run_bind, h.run_agg, hd, if_true, Result.andThen_ok, h.run_size, loadCells]
   rw [A49 n 0 #[] l (fun j hj => by simpa using h2 j (by omega)) h1]
   simp
  simp [E3, A2U, RV.sem, asAddr, h3, one]
end
theorem A0J (c : Array Value) (o : Nat) (l : List Value) (h : o + l.length ≤ c.size) : (E2 c o l).toList = c.toList.take o ++ l ++ c.toList.drop (o + l.length) := by
 induction l generalizing c o with
 | nil => simp
 | cons v l ih =>
  simp only [List.length_cons] at h
  rw [B1k, ih _ _ (by simp; omega)]
  have hlt : o < c.toList.length := by simp; omega
  simp only [Array.toList_setIfInBounds, List.length_cons]
  rw [List.take_set, List.drop_set_of_lt (by omega)]
  have e1 : (c.toList.take (o + 1)).set o v = c.toList.take o ++ [v] := by
   rw [List.take_succ_eq_append_getElem hlt, List.set_append_right _ _ (by simp; omega)]
   have : o - (c.toList.take o).length = 0 := by simp; omega
   rw [this]; rfl
  have e2 : o + 1 + l.length = o + (l.length + 1) := by omega
  rw [e1, e2]
  simp
theorem Q6 {α : Type} {f : α → List Value} {k : Nat} (hk : ∀ x, (f x).length = k) (l : List α) : (l.flatMap f).length = l.length * k := by
 induction l with
 | nil => simp
 | cons x l ih => simp [hk, ih, Nat.add_mul, Nat.add_comm]
theorem A6Q {α : Type} {f : α → List Value} {k : Nat} (hk : ∀ x, (f x).length = k) (l : List α) (i : Nat) : (l.flatMap f).drop (i * k) = (l.drop i).flatMap f := by
 induction i generalizing l with
 | zero => simp
 | succ i ih =>
  cases l with
  | nil => simp
  | cons x l =>
   have e : (i + 1) * k = (f x).length + i * k := by rw [hk, Nat.add_mul]; omega
   rw [List.flatMap_cons, e, ← List.drop_drop, List.drop_left, ih]; rfl
theorem B6q {α : Type} {f : α → List Value} {k : Nat} (hk : ∀ x, (f x).length = k) (l : List α) (i : Nat) : (l.flatMap f).take (i * k) = (l.take i).flatMap f := by
 induction i generalizing l with
 | zero => simp
 | succ i ih =>
  cases l with
  | nil => simp
  | cons x l =>
   have e : (i + 1) * k = (f x).length + i * k := by rw [hk, Nat.add_mul]; omega
   rw [List.flatMap_cons, e, List.take_length_add_append, ih]; rfl
theorem A2g {α : Type} {f : α → List Value} {k : Nat} (hk : ∀ x, (f x).length = k) (l : List α) (i j : Nat) (hj : j < k) : (l.flatMap f)[i * k + j]? = (l[i]?).bind fun x => (f x)[j]? := by
 rw [← List.getElem?_drop, A6Q hk]
 cases h : l[i]? with
 | none => rw [List.drop_eq_nil_of_le (List.getElem?_eq_none_iff.1 h)]; rfl
 | some x =>
  obtain ⟨hlt, hx⟩ := List.getElem?_eq_some_iff.1 h
  rw [List.drop_eq_getElem_cons hlt, List.flatMap_cons, List.getElem?_append_left (by rw [hk]; exact hj), hx]; rfl
end Go.Proofs.YtpbmephflllolaaGreat
namespace Go.Proofs.YtpbmephflllolaaGreat
open Go
theorem q9.sk {a b : World} (h : q9 a b) (hk : Sk B5 a b) : Z7 a b := h.all hk
theorem Z7.drew (w : World) : Z7 w w.drew := ⟨Nat.le_refl _, fun _ _ h => h⟩
theorem j1.sz {a b : World} (h : j1 a b) : sz b = sz a := h.1
theorem q9.cell {a b : World} (h : q9 a b) {r o : Nat} {v : Value} (e : a.cell? ⟨r, o, none⟩ = some v) : b.cell? ⟨r, o, none⟩ = some v := by
 obtain ⟨c, T, z, h1, h2⟩ := e9 e
 have h3 : bl b r = some (.cells c T z) := h.2 r _ h1 (by intro lo hh; cases hh)
 rw [G7 h3]; exact h2
theorem q9.row {a b : World} (h : q9 a b) {r o : Nat} {l : List Value} (e : K8 a r o l) : K8 b r o l := by
 intro i hi
 have h1 : a.cell? ⟨r, o + i, none⟩ = some l[i] := by rw [e i hi]; exact List.getElem?_eq_getElem hi
 rw [h.cell h1]; exact (List.getElem?_eq_getElem hi).symm
def A1Q (a b : World) : Prop := a.heap.size ≤ b.heap.size ∧ ∀ (r : Nat) o, a.heap[r]? = some o → (∀ lo, o ≠ Obj.loop lo) → (∀ d, o ≠ Obj.deferred d) → b.heap[r]? = some o
theorem A1Q.all {a b : World} (h : A1Q a b) (hk : Sk B5 a b) : Z7 a b := by
 refine ⟨h.1, fun r o e => ?_⟩
 by_cases hl : ∃ lo, o = Obj.loop lo
 ·obtain ⟨lo, rfl⟩ := hl; exact hk.2.2.1 r lo (fun h => h) e
 ·by_cases hd : ∃ d, o = Obj.deferred d
  ·obtain ⟨d, rfl⟩ := hd; exact hk.2.1 r d e
  ·exact h.2 r o e (fun lo hlo => hl ⟨lo, hlo⟩) (fun d hdd => hd ⟨d, hdd⟩)
theorem q9.extD {a b : World} (h : q9 a b) : A1Q a b := ⟨h.1, fun r o e n _ => h.2 r o e n⟩
theorem A1Q.trans {a b c : World} (h : A1Q a b) (h' : A1Q b c) : A1Q a c := ⟨Nat.le_trans h.1 h'.1, fun r o e n m => h'.2 r o (h.2 r o e n m) n m⟩
theorem U0.extD {a b : World} (h : U0 a b) : A1Q a b := ⟨by rw [h.1]; exact Nat.le_refl _, fun r o e _ m => by rw [h.2 r (by rw [e]; intro d hh; exact m d (Option.some.inj hh))]; exact e⟩
theorem A1Q.cell {a b : World} (h : A1Q a b) {r o : Nat} {v : Value} (e : a.cell? ⟨r, o, none⟩ = some v) : b.cell? ⟨r, o, none⟩ = some v := by
 obtain ⟨c, T, z, h1, h2⟩ := e9 e
 have h3 : bl b r = some (.cells c T z) := h.2 r _ h1 (by intro lo hh; cases hh) (by intro lo hh; cases hh)
 rw [G7 h3]; exact h2
theorem q9.putb {a b : World} (h : q9 a b) {r : Nat} (o : Obj) (hr : sz a ≤ r) : q9 a (World.putb b r o) :=
 ⟨by have := h.1; have := B96 b r o; simp only [sz] at *; omega, fun s x e n => by
  have h1 := h.2 s x e n
  have : s < sz a := G3 e
  have h2 := j2 (w := b) (o := o) (show r ≠ s by omega)
  simp only [bl] at h2; rw [h2]; exact h1⟩
theorem Fn.ext {f : FuncId} {args : Array Value} {w : World} {R : Value → WP} (h : Fn PR B5 f args w (fun v w' => R v w' ∧ A1Q w w')) : Fn PR B5 f args w (fun v w' => R v w' ∧ C4 [] w w') :=
 Calls.mono h fun _ w' ⟨v, he, hr, hs⟩ => ⟨v, he, ⟨hr.1, (hr.2.all hs).but _⟩, hs⟩
theorem B85 {P : Program} {X Y : Nat → Prop} {f : FuncId} {args : List Value} {K : Value → WP} {w : World} (h : s7 P X f args K w) (hx : ∀ r, X r → Y r) : s7 P Y f args K w :=
 ⟨h.1, Calls.mono h.2 fun _ w' ⟨v, he, hr, hs⟩ => ⟨v, he, hr, hs.mono hx⟩⟩
theorem B8d {P : Program} {X : Nat → Prop} {f : FuncId} {args : List Value} {K K' : Value → WP} {w : World} (h : s7 P X f args K w) (hk : ∀ v w', K v w' → Sk X w w' → K' v w') : s7 P X f args K' w :=
 ⟨h.1, Calls.mono h.2 fun _ w' ⟨v, he, hr, hs⟩ => ⟨v, he, hk v w' hr hs, hs⟩⟩
theorem B2W {P : Program} {X : Nat → Prop} {l : Nat} {args : List Value} {K K' : Value → WP} {w : World} (h : yie P X l args K w) (hk : ∀ v w', K v w' → K' v w') : yie P X l args K' w := by
 obtain ⟨f, tmps, asg, body, h1, h2⟩ := h
 exact ⟨f, tmps, asg, body, h1, fun c cs => let ⟨v, w', ⟨a, b⟩, st⟩ := h2 c cs; ⟨v, w', ⟨hk v w' a, b⟩, st⟩⟩
theorem Sk.drw (X : Nat → Prop) (w : World) : Sk X w w.drew := Sk.of_heap rfl
@[simp] theorem C5T (P : Program) (X : Nat → Prop) (l : Nat) (cap : Array Value) (args : List Value) (K : Value → WP) : H3 P X (.func (.yield l) #[] cap) args K = yie P X l args K := by simp [H3]
@[simp] theorem C5a (P : Program) (X : Nat → Prop) (f : FuncId) (first cap : Array Value) (args : List Value) (K : Value → WP) : H3 P X (.func (.func f) first cap) args K = B2 P X f (first.toList ++ args ++ cap.toList) K := rfl
theorem C1s {F : (Value → Value → WP) → Value → Value → WP} {x v : Value} {w : World} (I : Value → Value → WP) (μ : Value → Value → World → Nat) (h0 : I x v w)
  (hs : ∀ x v w, I x v w → ∀ L : Value → Value → WP, (∀ x' v' w', I x' v' w' → μ x' v' w' < μ x v w → L x' v' w') → F L x v w) : lp (n := 2) F x v w := by
 refine ⟨fun vs => match vs with | [a, b] => I a b | _ => E0, fun vs w => match vs with | [a, b] => μ a b w | _ => 0, h0, fun vs w hl hI => ?_⟩
 match vs, hl with
 | [a, b], _ => exact hs a b w hI _ fun x' v' w' h1 h2 => ⟨h1, h2⟩
def num (v : Value) : Int := match v with | .int _ k => k | _ => 0
theorem C6Q {F : (Value → Value → WP) → Value → Value → WP} {w : World} {x : Value} (n : Nat) (I : Value → Nat → WP) (h0 : I x 0 w)
  (hs : ∀ x (i : Nat) w, i ≤ n → I x i w → ∀ L : Value → Value → WP, (i < n → ∀ x' w', I x' (i + 1) w' → L x' (.int .i64 ((i : Int) + 1)) w') → F L x (.int .i64 (i : Int)) w) : lp (n := 2) F x (.int .i64 0) w := by
 refine C1s (fun x v w => ∃ i : Nat, v = .int .i64 i ∧ i ≤ n ∧ I x i w) (fun _ v _ => n - (num v).toNat) ⟨0, rfl, Nat.zero_le _, h0⟩ ?_
 rintro x v w ⟨i, rfl, hi, hI⟩ L hL
 refine hs x i w hi hI L fun hlt x' w' hI' => ?_
 refine hL _ _ w' ⟨i + 1, by simp, hlt, hI'⟩ ?_
 simp only [num]; omega
end Go.Proofs.YtpbmephflllolaaGreat
