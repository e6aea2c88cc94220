/- Arguments opened: slices of whatever elements; and a row's arguments read behind the call as they read before. No condition but facts on the types. -/
import Derived.Test.YtcgiobkfgnclcaaRow
import Derived.Carry
import Derived.Deep.Slices
set_option linter.unusedVariables false
namespace Go.Proofs.Ytcgiobkfgnclcaa
open Go Go.ChangeShapes Go.WideShapes Go.ChangeAt Go.RowKit
/-- a slice whose elements are laid out by f -/
def SlAt {α : Type} (f : α → List Value) (w : World) (v : Value) (l : List α) : Prop :=
  (l = [] ∧ ∃ a cap, v = .slice a 0 cap) ∨ ∃ b o cap, v = .slice (some ⟨b, o, none⟩) l.length cap ∧ Row w b o (l.flatMap f)
theorem cells_single {v x : Value} (h : v.cells.toList = [x]) (hv : plain v = true) : v = x := by
  cases v <;> first | (simp [Value.cells] at h; exact h) | (simp [plain] at hv)
section
variable {H : Type} {enc : TypeId × Value → H} {P : Program} {w : World} {base : Nat} {spare : Nat → Bool} {held : Bool}
theorem open_sl {α : Type} {f : α → List Value} {k : Nat} (hk : ∀ x, (f x).length = k) (hkp : 0 < k) {Q : α → Prop} {t e : TypeId} {fuel : Nat} {cs : List Value} {x : DataW H × List MemPlace}
    (ht : P.underlying t = some (.slice e)) (hc : P.cellsOf e = k) (h : DataW.trod enc P w base spare held fuel t cs = some x)
    (he : ∀ n cs' y, DataW.trod enc P w base spare held n e cs' = some y → ∃ a, cs' = f a ∧ Q a) :
    ∃ v l, cs = [v] ∧ SlAt f w v l ∧ (∀ a ∈ l, Q a) ∧ l.length ≤ maxLen := by
  rcases Go.Deep.open_slice ht h with ⟨rfl, _⟩ | ⟨a, len, cap, m, n, D, Pl, rfl, hb, hl, hm, hmm, _, hx⟩
  · exact ⟨_, [], rfl, Or.inl ⟨rfl, none, 0, rfl⟩, by simp, by simp⟩
  have hlm : len ≤ m := by rw [hmm]; split <;> omega
  have hch : ∀ i : Fin len, ∃ a' : α, Q a' ∧ w.cells? base (a.add (i.1 * k)) k = some (f a') := by
    intro i
    obtain ⟨cs', h1, h2⟩ := hx i.1 (by omega)
    obtain ⟨a', rfl, hq⟩ := he _ _ _ h2
    rw [hc] at h1
    exact ⟨a', hq, h1⟩
  let g : Fin len → α := fun i => Classical.choose (hch i)
  have hg : ∀ i, Q (g i) ∧ w.cells? base (a.add (i.1 * k)) k = some (f (g i)) := fun i => Classical.choose_spec (hch i)
  refine ⟨_, List.ofFn g, rfl, ?_, ?_, by simp; omega⟩
  · by_cases h0 : len = 0
    · subst h0; exact Or.inl ⟨by simp, _, _, rfl⟩
    obtain ⟨b, o, spot⟩ := a
    have h1 := (World.cells?_some (hg ⟨0, by omega⟩).2).2.2 0 hkp
    have hfl := hk (g ⟨0, by omega⟩)
    rw [List.getElem?_eq_getElem (by omega)] at h1
    have hspot : spot = none := by simpa [Addr.add] using World.cell?_spot h1
    subst hspot
    refine Or.inr ⟨b, o, cap, by simp, fun i hi => ?_⟩
    rw [flat_len hk] at hi
    simp only [List.length_ofFn] at hi
    have hd : i / k * k + i % k = i := by rw [Nat.mul_comm]; exact Nat.div_add_mod i k
    have hj : i % k < k := Nat.mod_lt _ hkp
    have hi' : i / k < len := by rw [Nat.div_lt_iff_lt_mul hkp]; exact hi
    have h2 := (World.cells?_some (hg ⟨i / k, hi'⟩).2).2.2 (i % k) hj
    rw [← hd, flat_get hk _ _ _ hj, List.getElem?_ofFn, dif_pos hi']
    simp only [Option.bind_some]
    rw [← h2, add_mk, add_mk]
    simp only [Nat.add_assoc]
  · intro a' ha'
    rw [List.mem_ofFn] at ha'
    obtain ⟨i, rfl⟩ := ha'
    exact (hg i).1
theorem open_int1 {t : TypeId} {k : IntKind} {fuel : Nat} {cs : List Value} {x : DataW H × List MemPlace} (ht : P.underlying t = some (.int k)) (h : DataW.trod enc P w base spare held fuel t cs = some x) :
    ∃ a : Int, cs = [.int k a] ∧ (Lit.int k a).wf = true := by
  obtain ⟨n, h1, _, h2⟩ := DataW.trod_int ht h
  exact ⟨n, h1, h2⟩
end
/-- all arguments read as they read before -/
theorem trodAll_stays {H : Type} {enc : TypeId × Value → H} {P : Program} (hl : laidOutB P = true) {W W' : World} (hb : But [] W W') {sp : Nat → Bool} :
    ∀ {ts : List TypeId} {vs : List Value} {ds : List (DataW H)} {ps : List MemPlace}, (ts.all fun t => P.readableRec t && decide (t < P.types.size)) = true → DataW.TrodAll enc P W 0 (fun _ => true) true ts vs ds ps →
      (∀ p ∈ ps, p.block < W.heap.size) → (∀ p ∈ ps, sp p.block = true) → DataW.TrodAll enc P W' 0 sp true ts vs ds ps := by
  intro ts
  induction ts with
  | nil => intro vs ds ps _ h _ _; cases vs <;> cases ds <;> exact h
  | cons t ts ih =>
    intro vs ds ps ht h hlt hsp
    simp only [List.all_cons, Bool.and_eq_true, decide_eq_true_eq] at ht
    obtain ⟨v, vs', d, ds', p, q, rfl, rfl, rfl, h0, hr⟩ := trodAll_cons h
    refine ⟨p, q, WideElems.Trod_stays hl ht.1.1 ht.1.2 h0 (fun x hx => ?_) (fun x hx => hsp x (List.mem_append_left _ hx)),
      ih ht.2 hr (fun x hx => hlt x (List.mem_append_right _ hx)) (fun x hx => hsp x (List.mem_append_right _ hx)), rfl⟩
    have hlt' := hlt x (List.mem_append_left _ hx)
    have e1 : W.heap[x.block]? = some W.heap[x.block] := Array.getElem?_eq_getElem hlt'
    have e2 : W'.heap[x.block]? = some W.heap[x.block] := hb.2 _ _ (by simp) e1
    cases x with
    | cell b o => show W'.cell? _ = W.cell? _; unfold World.cell?; rw [show W'.heap[b]? = W.heap[b]? from e2.trans e1.symm]
    | map b => exact e2.trans e1.symm
theorem law_calls2 {f : FuncId} {args : Array Value} {w : World} (h : Fn PR NoX f args w (fun v w' => v = .bool true ∧ But [] w w')) :
    Calls PR f args w fun e w' => e = .returned (.bool true) ∧ Grown w w' ∧ But [] w w' :=
  Calls.mono h fun _ w' ⟨v, he, ⟨hv, hb⟩, hs⟩ => ⟨by rw [he, hv], grown_of hb hs, hb⟩
end Go.Proofs.Ytcgiobkfgnclcaa
