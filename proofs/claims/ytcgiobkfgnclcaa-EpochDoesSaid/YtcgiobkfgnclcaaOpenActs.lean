/- Lists of acts and of numbers among a law's arguments, opened. No condition. -/
import Derived.Test.YtcgiobkfgnclcaaOpen
import Derived.Test.YtcgiobkfgnclcaaActs
set_option linter.unusedVariables false
namespace Go.Proofs.Ytcgiobkfgnclcaa
open Go Go.ChangeShapes Go.WideShapes Go.ChangeAt Go.RowKit
section
variable {H : Type} {enc : TypeId × Value → H} {w : World} {base : Nat} {spare : Nat → Bool} {held : Bool}
theorem row_ints {w : World} {b o : Nat} {l : List Int} : Row w b o (l.flatMap fun x => [.int .i64 x]) ↔ Row w b o (l.map (.int .i64 ·)) := by
  have : (l.flatMap fun x => [Value.int .i64 x]) = l.map (.int .i64 ·) := by
    induction l with
    | nil => rfl
    | cons x l ih => simp [List.flatMap_cons, ih]
  rw [this]
theorem open_intsl {fuel : Nat} {cs : List Value} {x : DataW H × List MemPlace} (h : DataW.trod enc PR w base spare held fuel 30 cs = some x) :
    ∃ v l, cs = [v] ∧ IntsAt w v l := by
  obtain ⟨v, l, h1, h2, _, _⟩ := open_sl (f := fun x : Int => [.int .i64 x]) (k := 1) (Q := fun _ => True) (fun _ => rfl) (by omega) Try.underlying30 (by kernel_rfl) h (fun n cs' y hy => by
    obtain ⟨a, ha, _⟩ := open_int1 Try.underlying3 hy
    exact ⟨a, ha, trivial⟩)
  refine ⟨v, l, h1, ?_⟩
  rcases h2 with h2 | ⟨b, o, cap, hv, hr⟩
  · exact Or.inl h2
  · exact Or.inr ⟨b, o, cap, hv, row_ints.1 hr⟩
theorem open_act {fuel : Nat} {cs : List Value} {x : DataW H × List MemPlace} (h : DataW.trod enc PR w base spare held fuel 32 cs = some x) :
    ∃ a : ActR, cs = encA a ∧ IntsAt w a.pv a.pins := by
  obtain ⟨xs, n, rfl, _, hl, hxl, hf⟩ := DataW.trod_struct ty32.und h
  have hl4 : cs.length = 4 := hl.trans (by kernel_rfl)
  have hx4 : xs.length = 4 := hxl.trans (by kernel_rfl)
  match cs, hl4 with
  | [c0, c1, c2, c3], _ =>
    have f0 := hf 0 _ rfl
    have f1 := hf 1 _ rfl
    have f2 := hf 2 _ rfl
    have f3 := hf 3 _ rfl
    rw [List.getElem?_eq_getElem (by omega)] at f0 f1 f2 f3
    obtain ⟨a0, e0, _⟩ := open_int1 Try.underlying3 f0
    obtain ⟨a1, e1, _⟩ := open_int1 Try.underlying3 f1
    obtain ⟨a2, e2, _⟩ := open_int1 Try.underlying3 f2
    obtain ⟨v, l, e3, hv⟩ := open_intsl f3
    have e0 : [c0] = [.int .i64 a0] := e0
    have e1 : [c1] = [.int .i64 a1] := e1
    have e2 : [c2] = [.int .i64 a2] := e2
    have e3 : [c3] = [v] := e3
    cases e0; cases e1; cases e2; cases e3
    exact ⟨⟨a0, a1, a2, c3, l⟩, rfl, hv⟩
theorem open_acts {fuel : Nat} {cs : List Value} {x : DataW H × List MemPlace} (h : DataW.trod enc PR w base spare held fuel 22 cs = some x) :
    ∃ v l, cs = [v] ∧ ActsAt w v l := by
  obtain ⟨v, l, h1, h2, h3, _⟩ := open_sl (f := encA) (k := 4) (Q := fun a => IntsAt w a.pv a.pins) encA_len (by omega) Try.underlying22 (by kernel_rfl) h (fun n cs' y hy => open_act hy)
  exact ⟨v, l, h1, h2, h3⟩
theorem open_ints_arg {r : Reach} {b0 : Nat} {v : Value} {d : DataW H} {ps : List MemPlace} (hval : Value.okWide PR w r b0 30 v) (hd : DataW.Trod enc PR w base spare held 30 v d ps) : ∃ l, IntsAt w v l := by
  obtain ⟨a, len, cap, rfl⟩ := okWide_slice Try.underlying30 hval
  obtain ⟨fuel, hf⟩ := hd
  obtain ⟨v', l, h1, h2⟩ := open_intsl hf
  have : Value.slice a len cap = v' := cells_single h1 rfl
  subst this
  exact ⟨l, h2⟩
theorem open_acts_arg {r : Reach} {b0 : Nat} {v : Value} {d : DataW H} {ps : List MemPlace} (hval : Value.okWide PR w r b0 22 v) (hd : DataW.Trod enc PR w base spare held 22 v d ps) : ∃ l, ActsAt w v l := by
  obtain ⟨a, len, cap, rfl⟩ := okWide_slice Try.underlying22 hval
  obtain ⟨fuel, hf⟩ := hd
  obtain ⟨v', l, h1, h2⟩ := open_acts hf
  have : Value.slice a len cap = v' := cells_single h1 rfl
  subst this
  exact ⟨l, h2⟩
theorem laid : laidOutB PR = true := by kernel_rfl
end
end Go.Proofs.Ytcgiobkfgnclcaa
