/- The proof of a given statement, a part of it (Std Rep). No condition but what each lemma says. -/
import Derived.Lib.UnsafeStr
import Derived.Lib.AppendStr
import Derived.Test.YtlplkjgcfjdinaaGreatP11
set_option linter.unusedVariables false
set_option linter.unusedSimpArgs false
namespace Go.Proofs.YtlplkjgcfjdinaaGreat
open Go
def P4 (s : ByteArray) : List Value := s.data.toList.map fun b => Value.int .u8 b.toNat
@[simp] theorem C3w (s : ByteArray) : (P4 s).length = s.size := by rw [P4, List.length_map]; rfl
theorem A7A (s : ByteArray) : (P4 s).all plain = true := by
 rw [P4, List.all_map]; exact List.all_eq_true.2 fun _ _ => rfl
section
variable {κ : Bool} {X : Nat → Prop} {S : List Nat} {w0 : World} {H Hr : List Res} {K : Value → WP}
end
section
variable {κ : Bool} {X : Nat → Prop} {S : List Nat} {w0 : World} {H Hr : List Res} {K : Value → WP}
end
end Go.Proofs.YtlplkjgcfjdinaaGreat
namespace Go.Proofs.YtlplkjgcfjdinaaGreat
open Go
set_option linter.unusedVariables false
theorem Fn.of_calls {P : Program} {X : Nat → Prop} {f : FuncId} {args : Array Value} {w : World} {v : Value} (h : Calls P f args w fun e w' => e = .returned v ∧ RowKit.Below w.heap.size w w') : Fn P X f args w (fun u w' => u = v ∧ C6 [] w w') :=
 Calls.mono h fun e w' ⟨he, hb⟩ => ⟨v, he, ⟨rfl, hb.size, fun r o _ e => (hb.block r (G4 e)).trans e⟩, hb.size, fun r d e => (hb.block r (G4 (w := w) e)).trans e, fun r lo _ e => (hb.block r (G4 (w := w) e)).trans e, hb.os, hb.output⟩
theorem B8a : Go.Proofs.Builder.Extra Tryz.prog Tryz.lays105_ren where
 sizeBuilder := by kernel_rfl
 liesBuilder := by kernel_rfl
 t5 := Tryz.lays105.t5
 a5 := Tryz.lays105.a5
 z5 := Tryz.lays105.z5
 v5 := Tryz.lays105.v5
 infoByte := by kernel_rfl
 cellsByte := by kernel_rfl
 sizeByte := by kernel_rfl
 neB5 := by decide
def A7q (s : ByteArray) (c : Nat) : ByteArray := ⟨(Lib.repeatL s.data.toList c).toArray⟩
theorem B0K (w : World) (s : ByteArray) (c : Nat) (hc : c < 2 ^ 62) (hs : s.size * c ≤ 140737488355328) : Fn PR B5 219 #[.string s, .int .i64 (c : Int)] w (fun v w' => v = .string (A7q s c) ∧ C6 [] w w') :=
 Fn.of_calls (Go.Proofs.Any.strings_Repeat Tryz.lays105 B8a s c w (by omega) hs)
end Go.Proofs.YtlplkjgcfjdinaaGreat
