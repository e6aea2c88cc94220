/- The proof of a given statement, a part of it (Std Rep). No condition but what each lemma says. -/
import Derived.Lib.UnsafeStr
import Derived.Lib.AppendStr
import Derived.Test.YtpnidmkaobfhiaaGreatM9
set_option linter.unusedVariables false
set_option linter.unusedSimpArgs false
namespace Go.Proofs.YtpnidmkaobfhiaaGreat
open Go
def U4 (s : ByteArray) : List Value := s.data.toList.map fun b => Value.int .u8 b.toNat
@[simp] theorem D3S (s : ByteArray) : (U4 s).length = s.size := by rw [U4, List.length_map]; rfl
theorem B1s (s : ByteArray) : (U4 s).all plain = true := by
 rw [U4, List.all_map]; exact List.all_eq_true.2 fun _ _ => rfl
section
variable {κ : Bool} {X : Nat → Prop} {S : List Nat} {w0 : World} {H Hr : List Res} {K : Value → WP}
end
section
variable {κ : Bool} {X : Nat → Prop} {S : List Nat} {w0 : World} {H Hr : List Res} {K : Value → WP}
end
end Go.Proofs.YtpnidmkaobfhiaaGreat
namespace Go.Proofs.YtpnidmkaobfhiaaGreat
open Go
set_option linter.unusedVariables false
theorem Fn.of_calls {P : Program} {X : Nat → Prop} {f : FuncId} {args : Array Value} {w : World} {v : Value} (h : Calls P f args w fun e w' => e = .returned v ∧ RowKit.Below w.heap.size w w') : Fn P X f args w (fun u w' => u = v ∧ C6 [] w w') :=
 Calls.mono h fun e w' ⟨he, hb⟩ => ⟨v, he, ⟨rfl, hb.size, fun r o _ e => (hb.block r (K7 e)).trans e⟩, hb.size, fun r d e => (hb.block r (K7 (w := w) e)).trans e, fun r lo _ e => (hb.block r (K7 (w := w) e)).trans e, hb.os, hb.output⟩
theorem C4D : Go.Proofs.Builder.Extra Tryz.prog Tryz.lays105_ren where
 sizeBuilder := by kernel_rfl
 liesBuilder := by kernel_rfl
 t5 := Tryz.lays105.t5
 a5 := Tryz.lays105.a5
 z5 := Tryz.lays105.z5
 v5 := Tryz.lays105.v5
 infoByte := by kernel_rfl
 cellsByte := by kernel_rfl
 sizeByte := by kernel_rfl
 neB5 := by decide
def B2m (s : ByteArray) (c : Nat) : ByteArray := ⟨(Lib.repeatL s.data.toList c).toArray⟩
theorem B5g (w : World) (s : ByteArray) (c : Nat) (hc : c < 2 ^ 62) (hs : s.size * c ≤ 140737488355328) : Fn PR B6 260 #[.string s, .int .i64 (c : Int)] w (fun v w' => v = .string (B2m s c) ∧ C6 [] w w') :=
 Fn.of_calls (Go.Proofs.Any.strings_Repeat Tryz.lays105 C4D s c w (by omega) hs)
end Go.Proofs.YtpnidmkaobfhiaaGreat
