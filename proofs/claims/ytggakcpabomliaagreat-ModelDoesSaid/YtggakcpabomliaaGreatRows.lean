/-
  No cell of these rows narrows 'for every input' (looked for: loops, veiled, ifaces, maps, wideKeys, modest, calm, conditions, laid).
  DERIVED. THE GIVEN ROWS OF THIS SEAT. 11 by the template 'for every input the law returns true; each argument reads behind the call as it read before'; 0 by the template 'total and deterministic' (their statements: YtggakcpabomliaaGreatTotals.lean).
  GIVEN WITH THE SEED: the statements are not yours to turn. If you find one false, say at which input.
  Laid BY PROGRAM, IN A SANDBOX (cutbox-rows.mjs): the forced cells as the released guide's own fill.sh prints them over the translation 1c0e77b5390434a7… (all of the seat's roots in one cut). By AI agents, Wed Nov 11 2026. No macro, syntax, notation, axiom, sorry.
-/
import Derived.Test.YtggakcpabomliaaGreatChecked
import GoSem.Claim
import GoSem.ClaimJoined
import GoSem.ClaimMapViews
import Derived.JoinedTies
import Derived.KernelRfl
namespace Go.Proofs.YtggakcpabomliaaGreat
/- THE CELL 'sum', in the pinned program and in every row, IS THE sha256 OF THE DUMP (.gsa) THAT YtggakcpabomliaaGreatProg.lean LOADS. Nothing in Lean hashes anything: it is a label: what it is worth is what the hold of that sum in a sandbox is worth. -/
noncomputable def Tryz.pinned : Pinned := { name := "ytggakcpabomliaagreat", sum := "1c0e77b5390434a7314d0835eb1afab3a673751a11cf997258342afc5c8de2ea", checked := Tryz.checked }
namespace Rows
def none {H : Type} : Left H := { results := [], args := [] }

/-- 'gangplanklaw17.ModelDoes': WHATEVER THE INPUT: true; the input reads as it did. -/
def modelDoesSpec : ChangeSpec := { name := "modelDoes", fn := fun _ => fun
  | [d1, d2] => { results := [.lit (.bool true)], args := [d1, d2] }
  | _ => none }
def modelDoesRow : OpenClaim := { program := "ytggakcpabomliaagreat", sum := "1c0e77b5390434a7314d0835eb1afab3a673751a11cf997258342afc5c8de2ea", func := "gangplank/gangplanklaw17.ModelDoes", spec := "modelDoes", inPlace := ["internal/abi.NoEscape"], unfollowed := true, recurses := true, apart := false }
def ModelDoesSaid : Prop := modelDoesRow.holds Tryz.pinned (OpenSpec.ofChange modelDoesSpec)

/-- ITS FALSE NEIGHBOUR: 'it returns false'. Refute it at one input. -/
def modelDoesWrong : ChangeSpec := { name := "modelDoes", fn := fun _ => fun
  | [d1, d2] => { results := [.lit (.bool false)], args := [d1, d2] }
  | _ => none }
def ModelDoesWrongFalsely : Prop := modelDoesRow.holds Tryz.pinned (OpenSpec.ofChange modelDoesWrong)

/-- 'gangplanklaw17.ModelDecides': WHATEVER THE INPUT: true; the input reads as it did. -/
def modelDecidesSpec : ChangeSpec := { name := "modelDecides", fn := fun _ => fun
  | [d1, d2, d3, d4, d5, d6, d7] => { results := [.lit (.bool true)], args := [d1, d2, d3, d4, d5, d6, d7] }
  | _ => none }
def modelDecidesRow : OpenClaim := { program := "ytggakcpabomliaagreat", sum := "1c0e77b5390434a7314d0835eb1afab3a673751a11cf997258342afc5c8de2ea", func := "gangplank/gangplanklaw17.ModelDecides", spec := "modelDecides", inPlace := ["internal/abi.NoEscape"], unfollowed := true, recurses := true, apart := false }
def ModelDecidesSaid : Prop := modelDecidesRow.holds Tryz.pinned (OpenSpec.ofChange modelDecidesSpec)

/-- ITS FALSE NEIGHBOUR: 'it returns false'. Refute it at one input. -/
def modelDecidesWrong : ChangeSpec := { name := "modelDecides", fn := fun _ => fun
  | [d1, d2, d3, d4, d5, d6, d7] => { results := [.lit (.bool false)], args := [d1, d2, d3, d4, d5, d6, d7] }
  | _ => none }
def ModelDecidesWrongFalsely : Prop := modelDecidesRow.holds Tryz.pinned (OpenSpec.ofChange modelDecidesWrong)

/-- 'gangplanklaw17.ModelStats': WHATEVER THE INPUT: true; the input reads as it did. -/
def modelStatsSpec : ChangeSpec := { name := "modelStats", fn := fun _ => fun
  | [d1, d2, d3] => { results := [.lit (.bool true)], args := [d1, d2, d3] }
  | _ => none }
def modelStatsRow : OpenClaim := { program := "ytggakcpabomliaagreat", sum := "1c0e77b5390434a7314d0835eb1afab3a673751a11cf997258342afc5c8de2ea", func := "gangplank/gangplanklaw17.ModelStats", spec := "modelStats", inPlace := ["internal/abi.NoEscape"], unfollowed := true, recurses := true, apart := false }
def ModelStatsSaid : Prop := modelStatsRow.holds Tryz.pinned (OpenSpec.ofChange modelStatsSpec)

/-- ITS FALSE NEIGHBOUR: 'it returns false'. Refute it at one input. -/
def modelStatsWrong : ChangeSpec := { name := "modelStats", fn := fun _ => fun
  | [d1, d2, d3] => { results := [.lit (.bool false)], args := [d1, d2, d3] }
  | _ => none }
def ModelStatsWrongFalsely : Prop := modelStatsRow.holds Tryz.pinned (OpenSpec.ofChange modelStatsWrong)

/-- 'gangplanklaw17.ModelExpires': WHATEVER THE INPUT: true; the input reads as it did. -/
def modelExpiresSpec : ChangeSpec := { name := "modelExpires", fn := fun _ => fun
  | [d1, d2, d3, d4] => { results := [.lit (.bool true)], args := [d1, d2, d3, d4] }
  | _ => none }
def modelExpiresRow : OpenClaim := { program := "ytggakcpabomliaagreat", sum := "1c0e77b5390434a7314d0835eb1afab3a673751a11cf997258342afc5c8de2ea", func := "gangplank/gangplanklaw17.ModelExpires", spec := "modelExpires", inPlace := ["internal/abi.NoEscape"], unfollowed := true, recurses := true, apart := false }
def ModelExpiresSaid : Prop := modelExpiresRow.holds Tryz.pinned (OpenSpec.ofChange modelExpiresSpec)

/-- ITS FALSE NEIGHBOUR: 'it returns false'. Refute it at one input. -/
def modelExpiresWrong : ChangeSpec := { name := "modelExpires", fn := fun _ => fun
  | [d1, d2, d3, d4] => { results := [.lit (.bool false)], args := [d1, d2, d3, d4] }
  | _ => none }
def ModelExpiresWrongFalsely : Prop := modelExpiresRow.holds Tryz.pinned (OpenSpec.ofChange modelExpiresWrong)

/-- 'gangplanklaw17.ModelOne': WHATEVER THE INPUT: true; the input reads as it did. -/
def modelOneSpec : ChangeSpec := { name := "modelOne", fn := fun _ => fun
  | [d1, d2, d3] => { results := [.lit (.bool true)], args := [d1, d2, d3] }
  | _ => none }
def modelOneRow : OpenClaim := { program := "ytggakcpabomliaagreat", sum := "1c0e77b5390434a7314d0835eb1afab3a673751a11cf997258342afc5c8de2ea", func := "gangplank/gangplanklaw17.ModelOne", spec := "modelOne", inPlace := ["internal/abi.NoEscape"], unfollowed := true, recurses := true, apart := false }
def ModelOneSaid : Prop := modelOneRow.holds Tryz.pinned (OpenSpec.ofChange modelOneSpec)

/-- ITS FALSE NEIGHBOUR: 'it returns false'. Refute it at one input. -/
def modelOneWrong : ChangeSpec := { name := "modelOne", fn := fun _ => fun
  | [d1, d2, d3] => { results := [.lit (.bool false)], args := [d1, d2, d3] }
  | _ => none }
def ModelOneWrongFalsely : Prop := modelOneRow.holds Tryz.pinned (OpenSpec.ofChange modelOneWrong)

/-- 'gangplanklaw17.ModelMakes': WHATEVER THE INPUT: true; the input reads as it did. -/
def modelMakesSpec : ChangeSpec := { name := "modelMakes", fn := fun _ => fun
  | [d1, d2, d3, d4, d5, d6] => { results := [.lit (.bool true)], args := [d1, d2, d3, d4, d5, d6] }
  | _ => none }
def modelMakesRow : OpenClaim := { program := "ytggakcpabomliaagreat", sum := "1c0e77b5390434a7314d0835eb1afab3a673751a11cf997258342afc5c8de2ea", func := "gangplank/gangplanklaw17.ModelMakes", spec := "modelMakes", inPlace := ["internal/abi.NoEscape"], unfollowed := true, recurses := true, apart := false }
def ModelMakesSaid : Prop := modelMakesRow.holds Tryz.pinned (OpenSpec.ofChange modelMakesSpec)

/-- ITS FALSE NEIGHBOUR: 'it returns false'. Refute it at one input. -/
def modelMakesWrong : ChangeSpec := { name := "modelMakes", fn := fun _ => fun
  | [d1, d2, d3, d4, d5, d6] => { results := [.lit (.bool false)], args := [d1, d2, d3, d4, d5, d6] }
  | _ => none }
def ModelMakesWrongFalsely : Prop := modelMakesRow.holds Tryz.pinned (OpenSpec.ofChange modelMakesWrong)

/-- 'gangplanklaw17.ModelFails': WHATEVER THE INPUT: true; the input reads as it did. -/
def modelFailsSpec : ChangeSpec := { name := "modelFails", fn := fun _ => fun
  | [d1, d2, d3] => { results := [.lit (.bool true)], args := [d1, d2, d3] }
  | _ => none }
def modelFailsRow : OpenClaim := { program := "ytggakcpabomliaagreat", sum := "1c0e77b5390434a7314d0835eb1afab3a673751a11cf997258342afc5c8de2ea", func := "gangplank/gangplanklaw17.ModelFails", spec := "modelFails", inPlace := ["internal/abi.NoEscape"], unfollowed := true, recurses := true, apart := false }
def ModelFailsSaid : Prop := modelFailsRow.holds Tryz.pinned (OpenSpec.ofChange modelFailsSpec)

/-- ITS FALSE NEIGHBOUR: 'it returns false'. Refute it at one input. -/
def modelFailsWrong : ChangeSpec := { name := "modelFails", fn := fun _ => fun
  | [d1, d2, d3] => { results := [.lit (.bool false)], args := [d1, d2, d3] }
  | _ => none }
def ModelFailsWrongFalsely : Prop := modelFailsRow.holds Tryz.pinned (OpenSpec.ofChange modelFailsWrong)

/-- 'gangplanklaw17.ModelSticks': WHATEVER THE INPUT: true; the input reads as it did. -/
def modelSticksSpec : ChangeSpec := { name := "modelSticks", fn := fun _ => fun
  | [d1, d2, d3, d4, d5, d6] => { results := [.lit (.bool true)], args := [d1, d2, d3, d4, d5, d6] }
  | _ => none }
def modelSticksRow : OpenClaim := { program := "ytggakcpabomliaagreat", sum := "1c0e77b5390434a7314d0835eb1afab3a673751a11cf997258342afc5c8de2ea", func := "gangplank/gangplanklaw17.ModelSticks", spec := "modelSticks", inPlace := ["internal/abi.NoEscape"], unfollowed := true, recurses := true, apart := false }
def ModelSticksSaid : Prop := modelSticksRow.holds Tryz.pinned (OpenSpec.ofChange modelSticksSpec)

/-- ITS FALSE NEIGHBOUR: 'it returns false'. Refute it at one input. -/
def modelSticksWrong : ChangeSpec := { name := "modelSticks", fn := fun _ => fun
  | [d1, d2, d3, d4, d5, d6] => { results := [.lit (.bool false)], args := [d1, d2, d3, d4, d5, d6] }
  | _ => none }
def ModelSticksWrongFalsely : Prop := modelSticksRow.holds Tryz.pinned (OpenSpec.ofChange modelSticksWrong)

/-- 'gangplanklaw22.OrderTells': WHATEVER THE INPUT: true; the input reads as it did. -/
def orderTellsSpec : ChangeSpec := { name := "orderTells", fn := fun _ => fun
  | [d1, d2] => { results := [.lit (.bool true)], args := [d1, d2] }
  | _ => none }
def orderTellsRow : OpenClaim := { program := "ytggakcpabomliaagreat", sum := "1c0e77b5390434a7314d0835eb1afab3a673751a11cf997258342afc5c8de2ea", func := "gangplank/gangplanklaw22.OrderTells", spec := "orderTells", unfollowed := true, recurses := true, apart := false }
def OrderTellsSaid : Prop := orderTellsRow.holds Tryz.pinned (OpenSpec.ofChange orderTellsSpec)

/-- ITS FALSE NEIGHBOUR: 'it returns false'. Refute it at one input. -/
def orderTellsWrong : ChangeSpec := { name := "orderTells", fn := fun _ => fun
  | [d1, d2] => { results := [.lit (.bool false)], args := [d1, d2] }
  | _ => none }
def OrderTellsWrongFalsely : Prop := orderTellsRow.holds Tryz.pinned (OpenSpec.ofChange orderTellsWrong)

/-- 'gangplanklaw22.OrderWitness': WHATEVER THE INPUT: true; the input reads as it did. -/
def orderWitnessSpec : ChangeSpec := { name := "orderWitness", fn := fun _ => fun
  | [d] => { results := [.lit (.bool true)], args := [d] }
  | _ => none }
def orderWitnessRow : OpenClaim := { program := "ytggakcpabomliaagreat", sum := "1c0e77b5390434a7314d0835eb1afab3a673751a11cf997258342afc5c8de2ea", func := "gangplank/gangplanklaw22.OrderWitness", spec := "orderWitness", unfollowed := true, recurses := true, apart := false }
def OrderWitnessSaid : Prop := orderWitnessRow.holds Tryz.pinned (OpenSpec.ofChange orderWitnessSpec)

/-- ITS FALSE NEIGHBOUR: 'it returns false'. Refute it at one input. -/
def orderWitnessWrong : ChangeSpec := { name := "orderWitness", fn := fun _ => fun
  | [d] => { results := [.lit (.bool false)], args := [d] }
  | _ => none }
def OrderWitnessWrongFalsely : Prop := orderWitnessRow.holds Tryz.pinned (OpenSpec.ofChange orderWitnessWrong)

/-- 'gangplanklaw22.OrderPrefix': WHATEVER THE INPUT: true; the input reads as it did. -/
def orderPrefixSpec : ChangeSpec := { name := "orderPrefix", fn := fun _ => fun
  | [d1, d2, d3] => { results := [.lit (.bool true)], args := [d1, d2, d3] }
  | _ => none }
def orderPrefixRow : OpenClaim := { program := "ytggakcpabomliaagreat", sum := "1c0e77b5390434a7314d0835eb1afab3a673751a11cf997258342afc5c8de2ea", func := "gangplank/gangplanklaw22.OrderPrefix", spec := "orderPrefix", unfollowed := true, recurses := true, apart := false }
def OrderPrefixSaid : Prop := orderPrefixRow.holds Tryz.pinned (OpenSpec.ofChange orderPrefixSpec)

/-- ITS FALSE NEIGHBOUR: 'it returns false'. Refute it at one input. -/
def orderPrefixWrong : ChangeSpec := { name := "orderPrefix", fn := fun _ => fun
  | [d1, d2, d3] => { results := [.lit (.bool false)], args := [d1, d2, d3] }
  | _ => none }
def OrderPrefixWrongFalsely : Prop := orderPrefixRow.holds Tryz.pinned (OpenSpec.ofChange orderPrefixWrong)

/- THE SECOND FORM. 'bulk': how many values and letters a reading holds, each counted each time it is reached (what is shared counts as often as it is met; a slice's spare places count too). A statement '..UptoSaid' is the law's where the arguments, and the package variables that the reading takes, are together of bulk at most 1048576: NARROWER than '..Said'. Prove '..Said' where nothing that the law and all that it calls make is longer than what came in: it says more and counts as full. Else prove '..UptoSaid'. A law counts once. -/
mutual
def uptoBulk {H : Type} : DataW H → Nat
  | .lit (.string bytes) => bytes.length + 1
  | .lit _ => 1
  | .nil => 1
  | .ptr d => uptoBulk d + 1
  | .slice elems spare => uptoBulkAll elems + uptoBulkAll spare + 1
  | .agg parts => uptoBulkAll parts + 1
  | .iface _ d => uptoBulk d + 1
  | .map entries => uptoBulkEntries entries + 1
  | .held _ => 1
def uptoBulkAll {H : Type} : List (DataW H) → Nat
  | [] => 0
  | d :: r => uptoBulk d + uptoBulkAll r
def uptoBulkEntries {H : Type} : List (Lit × DataW H) → Nat
  | [] => 0
  | x :: r => uptoBulkEntry x + uptoBulkEntries r
def uptoBulkEntry {H : Type} : Lit × DataW H → Nat
  | (.string bytes, d) => bytes.length + uptoBulk d + 1
  | (_, d) => uptoBulk d + 1
 end
def uptoSmall : (H : Type) → List (DataW H) → Bool := fun _ ds => decide (uptoBulkAll ds ≤ 1048576)
def OpenSpec.upto (s : _root_.Go.ChangeSpec) : _root_.Go.OpenSpec := { _root_.Go.OpenSpec.ofChange s with cond := some uptoSmall }

/-- 'gangplanklaw17.ModelDoes', WHERE WHAT IT READS IS OF BULK AT MOST 1048576: true; the input reads as it did. -/
def modelDoesUptoRow : OpenClaim := { program := "ytggakcpabomliaagreat", sum := "1c0e77b5390434a7314d0835eb1afab3a673751a11cf997258342afc5c8de2ea", func := "gangplank/gangplanklaw17.ModelDoes", spec := "modelDoes", inPlace := ["internal/abi.NoEscape"], unfollowed := true, recurses := true, apart := false, narrowed := true }
def ModelDoesUptoSaid : Prop := modelDoesUptoRow.holds Tryz.pinned (OpenSpec.upto modelDoesSpec)

/-- 'gangplanklaw17.ModelDecides', WHERE WHAT IT READS IS OF BULK AT MOST 1048576: true; the input reads as it did. -/
def modelDecidesUptoRow : OpenClaim := { program := "ytggakcpabomliaagreat", sum := "1c0e77b5390434a7314d0835eb1afab3a673751a11cf997258342afc5c8de2ea", func := "gangplank/gangplanklaw17.ModelDecides", spec := "modelDecides", inPlace := ["internal/abi.NoEscape"], unfollowed := true, recurses := true, apart := false, narrowed := true }
def ModelDecidesUptoSaid : Prop := modelDecidesUptoRow.holds Tryz.pinned (OpenSpec.upto modelDecidesSpec)

/-- 'gangplanklaw17.ModelStats', WHERE WHAT IT READS IS OF BULK AT MOST 1048576: true; the input reads as it did. -/
def modelStatsUptoRow : OpenClaim := { program := "ytggakcpabomliaagreat", sum := "1c0e77b5390434a7314d0835eb1afab3a673751a11cf997258342afc5c8de2ea", func := "gangplank/gangplanklaw17.ModelStats", spec := "modelStats", inPlace := ["internal/abi.NoEscape"], unfollowed := true, recurses := true, apart := false, narrowed := true }
def ModelStatsUptoSaid : Prop := modelStatsUptoRow.holds Tryz.pinned (OpenSpec.upto modelStatsSpec)

/-- 'gangplanklaw17.ModelExpires', WHERE WHAT IT READS IS OF BULK AT MOST 1048576: true; the input reads as it did. -/
def modelExpiresUptoRow : OpenClaim := { program := "ytggakcpabomliaagreat", sum := "1c0e77b5390434a7314d0835eb1afab3a673751a11cf997258342afc5c8de2ea", func := "gangplank/gangplanklaw17.ModelExpires", spec := "modelExpires", inPlace := ["internal/abi.NoEscape"], unfollowed := true, recurses := true, apart := false, narrowed := true }
def ModelExpiresUptoSaid : Prop := modelExpiresUptoRow.holds Tryz.pinned (OpenSpec.upto modelExpiresSpec)

/-- 'gangplanklaw17.ModelOne', WHERE WHAT IT READS IS OF BULK AT MOST 1048576: true; the input reads as it did. -/
def modelOneUptoRow : OpenClaim := { program := "ytggakcpabomliaagreat", sum := "1c0e77b5390434a7314d0835eb1afab3a673751a11cf997258342afc5c8de2ea", func := "gangplank/gangplanklaw17.ModelOne", spec := "modelOne", inPlace := ["internal/abi.NoEscape"], unfollowed := true, recurses := true, apart := false, narrowed := true }
def ModelOneUptoSaid : Prop := modelOneUptoRow.holds Tryz.pinned (OpenSpec.upto modelOneSpec)

/-- 'gangplanklaw17.ModelMakes', WHERE WHAT IT READS IS OF BULK AT MOST 1048576: true; the input reads as it did. -/
def modelMakesUptoRow : OpenClaim := { program := "ytggakcpabomliaagreat", sum := "1c0e77b5390434a7314d0835eb1afab3a673751a11cf997258342afc5c8de2ea", func := "gangplank/gangplanklaw17.ModelMakes", spec := "modelMakes", inPlace := ["internal/abi.NoEscape"], unfollowed := true, recurses := true, apart := false, narrowed := true }
def ModelMakesUptoSaid : Prop := modelMakesUptoRow.holds Tryz.pinned (OpenSpec.upto modelMakesSpec)

/-- 'gangplanklaw17.ModelFails', WHERE WHAT IT READS IS OF BULK AT MOST 1048576: true; the input reads as it did. -/
def modelFailsUptoRow : OpenClaim := { program := "ytggakcpabomliaagreat", sum := "1c0e77b5390434a7314d0835eb1afab3a673751a11cf997258342afc5c8de2ea", func := "gangplank/gangplanklaw17.ModelFails", spec := "modelFails", inPlace := ["internal/abi.NoEscape"], unfollowed := true, recurses := true, apart := false, narrowed := true }
def ModelFailsUptoSaid : Prop := modelFailsUptoRow.holds Tryz.pinned (OpenSpec.upto modelFailsSpec)

/-- 'gangplanklaw17.ModelSticks', WHERE WHAT IT READS IS OF BULK AT MOST 1048576: true; the input reads as it did. -/
def modelSticksUptoRow : OpenClaim := { program := "ytggakcpabomliaagreat", sum := "1c0e77b5390434a7314d0835eb1afab3a673751a11cf997258342afc5c8de2ea", func := "gangplank/gangplanklaw17.ModelSticks", spec := "modelSticks", inPlace := ["internal/abi.NoEscape"], unfollowed := true, recurses := true, apart := false, narrowed := true }
def ModelSticksUptoSaid : Prop := modelSticksUptoRow.holds Tryz.pinned (OpenSpec.upto modelSticksSpec)

/-- 'gangplanklaw22.OrderTells', WHERE WHAT IT READS IS OF BULK AT MOST 1048576: true; the input reads as it did. -/
def orderTellsUptoRow : OpenClaim := { program := "ytggakcpabomliaagreat", sum := "1c0e77b5390434a7314d0835eb1afab3a673751a11cf997258342afc5c8de2ea", func := "gangplank/gangplanklaw22.OrderTells", spec := "orderTells", unfollowed := true, recurses := true, apart := false, narrowed := true }
def OrderTellsUptoSaid : Prop := orderTellsUptoRow.holds Tryz.pinned (OpenSpec.upto orderTellsSpec)

/-- 'gangplanklaw22.OrderWitness', WHERE WHAT IT READS IS OF BULK AT MOST 1048576: true; the input reads as it did. -/
def orderWitnessUptoRow : OpenClaim := { program := "ytggakcpabomliaagreat", sum := "1c0e77b5390434a7314d0835eb1afab3a673751a11cf997258342afc5c8de2ea", func := "gangplank/gangplanklaw22.OrderWitness", spec := "orderWitness", unfollowed := true, recurses := true, apart := false, narrowed := true }
def OrderWitnessUptoSaid : Prop := orderWitnessUptoRow.holds Tryz.pinned (OpenSpec.upto orderWitnessSpec)

/-- 'gangplanklaw22.OrderPrefix', WHERE WHAT IT READS IS OF BULK AT MOST 1048576: true; the input reads as it did. -/
def orderPrefixUptoRow : OpenClaim := { program := "ytggakcpabomliaagreat", sum := "1c0e77b5390434a7314d0835eb1afab3a673751a11cf997258342afc5c8de2ea", func := "gangplank/gangplanklaw22.OrderPrefix", spec := "orderPrefix", unfollowed := true, recurses := true, apart := false, narrowed := true }
def OrderPrefixUptoSaid : Prop := orderPrefixUptoRow.holds Tryz.pinned (OpenSpec.upto orderPrefixSpec)

end Rows
end Go.Proofs.YtggakcpabomliaaGreat
