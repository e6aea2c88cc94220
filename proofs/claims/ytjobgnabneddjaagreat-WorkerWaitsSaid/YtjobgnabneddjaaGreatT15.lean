/- The proof of a given statement, a part of it (ShPoints Points). No condition but what each lemma says. -/
import Derived.Test.YtjobgnabneddjaaGreatT14
set_option linter.unusedVariables false
set_option linter.unusedSimpArgs false
namespace Go.Proofs.YtjobgnabneddjaaGreat
open Go
end Go.Proofs.YtjobgnabneddjaaGreat
namespace Go.Proofs.YtjobgnabneddjaaGreat
open Go
def C3P (id : Int) (n : Nat) : Nat := B4u (U2 (E0 (IntKind.u64.wrap id) 4)) (E0 n 2 ++ E0 0 4)
def wtN (b : J0) : Nat := 8 * (max 0 (min b.2 16)).toNat
def C02 (b : J0) : List (Nat × Int) := (List.range (wtN b)).map fun n => (C3P b.1 n, b.1)
def y4 (p : List J0) : List (Nat × Int) := p.flatMap C02
def A5q (x : Nat × Int) : List Value := [.int .u64 (x.1 : Nat), .int .i64 x.2]
end Go.Proofs.YtjobgnabneddjaaGreat
