/- The proof of a given statement, a part of it (Std Rep). No condition but what each lemma says. -/
import Derived.Lib.UnsafeStr
import Derived.Lib.AppendStr
import Derived.Test.YtjobgnabneddjaaGreatQ9
set_option linter.unusedVariables false
set_option linter.unusedSimpArgs false
namespace Go.Proofs.YtjobgnabneddjaaGreat
open Go
section
variable {κ : Bool} {X : Nat → Prop} {S : List Nat} {w0 : World} {H Hr : List Res} {K : Value → WP}
end
section
variable {κ : Bool} {X : Nat → Prop} {S : List Nat} {w0 : World} {H Hr : List Res} {K : Value → WP}
end
end Go.Proofs.YtjobgnabneddjaaGreat
namespace Go.Proofs.YtjobgnabneddjaaGreat
open Go
set_option linter.unusedVariables false
end Go.Proofs.YtjobgnabneddjaaGreat
