/- The proof of a given statement, a part of it (Std Rep). No condition but what each lemma says. -/
import Derived.Lib.UnsafeStr
import Derived.Lib.AppendStr
import Derived.Test.YtpnidmkaobfhiaaGreatJ9
set_option linter.unusedVariables false
set_option linter.unusedSimpArgs false
namespace Go.Proofs.YtpnidmkaobfhiaaGreat
open Go
section
variable {κ : Bool} {X : Nat → Prop} {S : List Nat} {w0 : World} {H Hr : List Res} {K : Value → WP}
end
section
variable {κ : Bool} {X : Nat → Prop} {S : List Nat} {w0 : World} {H Hr : List Res} {K : Value → WP}
end
end Go.Proofs.YtpnidmkaobfhiaaGreat
namespace Go.Proofs.YtpnidmkaobfhiaaGreat
open Go
set_option linter.unusedVariables false
def B8p (s : ByteArray) (c : Nat) : ByteArray := ⟨(Lib.repeatL s.data.toList c).toArray⟩
end Go.Proofs.YtpnidmkaobfhiaaGreat
