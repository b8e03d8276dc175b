/- An attribute's value is the first one's of that name; condition: the law's own bound on the input's reach. -/
import Derived.Test.YtpelfhldgnmhpaaPureAlive
import Derived.Test.YtpelfhldgnmhpaaG33
namespace Go.Proofs.Ytpelfhldgnmhpaa.Pure
open Go.RowKit Go.Proofs.Ytpelfhldgnmhpaa.G Go.Proofs.YtpelfhldgnmhpaaW.PrintWords Go.Proofs.YtpelfhldgnmhpaaW.PrintLast
set_option linter.unusedVariables false
set_option linter.unusedSimpArgs false

theorem TokenGet (l0 : List S41) (a1 : ByteArray) (_ : a1.size ≤ 140737488351232) : ∃ k, marginalialaw04_TokenGet.f k l0 a1 = some true := by
  refine ⟨100, ?_⟩
  unfold marginalialaw04_TokenGet.f
  rw [alive04 (by omega)]
  by_cases h : (l0.length : Int) > 20
  · rw [if_pos h]; rfl
  · rw [if_neg h, get_ok a1 l0 (by omega) (by omega), refGet_ok a1 l0 (by omega) (by omega)]
    simp

end Go.Proofs.Ytpelfhldgnmhpaa.Pure
