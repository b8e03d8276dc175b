/- The text of any number is as the document says; no condition. -/
import Derived.Test.YthialihgamlljaaCharE
import Derived.Test.YthialihgamlljaaCharL
import Derived.Test.YthialihgamlljaaPureAlive
namespace Go.Proofs.Ythialihgamlljaa.Pure
open Go.RowKit Go.Proofs.Ythialihgamlljaa.G Go.Proofs.YthialihgamlljaaW.PrintWords Go.Proofs.YthialihgamlljaaW.PrintLast Go.Proofs.Ythialihgamlljaa.Spec
set_option linter.unusedVariables false
set_option linter.unusedSimpArgs false

theorem CharrefNumber : marginalialaw03_CharrefNumber.Pure := by
  intro a0 _
  refine ⟨400, ?_⟩
  unfold marginalialaw03_CharrefNumber.f
  rw [alive03 (by omega), number_ok, number_ref a0 (by omega)]
  simp

end Go.Proofs.Ythialihgamlljaa.Pure
