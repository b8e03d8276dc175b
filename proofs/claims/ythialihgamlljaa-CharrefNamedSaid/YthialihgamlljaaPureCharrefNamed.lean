/- What any name stands for is as the document says; condition: the law's own bound on the input's reach. -/
import Derived.Test.YthialihgamlljaaCharE
import Derived.Test.YthialihgamlljaaCharL
import Derived.Test.YthialihgamlljaaPureAlive
namespace Go.Proofs.Ythialihgamlljaa.Pure
open Go.RowKit Go.Proofs.Ythialihgamlljaa.G Go.Proofs.YthialihgamlljaaW.PrintWords Go.Proofs.YthialihgamlljaaW.PrintLast Go.Proofs.Ythialihgamlljaa.Spec
set_option linter.unusedVariables false
set_option linter.unusedSimpArgs false

theorem CharrefNamed : marginalialaw03_CharrefNamed.Pure := by
  intro a0 _
  obtain ⟨l, rfl, hl⟩ := mkB_of a0
  refine ⟨400, ?_⟩
  unfold marginalialaw03_CharrefNamed.f
  rw [alive03 (by omega)]
  by_cases h : ((mkB l).size : Int) > 200
  · rw [if_pos h]; rfl
  · rw [if_neg h]
    rw [mkB_size] at h
    rw [named_ok l (by omega) (by omega), Option.bind_some, named_ref l (by omega), Option.bind_some]
    simp

end Go.Proofs.Ythialihgamlljaa.Pure
