/- Any text is escaped as the document says; condition: the law's own bound on the input's reach. -/
import Derived.Test.YthialihgamlljaaPureEscR
namespace Go.Proofs.Ythialihgamlljaa.Pure
open Go.RowKit Go.Proofs.Ythialihgamlljaa.G Go.Proofs.YthialihgamlljaaW.PrintWords Go.Proofs.YthialihgamlljaaW.PrintLast Go.Proofs.Ythialihgamlljaa.Spec
set_option linter.unusedVariables false
set_option linter.unusedSimpArgs false

theorem PrintEscape : marginalialaw09_PrintEscape.Pure := by
  intro a0 a1 _
  obtain ⟨l, rfl, hl⟩ := mkB_of a0
  refine ⟨1000, ?_⟩
  unfold marginalialaw09_PrintEscape.f
  rw [alive09 (by omega)]
  by_cases h : ((mkB l).size : Int) > 200
  · rw [if_pos h]; rfl
  · rw [if_neg h]
    rw [mkB_size] at h
    rw [Option.bind_some, if_pos rfl, escape_ok l (by omega), Option.bind_some, refEscape_ok a1 l (by omega) (by omega), Option.bind_some]
    simp

end Go.Proofs.Ythialihgamlljaa.Pure
