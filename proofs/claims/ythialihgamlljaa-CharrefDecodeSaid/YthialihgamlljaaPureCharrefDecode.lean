/- Any text, decoded, is as the document says; condition: the law's own bound on the input's reach. -/
import Derived.Test.YthialihgamlljaaCharE
import Derived.Test.YthialihgamlljaaCharL
import Derived.Test.YthialihgamlljaaPureAlive
namespace Go.Proofs.Ythialihgamlljaa.Pure
open Go.RowKit Go.Proofs.Ythialihgamlljaa.G Go.Proofs.YthialihgamlljaaW.PrintWords Go.Proofs.YthialihgamlljaaW.PrintLast Go.Proofs.Ythialihgamlljaa.Spec
set_option linter.unusedVariables false
set_option linter.unusedSimpArgs false

theorem CharrefDecode : marginalialaw03_CharrefDecode.Pure := by
  intro a0 a1 _
  obtain ⟨l, rfl, hl⟩ := mkB_of a0
  refine ⟨1000, ?_⟩
  unfold marginalialaw03_CharrefDecode.f
  rw [alive03 (by omega)]
  by_cases h : ((mkB l).size : Int) > 200
  · rw [if_pos h]; rfl
  · rw [if_neg h]
    rw [mkB_size] at h
    rw [decode_ok a1 l (by omega) (by omega), refDecode_ok a1 l (by omega) (by omega)]
    simp

end Go.Proofs.Ythialihgamlljaa.Pure
