/- Any nodes are written as the document says: the law, from the two sides. No condition: beyond the bound the law asks nothing. -/
import Derived.Test.YthialihgamlljaaPureFragR
namespace Go.Proofs.Ythialihgamlljaa.Pure
open Go.RowKit Go.Proofs.Ythialihgamlljaa.G Go.Proofs.YthialihgamlljaaW.PrintWords Go.Proofs.YthialihgamlljaaW.PrintLast Go.Proofs.Ythialihgamlljaa.Spec
set_option linter.unusedVariables false
set_option linter.unusedSimpArgs false

theorem PrintFragment : ∀ l0 : List S43, ∃ k, marginalialaw09_PrintFragment.f k l0 = some true := by
  intro l
  refine ⟨30000, ?_⟩
  obtain ⟨w, e, h1, h2⟩ := weight_ok 40 (by omega) l 1500 30000 (by omega) (by omega) (by omega)
  have e' : marginaliaref09_Weight.f 30000 l 1500 40 = some (w : Int) := e
  rw [marginalialaw09_PrintFragment.f, e', Option.bind_some]
  by_cases h : (1500 : Int) ≤ (w : Int)
  · rw [if_pos h, alive09 (by omega), Option.bind_some]
  · have hs := h2 (by omega)
    have hs2 : szL (39 + 1) l < 1500 := by have : szL (39 + 1) l = szL 40 l := rfl; omega
    rw [if_neg h, alive09 (by omega), Option.bind_some, if_pos rfl, fragment_ok (d := 40) (by omega) (by omega), Option.bind_some, refFragment_ok (d := 39) hs2 (by omega), Option.bind_some, mkB_toList]
    simp

end Go.Proofs.Ythialihgamlljaa.Pure
