/- What stands at any place of any text as a reference is as the document says; condition: the law's own bound on the input's reach. -/
import Derived.Test.YthialihgamlljaaCharE
import Derived.Test.YthialihgamlljaaCharL
import Derived.Test.YthialihgamlljaaPureAlive
namespace Go.Proofs.Ythialihgamlljaa.Pure
open Go.RowKit Go.Proofs.Ythialihgamlljaa.G Go.Proofs.YthialihgamlljaaW.PrintWords Go.Proofs.YthialihgamlljaaW.PrintLast Go.Proofs.Ythialihgamlljaa.Spec
set_option linter.unusedVariables false
set_option linter.unusedSimpArgs false

theorem at_both (l : Bs) (hl : l.length ≤ 1000000) (i : Int) (attr : Bool) {k : Nat} (hk : 2 * l.length + 260 ≤ k) : ∃ t n, charref_At.f k (mkB l) i attr = some (mkB t, n) ∧ marginaliaref03_At.f k (mkB l) i attr = some (mkB t, n) := by
  by_cases h : 0 ≤ i ∧ i < l.length ∧ l.getD i.toNat 0 = 38
  · obtain ⟨h0, h1, h2⟩ := h
    obtain ⟨j, rfl⟩ : ∃ j : Nat, i = j := ⟨i.toNat, by omega⟩
    have hj : j < l.length := by omega
    have h38 : l[j] = 38 := by
      rw [Int.toNat_natCast] at h2
      simpa [List.getD, hj] using h2
    exact ⟨_, _, at_ok l hl j hj h38 attr (by omega), refAt_ok l hl j hj h38 attr (by omega)⟩
  · have hn : i < 0 ∨ (l.length : Int) ≤ i ∨ ∃ j : Nat, i = j ∧ l.getD j 0 ≠ 38 := by
      by_cases c1 : i < 0
      · exact .inl c1
      · by_cases c2 : (l.length : Int) ≤ i
        · exact .inr (.inl c2)
        · refine .inr (.inr ⟨i.toNat, by omega, fun e => h ⟨by omega, by omega, e⟩⟩)
    exact ⟨_, _, at_none l i hn attr (by omega), refAt_none l i hn attr (by omega)⟩
theorem CharrefAt : marginalialaw03_CharrefAt.Pure := by
  intro a0 a1 a2 _ _
  obtain ⟨l, rfl, hl⟩ := mkB_of a0
  refine ⟨1000, ?_⟩
  unfold marginalialaw03_CharrefAt.f
  rw [alive03 (by omega)]
  by_cases h : ((mkB l).size : Int) > 200
  · rw [if_pos h]; rfl
  · rw [if_neg h]
    rw [mkB_size] at h
    obtain ⟨t, n, e1, e2⟩ := at_both l (by omega) a1 a2 (k := 1000) (by omega)
    rw [e1, e2]
    simp

end Go.Proofs.Ythialihgamlljaa.Pure
