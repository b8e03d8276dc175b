/- A reference that stands there is taken as it stands; condition: the law's own bound on the input's reach. -/
import Derived.Test.YthialihgamlljaaCharE
import Derived.Test.YthialihgamlljaaCharL
import Derived.Test.YthialihgamlljaaPureAlive
namespace Go.Proofs.Ythialihgamlljaa.Pure
open Go.RowKit Go.Proofs.Ythialihgamlljaa.G Go.Proofs.YthialihgamlljaaW.PrintWords Go.Proofs.YthialihgamlljaaW.PrintLast Go.Proofs.Ythialihgamlljaa.Spec
set_option linter.unusedVariables false
set_option linter.unusedSimpArgs false

theorem CharrefOne : marginalialaw03_CharrefOne.Pure := by
  intro a0 a1 a2 _ _
  obtain ⟨l, rfl, hl⟩ := mkB_of a0
  refine ⟨6002, ?_⟩
  unfold marginalialaw03_CharrefOne.f
  by_cases h : ((mkB l).size : Int) > 200
  · rw [if_pos h, alive03 (by omega)]; rfl
  · rw [if_neg h]
    rw [mkB_size] at h
    by_cases hc : 0 ≤ a1 ∧ a1 < l.length ∧ l.getD a1.toNat 0 = 38
    · obtain ⟨h0, h1, h2⟩ := hc
      obtain ⟨j, rfl⟩ : ∃ j : Nat, a1 = j := ⟨a1.toNat, by omega⟩
      have hj : j < l.length := by omega
      rw [Int.toNat_natCast] at h2
      have h38 : l[j] = 38 := by simpa [List.getD, hj] using h2
      have hb : ((bt (mkB l) (j : Int)) != 38) = false := by rw [mkB_bt, h2, bt38]; rfl
      have hr := ref_len a2 (l.drop (j + 1))
      have hone := dec_one a2 (l.drop (j + 1))
      have hdrop : l.drop j = 38 :: l.drop (j + 1) := by rw [List.drop_eq_getElem_cons hj, h38]
      simp only [List.length_drop] at hr
      have g1 : ¬ (j : Int) < 0 := by omega
      have g2 : ¬ (j : Int) ≥ ((mkB l).size : Int) := by rw [mkB_size]; omega
      have g3 : (0 : Int) ≤ (j : Int) := by omega
      have g4 : (j : Int) < ((mkB l).size : Int) := by rw [mkB_size]; omega
      rw [at_ok l (by omega) j hj h38 a2 (by omega), Option.bind_some, if_neg g1, if_neg g2, if_pos g3, if_pos g4, hb]
      generalize ref a2 (l.drop (j + 1)) = p at *
      have g5 : ¬ ((p.2 : Nat) : Int) < 1 := by omega
      have w : wrap64 (((mkB l).size : Int) - (j : Int)) = ((l.length - j : Nat) : Int) := by rw [mkB_size, wr (by omega) (by omega)]; omega
      have g6 : ¬ ((p.2 : Nat) : Int) > ((l.length - j : Nat) : Int) := by omega
      have w2 : wrap64 ((j : Int) + ((p.2 : Nat) : Int)) = ((j + p.2 : Nat) : Int) := by rw [← Int.natCast_add, wrn (by omega)]
      have g7 : (j : Int) ≤ ((j + p.2 : Nat) : Int) := by omega
      have g8 : ((j + p.2 : Nat) : Int) ≤ ((mkB l).size : Int) := by rw [mkB_size]; omega
      have hne : ((mkB p.1).toList == ([] : List UInt8)) = false := by rw [mkB_toList, beq_eq_false_iff_ne]; exact hr.2.2
      rw [marginalialaw03_CharrefOne.j0, if_neg Bool.false_ne_true]
      simp only
      rw [if_neg g5, w, if_neg g6, hne, marginalialaw03_CharrefOne.j1, if_neg Bool.false_ne_true, alive03 (by omega), Option.bind_some, if_pos rfl, w2, if_pos g3, if_pos g7, if_pos g8, Int.toNat_natCast, Int.toNat_natCast, mkB_extract]
      have hex : (l.take (j + p.2)).drop j = 38 :: (l.drop (j + 1)).take (p.2 - 1) := by
        rw [List.drop_take, Nat.add_sub_cancel_left, hdrop]
        obtain ⟨n, hn⟩ : ∃ n, p.2 = n + 1 := ⟨p.2 - 1, by omega⟩
        rw [hn]; simp
      rw [hex, decode_ok false _ (by simp; omega) (by simp; omega), Option.bind_some, mkB_toList, mkB_toList, hone]
      simp
    · have hn : a1 < 0 ∨ (l.length : Int) ≤ a1 ∨ ∃ j : Nat, a1 = j ∧ l.getD j 0 ≠ 38 := by
        by_cases c1 : a1 < 0
        · exact .inl c1
        · by_cases c2 : (l.length : Int) ≤ a1
          · exact .inr (.inl c2)
          · refine .inr (.inr ⟨a1.toNat, by omega, fun e => hc ⟨by omega, by omega, e⟩⟩)
      rw [at_none l a1 hn a2 (by omega), Option.bind_some]
      have jt : marginalialaw03_CharrefOne.j0 6002 (mkB l) a1 (mkB []) 0 true = some true := by
        rw [marginalialaw03_CharrefOne.j0, if_pos rfl, alive03 (by omega), Option.bind_some, if_pos rfl, mkB_toList, if_pos rfl]; rfl
      simp only
      by_cases c1 : a1 < 0
      · rw [if_pos c1, jt]
      · rw [if_neg c1]
        by_cases c2 : a1 ≥ ((mkB l).size : Int)
        · rw [if_pos c2, jt]
        · have c2' := c2
          rw [mkB_size] at c2'
          rcases hn with h | h | ⟨j, rfl, hj⟩
          · exact absurd h c1
          · exact absurd h c2'
          · have hb : ((bt (mkB l) (j : Int)) != 38) = true := by rw [mkB_bt, bt38]; simpa using hj
            rw [if_neg c2, if_pos (by omega), if_pos (by rw [mkB_size]; omega), hb, jt]

end Go.Proofs.Ythialihgamlljaa.Pure
