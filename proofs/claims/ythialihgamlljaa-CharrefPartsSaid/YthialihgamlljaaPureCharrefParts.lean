/- Two texts with a blank, or a <, between are decoded each by itself; condition: the law's own bound on the input's reach. -/
import Derived.Test.YthialihgamlljaaCharE
import Derived.Test.YthialihgamlljaaCharL
import Derived.Test.YthialihgamlljaaPureAlive
namespace Go.Proofs.Ythialihgamlljaa.Pure
open Go.RowKit Go.Proofs.Ythialihgamlljaa.G Go.Proofs.YthialihgamlljaaW.PrintWords Go.Proofs.YthialihgamlljaaW.PrintLast Go.Proofs.Ythialihgamlljaa.Spec
set_option linter.unusedVariables false
set_option linter.unusedSimpArgs false

theorem dec_len (attr : Bool) (d : Nat) : ∀ l : Bs, l.length ≤ d → (dec attr l).length ≤ 4 * l.length := by
  induction d with
  | zero =>
    intro l h
    obtain rfl : l = [] := List.eq_nil_of_length_eq_zero (by omega)
    rw [dec_nil]; simp
  | succ d ih =>
    intro l h
    cases l with
    | nil => rw [dec_nil]; simp
    | cons c r =>
      simp only [List.length_cons] at h
      by_cases h38 : c = 38
      · subst h38
        have := ih (r.drop ((ref attr r).2 - 1)) (by simp; omega)
        have h2 := ref_out attr r
        rw [dec_amp, List.length_append, List.length_cons]
        simp only [List.length_drop] at this
        omega
      · have := ih r (by omega)
        rw [dec_other attr c r h38, List.length_cons, List.length_cons]
        omega
theorem CharrefParts : marginalialaw03_CharrefParts.Pure := by
  intro a0 a1 a2 _ _
  obtain ⟨l, rfl, hl⟩ := mkB_of a0
  obtain ⟨m, rfl, hm⟩ := mkB_of a1
  refine ⟨6001, ?_⟩
  have jt : marginalialaw03_CharrefParts.j0 6001 (mkB l) (mkB m) a2 true = some true := by
    rw [marginalialaw03_CharrefParts.j0, if_pos rfl, alive03 (by omega)]; rfl
  unfold marginalialaw03_CharrefParts.f
  by_cases h : ((mkB l).size : Int) > 200
  · rw [if_pos h, jt]
  · rw [if_neg h]
    by_cases h2 : ((mkB m).size : Int) > 200
    · rw [decide_eq_true h2, jt]
    · rw [decide_eq_false h2]
      rw [mkB_size] at h h2
      have q1 := dec_len a2 _ l (Nat.le_refl _)
      have q2 := dec_len a2 _ m (Nat.le_refl _)
      have e1 : (⟨#[32]⟩ : ByteArray) = mkB [32] := rfl
      have e2 : (⟨#[60]⟩ : ByteArray) = mkB [60] := rfl
      have d1 : dec a2 (l ++ [32] ++ m) = dec a2 l ++ [32] ++ dec a2 m := by
        have := dec_sep a2 32 (.inl rfl) m _ l (Nat.le_refl _)
        simpa using this
      have d2 : dec a2 (l ++ [60] ++ m) = dec a2 l ++ [60] ++ dec a2 m := by
        have := dec_sep a2 60 (.inr rfl) m _ l (Nat.le_refl _)
        simpa using this
      have s1 : l.length + 1 ≤ 9223372036854775807 := by omega
      have s2 : l.length + 1 + m.length ≤ 9223372036854775807 := by omega
      have s3 : (dec a2 l).length + 1 ≤ 9223372036854775807 := by omega
      have s4 : (dec a2 l).length + 1 + (dec a2 m).length ≤ 9223372036854775807 := by omega
      rw [marginalialaw03_CharrefParts.j0, if_neg Bool.false_ne_true, decode_ok a2 l (by omega) (by omega), Option.bind_some, decode_ok a2 m (by omega) (by omega), Option.bind_some, alive03 (by omega), Option.bind_some, if_pos rfl, e1, e2]
      simp only [mkB_size, mkB_append]
      rw [if_pos s1, if_pos s2, decode_ok a2 _ (by simp; omega) (by simp; omega), Option.bind_some, if_pos s3, if_pos s4, mkB_toList, mkB_toList, d1, if_pos rfl, decode_ok a2 _ (by simp; omega) (by simp; omega), Option.bind_some, mkB_toList, d2]
      simp [mkB_toList]

end Go.Proofs.Ythialihgamlljaa.Pure
