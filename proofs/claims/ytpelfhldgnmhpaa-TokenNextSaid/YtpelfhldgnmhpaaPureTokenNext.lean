/- The next token of a text, from any place, is as the reference tells; condition: the law's own bounds on the texts' reach. -/
import Derived.Test.YtpelfhldgnmhpaaPB
import Derived.Test.YtpelfhldgnmhpaaGD
namespace Go.Proofs.Ytpelfhldgnmhpaa.Pure
open Go.RowKit Go.Proofs.Ytpelfhldgnmhpaa.G Go.Proofs.YtpelfhldgnmhpaaW.PrintWords Go.Proofs.YtpelfhldgnmhpaaW.PrintLast Go.Proofs.Ytpelfhldgnmhpaa.Spec
set_option linter.unusedVariables false
set_option linter.unusedSimpArgs false
theorem TokenNext (a0 : ByteArray) (a1_0 a1_1 : Int) (a1_2 : ByteArray) (a1_3 : Bool) (_ : a0.size ≤ 140737488351232) : ∃ k, marginalialaw04_TokenNext.f k a0 a1_0 a1_1 a1_2 a1_3 = some true := by
 suffices h : ∃ k, (∀ b, marginalialaw04_TokenNext.j0 (k + 1) a0 true a1_0 a1_1 a1_2 a1_3 = some true) ∧ (a0.size ≤ 200 → a1_2.size ≤ 200 → marginalialaw04_TokenNext.j0 (k + 1) a0 false a1_0 a1_1 a1_2 a1_3 = some true) by
   obtain ⟨k, h1, h2⟩ := h
   refine ⟨k + 1, ?_⟩
   unfold marginalialaw04_TokenNext.f
   by_cases g0 : (a0.size : Int) > 200
   · rw [if_pos g0]; exact h1 true
   · rw [if_neg g0]
     by_cases g1 : (a1_2.size : Int) > 200
     · rw [decide_eq_true g1]; exact h1 true
     · rw [decide_eq_false g1]; exact h2 (by omega) (by omega)
 refine ⟨18000000, fun _ => ?_, fun g0 g1 => ?_⟩
 ·
  rw [marginalialaw04_TokenNext.j0, if_pos rfl, alive04 (by omega)]; rfl
 ·
  rw [marginalialaw04_TokenNext.j0, if_neg Bool.false_ne_true, next_ok a0 a1_0 a1_1 a1_2 a1_3 (by omega) (by omega) (by omega), Option.bind_some, refNext_ok a0 a1_0 a1_1 a1_2 a1_3 (by omega) (by omega) (Nat.le_refl _), Option.bind_some, alive04 (by omega), Option.bind_some, if_pos rfl]
  have hl := next_len a0 a1_0 a1_1 a1_2 a1_3 (by omega)
  generalize nextT a0 a1_0 a1_1 a1_2 a1_3 = T at hl
  simp only [TokV.tuple]
  rw [same_self T.kd T.nm T.l T.c T.tx (by omega) (by omega), Option.bind_some, if_pos rfl]
  simp
end Go.Proofs.Ytpelfhldgnmhpaa.Pure
