/- The fixed question of layer 3 is answered true; no condition. -/
import Derived.Test.YthialihgamlljaaCharE
import Derived.Test.YthialihgamlljaaCharL
namespace Go.Proofs.Ythialihgamlljaa.Pure
open Go.RowKit Go.Proofs.Ythialihgamlljaa.G Go.Proofs.YthialihgamlljaaW.PrintWords Go.Proofs.YthialihgamlljaaW.PrintLast Go.Proofs.Ythialihgamlljaa.Spec
set_option linter.unusedVariables false
set_option linter.unusedSimpArgs false

theorem alive03 {k : Nat} (hk : 400 ≤ k) : marginalialaw03_alive.f k = some true := by
  unfold marginalialaw03_alive.f
  have e1 : (⟨#[97, 38, 108, 116, 59]⟩ : ByteArray) = mkB [97, 38, 108, 116, 59] := rfl
  have e2 : (⟨#[38, 35, 120, 52, 49]⟩ : ByteArray) = mkB [38, 35, 120, 52, 49] := rfl
  have h1 := at_ok [97, 38, 108, 116, 59] (by decide) 1 (by decide) (by decide) false (k := k) (by simp; omega)
  have r1 : ref false (List.drop (1 + 1) [97, 38, 108, 116, 59]) = ([60], 4) := ref_lt false []
  rw [r1] at h1
  have h2 := decode_ok true [38, 35, 120, 52, 49] (by decide) (k := k) (by simp; omega)
  have r2 : dec true [38, 35, 120, 52, 49] = [65] := by
    rw [dec_amp]
    have r3 : ref true [35, 120, 52, 49] = ([65], 5) := by rfl
    rw [r3]
    exact congrArg _ (dec_nil true)
  rw [r2] at h2
  have h1' : charref_At.f k (mkB [97, 38, 108, 116, 59]) 1 false = some (mkB [60], ((4 : Nat) : Int)) := h1
  rw [e1, e2, h1', Option.bind_some]
  simp only [mkB_toList]
  rw [if_pos trivial, if_pos (by rfl), h2, Option.bind_some, mkB_toList, if_pos rfl, number_ok, Option.bind_some, mkB_toList]
  rfl

end Go.Proofs.Ythialihgamlljaa.Pure
