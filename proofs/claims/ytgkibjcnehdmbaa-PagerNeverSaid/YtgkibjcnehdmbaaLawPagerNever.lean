/- The law PagerNever holds for every input: it returns true and leaves its arguments as they were. No condition. (Laid by a program of this session: wip/tools/prow.py.) -/
import Derived.Test.YtgkibjcnehdmbaaRows
import Derived.Test.YtgkibjcnehdmbaaHB
import Derived.WalkKit
import Derived.ProofKit
import Derived.OpenShut
import Derived.ShutString
import Derived.ChangeOld
import Derived.Below
import Derived.SizedLaws
import Derived.Test.YtgkibjcnehdmbaaWWords
namespace Go.Proofs.Ytgkibjcnehdmbaa.pagerNever
open Go.ChangeShapes Go.WideShapes Go.ChangeAt Go.RowKit
open Go.ChangeMaps (open_string shut_string)
open Go.Proofs.YtgkibjcnehdmbaaW.PrintWords
set_option linter.unusedVariables false
theorem own : ownKnob Try.prog.godebug = none := by kernel_rfl
theorem laidOut : laidOutB Try.prog = true := by kernel_rfl
set_option maxHeartbeats 2000000 in
set_option maxRecDepth 100000 in
theorem lifted (os : Os) (started : os.Started) (H : Type) (enc : TypeId × Value → H) :
    ReturnsInHanded {} Try.checked os 4 .any (Rows.pagerNeverSpec.pre6 enc Try.prog Try.f4 Rows.pagerNeverRow.domain false) (Rows.pagerNeverSpec.post enc Try.prog Try.f4 false true false false) := by
  refine returnsInHanded_of_change_sized (C := Try.checked) own started (by kernel_rfl) Try.func4
    (ChangeSpec.witness6 (enc := enc) (C := Try.checked) false ⟨#[], #[.slice none 0 0, .slice none 0 0], []⟩ 8 (by kernel_rfl) (by kernel_rfl) (by kernel_rfl) (by kernel_rfl)) ?_
  intro W base args ds gs before hval0 hW hcnd hsz0 _
  have hval : ∀ (j : Nat) t v, Try.f4.params[j]? = some t → args[j]? = some v → Value.okWide Try.prog W .any base t v := hval0
  have hW' := hW
  obtain ⟨p, q, hA0, hV, rfl, hfz, hnd⟩ := hW
  have hA : DataW.TrodAll enc Try.prog W 0 (fun _ => true) true Try.f4.params.toList args.toList ds p := hA0
  rw [Try.params4] at hA hval
  obtain ⟨v0, vs0, d0, ds0, p0, q0, hargs, rfl, rfl, h0, r0⟩ := trodAll_cons hA
  obtain ⟨v1, vs1, d1, ds1, p1, q1, rfl, rfl, rfl, h1, r1⟩ := trodAll_cons r0
  obtain ⟨rfl, rfl, rfl⟩ := trodAll_nil r1
  obtain rfl : args = #[v0, v1] := by cases args; simp_all
  obtain ⟨rfl, rfl⟩ := trodVars_none hV
  have k0 := h0
  have lt0 : ∀ x ∈ p0, x.block < W.heap.size := by obtain ⟨m, hm⟩ := k0; exact DataW.trod_lt m _ _ _ hm
  have hc0 : v0.cells.toList = [v0] := by obtain ⟨_, _, _, e⟩ := okWide_slice Try.underlying54 (hval 0 54 v0 rfl rfl); rw [e]; rfl
  obtain ⟨m0, hm0⟩ := h0
  rw [hc0] at hm0
  obtain ⟨l0, B0, e0, rfl, ok0⟩ := G.open_acts hm0
  have k1 := h1
  have lt1 : ∀ x ∈ p1, x.block < W.heap.size := by obtain ⟨m, hm⟩ := k1; exact DataW.trod_lt m _ _ _ hm
  have hc1 : v1.cells.toList = [v1] := by obtain ⟨_, _, _, e⟩ := okWide_slice Try.underlying38 (hval 1 38 v1 rfl rfl); rw [e]; rfl
  obtain ⟨m1, hm1⟩ := h1
  rw [hc1] at hm1
  obtain ⟨l1, B1, e1, rfl, ok1⟩ := G.open_bytes hm1
  clear hA0 hval0 hsz0
  refine (G.pagerNever.calls B0 e0 l0 B1 e1 l1 W ok0 ok1).mono fun e W' ⟨he, bel⟩ => ?_
  subst he
  exact ⟨_, rfl, _, _, _, [], _, [], hW', trodAll_mk1 (shut_bool Try.underlying4 _), (trodAll_cons_mk (Below.trod laidOut (by kernel_rfl) (of_decide_eq_true (by kernel_rfl)) k0 bel lt0) (trodAll_cons_mk (Below.trod laidOut (by kernel_rfl) (of_decide_eq_true (by kernel_rfl)) k1 bel lt1) trodAll_mk0)), rfl, bel.frame _, fun h => by cases h⟩
theorem over : Rows.pagerNeverRow.holds Try.pinned (OpenSpec.ofChange Rows.pagerNeverSpec) :=
  OpenClaim.holds_of_wide 4 Try.f4 rfl rfl rfl rfl rfl rfl rfl ⟨rfl, rfl, rfl, rfl, rfl⟩ rfl rfl rfl rfl rfl (by kernel_rfl) Try.func4 (by kernel_rfl)
    (of_decide_eq_true (by kernel_rfl)) (by unfold Func.isWrapper; first | (rw [if_pos (by decide +kernel)]; kernel_rfl) | (rw [if_neg (by decide +kernel)]; exact ⟨rfl, rfl⟩))
    (fun os started H enc _ => lifted os started H enc)
theorem proved : Rows.PagerNeverSaid := over
#print axioms proved
end Go.Proofs.Ytgkibjcnehdmbaa.pagerNever
namespace Go.Proofs.Ytgkibjcnehdmbaa
/-- The row, under a short name, for the claim. -/
theorem pagerNever_holds : Rows.PagerNeverSaid := pagerNever.proved
end Go.Proofs.Ytgkibjcnehdmbaa
