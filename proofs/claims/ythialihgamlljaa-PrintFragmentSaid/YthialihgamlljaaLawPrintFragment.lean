-- laid by a program of this session's (wip/tools/lawrow.py)
import Derived.Test.YthialihgamlljaaRows
import Derived.Test.YthialihgamlljaaG
import Derived.Test.YthialihgamlljaaPurePrintFragment
import Derived.Test.YthialihgamlljaaOpen
import Derived.WalkKit
import Derived.ProofKit
import Derived.OpenShut
import Derived.ShutString
import Derived.ChangeOld
import Derived.Below
import Derived.SizedLaws
import Derived.Test.YthialihgamlljaaWSized
namespace Go.Proofs.Ythialihgamlljaa.printFragment
open Go.ChangeShapes Go.WideShapes Go.ChangeAt Go.RowKit
open Go.ChangeMaps (open_string shut_string)
open Go.Proofs.YthialihgamlljaaW.PrintWords
set_option linter.unusedVariables false
theorem own : ownKnob Try.prog.godebug = none := by kernel_rfl
theorem laidOut : laidOutB Try.prog = true := by kernel_rfl
set_option maxRecDepth 100000 in
theorem lifted (os : Os) (started : os.Started) (H : Type) (enc : TypeId × Value → H) :
    ReturnsInHanded {} Try.checked os 3 .any (Rows.printFragmentSpec.pre6 enc Try.prog Try.f3 Rows.printFragmentRow.domain false) (Rows.printFragmentSpec.post enc Try.prog Try.f3 false true false false) := by
  refine returnsInHanded_of_change_sized (C := Try.checked) own started (by kernel_rfl) Try.func3
    (ChangeSpec.witness6 (enc := enc) (C := Try.checked) false ⟨#[], #[.slice none 0 0], []⟩ 8 (by kernel_rfl) (by kernel_rfl) (by kernel_rfl) (by kernel_rfl)) ?_
  intro W base args ds gs before hval0 hW hcnd hsz0 _
  have hsz : (DataW.weightsEach Try.prog (Try.f3.params.toList ++ Rows.printFragmentSpec.plain.varTypes Try.prog) (ds ++ gs)).all (· ≤ reachBytes) = true := hsz0
  have hval : ∀ (j : Nat) t v, Try.f3.params[j]? = some t → args[j]? = some v → Value.okWide Try.prog W .any base t v := hval0
  have hW' := hW
  obtain ⟨p, q, hA0, hV, rfl, hfz, hnd⟩ := hW
  have hA : DataW.TrodAll enc Try.prog W 0 (fun _ => true) true Try.f3.params.toList args.toList ds p := hA0
  rw [Try.params3] at hA hval hsz
  obtain ⟨v0, vs0, d0, ds0, p0, q0, hargs, rfl, rfl, h0, r0⟩ := trodAll_cons hA
  obtain ⟨rfl, rfl, rfl⟩ := trodAll_nil r0
  obtain rfl : args = #[v0] := by cases args; simp_all
  obtain ⟨rfl, rfl⟩ := trodVars_none hV
  obtain ⟨a0, len0, cap0, rfl⟩ := okWide_slice Try.underlying22 (hval 0 22 v0 rfl rfl)
  have k0 := h0
  have lt0 : ∀ x ∈ p0, x.block < W.heap.size := by obtain ⟨m, hm⟩ := k0; exact DataW.trod_lt m _ _ _ hm
  obtain ⟨l0, hl0, hc0, hC0⟩ : ∃ l : List G.S43, l.length = len0 ∧ l.length ≤ cap0 ∧ Kd.C G.k43 W a0 l.length l := by
    obtain ⟨fuel, hf⟩ := h0
    obtain ⟨l, A_, c_, e_, h1, h2⟩ := Op.opens_nodes fuel _ _ _ _ hf
    have e' : [Value.slice a0 len0 cap0] = [Value.slice A_ l.length c_] := e_
    cases e'
    exact ⟨l, rfl, h1, h2⟩
  subst hl0
  obtain ⟨k, hk⟩ := Pure.PrintFragment l0
  clear hA0 hval0 hsz0 hsz
  refine (G.marginalialaw09_PrintFragment.calls k a0 cap0 l0 true W hC0 hc0 hk).mono fun e W' ⟨he, bel⟩ => ?_
  subst he
  exact ⟨_, rfl, _, _, _, [], _, [], hW', trodAll_mk1 (shut_bool Try.underlying4 _), (trodAll_cons_mk (Below.trod laidOut (by kernel_rfl) (of_decide_eq_true (by kernel_rfl)) k0 bel lt0) trodAll_mk0), rfl, bel.frame _, fun h => by cases h⟩
theorem over : Rows.printFragmentRow.holds Try.pinned (OpenSpec.ofChange Rows.printFragmentSpec) :=
  OpenClaim.holds_of_wide 3 Try.f3 rfl rfl rfl rfl rfl rfl rfl ⟨rfl, rfl, rfl, rfl, rfl⟩ rfl rfl rfl rfl rfl (by kernel_rfl) Try.func3 (by kernel_rfl)
    (of_decide_eq_true (by kernel_rfl)) (by unfold Func.isWrapper; first | (rw [if_pos (by decide +kernel)]; kernel_rfl) | (rw [if_neg (by decide +kernel)]; exact ⟨rfl, rfl⟩))
    (fun os started H enc _ => lifted os started H enc)
theorem proved : Rows.PrintFragmentSaid := over
#print axioms proved
end Go.Proofs.Ythialihgamlljaa.printFragment
namespace Go.Proofs.Ythialihgamlljaa
/-- The row, under a short name, for the claim. -/
theorem printFragment_holds : Rows.PrintFragmentSaid := printFragment.proved
end Go.Proofs.Ythialihgamlljaa
