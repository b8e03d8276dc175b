-- laid by a program of this session's (wip/tools/lawrow.py)
import Derived.Test.YtpelfhldgnmhpaaRows
import Derived.Test.YtpelfhldgnmhpaaGD
import Derived.Test.YtpelfhldgnmhpaaPureTokenNext
import Derived.Test.YtpelfhldgnmhpaaOpen
import Derived.WalkKit
import Derived.ProofKit
import Derived.OpenShut
import Derived.ShutString
import Derived.ChangeOld
import Derived.Below
import Derived.SizedLaws
import Derived.HandedShaped
import Derived.Lib.SmallJoins
import Derived.Test.YtpelfhldgnmhpaaWWords
namespace Go.Proofs.Ytpelfhldgnmhpaa.tokenNext
open Go.ChangeShapes Go.WideShapes Go.ChangeAt Go.RowKit
open Go.ChangeMaps (open_string shut_string)
open Go.Proofs.YtpelfhldgnmhpaaW.PrintWords
set_option linter.unusedVariables false
theorem own : ownKnob Try.prog.godebug = none := by kernel_rfl
theorem laidOut : laidOutB Try.prog = true := by kernel_rfl
set_option maxRecDepth 100000 in
theorem lifted (os : Os) (started : os.Started) (H : Type) (enc : TypeId × Value → H) :
    ReturnsInHanded {} Try.checked os 3 .any (Rows.tokenNextSpec.pre6 enc Try.prog Try.f3 Rows.tokenNextRow.domain false) (Rows.tokenNextSpec.post enc Try.prog Try.f3 false true false false) := by
 refine returnsInHanded_of_change_shaped (C := Try.checked) own started (by kernel_rfl) Try.func3
   (ChangeSpec.witness6 (enc := enc) (C := Try.checked) false ⟨#[], #[.string ByteArray.empty, .agg #[.int .i64 0, .int .i64 0, .string ByteArray.empty, .bool false]], []⟩ 8 (by kernel_rfl) (by kernel_rfl) (by kernel_rfl) (by kernel_rfl)) ?_
 intro W base args ds gs before hval0 hW hcnd hsz0 hsh _
 have hMM : G.HM W := Try.laysM145.s1_3 W hsh
 have hsz : (DataW.weightsEach Try.prog (Try.f3.params.toList ++ Rows.tokenNextSpec.plain.varTypes Try.prog) (ds ++ gs)).all (· ≤ reachBytes) = true := hsz0
 have hval : ∀ (j : Nat) t v, Try.f3.params[j]? = some t → args[j]? = some v → Value.okWide Try.prog W .any base t v := hval0
 have hW' := hW
 obtain ⟨p, q, hA0, hV, rfl, hfz, hnd⟩ := hW
 have hA : DataW.TrodAll enc Try.prog W 0 (fun _ => true) true Try.f3.params.toList args.toList ds p := hA0
 rw [Try.params3] at hA hval hsz
 obtain ⟨v0, vs0, d0, ds0, p0, q0, hargs, rfl, rfl, h0, r0⟩ := trodAll_cons hA
 obtain ⟨v1, vs1, d1, ds1, p1, q1, rfl, rfl, rfl, h1, r1⟩ := trodAll_cons r0
 obtain ⟨rfl, rfl, rfl⟩ := trodAll_nil r1
 obtain rfl : args = #[v0, v1] := by cases args; simp_all
 obtain ⟨rfl, rfl⟩ := trodVars_none hV
 obtain ⟨a0, rfl, rfl, rfl, y0⟩ := open_string Try.underlying9 (hval 0 9 v0 rfl rfl) h0
 have w0 : a0.size ≤ 140737488351232 := by
  have z := sized_string hsz (j := 0) (t := 9) rfl rfl
  rw [Array.length_toList] at z
  exact z
 have k1 := h1
 have lt1 : ∀ x ∈ p1, x.block < W.heap.size := by obtain ⟨m, hm⟩ := k1; exact DataW.trod_lt m _ _ _ hm
 obtain ⟨c0_, c1_, c2_, c3_, y0_, y1_, y2_, y3_, m_, rfl, _, _, g0_, g1_, g2_, g3_⟩ := Go.Joins.open_agg4 Try.underlying24 (by kernel_rfl) (by kernel_rfl) (hval 1 24 v1 rfl rfl) h1
 obtain ⟨a1_0, e0_⟩ := Op.opens_int (k := .i64) Try.underlying3 m_ _ _ _ _ (show DataW.trod enc Try.prog W _ _ _ m_ 3 [c0_] = some y0_ from g0_)
 have e0' : [c0_] = [Value.int .i64 a1_0] := e0_
 cases e0'
 obtain ⟨a1_1, e1_⟩ := Op.opens_int (k := .i64) Try.underlying22 m_ _ _ _ _ (show DataW.trod enc Try.prog W _ _ _ m_ 22 [c1_] = some y1_ from g1_)
 have e1' : [c1_] = [Value.int .i64 a1_1] := e1_
 cases e1'
 obtain ⟨a1_2, e2_⟩ := Op.opens_string Try.underlying9 m_ _ _ _ _ (show DataW.trod enc Try.prog W _ _ _ m_ 9 [c2_] = some y2_ from g2_)
 have e2' : [c2_] = [Value.string a1_2] := e2_
 cases e2'
 obtain ⟨a1_3, e3_⟩ := Op.opens_bool Try.underlying4 m_ _ _ _ _ (show DataW.trod enc Try.prog W _ _ _ m_ 4 [c3_] = some y3_ from g3_)
 have e3' : [c3_] = [Value.bool a1_3] := e3_
 cases e3'
 obtain ⟨k, hk⟩ := Pure.TokenNext a0 a1_0 a1_1 a1_2 a1_3 w0
 clear hA0 hval0 hsz0 hsz
 refine (G.marginalialaw04_TokenNext.calls k a0 a1_0 a1_1 a1_2 a1_3 true W hMM hk).mono fun e W' ⟨he, bel⟩ => ?_
 subst he
 exact ⟨_, rfl, _, _, _, [], _, [], hW', trodAll_mk1 (shut_bool Try.underlying4 _), (trodAll_cons_mk (shut_string Try.underlying9 y0) (trodAll_cons_mk (Below.trod laidOut (by kernel_rfl) (of_decide_eq_true (by kernel_rfl)) k1 bel lt1) trodAll_mk0)), rfl, bel.frame _, fun h => by cases h⟩
theorem over : Rows.tokenNextRow.holds Try.pinned (OpenSpec.ofChange Rows.tokenNextSpec) :=
  OpenClaim.holds_of_wide 3 Try.f3 rfl rfl rfl rfl rfl rfl rfl ⟨rfl, rfl, rfl, rfl, rfl⟩ rfl rfl rfl rfl rfl (by kernel_rfl) Try.func3 (by kernel_rfl)
    (of_decide_eq_true (by kernel_rfl)) (by unfold Func.isWrapper; first | (rw [if_pos (by decide +kernel)]; kernel_rfl) | (rw [if_neg (by decide +kernel)]; exact ⟨rfl, rfl⟩))
    (fun os started H enc _ => lifted os started H enc)
theorem proved : Rows.TokenNextSaid := over
#print axioms proved
end Go.Proofs.Ytpelfhldgnmhpaa.tokenNext
namespace Go.Proofs.Ytpelfhldgnmhpaa
/-- The row, under a short name, for the claim. -/
theorem tokenNext_holds : Rows.TokenNextSaid := tokenNext.proved
end Go.Proofs.Ytpelfhldgnmhpaa
