-- laid by a program of this session's (wip/tools/lawrow.py)
import Derived.Test.YtpelfhldgnmhpaaRows
import Derived.Test.YtpelfhldgnmhpaaG34
import Derived.Test.YtpelfhldgnmhpaaPureTokenBack
import Derived.Test.YtpelfhldgnmhpaaOpen
import Derived.Test.YtpelfhldgnmhpaaOpenTok
import Derived.WalkKit
import Derived.ProofKit
import Derived.OpenShut
import Derived.ShutString
import Derived.ChangeOld
import Derived.Below
import Derived.SizedLaws
import Derived.HandedShaped
import Derived.Lib.SmallJoins
import Derived.Test.YtpelfhldgnmhpaaWWords
namespace Go.Proofs.Ytpelfhldgnmhpaa.tokenBack
open Go.ChangeShapes Go.WideShapes Go.ChangeAt Go.RowKit
open Go.ChangeMaps (open_string shut_string)
open Go.Proofs.YtpelfhldgnmhpaaW.PrintWords
set_option linter.unusedVariables false
theorem own : ownKnob Try.prog.godebug = none := by kernel_rfl
theorem laidOut : laidOutB Try.prog = true := by kernel_rfl
set_option maxRecDepth 100000 in
theorem lifted (os : Os) (started : os.Started) (H : Type) (enc : TypeId × Value → H) :
    ReturnsInHanded {} Try.checked os 7 .any (Rows.tokenBackSpec.pre6 enc Try.prog Try.f7 Rows.tokenBackRow.domain false) (Rows.tokenBackSpec.post enc Try.prog Try.f7 false true false false) := by
  refine returnsInHanded_of_change_shaped (C := Try.checked) own started (by kernel_rfl) Try.func7
    (ChangeSpec.witness6 (enc := enc) (C := Try.checked) false ⟨#[], #[.agg #[.int .i64 0, .string ByteArray.empty, .slice none 0 0, .bool false, .string ByteArray.empty], .string ByteArray.empty], []⟩ 8 (by kernel_rfl) (by kernel_rfl) (by kernel_rfl) (by kernel_rfl)) ?_
  intro W base args ds gs before hval0 hW hcnd hsz0 hsh _
  have hMM : G.HM W := Try.laysM145.s1_3 W hsh
  have hsz : (DataW.weightsEach Try.prog (Try.f7.params.toList ++ Rows.tokenBackSpec.plain.varTypes Try.prog) (ds ++ gs)).all (· ≤ reachBytes) = true := hsz0
  have hval : ∀ (j : Nat) t v, Try.f7.params[j]? = some t → args[j]? = some v → Value.okWide Try.prog W .any base t v := hval0
  have hW' := hW
  obtain ⟨p, q, hA0, hV, rfl, hfz, hnd⟩ := hW
  have hA : DataW.TrodAll enc Try.prog W 0 (fun _ => true) true Try.f7.params.toList args.toList ds p := hA0
  rw [Try.params7] at hA hval hsz
  obtain ⟨v0, vs0, d0, ds0, p0, q0, hargs, rfl, rfl, h0, r0⟩ := trodAll_cons hA
  obtain ⟨v1, vs1, d1, ds1, p1, q1, rfl, rfl, rfl, h1, r1⟩ := trodAll_cons r0
  obtain ⟨rfl, rfl, rfl⟩ := trodAll_nil r1
  obtain rfl : args = #[v0, v1] := by cases args; simp_all
  obtain ⟨rfl, rfl⟩ := trodVars_none hV
  have k0 := h0
  have lt0 : ∀ x ∈ p0, x.block < W.heap.size := by obtain ⟨m, hm⟩ := k0; exact DataW.trod_lt m _ _ _ hm
  obtain ⟨cs0, rfl, _⟩ := Go.WideShapes.okWide_struct Try.underlying29 (hval 0 29 v0 rfl rfl)
  obtain ⟨a0_0, a0_1, A0, cap0, l0, a0_3, a0_4, e0_, hc0, hC0, hn0, hb0⟩ : ∃ (kd : Int) (nm : ByteArray) (A : Option Addr) (cp : Nat) (l : List G.S41) (c : Bool) (tx : ByteArray), cs0.toList = [.int .i64 kd, .string nm, .slice A l.length cp, .bool c, .string tx] ∧ l.length ≤ cp ∧ Kd.C G.k41 W A l.length l ∧ nm.size ≤ 9223372036854775807 ∧ ∀ a ∈ l, a.f0.size ≤ 9223372036854775807 := by
    obtain ⟨fuel, hf⟩ := h0
    exact Op.opens_token fuel _ _ _ _ hf
  obtain rfl : cs0 = #[.int .i64 a0_0, .string a0_1, .slice A0 l0.length cap0, .bool a0_3, .string a0_4] := by cases cs0; simp_all
  obtain ⟨a1, rfl, rfl, rfl, y1⟩ := open_string Try.underlying9 (hval 1 9 v1 rfl rfl) h1
  have w1 : a1.size ≤ 140737488351232 := by
    have z := sized_string hsz (j := 1) (t := 9) rfl rfl
    rw [Array.length_toList] at z
    exact z
  obtain ⟨k, hk⟩ := Pure.TokenBack a0_0 a0_1 l0 a0_3 a0_4 a1 hn0 hb0
  clear hA0 hval0 hsz0 hsz
  refine (G.marginalialaw04_TokenBack.callsT k a0_0 a0_1 A0 cap0 l0 a0_3 a0_4 a1 W hC0 hc0 hMM hk).mono fun e W' ⟨he, bel⟩ => ?_
  subst he
  exact ⟨_, rfl, _, _, _, [], _, [], hW', trodAll_mk1 (shut_bool Try.underlying4 _), (trodAll_cons_mk (Below.trod laidOut (by kernel_rfl) (of_decide_eq_true (by kernel_rfl)) k0 bel lt0) (trodAll_cons_mk (shut_string Try.underlying9 y1) trodAll_mk0)), rfl, bel.frame _, fun h => by cases h⟩
theorem over : Rows.tokenBackRow.holds Try.pinned (OpenSpec.ofChange Rows.tokenBackSpec) :=
  OpenClaim.holds_of_wide 7 Try.f7 rfl rfl rfl rfl rfl rfl rfl ⟨rfl, rfl, rfl, rfl, rfl⟩ rfl rfl rfl rfl rfl (by kernel_rfl) Try.func7 (by kernel_rfl)
    (of_decide_eq_true (by kernel_rfl)) (by unfold Func.isWrapper; first | (rw [if_pos (by decide +kernel)]; kernel_rfl) | (rw [if_neg (by decide +kernel)]; exact ⟨rfl, rfl⟩))
    (fun os started H enc _ => lifted os started H enc)
theorem proved : Rows.TokenBackSaid := over
#print axioms proved
end Go.Proofs.Ytpelfhldgnmhpaa.tokenBack
namespace Go.Proofs.Ytpelfhldgnmhpaa
/-- The row, under a short name, for the claim. -/
theorem tokenBack_holds : Rows.TokenBackSaid := tokenBack.proved
end Go.Proofs.Ytpelfhldgnmhpaa
