/- Texts as lists of bytes. No condition. -/
import Derived.Test.YtpelfhldgnmhpaaSpec
import Derived.Test.YtpelfhldgnmhpaaG13
namespace Go.Proofs.Ytpelfhldgnmhpaa.Pure
open Go.RowKit Go.Proofs.Ytpelfhldgnmhpaa.G Go.Proofs.YtpelfhldgnmhpaaW.PrintWords Go.Proofs.YtpelfhldgnmhpaaW.PrintLast Go.Proofs.YtpelfhldgnmhpaaW.PrintMore
open Go.Proofs.Ytpelfhldgnmhpaa.Spec
set_option autoImplicit false
set_option linter.unusedVariables false
set_option linter.unusedSimpArgs false

/-! #### texts as lists -/
def mkB (l : Bs) : ByteArray := ⟨l.toArray⟩
theorem mkB_of (a : ByteArray) : ∃ l, a = mkB l ∧ l.length = a.size := ⟨a.data.toList, by simp [mkB], by simp⟩
theorem mkB_size (l : Bs) : (mkB l).size = l.length := by simp [mkB, ByteArray.size]
theorem mkB_toList (l : Bs) : (mkB l).toList = l := by rw [ByteArray.toList_eq]; simp [mkB]
theorem mkB_data (l : Bs) : (mkB l).data.toList = l := by simp [mkB]
theorem mkB_inj {l m : Bs} : mkB l = mkB m ↔ l = m := ⟨fun h => by rw [← mkB_data l, h, mkB_data], fun h => by rw [h]⟩
theorem mkB_append (l m : Bs) : mkB l ++ mkB m = mkB (l ++ m) := Go.WideShapes.bytes_inj (by simp [mkB])
theorem mkB_extract (l : Bs) (i j : Nat) : (mkB l).extract i j = mkB ((l.take j).drop i) := Go.WideShapes.bytes_inj (by
  rw [mkB_data, ByteArray.data_extract, Array.toList_extract, List.extract_eq_take_drop, mkB_data]
  rw [List.drop_take])
theorem mkB_lit (a : Array UInt8) : (⟨a⟩ : ByteArray) = mkB a.toList := by simp [mkB]
theorem mkB_bt (l : Bs) (i : Nat) : bt (mkB l) (i : Int) = ((l.getD i 0).toNat : Int) := by
  unfold bt
  simp only [Int.toNat_natCast, mkB_size]
  by_cases h : i < l.length
  · rw [dif_pos h]
    have : (mkB l)[i]'(by rw [mkB_size]; exact h) = l[i] := by simp [mkB, ByteArray.getElem_eq_getElem_data]
    rw [this]; simp [List.getD, h]
  · rw [dif_neg h]; simp [List.getD, h]
theorem wr {n : Int} (h0 : -9223372036854775808 ≤ n) (h1 : n ≤ 9223372036854775807) : wrap64 n = n := by unfold wrap64; omega

theorem wrn {n : Nat} (h : n ≤ 1000000000000) : wrap64 (n : Int) = (n : Int) := by unfold wrap64; omega
theorem by8 {n : Nat} (h : n < 256) : (n : Int) % 256 = (n : Int) := by omega

end Go.Proofs.Ytpelfhldgnmhpaa.Pure
