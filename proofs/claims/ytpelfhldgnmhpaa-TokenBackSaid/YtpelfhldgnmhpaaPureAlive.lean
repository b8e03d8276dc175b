/- The fixed question of layer 4 is answered true; no condition. -/
import Derived.Test.YtpelfhldgnmhpaaG32
import Derived.Test.YtpelfhldgnmhpaaG32
import Derived.KernelRfl
namespace Go.Proofs.Ytpelfhldgnmhpaa.Pure
open Go.RowKit Go.Proofs.Ytpelfhldgnmhpaa.G Go.Proofs.YtpelfhldgnmhpaaW.PrintWords Go.Proofs.YtpelfhldgnmhpaaW.PrintLast
set_option linter.unusedVariables false
set_option linter.unusedSimpArgs false

theorem alive60 : marginalialaw04_alive.f 60 = some true := by kernel_rfl
theorem alive04 {k : Nat} (hk : 60 ≤ k) : marginalialaw04_alive.f k = some true := at_rounds (fun k => marginalialaw04_alive.mono k) hk alive60

/-- What an attribute's value is: the first one's of that name. -/
def getS (nm : ByteArray) : List S41 → ByteArray × Bool
  | [] => (⟨#[]⟩, false)
  | a :: l => if a.f0.toList = nm.toList then (a.f1, true) else getS nm l
theorem rd41 (l : List S41) (i : Nat) (h : i < l.length) : rd_T41 l (i : Int) = l[i] := by
  unfold rd_T41
  rw [Int.toNat_natCast, List.getD, List.getElem?_eq_getElem h]; rfl
theorem wr1 {n : Nat} (h : n ≤ 1000000000000) : wrap64 ((n : Int) + 1) = ((n + 1 : Nat) : Int) := by unfold wrap64; omega
theorem get_l0 (nm : ByteArray) (l : List S41) (hl : l.length ≤ 1000000000) (d : Nat) : ∀ (i k : Nat), i + d = l.length → d < k → token_Get.l0 k nm l (l.length : Int) (i : Int) = some (getS nm (l.drop i)) := by
  induction d with
  | zero =>
    intro i k hi hk
    obtain ⟨k, rfl⟩ : ∃ m, k = m + 1 := ⟨k - 1, by omega⟩
    rw [token_Get.l0, if_neg (by omega), List.drop_of_length_le (by omega)]; rfl
  | succ d ih =>
    intro i k hi hk
    obtain ⟨k, rfl⟩ : ∃ m, k = m + 1 := ⟨k - 1, by omega⟩
    have hlt : i < l.length := by omega
    rw [token_Get.l0, if_pos (by omega), if_pos (by omega), if_pos (by omega), rd41 l i hlt, List.drop_eq_getElem_cons hlt, getS]
    by_cases h : l[i].f0.toList = nm.toList
    · rw [if_pos h, if_pos h]
    · rw [if_neg h, if_neg h, wr1 (by omega)]; exact ih (i + 1) k (by omega) (by omega)
theorem get_ok (nm : ByteArray) (l : List S41) (hl : l.length ≤ 1000000000) {k : Nat} (hk : l.length < k) : token_Get.f k l nm = some (getS nm l) := get_l0 nm l hl l.length 0 k (by omega) hk
theorem refGet_l0 (nm : ByteArray) (l : List S41) (hl : l.length ≤ 1000000000) (d : Nat) : ∀ (i k : Nat), i + d = l.length → d < k → marginaliaref04_Get.l0 k l nm (i : Int) = some (getS nm (l.drop i)) := by
  induction d with
  | zero =>
    intro i k hi hk
    obtain ⟨k, rfl⟩ : ∃ m, k = m + 1 := ⟨k - 1, by omega⟩
    rw [marginaliaref04_Get.l0, if_neg (by omega), List.drop_of_length_le (by omega)]; rfl
  | succ d ih =>
    intro i k hi hk
    obtain ⟨k, rfl⟩ : ∃ m, k = m + 1 := ⟨k - 1, by omega⟩
    have hlt : i < l.length := by omega
    rw [marginaliaref04_Get.l0, if_pos (by omega), if_pos (by omega), rd41 l i hlt, List.drop_eq_getElem_cons hlt, getS]
    by_cases h : l[i].f0.toList = nm.toList
    · rw [if_pos h, if_pos h]
    · rw [if_neg h, if_neg h, wr1 (by omega)]; exact ih (i + 1) k (by omega) (by omega)
theorem refGet_ok (nm : ByteArray) (l : List S41) (hl : l.length ≤ 1000000000) {k : Nat} (hk : l.length < k) : marginaliaref04_Get.f k l nm = some (getS nm l) := refGet_l0 nm l hl l.length 0 k (by omega) hk

end Go.Proofs.Ytpelfhldgnmhpaa.Pure
