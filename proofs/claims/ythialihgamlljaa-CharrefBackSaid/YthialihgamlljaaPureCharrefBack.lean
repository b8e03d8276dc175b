/- A text each of whose & is written as a reference is decoded as it was; condition: the law's own bound on the input's reach. -/
import Derived.Test.YthialihgamlljaaCharE
import Derived.Test.YthialihgamlljaaCharL
import Derived.Test.YthialihgamlljaaPureAlive
namespace Go.Proofs.Ythialihgamlljaa.Pure
open Go.RowKit Go.Proofs.Ythialihgamlljaa.G Go.Proofs.YthialihgamlljaaW.PrintWords Go.Proofs.YthialihgamlljaaW.PrintLast Go.Proofs.Ythialihgamlljaa.Spec
set_option linter.unusedVariables false
set_option linter.unusedSimpArgs false

def back (w : Bs) (s : Bs) : Bs := s.flatMap fun c => if c = 38 then 38 :: w else [c]
theorem back_len (w : Bs) (hw : w.length ≤ 6) (s : Bs) : (back w s).length ≤ 7 * s.length := by
  induction s with
  | nil => simp [back]
  | cons c s ih =>
    unfold back at ih ⊢
    rw [List.flatMap_cons, List.length_append, List.length_cons]
    have : (if c = 38 then 38 :: w else [c]).length ≤ 7 := by split <;> simp <;> omega
    omega
theorem back_snoc (w : Bs) (s : Bs) (j : Nat) (h : j < s.length) : back w (s.take (j + 1)) = back w (s.take j) ++ (if s[j] = 38 then 38 :: w else [s[j]]) := by
  rw [List.take_succ_eq_append_getElem h]
  unfold back
  rw [List.flatMap_append]
  simp
theorem back_l0 (l : Bs) (attr : Bool) (hl : l.length ≤ 200) (d : Nat) : ∀ (j k : Nat), j + d = l.length → d + 5000 ≤ k →
    marginalialaw03_CharrefBack.l0 k (mkB l) attr (mkB (back [97, 109, 112, 59] (l.take j))) (mkB (back [35, 51, 56, 59] (l.take j))) (mkB (back [35, 120, 50, 54, 59] (l.take j))) (j : Int) = some true := by
  induction d with
  | zero =>
    intro j k hj hk
    obtain ⟨k, rfl⟩ : ∃ m, k = m + 1 := ⟨k - 1, by omega⟩
    have q1 := back_len [97, 109, 112, 59] (by decide) l
    have q2 := back_len [35, 51, 56, 59] (by decide) l
    have q3 := back_len [35, 120, 50, 54, 59] (by decide) l
    rw [List.take_of_length_le (by omega)]
    simp only [marginalialaw03_CharrefBack.l0]
    rw [if_neg (by rw [mkB_size]; omega), alive03 (by omega), Option.bind_some, if_pos rfl, decode_ok attr _ (by omega) (by omega), Option.bind_some]
    rw [decode_ok attr (back [35, 51, 56, 59] l) (by omega) (by omega), Option.bind_some, decode_ok attr (back [35, 120, 50, 54, 59] l) (by omega) (by omega), Option.bind_some]
    have b1 : dec attr (back [97, 109, 112, 59] l) = l := dec_back attr [97, 109, 112, 59] 5 (fun t => ref_amp attr t) rfl l
    have b2 : dec attr (back [35, 51, 56, 59] l) = l := dec_back attr [35, 51, 56, 59] 5 (fun t => ref_38 attr t) rfl l
    have b3 : dec attr (back [35, 120, 50, 54, 59] l) = l := dec_back attr [35, 120, 50, 54, 59] 6 (fun t => ref_x26 attr t) rfl l
    rw [b1, b2, b3]
    simp
  | succ d ih =>
    intro j k hj hk
    obtain ⟨k, rfl⟩ : ∃ m, k = m + 1 := ⟨k - 1, by omega⟩
    have hlt : j < l.length := by omega
    have hi := ih (j + 1) k (by omega) (by omega)
    rw [back_snoc _ _ _ hlt, back_snoc _ _ _ hlt, back_snoc _ _ _ hlt] at hi
    have q1 := back_len [97, 109, 112, 59] (by decide) (l.take j)
    have q2 := back_len [35, 51, 56, 59] (by decide) (l.take j)
    have q3 := back_len [35, 120, 50, 54, 59] (by decide) (l.take j)
    have hx : (l.take j).length ≤ 200 := by simp; omega
    have w : wrap64 ((j : Int) + 1) = ((j + 1 : Nat) : Int) := wrn (n := j + 1) (by omega)
    have hex : (mkB l).extract j (j + 1) = mkB [l[j]] := by
      rw [mkB_extract]
      congr 1
      rw [List.drop_take, Nat.add_sub_cancel_left, List.drop_eq_getElem_cons hlt]; rfl
    have g0 : (j : Int) < ((mkB l).size : Int) := by rw [mkB_size]; omega
    have g1 : (0 : Int) ≤ (j : Int) := by omega
    have g2 : (j : Int) ≤ ((j + 1 : Nat) : Int) := by omega
    have g3 : ((j + 1 : Nat) : Int) ≤ ((mkB l).size : Int) := by rw [mkB_size]; omega
    have e1 : (⟨#[38, 97, 109, 112, 59]⟩ : ByteArray) = mkB [38, 97, 109, 112, 59] := rfl
    have e2 : (⟨#[38, 35, 51, 56, 59]⟩ : ByteArray) = mkB [38, 35, 51, 56, 59] := rfl
    have e3 : (⟨#[38, 35, 120, 50, 54, 59]⟩ : ByteArray) = mkB [38, 35, 120, 50, 54, 59] := rfl
    simp only [marginalialaw03_CharrefBack.l0]
    rw [w, if_pos g0, if_pos g1, if_pos g2, if_pos g3, Int.toNat_natCast, Int.toNat_natCast, hex, mkB_toList]
    generalize back [97, 109, 112, 59] (l.take j) = x at *
    generalize back [35, 51, 56, 59] (l.take j) = y at *
    generalize back [35, 120, 50, 54, 59] (l.take j) = z at *
    by_cases h : l[j] = 38
    · rw [if_pos (by rw [h]), e1, e2, e3]
      simp only [mkB_size]
      have s1 : x.length + 5 ≤ 9223372036854775807 := by omega
      have s2 : y.length + 5 ≤ 9223372036854775807 := by omega
      have s3 : z.length + 6 ≤ 9223372036854775807 := by omega
      rw [if_pos s1, if_pos s2, if_pos s3, mkB_append, mkB_append, mkB_append]
      rw [if_pos h, if_pos h, if_pos h] at hi
      exact hi
    · rw [if_neg (by simpa using h)]
      simp only [mkB_size, List.length_singleton]
      have s1 : x.length + 1 ≤ 9223372036854775807 := by omega
      have s2 : y.length + 1 ≤ 9223372036854775807 := by omega
      have s3 : z.length + 1 ≤ 9223372036854775807 := by omega
      rw [if_pos s1, if_pos s2, if_pos s3, mkB_append, mkB_append, mkB_append]
      rw [if_neg h, if_neg h, if_neg h] at hi
      exact hi
theorem CharrefBack : marginalialaw03_CharrefBack.Pure := by
  intro a0 a1 _
  obtain ⟨l, rfl, hl⟩ := mkB_of a0
  refine ⟨6000, ?_⟩
  unfold marginalialaw03_CharrefBack.f
  by_cases h : ((mkB l).size : Int) > 200
  · rw [if_pos h, alive03 (by omega)]; rfl
  · rw [if_neg h]
    rw [mkB_size] at h
    exact back_l0 l a1 (by omega) l.length 0 6000 (by omega) (by omega)

end Go.Proofs.Ythialihgamlljaa.Pure
