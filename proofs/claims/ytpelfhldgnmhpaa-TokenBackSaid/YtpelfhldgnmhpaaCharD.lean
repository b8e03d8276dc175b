/- The printed functions of package charref (names), over any texts of at most a million bytes: each tells what the list law (Spec) says. Condition: a text has at most a million bytes. -/
import Derived.Test.YtpelfhldgnmhpaaCharB
import Derived.Test.YtpelfhldgnmhpaaCharC
namespace Go.Proofs.Ytpelfhldgnmhpaa.Pure
open Go.RowKit Go.Proofs.Ytpelfhldgnmhpaa.G Go.Proofs.YtpelfhldgnmhpaaW.PrintWords Go.Proofs.YtpelfhldgnmhpaaW.PrintLast Go.Proofs.YtpelfhldgnmhpaaW.PrintMore
open Go.Proofs.Ytpelfhldgnmhpaa.Spec
set_option autoImplicit false
set_option linter.unusedVariables false
set_option linter.unusedSimpArgs false


/-! #### the longest name -/
theorem byName_l0 (l : Bs) (hl : l.length ≤ 1000000) (j : Nat) : ∀ (k : Nat), j ≤ l.length → (longest l).2 ≤ j → j + 7 ≤ k →
    charref_byName.l0 k (mkB l) (j : Int) = some (if (longest l).2 = 0 then (mkB [], 0) else (mkB (utf8 (longest l).1), (((longest l).2 : Nat) : Int))) := by
  have hs := longest_spec l
  generalize longest l = p at *
  induction j with
  | zero =>
    intro k hj hp hk
    obtain ⟨k, rfl⟩ : ∃ m, k = m + 1 := ⟨k - 1, by omega⟩
    simp only [charref_byName.l0]
    rw [if_neg (by omega), if_pos (by omega)]; rfl
  | succ j ih =>
    intro k hj hp hk
    obtain ⟨k, rfl⟩ : ∃ m, k = m + 1 := ⟨k - 1, by omega⟩
    simp only [charref_byName.l0]
    rw [if_pos (by omega), if_pos (by omega), if_pos (by rw [mkB_size]; omega), mkB_extract, Int.toNat_natCast, List.drop_zero, named_ok (l.take (j + 1)) (by simp; omega) (by omega), Option.bind_some]
    have w : wrap64 (((j + 1 : Nat) : Int) - 1) = (j : Int) := by rw [wr (by omega) (by omega)]; omega
    by_cases e : p.2 = j + 1
    · rcases hs with ⟨h1, _⟩ | ⟨h1, _, _, h4, h5, _, _⟩
      · rw [h1] at e; simp at e
      · rw [← e, h4, if_neg h5, if_neg h1]
        simp only [if_true]
    · have hz : named (l.take (j + 1)) = 0 := by
        rcases hs with ⟨_, h2⟩ | ⟨_, _, _, _, _, _, h7⟩
        · exact h2 _
        · exact h7 _ (by omega) hj
      rw [hz]
      simp only [if_true, Bool.false_eq_true, if_false]
      rw [w]
      exact ih k (by omega) (by omega) (by omega)

theorem byName_ok (l : Bs) (hl : l.length ≤ 1000000) {k : Nat} (hk : 16 ≤ k) :
    charref_byName.f k (mkB l) = some (if (longest l).2 = 0 then (mkB [], 0) else (mkB (utf8 (longest l).1), (((longest l).2 : Nat) : Int))) := by
  unfold charref_byName.f
  have hm : mn ((mkB l).size : Int) 8 = ((min l.length 8 : Nat) : Int) := by rw [mkB_size]; unfold mn; split <;> omega
  rw [hm]
  have hb : (longest l).2 ≤ l.length ∧ (longest l).2 ≤ 8 := by
    rcases longest_spec l with ⟨h1, _⟩ | ⟨_, h2, h3, _⟩
    · rw [h1]; simp
    · exact ⟨h2, h3⟩
  exact byName_l0 l hl (min l.length 8) k (by omega) (by omega) (by omega)

/-! #### the reference at a place -/
theorem cutPrefix_ok (l : Bs) : strings_CutPrefix.f (mkB l) ⟨#[35]⟩ = some (if l.head? = some 35 then (mkB (l.drop 1), true) else (mkB l, false)) := by
  unfold strings_CutPrefix.f stringslite_CutPrefix.f stringslite_HasPrefix.f
  rw [mkB_lit]
  simp only [mkB_size, mkB_extract, mkB_toList]
  cases l with
  | nil => simp [mkB]
  | cons c r =>
    rw [if_pos (by simp <;> omega), if_pos (by simp), if_pos (by simp <;> omega)]
    by_cases hc : c = 35
    · subst hc
      rw [Option.bind_some, if_pos (by simp), if_pos (by simp), if_pos (by simp <;> omega)]
      simp
    · rw [Option.bind_some, if_neg (by simp [hc])]
      simp [hc]

theorem stays_ok (r : Bs) : charref_stays.f (mkB r) = some (stays r) := by
  unfold charref_stays.f
  rw [mkB_toList]
  cases r with
  | nil => simp [stays]
  | cons c r =>
    have e := mkB_bt (c :: r) 0
    have e' : bt (mkB (c :: r)) 0 = (c.toNat : Int) := e
    rw [if_neg (by simp), if_pos (by rw [mkB_size]; simp <;> omega), e', letter_ok, Option.bind_some, figure_ok, Option.bind_some]
    unfold stays
    by_cases h1 : c = 61
    · subst h1; rfl
    · rw [if_neg (fun e => h1 (UInt8.toNat_inj.1 (by have : ((61 : UInt8).toNat : Int) = 61 := rfl; omega)))]
      have : (c == 61) = false := by simpa using h1
      show _ = some (c == 61 || letter c || figure c)
      rw [this, Bool.false_or]
      cases letter c <;> simp

end Go.Proofs.Ytpelfhldgnmhpaa.Pure
