/- The printed functions of package charref, over any texts of at most a million bytes: each tells what the list law (Spec) says. Condition: a text has at most a million bytes. -/
import Derived.Test.YtpelfhldgnmhpaaCharA
namespace Go.Proofs.Ytpelfhldgnmhpaa.Pure
open Go.RowKit Go.Proofs.Ytpelfhldgnmhpaa.G Go.Proofs.YtpelfhldgnmhpaaW.PrintWords Go.Proofs.YtpelfhldgnmhpaaW.PrintLast Go.Proofs.YtpelfhldgnmhpaaW.PrintMore
open Go.Proofs.Ytpelfhldgnmhpaa.Spec
set_option autoImplicit false
set_option linter.unusedVariables false
set_option linter.unusedSimpArgs false

/-! #### names -/
theorem cutSuffix_ok (l : Bs) (h : l.length ≤ 1000000000) : strings_CutSuffix.f (mkB l) ⟨#[59]⟩ = some (if l.getLast? = some 59 then (mkB l.dropLast, true) else (mkB l, false)) := by
  unfold strings_CutSuffix.f stringslite_CutSuffix.f stringslite_HasSuffix.f
  rw [mkB_lit]
  simp only [mkB_size, List.length_cons, List.length_nil, mkB_toList]
  rcases List.eq_nil_or_concat l with rfl | ⟨t, c, rfl⟩
  · simp [mkB]
  · rw [List.concat_eq_append] at h ⊢
    have w : wrap64 (((t ++ [c]).length : Int) - ((0 + 1 : Nat) : Int)) = (t.length : Int) := by
      have e : (t ++ [c]).length = t.length + 1 := by simp
      rw [e] at h ⊢
      rw [wr (by omega) (by omega)]; omega
    rw [if_pos (by simp <;> omega), w, if_pos (by omega), if_pos (by simp <;> omega), Int.toNat_natCast, mkB_extract, mkB_toList, List.take_of_length_le (Nat.le_refl _)]
    simp only [List.drop_left, Option.bind_some]
    by_cases hc : c = 59
    · subst hc
      simp only [List.getLast?_append, List.getLast?_singleton, Option.some_or, if_true]
      simp only [beq_self_eq_true, if_true]
      rw [if_pos (by omega), if_pos (by simp <;> omega), mkB_extract]
      simp [List.dropLast_concat]
    · have : ([c] == [(59 : UInt8)]) = false := by simpa using hc
      simp only [this, Bool.false_eq_true, if_false]
      simp [hc]

theorem lk_some (n : Bs) (c : Nat) (r : List (Bs × Nat)) (s : Bs) : some ((lk ((n, c) :: r) s : Nat) : Int) = if s = n then some ((c : Nat) : Int) else some ((lk r s : Nat) : Int) := by
  simp only [lk]; split <;> rfl
theorem lk_none (s : Bs) : some ((lk [] s : Nat) : Int) = some 0 := rfl
theorem bare_ok (l : Bs) {k : Nat} (hk : 5 ≤ k) : charref_bare.f k (mkB l) = some ((lk bareT l : Nat) : Int) := by
  obtain ⟨k, rfl⟩ : ∃ m, k = m + 5 := ⟨k - 5, by omega⟩
  unfold charref_bare.f
  simp only [mkB_toList, charref_bare.j0, charref_bare.j1, charref_bare.j2, charref_bare.j3, bareT, lk_some, lk_none, beq_iff_eq, if_true]
  rfl
theorem ended_ok (l : Bs) : charref_ended.f (mkB l) = some ((lk endedT l : Nat) : Int) := by
  unfold charref_ended.f
  simp only [mkB_toList, endedT, lk_some, lk_none]
  rfl

theorem named_code (l : Bs) (h : named l ≠ 0) : named l ≤ 1114111 ∧ (named l < 55296 ∨ 57343 < named l) := by
  rw [named_all] at h ⊢
  exact all_valid _ (lk_mem h)
theorem named_ok (l : Bs) (h : l.length ≤ 1000000000) {k : Nat} (hk : 6 ≤ k) : charref_Named.f k (mkB l) = some (if named l = 0 then (mkB [], false) else (mkB (utf8 (named l)), true)) := by
  have hcode := named_code l
  obtain ⟨k, rfl⟩ : ∃ m, k = m + 1 := ⟨k - 1, by omega⟩
  unfold charref_Named.f
  rw [cutSuffix_ok l h]
  unfold named at hcode ⊢
  by_cases hs : l.getLast? = some 59
  · simp only [hs, if_true, Option.bind_some] at hcode ⊢
    rw [bare_ok _ (by omega)]
    simp only [Option.bind_some]
    by_cases hb : lk bareT l.dropLast = 0
    · simp only [hb, if_true] at hcode ⊢
      rw [if_pos (by simp)]
      simp only [charref_Named.j0, if_true]
      rw [ended_ok]
      simp only [Option.bind_some]
      by_cases he : lk endedT l.dropLast = 0
      · simp [he]; rfl
      · rw [if_neg (by omega), if_neg he, encode_utf8 _ (hcode he).1 (hcode he).2]
    · simp only [hb, if_false] at hcode ⊢
      rw [if_neg (by omega)]
      simp only [charref_Named.j0, Bool.false_eq_true, if_false]
      rw [if_neg (by omega), encode_utf8 _ (hcode hb).1 (hcode hb).2]
  · simp only [hs, if_false, Option.bind_some] at hcode ⊢
    rw [bare_ok _ (by omega)]
    simp only [Option.bind_some]
    by_cases hb : lk bareT l = 0
    · rw [hb, if_pos (show ((0 : Nat) : Int) = 0 from rfl)]
      simp only [charref_Named.j0, Bool.false_eq_true, if_false, if_true]
      rw [if_pos (show ((0 : Nat) : Int) = 0 from rfl)]; rfl
    · rw [if_neg (by omega), if_neg hb]
      simp only [charref_Named.j0, Bool.false_eq_true, if_false]
      rw [if_neg (by omega), encode_utf8 _ (hcode hb).1 (hcode hb).2]


end Go.Proofs.Ytpelfhldgnmhpaa.Pure
