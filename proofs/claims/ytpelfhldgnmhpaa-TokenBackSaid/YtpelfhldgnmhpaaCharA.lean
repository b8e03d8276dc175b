/- The printed functions of package charref, over any texts of at most a million bytes: each tells what the list law (Spec) says. Condition: a text has at most a million bytes. -/
import Derived.Test.YtpelfhldgnmhpaaChar0
namespace Go.Proofs.Ytpelfhldgnmhpaa.Pure
open Go.RowKit Go.Proofs.Ytpelfhldgnmhpaa.G Go.Proofs.YtpelfhldgnmhpaaW.PrintWords Go.Proofs.YtpelfhldgnmhpaaW.PrintLast Go.Proofs.YtpelfhldgnmhpaaW.PrintMore
open Go.Proofs.Ytpelfhldgnmhpaa.Spec
set_option autoImplicit false
set_option linter.unusedVariables false
set_option linter.unusedSimpArgs false

/-! #### bytes -/
theorem figure_ok (c : UInt8) : kind_Figure.f (c.toNat : Int) = some (figure c) := by
  have : ∀ n : Fin 256, kind_Figure.f ((UInt8.ofNat n.val).toNat : Int) = some (figure (UInt8.ofNat n.val)) := by decide +kernel
  have h := this ⟨c.toNat, c.toNat_lt⟩
  simpa using h
theorem letter_ok (c : UInt8) : kind_Letter.f (c.toNat : Int) = some (letter c) := by
  have : ∀ n : Fin 256, kind_Letter.f ((UInt8.ofNat n.val).toNat : Int) = some (letter (UInt8.ofNat n.val)) := by decide +kernel
  have h := this ⟨c.toNat, c.toNat_lt⟩
  simpa using h
/-- hex: a digit's value, if it is one. -/
theorem hex_ok (c : UInt8) : ∃ d : Int, charref_hex.f (c.toNat : Int) = some (d, (hexv c).isSome) ∧ ∀ v, hexv c = some v → d = v := by
  have : ∀ n : Fin 256, (charref_hex.f ((UInt8.ofNat n.val).toNat : Int)).map (fun p => (p.2 == (hexv (UInt8.ofNat n.val)).isSome) && (match hexv (UInt8.ofNat n.val) with | some v => p.1 == (v : Int) | none => true)) = some true := by decide +kernel
  have h := this ⟨c.toNat, c.toNat_lt⟩
  simp only [UInt8.ofNat_toNat] at h
  obtain ⟨p, hp, h2⟩ := Option.map_eq_some_iff.1 h
  simp only [Bool.and_eq_true, beq_iff_eq] at h2
  refine ⟨p.1, by rw [hp, ← h2.1], fun v hv => ?_⟩
  have := h2.2
  rw [hv] at this
  simpa using this
/-! #### code points -/
theorem encode_utf8 (n : Nat) (h : n ≤ 1114111) (hs : n < 55296 ∨ 57343 < n) : Utf8.encode (n : Int) = mkB (utf8 n) := by
  have hv : Utf8.valid (n : Int) = true := by
    unfold Utf8.valid
    simp only [Bool.or_eq_true, Bool.and_eq_true, decide_eq_true_eq]
    omega
  unfold Utf8.encode utf8
  simp only [hv, if_true, Int.toNat_natCast]
  by_cases c1 : n < 128
  · rw [if_pos c1, if_pos c1]; rfl
  · rw [if_neg c1, if_neg c1]
    by_cases c2 : n < 2048
    · rw [if_pos c2, if_pos c2]; rfl
    · rw [if_neg c2, if_neg c2]
      by_cases c3 : n < 65536
      · rw [if_pos c3, if_pos c3]; rfl
      · rw [if_neg c3, if_neg c3]; rfl
theorem tdivn (n m : Nat) : Int.tdiv (n : Int) (m : Int) = ((n / m : Nat) : Int) := by rw [Int.tdiv_eq_ediv_of_nonneg (by omega)]; rfl
theorem tmodn (n m : Nat) : Int.tmod (n : Int) (m : Int) = ((n % m : Nat) : Int) := by rw [Int.tmod_eq_emod_of_nonneg (by omega)]; rfl
/-- a byte of a code point's text, as the program computes it -/
theorem byte1 (a m : Nat) (h : a + m < 256) : wrap64 ((a : Int) + (m : Int)) % 256 = ((a + m : Nat) : Int) := by
  rw [← Int.natCast_add, wrn (by omega), by8 h]
theorem byte_mod (n : Nat) : wrap64 (128 + Int.tmod (n : Int) 64) % 256 = ((128 + n % 64 : Nat) : Int) := by
  rw [show (64 : Int) = ((64 : Nat) : Int) from rfl, tmodn]
  exact byte1 128 (n % 64) (by omega)
theorem byte_div (a n : Nat) (m : Nat) (hn : n ≤ 1114111) (h : a + n / m < 256) : wrap64 ((a : Int) + wrap64 (Int.tdiv (n : Int) (m : Int))) % 256 = ((a + n / m : Nat) : Int) := by
  rw [tdivn, wrn (by have := Nat.div_le_self n m; omega)]
  exact byte1 a (n / m) h
theorem byte_divmod (n m : Nat) (hn : n ≤ 1114111) : wrap64 (128 + Int.tmod (wrap64 (Int.tdiv (n : Int) (m : Int))) 64) % 256 = ((128 + n / m % 64 : Nat) : Int) := by
  rw [tdivn, wrn (by have := Nat.div_le_self n m; omega)]
  exact byte_mod (n / m)
theorem old_codes : ∀ j, j < 32 → oldT.getD j 0 ≤ 1114111 ∧ (oldT.getD j 0 < 55296 ∨ 57343 < oldT.getD j 0) := by decide
theorem old_tab : charref_Number.tab = oldT.map (fun n => Int.ofNat n) := by rfl
theorem old_getD (j : Nat) (h : j < 32) : charref_Number.tab.getD j 0 = (oldT.getD j 0 : Int) := by
  have : ∀ j : Fin 32, charref_Number.tab.getD j.val 0 = (oldT.getD j.val 0 : Int) := by decide
  exact this ⟨j, h⟩
/-- A number that is none below 0 counts as 0. -/
theorem number_ok (n : Int) : charref_Number.f n = some (mkB (utf8 (point n.toNat))) := by
  unfold charref_Number.f point
  by_cases c : n ≤ 0 ∨ 1114111 < n ∨ (55296 ≤ n ∧ n ≤ 57343)
  · have c' : n.toNat = 0 ∨ 1114111 < n.toNat ∨ (55296 ≤ n.toNat ∧ n.toNat ≤ 57343) := by omega
    rw [if_pos c, if_pos c']; rfl
  · have c' : ¬ (n.toNat = 0 ∨ 1114111 < n.toNat ∨ (55296 ≤ n.toNat ∧ n.toNat ≤ 57343)) := by omega
    rw [if_neg c, if_neg c']
    by_cases d : 128 ≤ n ∧ n < 160
    · have d' : 128 ≤ n.toNat ∧ n.toNat < 160 := by omega
      rw [if_pos d, if_pos d']
      have e : (n - 128).toNat = n.toNat - 128 := by omega
      rw [e, old_getD _ (by omega)]
      have := old_codes (n.toNat - 128) (by omega)
      rw [encode_utf8 _ this.1 this.2]
    · have d' : ¬ (128 ≤ n.toNat ∧ n.toNat < 160) := by omega
      rw [if_neg d, if_neg d']
      have e : n = (n.toNat : Int) := by omega
      conv => lhs; rw [e]
      rw [encode_utf8 _ (by omega) (by omega)]

end Go.Proofs.Ytpelfhldgnmhpaa.Pure
