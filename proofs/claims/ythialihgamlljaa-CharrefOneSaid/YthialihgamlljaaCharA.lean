/- The printed functions of package charref, over any texts of at most a million bytes: each tells what the list law (Spec) says. Condition: a text has at most a million bytes. -/
import Derived.Test.YthialihgamlljaaSpec
import Derived.Test.YthialihgamlljaaG13
import Derived.Test.YthialihgamlljaaG14
namespace Go.Proofs.Ythialihgamlljaa.Pure
open Go.RowKit Go.Proofs.Ythialihgamlljaa.G Go.Proofs.YthialihgamlljaaW.PrintWords Go.Proofs.YthialihgamlljaaW.PrintLast Go.Proofs.YthialihgamlljaaW.PrintMore
open Go.Proofs.Ythialihgamlljaa.Spec
set_option autoImplicit false
set_option linter.unusedVariables false
set_option linter.unusedSimpArgs false

/-! #### texts as lists -/
def mkB (l : Bs) : ByteArray := ⟨l.toArray⟩
theorem mkB_of (a : ByteArray) : ∃ l, a = mkB l ∧ l.length = a.size := ⟨a.data.toList, by simp [mkB], by simp⟩
theorem mkB_size (l : Bs) : (mkB l).size = l.length := by simp [mkB, ByteArray.size]
theorem mkB_toList (l : Bs) : (mkB l).toList = l := by rw [ByteArray.toList_eq]; simp [mkB]
theorem mkB_data (l : Bs) : (mkB l).data.toList = l := by simp [mkB]
theorem mkB_inj {l m : Bs} : mkB l = mkB m ↔ l = m := ⟨fun h => by rw [← mkB_data l, h, mkB_data], fun h => by rw [h]⟩
theorem mkB_append (l m : Bs) : mkB l ++ mkB m = mkB (l ++ m) := Go.WideShapes.bytes_inj (by simp [mkB])
theorem mkB_extract (l : Bs) (i j : Nat) : (mkB l).extract i j = mkB ((l.take j).drop i) := Go.WideShapes.bytes_inj (by
  rw [mkB_data, ByteArray.data_extract, Array.toList_extract, List.extract_eq_take_drop, mkB_data]
  rw [List.drop_take])
theorem mkB_lit (a : Array UInt8) : (⟨a⟩ : ByteArray) = mkB a.toList := by simp [mkB]
theorem mkB_bt (l : Bs) (i : Nat) : bt (mkB l) (i : Int) = ((l.getD i 0).toNat : Int) := by
  unfold bt
  simp only [Int.toNat_natCast, mkB_size]
  by_cases h : i < l.length
  · rw [dif_pos h]
    have : (mkB l)[i]'(by rw [mkB_size]; exact h) = l[i] := by simp [mkB, ByteArray.getElem_eq_getElem_data]
    rw [this]; simp [List.getD, h]
  · rw [dif_neg h]; simp [List.getD, h]
theorem wr {n : Int} (h0 : -9223372036854775808 ≤ n) (h1 : n ≤ 9223372036854775807) : wrap64 n = n := by unfold wrap64; omega

/-! #### bytes -/
theorem figure_ok (c : UInt8) : kind_Figure.f (c.toNat : Int) = some (figure c) := by
  have : ∀ n : Fin 256, kind_Figure.f ((UInt8.ofNat n.val).toNat : Int) = some (figure (UInt8.ofNat n.val)) := by decide +kernel
  have h := this ⟨c.toNat, c.toNat_lt⟩
  simpa using h
theorem letter_ok (c : UInt8) : kind_Letter.f (c.toNat : Int) = some (letter c) := by
  have : ∀ n : Fin 256, kind_Letter.f ((UInt8.ofNat n.val).toNat : Int) = some (letter (UInt8.ofNat n.val)) := by decide +kernel
  have h := this ⟨c.toNat, c.toNat_lt⟩
  simpa using h
theorem figure_ref (c : UInt8) : marginaliaref02_Figure.f (c.toNat : Int) = some (figure c) := by
  have : ∀ n : Fin 256, marginaliaref02_Figure.f ((UInt8.ofNat n.val).toNat : Int) = some (figure (UInt8.ofNat n.val)) := by decide +kernel
  have h := this ⟨c.toNat, c.toNat_lt⟩
  simpa using h
theorem letter_ref (c : UInt8) : marginaliaref02_Letter.f (c.toNat : Int) = some (letter c) := by
  have : ∀ n : Fin 256, marginaliaref02_Letter.f ((UInt8.ofNat n.val).toNat : Int) = some (letter (UInt8.ofNat n.val)) := by decide +kernel
  have h := this ⟨c.toNat, c.toNat_lt⟩
  simpa using h
/-- hex: a digit's value, if it is one. -/
theorem hex_ok (c : UInt8) : ∃ d : Int, charref_hex.f (c.toNat : Int) = some (d, (hexv c).isSome) ∧ ∀ v, hexv c = some v → d = v := by
  have : ∀ n : Fin 256, (charref_hex.f ((UInt8.ofNat n.val).toNat : Int)).map (fun p => (p.2 == (hexv (UInt8.ofNat n.val)).isSome) && (match hexv (UInt8.ofNat n.val) with | some v => p.1 == (v : Int) | none => true)) = some true := by decide +kernel
  have h := this ⟨c.toNat, c.toNat_lt⟩
  simp only [UInt8.ofNat_toNat] at h
  obtain ⟨p, hp, h2⟩ := Option.map_eq_some_iff.1 h
  simp only [Bool.and_eq_true, beq_iff_eq] at h2
  refine ⟨p.1, by rw [hp, ← h2.1], fun v hv => ?_⟩
  have := h2.2
  rw [hv] at this
  simpa using this
/-- digit: a digit's value by a base of 10 or 16; -1: it is none. -/
theorem digit_ok (c : UInt8) (base : Nat) (hb : base = 10 ∨ base = 16) {k : Nat} (hk : 3 ≤ k) : marginaliaref03_digit.f k (c.toNat : Int) (base : Int) = some (match digv base c with | some d => (d : Int) | none => -1) := by
  have h10 : ∀ n : Fin 256, marginaliaref03_digit.f 3 ((UInt8.ofNat n.val).toNat : Int) 10 = some (match digv 10 (UInt8.ofNat n.val) with | some d => (d : Int) | none => -1) := by decide +kernel
  have h16 : ∀ n : Fin 256, marginaliaref03_digit.f 3 ((UInt8.ofNat n.val).toNat : Int) 16 = some (match digv 16 (UInt8.ofNat n.val) with | some d => (d : Int) | none => -1) := by decide +kernel
  have a := h10 ⟨c.toNat, c.toNat_lt⟩
  have b := h16 ⟨c.toNat, c.toNat_lt⟩
  simp only [UInt8.ofNat_toNat] at a b
  rcases hb with rfl | rfl
  · exact at_rounds (fun k => marginaliaref03_digit.mono _ _ k) (by omega) a
  · exact at_rounds (fun k => marginaliaref03_digit.mono _ _ k) (by omega) b

/-! #### code points -/
theorem encode_utf8 (n : Nat) (h : n ≤ 1114111) (hs : n < 55296 ∨ 57343 < n) : Utf8.encode (n : Int) = mkB (utf8 n) := by
  have hv : Utf8.valid (n : Int) = true := by
    unfold Utf8.valid
    simp only [Bool.or_eq_true, Bool.and_eq_true, decide_eq_true_eq]
    omega
  unfold Utf8.encode utf8
  simp only [hv, if_true, Int.toNat_natCast]
  by_cases c1 : n < 128
  · rw [if_pos c1, if_pos c1]; rfl
  · rw [if_neg c1, if_neg c1]
    by_cases c2 : n < 2048
    · rw [if_pos c2, if_pos c2]; rfl
    · rw [if_neg c2, if_neg c2]
      by_cases c3 : n < 65536
      · rw [if_pos c3, if_pos c3]; rfl
      · rw [if_neg c3, if_neg c3]; rfl
theorem tdivn (n m : Nat) : Int.tdiv (n : Int) (m : Int) = ((n / m : Nat) : Int) := by rw [Int.tdiv_eq_ediv_of_nonneg (by omega)]; rfl
theorem tmodn (n m : Nat) : Int.tmod (n : Int) (m : Int) = ((n % m : Nat) : Int) := by rw [Int.tmod_eq_emod_of_nonneg (by omega)]; rfl
theorem wrn {n : Nat} (h : n ≤ 1000000000000) : wrap64 (n : Int) = (n : Int) := by unfold wrap64; omega
theorem by8 {n : Nat} (h : n < 256) : (n : Int) % 256 = (n : Int) := by omega
/-- a byte of a code point's text, as the program computes it -/
theorem byte1 (a m : Nat) (h : a + m < 256) : wrap64 ((a : Int) + (m : Int)) % 256 = ((a + m : Nat) : Int) := by
  rw [← Int.natCast_add, wrn (by omega), by8 h]
theorem byte_mod (n : Nat) : wrap64 (128 + Int.tmod (n : Int) 64) % 256 = ((128 + n % 64 : Nat) : Int) := by
  rw [show (64 : Int) = ((64 : Nat) : Int) from rfl, tmodn]
  exact byte1 128 (n % 64) (by omega)
theorem byte_div (a n : Nat) (m : Nat) (hn : n ≤ 1114111) (h : a + n / m < 256) : wrap64 ((a : Int) + wrap64 (Int.tdiv (n : Int) (m : Int))) % 256 = ((a + n / m : Nat) : Int) := by
  rw [tdivn, wrn (by have := Nat.div_le_self n m; omega)]
  exact byte1 a (n / m) h
theorem byte_divmod (n m : Nat) (hn : n ≤ 1114111) : wrap64 (128 + Int.tmod (wrap64 (Int.tdiv (n : Int) (m : Int))) 64) % 256 = ((128 + n / m % 64 : Nat) : Int) := by
  rw [tdivn, wrn (by have := Nat.div_le_self n m; omega)]
  exact byte_mod (n / m)
theorem utf8_ref (n : Nat) (h : n ≤ 1114111) : marginaliaref03_Utf8.f (n : Int) = some (mkB (utf8 n)) := by
  have s1 : strOfNums [(n : Int) % 256] = mkB [UInt8.ofNat ((n : Int) % 256).toNat] := rfl
  unfold marginaliaref03_Utf8.f utf8
  by_cases c1 : n < 128
  · rw [if_pos (by omega), if_pos c1, s1, by8 (by omega)]; rfl
  · rw [if_neg (by omega), if_neg c1]
    by_cases c2 : n < 2048
    · have b1 := byte_div 192 n 64 h (by omega)
      rw [if_pos (by omega), if_pos c2, byte_mod, show (64 : Int) = ((64 : Nat) : Int) from rfl, show (192 : Int) = ((192 : Nat) : Int) from rfl, b1]; rfl
    · rw [if_neg (by omega), if_neg c2]
      by_cases c3 : n < 65536
      · have b1 := byte_div 224 n 4096 h (by omega)
        have b2 := byte_divmod n 64 h
        rw [if_pos (by omega), if_pos c3, byte_mod, show (4096 : Int) = ((4096 : Nat) : Int) from rfl, show (224 : Int) = ((224 : Nat) : Int) from rfl, b1]
        have b2' : wrap64 (128 + Int.tmod (wrap64 (Int.tdiv (n : Int) 64)) 64) % 256 = ((128 + n / 64 % 64 : Nat) : Int) := b2
        rw [b2']; rfl
      · have b1 : wrap64 (240 + wrap64 (Int.tdiv (n : Int) 262144)) % 256 = ((240 + n / 262144 : Nat) : Int) := byte_div 240 n 262144 h (by omega)
        have b2 : wrap64 (128 + Int.tmod (wrap64 (Int.tdiv (n : Int) 4096)) 64) % 256 = ((128 + n / 4096 % 64 : Nat) : Int) := byte_divmod n 4096 h
        have b3 : wrap64 (128 + Int.tmod (wrap64 (Int.tdiv (n : Int) 64)) 64) % 256 = ((128 + n / 64 % 64 : Nat) : Int) := byte_divmod n 64 h
        rw [if_neg (by omega), if_neg c3, byte_mod, b1, b2, b3]; rfl

theorem old_codes : ∀ j, j < 32 → oldT.getD j 0 ≤ 1114111 ∧ (oldT.getD j 0 < 55296 ∨ 57343 < oldT.getD j 0) := by decide
theorem old_tab : charref_Number.tab = oldT.map (fun n => Int.ofNat n) := by rfl
theorem old_getD (j : Nat) (h : j < 32) : charref_Number.tab.getD j 0 = (oldT.getD j 0 : Int) := by
  have : ∀ j : Fin 32, charref_Number.tab.getD j.val 0 = (oldT.getD j.val 0 : Int) := by decide
  exact this ⟨j, h⟩
/-- A number that is none below 0 counts as 0. -/
theorem number_ok (n : Int) : charref_Number.f n = some (mkB (utf8 (point n.toNat))) := by
  unfold charref_Number.f point
  by_cases c : n ≤ 0 ∨ 1114111 < n ∨ (55296 ≤ n ∧ n ≤ 57343)
  · have c' : n.toNat = 0 ∨ 1114111 < n.toNat ∨ (55296 ≤ n.toNat ∧ n.toNat ≤ 57343) := by omega
    rw [if_pos c, if_pos c']; rfl
  · have c' : ¬ (n.toNat = 0 ∨ 1114111 < n.toNat ∨ (55296 ≤ n.toNat ∧ n.toNat ≤ 57343)) := by omega
    rw [if_neg c, if_neg c']
    by_cases d : 128 ≤ n ∧ n < 160
    · have d' : 128 ≤ n.toNat ∧ n.toNat < 160 := by omega
      rw [if_pos d, if_pos d']
      have e : (n - 128).toNat = n.toNat - 128 := by omega
      rw [e, old_getD _ (by omega)]
      have := old_codes (n.toNat - 128) (by omega)
      rw [encode_utf8 _ this.1 this.2]
    · have d' : ¬ (128 ≤ n.toNat ∧ n.toNat < 160) := by omega
      rw [if_neg d, if_neg d']
      have e : n = (n.toNat : Int) := by omega
      conv => lhs; rw [e]
      rw [encode_utf8 _ (by omega) (by omega)]
theorem number_ref (n : Int) {k : Nat} (hk : 2 ≤ k) : marginaliaref03_Number.f k n = some (mkB (utf8 (point n.toNat))) := by
  obtain ⟨k, rfl⟩ : ∃ m, k = m + 2 := ⟨k - 2, by omega⟩
  have bad : marginaliaref03_Utf8.f 65533 = some (mkB (utf8 65533)) := utf8_ref 65533 (by omega)
  have jt : marginaliaref03_Number.j0 (k + 2) n true = some (mkB (utf8 65533)) := by simp only [marginaliaref03_Number.j0, if_true, bad]; rfl
  unfold marginaliaref03_Number.f point
  by_cases c1 : n ≤ 0
  · have c' : n.toNat = 0 ∨ 1114111 < n.toNat ∨ (55296 ≤ n.toNat ∧ n.toNat ≤ 57343) := by omega
    rw [if_pos c1, if_pos c', jt]
  · rw [if_neg c1]
    by_cases c2 : n > 1114111
    · have c' : n.toNat = 0 ∨ 1114111 < n.toNat ∨ (55296 ≤ n.toNat ∧ n.toNat ≤ 57343) := by omega
      rw [if_pos c2, if_pos c', jt]
    · rw [if_neg c2]
      by_cases c3 : 55296 ≤ n ∧ n ≤ 57343
      · have c' : n.toNat = 0 ∨ 1114111 < n.toNat ∨ (55296 ≤ n.toNat ∧ n.toNat ≤ 57343) := by omega
        rw [if_pos c3.1, if_pos c', decide_eq_true c3.2, jt]
      · have c' : ¬ (n.toNat = 0 ∨ 1114111 < n.toNat ∨ (55296 ≤ n.toNat ∧ n.toNat ≤ 57343)) := by omega
        rw [if_neg c']
        have e0 : (if n ≥ 55296 then marginaliaref03_Number.j0 (k + 2) n (decide (n ≤ 57343)) else marginaliaref03_Number.j0 (k + 2) n false) = marginaliaref03_Number.j0 (k + 2) n false := by
          by_cases e : n ≥ 55296
          · rw [if_pos e, decide_eq_false (by omega)]
          · rw [if_neg e]
        rw [e0]
        simp only [marginaliaref03_Number.j0, Bool.false_eq_true, if_false]
        by_cases d : 128 ≤ n ∧ n < 160
        · have d' : 128 ≤ n.toNat ∧ n.toNat < 160 := by omega
          have d2 : n ≤ 159 := by omega
          rw [if_pos d.1, if_pos d', decide_eq_true d2]
          simp only [marginaliaref03_Number.j1, if_true]
          have ho : marginaliaref03_old.f n = some ((oldT.getD (n.toNat - 128) 0 : Nat) : Int) := by
            unfold marginaliaref03_old.f
            have w : wrap64 (n - 128) = ((n.toNat - 128 : Nat) : Int) := by rw [wr (by omega) (by omega)]; omega
            have hlt : ((n.toNat - 128 : Nat) : Int) < 32 := by omega
            rw [w]
            simp only [Option.bind_some]
            rw [if_pos (by omega), ← old_getD (n.toNat - 128) (by omega)]
            refine (if_pos hlt).trans ?_
            unfold rd
            rw [Int.toNat_natCast]; rfl
          have := old_codes (n.toNat - 128) (by omega)
          rw [ho]
          simp only [Option.bind_some]
          rw [utf8_ref _ this.1]; rfl
        · have d' : ¬ (128 ≤ n.toNat ∧ n.toNat < 160) := by omega
          rw [if_neg d']
          have e1 : (if n ≥ 128 then marginaliaref03_Number.j1 (k + 1) n (decide (n ≤ 159)) else marginaliaref03_Number.j1 (k + 1) n false) = marginaliaref03_Number.j1 (k + 1) n false := by
            by_cases e : n ≥ 128
            · rw [if_pos e, decide_eq_false (by omega)]
            · rw [if_neg e]
          rw [e1]
          simp only [marginaliaref03_Number.j1, Bool.false_eq_true, if_false]
          have e : n = (n.toNat : Int) := by omega
          conv => lhs; rw [e]
          rw [utf8_ref _ (by omega)]; rfl


end Go.Proofs.Ythialihgamlljaa.Pure
