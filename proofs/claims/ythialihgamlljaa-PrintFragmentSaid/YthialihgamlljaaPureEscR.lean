/- The reference's escaping, over lists of bytes; condition: a text has at most a million bytes. -/
import Derived.Test.YthialihgamlljaaPureEsc
namespace Go.Proofs.Ythialihgamlljaa.Pure
open Go.RowKit Go.Proofs.Ythialihgamlljaa.G Go.Proofs.YthialihgamlljaaW.PrintWords Go.Proofs.YthialihgamlljaaW.PrintLast Go.Proofs.Ythialihgamlljaa.Spec
set_option linter.unusedVariables false
set_option linter.unusedSimpArgs false

theorem refEsc_l0 (attr : Bool) (l : Bs) (hl : l.length ≤ 1000000) (d : Nat) : ∀ (i : Nat) (out : Bs) (k : Nat), i + d = l.length → out.length + 6 * d ≤ 1000000000 → 2 * d + 1 ≤ k →
    marginaliaref09_Escape.l0 k (mkB l) attr (mkB out) (i : Int) = some (mkB (out ++ print_Escape.esc attr false (l.drop i))) := by
  induction d using Nat.strongRecOn with
  | _ d ih =>
    intro i out k hi ho hk
    obtain ⟨k, rfl⟩ : ∃ m, k = m + 1 := ⟨k - 1, by omega⟩
    simp only [marginaliaref09_Escape.l0]
    rw [mkB_size]
    by_cases hlt : i < l.length
    · have g0 : (i : Int) < (l.length : Int) := by omega
      have g1 : (0 : Int) ≤ (i : Int) := by omega
      have g2 : (i : Int) ≤ ((i + 1 : Nat) : Int) := by omega
      have g3 : ((i + 1 : Nat) : Int) ≤ (l.length : Int) := by omega
      have w : wrap64 ((i : Int) + 1) = ((i + 1 : Nat) : Int) := wrn (n := i + 1) (by omega)
      have hg : l.getD i 0 = l[i] := by simp [List.getD, hlt]
      have hex : (mkB l).extract i (i + 1) = mkB [l[i]] := by
        rw [mkB_extract]
        congr 1
        rw [List.drop_take, Nat.add_sub_cancel_left, List.drop_eq_getElem_cons hlt]; rfl
      have hdrop : l.drop i = l[i] :: l.drop (i + 1) := List.drop_eq_getElem_cons hlt
      rw [w, if_pos g0, if_pos g1, if_pos g2, if_pos g3, Int.toNat_natCast, Int.toNat_natCast, hex, mkB_toList, hdrop]
      have e1 : (⟨#[38, 97, 109, 112, 59]⟩ : ByteArray) = mkB [38, 97, 109, 112, 59] := rfl
      have e2 : (⟨#[38, 108, 116, 59]⟩ : ByteArray) = mkB [38, 108, 116, 59] := rfl
      have e3 : (⟨#[38, 103, 116, 59]⟩ : ByteArray) = mkB [38, 103, 116, 59] := rfl
      have e4 : (⟨#[38, 113, 117, 111, 116, 59]⟩ : ByteArray) = mkB [38, 113, 117, 111, 116, 59] := rfl
      have e5 : (⟨#[38, 110, 98, 115, 112, 59]⟩ : ByteArray) = mkB [38, 110, 98, 115, 112, 59] := rfl
      have s4 : out.length + 4 ≤ 9223372036854775807 := by omega
      have s5 : out.length + 5 ≤ 9223372036854775807 := by omega
      have s6 : out.length + 6 ≤ 9223372036854775807 := by omega
      have s1 : out.length + 1 ≤ 9223372036854775807 := by omega
      have one : ∀ (a : Bs), a.length ≤ 6 → marginaliaref09_Escape.l0 k (mkB l) attr (mkB (out ++ a)) ((i + 1 : Nat) : Int) = some (mkB (out ++ a ++ print_Escape.esc attr false (l.drop (i + 1)))) :=
        fun a ha => ih (d - 1) (by omega) (i + 1) _ k (by omega) (by simp only [List.length_append]; omega) (by omega)
      by_cases h38 : l[i] = 38
      · rw [if_pos (by rw [h38]), mkB_size, if_pos s5, e1, mkB_append, one _ (by decide), h38, esc_38, List.append_assoc]
      · rw [if_neg (by simpa using h38)]
        by_cases h60 : l[i] = 60
        · rw [if_pos (by rw [h60]), mkB_size, if_pos s4, e2, mkB_append, one _ (by decide), h60, esc_60, List.append_assoc]
        · rw [if_neg (by simpa using h60)]
          by_cases h62 : l[i] = 62
          · rw [if_pos (by rw [h62]), mkB_size, if_pos s4, e3, mkB_append, one _ (by decide), h62, esc_62, List.append_assoc]
          · rw [if_neg (by simpa using h62)]
            have hj : (if [l[i]] = [34] then marginaliaref09_Escape.j1 k (mkB l) attr (mkB out) (i : Int) (mkB [l[i]]) attr else marginaliaref09_Escape.j1 k (mkB l) attr (mkB out) (i : Int) (mkB [l[i]]) false) = marginaliaref09_Escape.j1 k (mkB l) attr (mkB out) (i : Int) (mkB [l[i]]) (decide (l[i] = 34 ∧ attr = true)) := by
              by_cases h34 : l[i] = 34
              · rw [if_pos (by rw [h34])]
                cases attr <;> simp [h34]
              · rw [if_neg (by simpa using h34), decide_eq_false (fun h => h34 h.1)]
            rw [hj]
            obtain ⟨k, rfl⟩ : ∃ m, k = m + 1 := ⟨k - 1, by omega⟩
            have one' : ∀ (a : Bs), a.length ≤ 6 → marginaliaref09_Escape.l0 k (mkB l) attr (mkB (out ++ a)) ((i + 1 : Nat) : Int) = some (mkB (out ++ a ++ print_Escape.esc attr false (l.drop (i + 1)))) :=
              fun a ha => ih (d - 1) (by omega) (i + 1) _ k (by omega) (by simp only [List.length_append]; omega) (by omega)
            by_cases h34 : l[i] = 34 ∧ attr = true
            · rw [decide_eq_true h34, marginaliaref09_Escape.j1, if_pos rfl, mkB_size, if_pos s6, w, e4, mkB_append, one' _ (by decide), h34.1]
              obtain ⟨_, rfl⟩ := h34
              rw [esc_34, List.append_assoc]
            · have plain : ¬ (l[i] = 194 ∧ (l.drop (i + 1)).head? = some 160) → (if out.length + [l[i]].length ≤ 9223372036854775807 then marginaliaref09_Escape.l0 k (mkB l) attr (mkB (out ++ [l[i]])) ((i + 1 : Nat) : Int) else none) = some (mkB (out ++ print_Escape.esc attr false (l[i] :: l.drop (i + 1)))) := by
                intro hn
                rw [if_pos (by simpa using s1), one' _ (by simp), esc_else attr _ _ h38 h60 h62 h34 hn, List.append_assoc]; rfl
              rw [decide_eq_false h34, marginaliaref09_Escape.j1, if_neg Bool.false_ne_true]
              simp only [mkB_size, w, mkB_append]
              rw [if_pos g1, if_pos g0, mkB_bt, hg]
              have hb : (((l[i].toNat : Nat) : Int) = 194) ↔ l[i] = 194 := ⟨fun e => UInt8.toNat_inj.1 (by have : ((194 : UInt8).toNat : Int) = 194 := rfl; omega), fun e => by rw [e]; rfl⟩
              by_cases h194 : l[i] = 194
              · rw [if_pos (hb.2 h194)]
                by_cases hlt2 : i + 1 < l.length
                · have g5 : ((i + 1 : Nat) : Int) < (l.length : Int) := by omega
                  have g6 : (0 : Int) ≤ ((i + 1 : Nat) : Int) := by omega
                  have hg2 : l.getD (i + 1) 0 = l[i + 1] := by simp [List.getD, hlt2]
                  have hb2 : (((l[i + 1].toNat : Nat) : Int) = 160) ↔ l[i + 1] = 160 := ⟨fun e => UInt8.toNat_inj.1 (by have : ((160 : UInt8).toNat : Int) = 160 := rfl; omega), fun e => by rw [e]; rfl⟩
                  have hd2 : l.drop (i + 1) = l[i + 1] :: l.drop (i + 1 + 1) := List.drop_eq_getElem_cons hlt2
                  rw [if_pos g5, if_pos g6, mkB_bt, hg2]
                  by_cases h160 : l[i + 1] = 160
                  · have w2 : wrap64 (((i + 1 : Nat) : Int) + 1) = ((i + 1 + 1 : Nat) : Int) := wrn (n := i + 1 + 1) (by omega)
                    rw [if_pos (hb2.2 h160), if_pos s6, w2, e5, mkB_append, ih (d - 2) (by omega) (i + 1 + 1) _ k (by omega) (by simp only [List.length_append, List.length_cons, List.length_nil]; omega) (by omega), hd2, h194, h160, esc_nb, List.append_assoc]
                  · rw [if_neg (fun h => h160 (hb2.1 h))]
                    exact plain (fun h => h160 (by have := h.2; rw [hd2, List.head?_cons] at this; exact Option.some.inj this))
                · have g5 : ¬ ((i + 1 : Nat) : Int) < (l.length : Int) := by omega
                  rw [if_neg g5]
                  exact plain (fun h => by have := h.2; rw [List.drop_of_length_le (by omega)] at this; simp at this)
              · rw [if_neg (fun h => h194 (hb.1 h))]
                exact plain (fun h => h194 h.1)
    · rw [if_neg (by omega), List.drop_of_length_le (by omega)]
      simp [print_Escape.esc]
theorem refEscape_ok (attr : Bool) (l : Bs) (hl : l.length ≤ 1000000) {k : Nat} (hk : 2 * l.length + 1 ≤ k) : marginaliaref09_Escape.f k (mkB l) attr = some (mkB (print_Escape.esc attr false l)) := by
  unfold marginaliaref09_Escape.f
  have e : (⟨#[]⟩ : ByteArray) = mkB [] := rfl
  rw [e]
  exact refEsc_l0 attr l hl l.length 0 [] k (by omega) (by simp; omega) (by omega)

end Go.Proofs.Ythialihgamlljaa.Pure
