/- What is escaped is decoded as it was, and has no <, no >, and, in an attribute, no double quote; condition: the law's own bound on the input's reach. -/
import Derived.Test.YthialihgamlljaaCharE
import Derived.Test.YthialihgamlljaaCharL
import Derived.Test.YthialihgamlljaaPureEsc
namespace Go.Proofs.Ythialihgamlljaa.Pure
open Go.RowKit Go.Proofs.Ythialihgamlljaa.G Go.Proofs.YthialihgamlljaaW.PrintWords Go.Proofs.YthialihgamlljaaW.PrintLast Go.Proofs.Ythialihgamlljaa.Spec
set_option linter.unusedVariables false
set_option linter.unusedSimpArgs false

theorem esc_clean (attr : Bool) (l : Bs) : ∀ skip, ∀ c ∈ print_Escape.esc attr skip l, c ≠ 60 ∧ c ≠ 62 ∧ (attr = true → c ≠ 34) := by
  induction l with
  | nil => intro skip c hc; cases skip <;> simp [print_Escape.esc] at hc
  | cons b r ih =>
    intro skip c hc
    cases skip with
    | true => simp only [print_Escape.esc] at hc; exact ih false c hc
    | false =>
      have lit : ∀ w : Bs, (∀ x ∈ w, x ≠ 60 ∧ x ≠ 62 ∧ (attr = true → x ≠ 34)) → ∀ s, c ∈ w ++ print_Escape.esc attr s r → c ≠ 60 ∧ c ≠ 62 ∧ (attr = true → c ≠ 34) := by
        intro w hw s h
        rcases List.mem_append.1 h with h | h
        · exact hw c h
        · exact ih s c h
      rw [print_Escape.esc] at hc
      by_cases h1 : b = 38
      · rw [if_pos h1] at hc; exact lit _ (by intro x hx; simp at hx; rcases hx with rfl | rfl | rfl | rfl | rfl <;> simp) _ hc
      · rw [if_neg h1] at hc
        by_cases h2 : b = 60
        · rw [if_pos h2] at hc; exact lit _ (by intro x hx; simp at hx; rcases hx with rfl | rfl | rfl | rfl <;> simp) _ hc
        · rw [if_neg h2] at hc
          by_cases h3 : b = 62
          · rw [if_pos h3] at hc; exact lit _ (by intro x hx; simp at hx; rcases hx with rfl | rfl | rfl | rfl <;> simp) _ hc
          · rw [if_neg h3] at hc
            by_cases h4 : b = 34 ∧ attr = true
            · rw [if_pos h4] at hc; exact lit _ (by intro x hx; simp at hx; rcases hx with rfl | rfl | rfl | rfl | rfl | rfl <;> simp) _ hc
            · rw [if_neg h4] at hc
              by_cases h5 : b = 194 ∧ r.head? = some 160
              · rw [if_pos h5] at hc; exact lit _ (by intro x hx; simp at hx; rcases hx with rfl | rfl | rfl | rfl | rfl | rfl <;> simp) _ hc
              · rw [if_neg h5] at hc
                rcases List.mem_cons.1 hc with rfl | h
                · exact ⟨h2, h3, fun ha e => h4 ⟨e, ha⟩⟩
                · exact ih false c h
theorem dec_esc (attr : Bool) (d : Nat) : ∀ l : Bs, l.length ≤ d → dec attr (print_Escape.esc attr false l) = l := by
  induction d using Nat.strongRecOn with
  | _ d ih =>
    intro l hl
    cases l with
    | nil => simp [print_Escape.esc, dec_nil]
    | cons c r =>
      simp only [List.length_cons] at hl
      have ihr := ih (d - 1) (by omega) r (by omega)
      by_cases h1 : c = 38
      · subst h1
        rw [esc_38]
        show dec attr (38 :: 97 :: 109 :: 112 :: 59 :: _) = _
        rw [dec_amp, ref_amp]; simp [ihr]
      · by_cases h2 : c = 60
        · subst h2
          rw [esc_60]
          show dec attr (38 :: 108 :: 116 :: 59 :: _) = _
          rw [dec_amp, ref_lt]; simp [ihr]
        · by_cases h3 : c = 62
          · subst h3
            rw [esc_62]
            show dec attr (38 :: 103 :: 116 :: 59 :: _) = _
            rw [dec_amp, ref_gt]; simp [ihr]
          · by_cases h4 : c = 34 ∧ attr = true
            · obtain ⟨rfl, rfl⟩ := h4
              rw [esc_34]
              show dec true (38 :: 113 :: 117 :: 111 :: 116 :: 59 :: _) = _
              rw [dec_amp, ref_quot]; simp [ihr]
            · by_cases h5 : c = 194 ∧ r.head? = some 160
              · obtain ⟨rfl, h160⟩ := h5
                cases r with
                | nil => simp at h160
                | cons b r =>
                  simp only [List.head?_cons, Option.some.injEq] at h160
                  subst h160
                  simp only [List.length_cons] at hl
                  rw [esc_nb]
                  show dec attr (38 :: 110 :: 98 :: 115 :: 112 :: 59 :: _) = _
                  rw [dec_amp, ref_nbsp]; simp [ih (d - 2) (by omega) r (by omega)]
              · rw [esc_else attr c r h1 h2 h3 h4 h5, dec_other attr c _ h1, ihr]
theorem back_l0' (l t : Bs) (attr : Bool) (ht : t.length ≤ 2000) (hc : ∀ c ∈ t, c ≠ 60 ∧ c ≠ 62 ∧ (attr = true → c ≠ 34)) (hd : dec attr t = l) (d : Nat) : ∀ (j k : Nat), j + d = t.length → d + 10000 ≤ k →
    marginalialaw09_PrintBack.l0 k (mkB l) attr (mkB t) (j : Int) = some true := by
  induction d with
  | zero =>
    intro j k hj hk
    obtain ⟨k, rfl⟩ : ∃ m, k = m + 1 := ⟨k - 1, by omega⟩
    rw [marginalialaw09_PrintBack.l0, if_neg (by rw [mkB_size]; omega), alive09 (by omega), Option.bind_some, if_pos rfl, decode_ok attr t (by omega) (by omega), Option.bind_some, hd]
    simp
  | succ d ih =>
    intro j k hj hk
    obtain ⟨k, rfl⟩ : ∃ m, k = m + 1 := ⟨k - 1, by omega⟩
    have hlt : j < t.length := by omega
    have hg : t.getD j 0 = t[j] := by simp [List.getD, hlt]
    have hx := hc t[j] (List.getElem_mem hlt)
    have w : wrap64 ((j : Int) + 1) = ((j + 1 : Nat) : Int) := wrn (n := j + 1) (by omega)
    have nb : ∀ m : UInt8, t[j] ≠ m → ¬ (((t[j].toNat : Nat) : Int) = ((m.toNat : Nat) : Int)) := fun m h e => h (UInt8.toNat_inj.1 (by omega))
    have n1 : ¬ (((t[j].toNat : Nat) : Int) = 60) := nb 60 hx.1
    have n2 : ¬ (((t[j].toNat : Nat) : Int) = 62) := nb 62 hx.2.1
    rw [marginalialaw09_PrintBack.l0, if_pos (by rw [mkB_size]; omega), if_pos (by omega), mkB_bt, hg, if_neg n1, if_neg n2, w, ih (j + 1) k (by omega) (by omega)]
    cases attr with
    | false => simp
    | true =>
      have n3 : ¬ (((t[j].toNat : Nat) : Int) = 34) := nb 34 (hx.2.2 rfl)
      rw [if_pos rfl, if_neg n3]
theorem PrintBack : marginalialaw09_PrintBack.Pure := by
  intro a0 a1 _
  obtain ⟨l, rfl, hl⟩ := mkB_of a0
  refine ⟨20000, ?_⟩
  unfold marginalialaw09_PrintBack.f
  by_cases h : ((mkB l).size : Int) > 200
  · rw [if_pos h, alive09 (by omega)]; rfl
  · rw [if_neg h]
    rw [mkB_size] at h
    have hlen := esc_len a1 l false
    rw [escape_ok l (by omega), Option.bind_some]
    exact back_l0' l _ a1 (by omega) (esc_clean a1 l false) (dec_esc a1 l.length l (Nat.le_refl _)) _ 0 20000 (Nat.zero_add _) (by omega)

end Go.Proofs.Ythialihgamlljaa.Pure
