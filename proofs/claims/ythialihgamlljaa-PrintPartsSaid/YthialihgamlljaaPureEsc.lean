/- Escaping, over lists of bytes, and the fixed question of layer 9; condition: a text has at most a million bytes. -/
import Derived.Test.YthialihgamlljaaChar0
namespace Go.Proofs.Ythialihgamlljaa.Pure
open Go.RowKit Go.Proofs.Ythialihgamlljaa.G Go.Proofs.YthialihgamlljaaW.PrintWords Go.Proofs.YthialihgamlljaaW.PrintLast Go.Proofs.Ythialihgamlljaa.Spec
set_option linter.unusedVariables false
set_option linter.unusedSimpArgs false

theorem alive09_60 : marginalialaw09_alive.f 60 = some true := by kernel_rfl
theorem alive09 {k : Nat} (hk : 60 ≤ k) : marginalialaw09_alive.f k = some true := at_rounds (fun k => marginalialaw09_alive.mono k) hk alive09_60
theorem escape_ok (l : Bs) (hl : l.length ≤ 1000000) (attr : Bool) : print_Escape.f (mkB l) attr = some (mkB (print_Escape.esc attr false l)) := by
  unfold print_Escape.f
  rw [if_pos (by rw [mkB_size]; omega), mkB_data]; rfl
theorem esc_len (attr : Bool) (l : Bs) : ∀ skip, (print_Escape.esc attr skip l).length ≤ 6 * l.length := by
  induction l with
  | nil => intro skip; cases skip <;> simp [print_Escape.esc]
  | cons c r ih =>
    intro skip
    cases skip with
    | true => have := ih false; simp only [print_Escape.esc, List.length_cons]; omega
    | false =>
      have h1 := ih false
      have h2 := ih true
      simp only [print_Escape.esc]
      repeat' split
      all_goals simp only [List.length_append, List.length_cons, List.length_nil]; omega
theorem esc_38 (attr : Bool) (r : Bs) : print_Escape.esc attr false (38 :: r) = [38, 97, 109, 112, 59] ++ print_Escape.esc attr false r := by simp [print_Escape.esc]
theorem esc_60 (attr : Bool) (r : Bs) : print_Escape.esc attr false (60 :: r) = [38, 108, 116, 59] ++ print_Escape.esc attr false r := by simp [print_Escape.esc]
theorem esc_62 (attr : Bool) (r : Bs) : print_Escape.esc attr false (62 :: r) = [38, 103, 116, 59] ++ print_Escape.esc attr false r := by simp [print_Escape.esc]
theorem esc_34 (r : Bs) : print_Escape.esc true false (34 :: r) = [38, 113, 117, 111, 116, 59] ++ print_Escape.esc true false r := by simp [print_Escape.esc]
theorem esc_nb (attr : Bool) (r : Bs) : print_Escape.esc attr false (194 :: 160 :: r) = [38, 110, 98, 115, 112, 59] ++ print_Escape.esc attr false r := by simp [print_Escape.esc]
theorem esc_else (attr : Bool) (c : UInt8) (r : Bs) (h1 : c ≠ 38) (h2 : c ≠ 60) (h3 : c ≠ 62) (h4 : ¬ (c = 34 ∧ attr = true)) (h5 : ¬ (c = 194 ∧ r.head? = some 160)) : print_Escape.esc attr false (c :: r) = c :: print_Escape.esc attr false r := by
  rw [print_Escape.esc, if_neg h1, if_neg h2, if_neg h3, if_neg h4, if_neg h5]


end Go.Proofs.Ythialihgamlljaa.Pure
