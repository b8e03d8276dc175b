-- laid by a program of this session's (wip/tools/myprint.py) over the translation
import Derived.Test.YthialihgamlljaaG0
import Derived.Test.YthialihgamlljaaG10
namespace Go.Proofs.Ythialihgamlljaa.G
open Go.RowKit Go.Proofs.YthialihgamlljaaW.PrintWords Go.Proofs.YthialihgamlljaaW.PrintLast Go.Proofs.YthialihgamlljaaW.PrintMore
attribute [local go_sem] max2_int min2_int max_two min_two max_three min_three max_four min_four   -- for this text's walks alone
set_option linter.unusedVariables false
set_option linter.unusedSimpArgs false

/-! ### marginaliaref03_digit: function 60 -/
mutual
def marginaliaref03_digit.j0 : Nat → Int → Int → Int → Bool → Option (Int)
  | 0, _, _, _, _ => none
  | k + 1, x0, x1, x5, x6 => if x6 = true then (if ((x0 - 48) % 256) ≥ x1 then (some (-1)) else (some ((x0 - 48) % 256))) else (if x0 ≥ 97 then (marginaliaref03_digit.j1 k x0 x1 x5 (decide (x0 ≤ 102))) else (marginaliaref03_digit.j1 k x0 x1 x5 false))
def marginaliaref03_digit.j1 : Nat → Int → Int → Int → Bool → Option (Int)
  | 0, _, _, _, _ => none
  | k + 1, x0, x1, x5, x16 => if x16 = true then (if (((x0 - 97) % 256) + 10) ≥ x1 then (some (-1)) else (some (((x0 - 97) % 256) + 10))) else (if x0 ≥ 65 then (marginaliaref03_digit.j2 k x0 x1 x5 (decide (x0 ≤ 70))) else (marginaliaref03_digit.j2 k x0 x1 x5 false))
def marginaliaref03_digit.j2 : Nat → Int → Int → Int → Bool → Option (Int)
  | 0, _, _, _, _ => none
  | k + 1, x0, x1, x5, x27 => if x27 = true then (if (((x0 - 65) % 256) + 10) ≥ x1 then (some (-1)) else (some (((x0 - 65) % 256) + 10))) else (if x5 ≥ x1 then (some (-1)) else (some x5))
end
def marginaliaref03_digit.f (k : Nat) (a0 : Int) (a1 : Int) : Option (Int) := if a0 ≥ 48 then (marginaliaref03_digit.j0 k a0 a1 (-1) (decide (a0 ≤ 57))) else (marginaliaref03_digit.j0 k a0 a1 (-1) false)
theorem marginaliaref03_digit.mono_l : ∀ k, (∀ y0 y1 y2 y3, LeO (marginaliaref03_digit.j0 k y0 y1 y2 y3) (marginaliaref03_digit.j0 (k + 1) y0 y1 y2 y3)) ∧ (∀ y0 y1 y2 y3, LeO (marginaliaref03_digit.j1 k y0 y1 y2 y3) (marginaliaref03_digit.j1 (k + 1) y0 y1 y2 y3)) ∧ (∀ y0 y1 y2 y3, LeO (marginaliaref03_digit.j2 k y0 y1 y2 y3) (marginaliaref03_digit.j2 (k + 1) y0 y1 y2 y3))
  | 0 => ⟨fun _ _ _ _ r h => by simp [marginaliaref03_digit.j0] at h, fun _ _ _ _ r h => by simp [marginaliaref03_digit.j1] at h, fun _ _ _ _ r h => by simp [marginaliaref03_digit.j2] at h⟩
  | k + 1 => by
    obtain ⟨ih0, ih1, ih2⟩ := marginaliaref03_digit.mono_l k
    refine ⟨?_, ?_, ?_⟩
    · intro y0 y1 y2 y3
      unfold marginaliaref03_digit.j0
      repeat' first
      | (with_reducible exact ih0 _ _ _ _)
      | (with_reducible exact ih1 _ _ _ _)
      | (with_reducible exact ih2 _ _ _ _)
      | (with_reducible exact LeO.refl _)
      | (with_reducible exact LeO.none _)
      | (with_reducible refine LeO.ite ?_ ?_)
      | (with_reducible refine LeO.bind ?_ (fun _ => ?_))
      | exact ih0 _ _ _ _
      | exact ih1 _ _ _ _
      | exact ih2 _ _ _ _
      | exact LeO.none _
      | refine LeO.ite ?_ ?_
      | refine LeO.bind ?_ (fun _ => ?_)
    · intro y0 y1 y2 y3
      unfold marginaliaref03_digit.j1
      repeat' first
      | (with_reducible exact ih0 _ _ _ _)
      | (with_reducible exact ih1 _ _ _ _)
      | (with_reducible exact ih2 _ _ _ _)
      | (with_reducible exact LeO.refl _)
      | (with_reducible exact LeO.none _)
      | (with_reducible refine LeO.ite ?_ ?_)
      | (with_reducible refine LeO.bind ?_ (fun _ => ?_))
      | exact ih0 _ _ _ _
      | exact ih1 _ _ _ _
      | exact ih2 _ _ _ _
      | exact LeO.none _
      | refine LeO.ite ?_ ?_
      | refine LeO.bind ?_ (fun _ => ?_)
    · intro y0 y1 y2 y3
      unfold marginaliaref03_digit.j2
      repeat' first
      | (with_reducible exact ih0 _ _ _ _)
      | (with_reducible exact ih1 _ _ _ _)
      | (with_reducible exact ih2 _ _ _ _)
      | (with_reducible exact LeO.refl _)
      | (with_reducible exact LeO.none _)
      | (with_reducible refine LeO.ite ?_ ?_)
      | (with_reducible refine LeO.bind ?_ (fun _ => ?_))
      | exact ih0 _ _ _ _
      | exact ih1 _ _ _ _
      | exact ih2 _ _ _ _
      | exact LeO.none _
      | refine LeO.ite ?_ ?_
      | refine LeO.bind ?_ (fun _ => ?_)
theorem marginaliaref03_digit.mono : ∀ a0 a1 k, LeO (marginaliaref03_digit.f k a0 a1) (marginaliaref03_digit.f (k + 1) a0 a1) := by
  intro a0 a1 k
  obtain ⟨ih0, ih1, ih2⟩ := marginaliaref03_digit.mono_l k
  unfold marginaliaref03_digit.f
  repeat' first
      | (with_reducible exact ih0 _ _ _ _)
      | (with_reducible exact ih1 _ _ _ _)
      | (with_reducible exact ih2 _ _ _ _)
      | (with_reducible exact LeO.refl _)
      | (with_reducible exact LeO.none _)
      | (with_reducible refine LeO.ite ?_ ?_)
      | (with_reducible refine LeO.bind ?_ (fun _ => ?_))
      | exact ih0 _ _ _ _
      | exact ih1 _ _ _ _
      | exact ih2 _ _ _ _
      | exact LeO.none _
      | refine LeO.ite ?_ ?_
      | refine LeO.bind ?_ (fun _ => ?_)
set_option maxHeartbeats 8000000 in
set_option maxRecDepth 100000 in
theorem marginaliaref03_digit.calls (k : Nat) (a0 : Int) (a1 : Int) (r : Int) (w : World) (h : marginaliaref03_digit.f k a0 a1 = some r) :
    Calls Try.prog 60 #[.int .u8 a0, .int .i64 a1] w fun e w' => e = .returned (.int .i64 r) ∧ Drawn0 w w' := by
  have H : (if a0 ≥ 48 then (marginaliaref03_digit.j0 k a0 a1 (-1) (decide (a0 ≤ 57))) else (marginaliaref03_digit.j0 k a0 a1 (-1) false)) = some r := h
  clear h
  have HC3 := Aside0.mk H
  clear H
  go_enter Try.func60, Try.ntmps60
  go_upto_region 2 with (fail)
  go_cut [6] (fun v6 wc => ∃ (kq : Nat) (x6_2 : Bool), v6 = .bool x6_2 ∧ Aside0 (marginaliaref03_digit.j0 kq a0 a1 (-1) x6_2 = some r) ∧ Aside0 (kq ≤ k) ∧ Drawn0 w wc)
  case first =>
    have H := HC3.out
    clear HC3
    by_cases c4 : a0 ≥ 48
    · rw [if_pos c4] at H
      have c4b0 : decide (48 ≤ a0) = true := decide_eq_true c4
      clear c4
      (first | rw [c4b0] | (simp only [i64_w, i32_w]; rw [c4b0]) | skip)
      have H' := Aside0.mk H
      clear H
      go_wp2
      go_meet
      case rel => exact ⟨_, (decide (a0 ≤ 57)), (by first | rfl | (simp; done) | (simp [*]; done)), H', ⟨by first | omega | exact Nat.le_refl _⟩, by repeat (first | exact Drawn0.refl _ | apply Drawn0.step)⟩
    · rw [if_neg c4] at H
      have c4b0 : decide (48 ≤ a0) = false := decide_eq_false c4
      clear c4
      (first | rw [c4b0] | (simp only [i64_w, i32_w]; rw [c4b0]) | skip)
      have H' := Aside0.mk H
      clear H
      go_wp2
      go_meet
      case rel => exact ⟨_, (false), (by first | rfl | (simp; done) | (simp [*]; done)), H', ⟨by first | omega | exact Nat.le_refl _⟩, by repeat (first | exact Drawn0.refl _ | apply Drawn0.step)⟩
  case rest =>
    clear HC3
    try clear p2
    try clear c4
    try clear c4b0
    obtain ⟨kq, x6_2, rfl, HA, HJ2, ⟨mc2, rfl⟩⟩ := hcut
    cases kq with
    | zero => exact absurd HA.out (by simp [marginaliaref03_digit.j0])
    | succ kj2 =>
      have H := HA.out
      clear HA
      simp only [marginaliaref03_digit.j0] at H
      by_cases c5 : x6_2 = true
      · subst c5
        have H1 : (if ((a0 - 48) % 256) ≥ a1 then (some (-1)) else (some ((a0 - 48) % 256))) = some r := by rw [if_pos rfl] at H; exact H
        clear H
        have H := H1
        clear H1
        by_cases c6 : ((a0 - 48) % 256) ≥ a1
        · rw [if_pos c6] at H
          have c6b0 : decide (a1 ≤ ((a0 - 48) % 256)) = true := decide_eq_true c6
          clear c6
          obtain rfl := Option.some.inj H
          go_wp2
          go_ret
          exact ⟨by first | rfl | (simp; done) | (simp [*]; done), by repeat (first | exact Drawn0.refl _ | apply Drawn0.step)⟩
        · rw [if_neg c6] at H
          have c6b0 : decide (a1 ≤ ((a0 - 48) % 256)) = false := decide_eq_false c6
          clear c6
          obtain rfl := Option.some.inj H
          go_wp2
          go_ret
          exact ⟨by first | rfl | (simp; done) | (simp [*]; done), by repeat (first | exact Drawn0.refl _ | apply Drawn0.step)⟩
      · replace c5 := Bool.eq_false_iff.mpr c5
        subst c5
        have H1 : (if a0 ≥ 97 then (marginaliaref03_digit.j1 kj2 a0 a1 (-1) (decide (a0 ≤ 102))) else (marginaliaref03_digit.j1 kj2 a0 a1 (-1) false)) = some r := by rw [if_neg (show ¬ (false = true) by decide)] at H; exact H
        clear H
        have H := H1
        clear H1
        have HC7 := Aside0.mk H
        clear H
        go_upto_region 4 with (fail)
        go_cut [16] (fun v16 wc => ∃ (kq : Nat) (x16_6 : Bool), v16 = .bool x16_6 ∧ Aside0 (marginaliaref03_digit.j1 kq a0 a1 (-1) x16_6 = some r) ∧ Aside0 (kq ≤ kj2) ∧ Drawn0 w wc)
        case first =>
          have H := HC7.out
          clear HC7
          by_cases c8 : a0 ≥ 97
          · rw [if_pos c8] at H
            have c8b0 : decide (97 ≤ a0) = true := decide_eq_true c8
            clear c8
            (first | rw [c8b0] | (simp only [i64_w, i32_w]; rw [c8b0]) | skip)
            have H' := Aside0.mk H
            clear H
            go_wp2
            go_meet
            case rel => exact ⟨_, (decide (a0 ≤ 102)), (by first | rfl | (simp; done) | (simp [*]; done)), H', ⟨by have := HJ2.out; first | omega | exact Nat.le_refl _⟩, by repeat (first | exact Drawn0.refl _ | apply Drawn0.step)⟩
          · rw [if_neg c8] at H
            have c8b0 : decide (97 ≤ a0) = false := decide_eq_false c8
            clear c8
            (first | rw [c8b0] | (simp only [i64_w, i32_w]; rw [c8b0]) | skip)
            have H' := Aside0.mk H
            clear H
            go_wp2
            go_meet
            case rel => exact ⟨_, (false), (by first | rfl | (simp; done) | (simp [*]; done)), H', ⟨by have := HJ2.out; first | omega | exact Nat.le_refl _⟩, by repeat (first | exact Drawn0.refl _ | apply Drawn0.step)⟩
        case rest =>
          clear HC7
          try clear c2
          try clear p2
          try clear c4
          try clear c4b0
          try clear c5
          try clear c6
          try clear c6b0
          try clear c8
          try clear c8b0
          try clear p2
          obtain ⟨kq, x16_6, rfl, HA, HJ6, ⟨mc6, rfl⟩⟩ := hcut
          cases kq with
          | zero => exact absurd HA.out (by simp [marginaliaref03_digit.j1])
          | succ kj6 =>
            have H := HA.out
            clear HA
            simp only [marginaliaref03_digit.j1] at H
            by_cases c9 : x16_6 = true
            · subst c9
              have H1 : (if (((a0 - 97) % 256) + 10) ≥ a1 then (some (-1)) else (some (((a0 - 97) % 256) + 10))) = some r := by rw [if_pos rfl] at H; exact H
              clear H
              have H := H1
              clear H1
              by_cases c10 : (((a0 - 97) % 256) + 10) ≥ a1
              · rw [if_pos c10] at H
                have c10b0 : decide (a1 ≤ (((a0 - 97) % 256) + 10)) = true := decide_eq_true c10
                clear c10
                obtain rfl := Option.some.inj H
                go_wp2
                go_ret
                exact ⟨by first | rfl | (simp; done) | (simp [*]; done), by repeat (first | exact Drawn0.refl _ | apply Drawn0.step)⟩
              · rw [if_neg c10] at H
                have c10b0 : decide (a1 ≤ (((a0 - 97) % 256) + 10)) = false := decide_eq_false c10
                clear c10
                obtain rfl := Option.some.inj H
                go_wp2
                go_ret
                exact ⟨by first | rfl | (simp; done) | (simp [*]; done), by repeat (first | exact Drawn0.refl _ | apply Drawn0.step)⟩
            · replace c9 := Bool.eq_false_iff.mpr c9
              subst c9
              have H1 : (if a0 ≥ 65 then (marginaliaref03_digit.j2 kj6 a0 a1 (-1) (decide (a0 ≤ 70))) else (marginaliaref03_digit.j2 kj6 a0 a1 (-1) false)) = some r := by rw [if_neg (show ¬ (false = true) by decide)] at H; exact H
              clear H
              have H := H1
              clear H1
              have HC11 := Aside0.mk H
              clear H
              go_upto_region 6 with (fail)
              go_cut [27] (fun v27 wc => ∃ (kq : Nat) (x27_10 : Bool), v27 = .bool x27_10 ∧ Aside0 (marginaliaref03_digit.j2 kq a0 a1 (-1) x27_10 = some r) ∧ Aside0 (kq ≤ kj6) ∧ Drawn0 w wc)
              case first =>
                have H := HC11.out
                clear HC11
                by_cases c12 : a0 ≥ 65
                · rw [if_pos c12] at H
                  have c12b0 : decide (65 ≤ a0) = true := decide_eq_true c12
                  clear c12
                  (first | rw [c12b0] | (simp only [i64_w, i32_w]; rw [c12b0]) | skip)
                  have H' := Aside0.mk H
                  clear H
                  go_wp2
                  go_meet
                  case rel => exact ⟨_, (decide (a0 ≤ 70)), (by first | rfl | (simp; done) | (simp [*]; done)), H', ⟨by have := HJ2.out; have := HJ6.out; first | omega | exact Nat.le_refl _⟩, by repeat (first | exact Drawn0.refl _ | apply Drawn0.step)⟩
                · rw [if_neg c12] at H
                  have c12b0 : decide (65 ≤ a0) = false := decide_eq_false c12
                  clear c12
                  (first | rw [c12b0] | (simp only [i64_w, i32_w]; rw [c12b0]) | skip)
                  have H' := Aside0.mk H
                  clear H
                  go_wp2
                  go_meet
                  case rel => exact ⟨_, (false), (by first | rfl | (simp; done) | (simp [*]; done)), H', ⟨by have := HJ2.out; have := HJ6.out; first | omega | exact Nat.le_refl _⟩, by repeat (first | exact Drawn0.refl _ | apply Drawn0.step)⟩
              case rest =>
                clear HC11
                try clear c1
                try clear c2
                try clear p2
                try clear c4
                try clear c4b0
                try clear c5
                try clear c6
                try clear c6b0
                try clear c8
                try clear c8b0
                try clear c9
                try clear c10
                try clear c10b0
                try clear c12
                try clear c12b0
                try clear p2
                obtain ⟨kq, x27_10, rfl, HA, HJ10, ⟨mc10, rfl⟩⟩ := hcut
                cases kq with
                | zero => exact absurd HA.out (by simp [marginaliaref03_digit.j2])
                | succ kj10 =>
                  have H := HA.out
                  clear HA
                  simp only [marginaliaref03_digit.j2] at H
                  by_cases c13 : x27_10 = true
                  · subst c13
                    have H1 : (if (((a0 - 65) % 256) + 10) ≥ a1 then (some (-1)) else (some (((a0 - 65) % 256) + 10))) = some r := by rw [if_pos rfl] at H; exact H
                    clear H
                    have H := H1
                    clear H1
                    by_cases c14 : (((a0 - 65) % 256) + 10) ≥ a1
                    · rw [if_pos c14] at H
                      have c14b0 : decide (a1 ≤ (((a0 - 65) % 256) + 10)) = true := decide_eq_true c14
                      clear c14
                      obtain rfl := Option.some.inj H
                      go_wp2
                      go_ret
                      exact ⟨by first | rfl | (simp; done) | (simp [*]; done), by repeat (first | exact Drawn0.refl _ | apply Drawn0.step)⟩
                    · rw [if_neg c14] at H
                      have c14b0 : decide (a1 ≤ (((a0 - 65) % 256) + 10)) = false := decide_eq_false c14
                      clear c14
                      obtain rfl := Option.some.inj H
                      go_wp2
                      go_ret
                      exact ⟨by first | rfl | (simp; done) | (simp [*]; done), by repeat (first | exact Drawn0.refl _ | apply Drawn0.step)⟩
                  · replace c13 := Bool.eq_false_iff.mpr c13
                    subst c13
                    have H1 : (if (-1) ≥ a1 then (some (-1)) else (some (-1))) = some r := by rw [if_neg (show ¬ (false = true) by decide)] at H; exact H
                    clear H
                    have H := H1
                    clear H1
                    by_cases c15 : (-1) ≥ a1
                    · rw [if_pos c15] at H
                      have c15b0 : decide (a1 ≤ (-1)) = true := decide_eq_true c15
                      clear c15
                      obtain rfl := Option.some.inj H
                      go_wp2
                      go_ret
                      exact ⟨by first | rfl | (simp; done) | (simp [*]; done), by repeat (first | exact Drawn0.refl _ | apply Drawn0.step)⟩
                    · rw [if_neg c15] at H
                      have c15b0 : decide (a1 ≤ (-1)) = false := decide_eq_false c15
                      clear c15
                      obtain rfl := Option.some.inj H
                      go_wp2
                      go_ret
                      exact ⟨by first | rfl | (simp; done) | (simp [*]; done), by repeat (first | exact Drawn0.refl _ | apply Drawn0.step)⟩

/-! ### marginaliaref03_number: function 46 -/
mutual
def marginaliaref03_number.j0 : Nat → ByteArray → Int → Int → Int → Bool → Option (ByteArray × Int)
  | 0, _, _, _, _, _ => none
  | k + 1, x0, x1, x6, x7, x27 => if x27 = true then (marginaliaref03_number.j1 k x0 x1 (wrap64 (x6 + 1)) 16) else (marginaliaref03_number.j1 k x0 x1 x6 x7)
def marginaliaref03_number.j1 : Nat → ByteArray → Int → Int → Int → Option (ByteArray × Int)
  | 0, _, _, _, _ => none
  | k + 1, x0, x1, x6, x7 => marginaliaref03_number.l0 k x0 x1 x6 x7 0 0
def marginaliaref03_number.l0 : Nat → ByteArray → Int → Int → Int → Int → Int → Option (ByteArray × Int)
  | 0, _, _, _, _, _, _ => none
  | k + 1, x0, x1, x6, x7, x8, x9 => if x6 < (x0.size : Int) then (if 0 ≤ x6 then ((marginaliaref03_digit.f k (bt x0 x6) x7).bind fun t172 => (marginaliaref03_number.j3 k x0 x1 x6 x7 x8 x9 (decide (t172 ≥ 0)))) else (none)) else (marginaliaref03_number.j3 k x0 x1 x6 x7 x8 x9 false)
def marginaliaref03_number.j3 : Nat → ByteArray → Int → Int → Int → Int → Int → Bool → Option (ByteArray × Int)
  | 0, _, _, _, _, _, _, _ => none
  | k + 1, x0, x1, x6, x7, x8, x9, x41 => if x41 = true then (if 0 ≤ x6 then (if x6 < (x0.size : Int) then ((marginaliaref03_digit.f k (bt x0 x6) x7).bind fun t173 => (if (wrap64 ((wrap64 (x8 * x7)) + t173)) > 1114111 then (marginaliaref03_number.l0 k x0 x1 (wrap64 (x6 + 1)) x7 1114112 (wrap64 (x9 + 1))) else (marginaliaref03_number.l0 k x0 x1 (wrap64 (x6 + 1)) x7 (wrap64 ((wrap64 (x8 * x7)) + t173)) (wrap64 (x9 + 1))))) else (none)) else (none)) else (if x9 = 0 then (some ((⟨#[]⟩ : ByteArray), 0)) else (if x6 < (x0.size : Int) then (if 0 ≤ x6 then (if (bt x0 x6) = 59 then ((marginaliaref03_Number.f k x8).bind fun t174 => (some (t174, wrap64 ((wrap64 (x6 + 1)) - x1)))) else ((marginaliaref03_Number.f k x8).bind fun t175 => (some (t175, wrap64 (x6 - x1))))) else (none)) else ((marginaliaref03_Number.f k x8).bind fun t176 => (some (t176, wrap64 (x6 - x1))))))
end
def marginaliaref03_number.f (k : Nat) (a0 : ByteArray) (a1 : Int) : Option (ByteArray × Int) := if (wrap64 (a1 + 2)) < (a0.size : Int) then (if 0 ≤ (wrap64 (a1 + 2)) then (if (bt a0 (wrap64 (a1 + 2))) = 120 then (marginaliaref03_number.j0 k a0 a1 (wrap64 (a1 + 2)) 10 true) else (marginaliaref03_number.j0 k a0 a1 (wrap64 (a1 + 2)) 10 ((bt a0 (wrap64 (a1 + 2))) == 88))) else (none)) else (marginaliaref03_number.j0 k a0 a1 (wrap64 (a1 + 2)) 10 false)
theorem marginaliaref03_number.mono_l : ∀ k, (∀ y0 y1 y2 y3 y4, LeO (marginaliaref03_number.j0 k y0 y1 y2 y3 y4) (marginaliaref03_number.j0 (k + 1) y0 y1 y2 y3 y4)) ∧ (∀ y0 y1 y2 y3, LeO (marginaliaref03_number.j1 k y0 y1 y2 y3) (marginaliaref03_number.j1 (k + 1) y0 y1 y2 y3)) ∧ (∀ y0 y1 y2 y3 y4 y5, LeO (marginaliaref03_number.l0 k y0 y1 y2 y3 y4 y5) (marginaliaref03_number.l0 (k + 1) y0 y1 y2 y3 y4 y5)) ∧ (∀ y0 y1 y2 y3 y4 y5 y6, LeO (marginaliaref03_number.j3 k y0 y1 y2 y3 y4 y5 y6) (marginaliaref03_number.j3 (k + 1) y0 y1 y2 y3 y4 y5 y6))
  | 0 => ⟨fun _ _ _ _ _ r h => by simp [marginaliaref03_number.j0] at h, fun _ _ _ _ r h => by simp [marginaliaref03_number.j1] at h, fun _ _ _ _ _ _ r h => by simp [marginaliaref03_number.l0] at h, fun _ _ _ _ _ _ _ r h => by simp [marginaliaref03_number.j3] at h⟩
  | k + 1 => by
    obtain ⟨ih0, ih1, ih2, ih3⟩ := marginaliaref03_number.mono_l k
    refine ⟨?_, ?_, ?_, ?_⟩
    · intro y0 y1 y2 y3 y4
      unfold marginaliaref03_number.j0
      repeat' first
      | (with_reducible exact ih0 _ _ _ _ _)
      | (with_reducible exact ih1 _ _ _ _)
      | (with_reducible exact ih2 _ _ _ _ _ _)
      | (with_reducible exact ih3 _ _ _ _ _ _ _)
      | (with_reducible exact marginaliaref03_Number.mono _ _)
      | (with_reducible exact marginaliaref03_digit.mono _ _ _)
      | (with_reducible exact LeO.refl _)
      | (with_reducible exact LeO.none _)
      | (with_reducible refine LeO.ite ?_ ?_)
      | (with_reducible refine LeO.bind ?_ (fun _ => ?_))
      | exact ih0 _ _ _ _ _
      | exact ih1 _ _ _ _
      | exact ih2 _ _ _ _ _ _
      | exact ih3 _ _ _ _ _ _ _
      | exact marginaliaref03_Number.mono _ _
      | exact marginaliaref03_digit.mono _ _ _
      | exact LeO.none _
      | refine LeO.ite ?_ ?_
      | refine LeO.bind ?_ (fun _ => ?_)
    · intro y0 y1 y2 y3
      unfold marginaliaref03_number.j1
      repeat' first
      | (with_reducible exact ih0 _ _ _ _ _)
      | (with_reducible exact ih1 _ _ _ _)
      | (with_reducible exact ih2 _ _ _ _ _ _)
      | (with_reducible exact ih3 _ _ _ _ _ _ _)
      | (with_reducible exact marginaliaref03_Number.mono _ _)
      | (with_reducible exact marginaliaref03_digit.mono _ _ _)
      | (with_reducible exact LeO.refl _)
      | (with_reducible exact LeO.none _)
      | (with_reducible refine LeO.ite ?_ ?_)
      | (with_reducible refine LeO.bind ?_ (fun _ => ?_))
      | exact ih0 _ _ _ _ _
      | exact ih1 _ _ _ _
      | exact ih2 _ _ _ _ _ _
      | exact ih3 _ _ _ _ _ _ _
      | exact marginaliaref03_Number.mono _ _
      | exact marginaliaref03_digit.mono _ _ _
      | exact LeO.none _
      | refine LeO.ite ?_ ?_
      | refine LeO.bind ?_ (fun _ => ?_)
    · intro y0 y1 y2 y3 y4 y5
      unfold marginaliaref03_number.l0
      repeat' first
      | (with_reducible exact ih0 _ _ _ _ _)
      | (with_reducible exact ih1 _ _ _ _)
      | (with_reducible exact ih2 _ _ _ _ _ _)
      | (with_reducible exact ih3 _ _ _ _ _ _ _)
      | (with_reducible exact marginaliaref03_Number.mono _ _)
      | (with_reducible exact marginaliaref03_digit.mono _ _ _)
      | (with_reducible exact LeO.refl _)
      | (with_reducible exact LeO.none _)
      | (with_reducible refine LeO.ite ?_ ?_)
      | (with_reducible refine LeO.bind ?_ (fun _ => ?_))
      | exact ih0 _ _ _ _ _
      | exact ih1 _ _ _ _
      | exact ih2 _ _ _ _ _ _
      | exact ih3 _ _ _ _ _ _ _
      | exact marginaliaref03_Number.mono _ _
      | exact marginaliaref03_digit.mono _ _ _
      | exact LeO.none _
      | refine LeO.ite ?_ ?_
      | refine LeO.bind ?_ (fun _ => ?_)
    · intro y0 y1 y2 y3 y4 y5 y6
      unfold marginaliaref03_number.j3
      repeat' first
      | (with_reducible exact ih0 _ _ _ _ _)
      | (with_reducible exact ih1 _ _ _ _)
      | (with_reducible exact ih2 _ _ _ _ _ _)
      | (with_reducible exact ih3 _ _ _ _ _ _ _)
      | (with_reducible exact marginaliaref03_Number.mono _ _)
      | (with_reducible exact marginaliaref03_digit.mono _ _ _)
      | (with_reducible exact LeO.refl _)
      | (with_reducible exact LeO.none _)
      | (with_reducible refine LeO.ite ?_ ?_)
      | (with_reducible refine LeO.bind ?_ (fun _ => ?_))
      | exact ih0 _ _ _ _ _
      | exact ih1 _ _ _ _
      | exact ih2 _ _ _ _ _ _
      | exact ih3 _ _ _ _ _ _ _
      | exact marginaliaref03_Number.mono _ _
      | exact marginaliaref03_digit.mono _ _ _
      | exact LeO.none _
      | refine LeO.ite ?_ ?_
      | refine LeO.bind ?_ (fun _ => ?_)
theorem marginaliaref03_number.mono : ∀ a0 a1 k, LeO (marginaliaref03_number.f k a0 a1) (marginaliaref03_number.f (k + 1) a0 a1) := by
  intro a0 a1 k
  obtain ⟨ih0, ih1, ih2, ih3⟩ := marginaliaref03_number.mono_l k
  unfold marginaliaref03_number.f
  repeat' first
      | (with_reducible exact ih0 _ _ _ _ _)
      | (with_reducible exact ih1 _ _ _ _)
      | (with_reducible exact ih2 _ _ _ _ _ _)
      | (with_reducible exact ih3 _ _ _ _ _ _ _)
      | (with_reducible exact marginaliaref03_Number.mono _ _)
      | (with_reducible exact marginaliaref03_digit.mono _ _ _)
      | (with_reducible exact LeO.refl _)
      | (with_reducible exact LeO.none _)
      | (with_reducible refine LeO.ite ?_ ?_)
      | (with_reducible refine LeO.bind ?_ (fun _ => ?_))
      | exact ih0 _ _ _ _ _
      | exact ih1 _ _ _ _
      | exact ih2 _ _ _ _ _ _
      | exact ih3 _ _ _ _ _ _ _
      | exact marginaliaref03_Number.mono _ _
      | exact marginaliaref03_digit.mono _ _ _
      | exact LeO.none _
      | refine LeO.ite ?_ ?_
      | refine LeO.bind ?_ (fun _ => ?_)
set_option maxHeartbeats 8000000 in
set_option maxRecDepth 100000 in
theorem marginaliaref03_number.calls (k : Nat) (a0 : ByteArray) (a1 : Int) (r1 : ByteArray) (r2 : Int) (w : World) (h : marginaliaref03_number.f k a0 a1 = some (r1, r2)) :
    Calls Try.prog 46 #[.string a0, .int .i64 a1] w fun e w' => e = .returned (.tuple #[.string r1, .int .i64 r2]) ∧ Below w.heap.size w w' := by
  have HB := Aside0.mk (Below.refl w.heap.size w)
  have H : (if (wrap64 (a1 + 2)) < (a0.size : Int) then (if 0 ≤ (wrap64 (a1 + 2)) then (if (bt a0 (wrap64 (a1 + 2))) = 120 then (marginaliaref03_number.j0 k a0 a1 (wrap64 (a1 + 2)) 10 true) else (marginaliaref03_number.j0 k a0 a1 (wrap64 (a1 + 2)) 10 ((bt a0 (wrap64 (a1 + 2))) == 88))) else (none)) else (marginaliaref03_number.j0 k a0 a1 (wrap64 (a1 + 2)) 10 false)) = some (r1, r2) := h
  clear h
  have HC3 := Aside0.mk H
  clear H
  go_enter Try.func46, Try.ntmps46
  go_upto_region 2 with (fail)
  go_cut [27] (fun v27 wc => ∃ (kq : Nat) (x27_2 : Bool), v27 = .bool x27_2 ∧ Aside0 (marginaliaref03_number.j0 kq a0 a1 (wrap64 (a1 + 2)) 10 x27_2 = some (r1, r2)) ∧ Aside0 (kq ≤ k) ∧ Aside0 (Below w.heap.size w wc))
  case first =>
    have H := HC3.out
    clear HC3
    by_cases c4 : (wrap64 (a1 + 2)) < (a0.size : Int)
    · rw [if_pos c4] at H
      have c4b0 : decide ((wrap64 (a1 + 2)) < (a0.size : Int)) = true := decide_eq_true c4
      clear c4
      (first | rw [c4b0] | (simp only [i64_w, i32_w]; rw [c4b0]) | skip)
      obtain ⟨ji5, hji5⟩ : ∃ j_ : Int, (wrap64 (a1 + 2)) = j_ := ⟨_, rfl⟩
      replace H : (if 0 ≤ (ji5) then (if (bt a0 (ji5)) = 120 then (marginaliaref03_number.j0 k a0 a1 ji5 10 true) else (marginaliaref03_number.j0 k a0 a1 ji5 10 ((bt a0 (ji5)) == 88))) else (none)) = some (r1, r2) := by first | (rw [hji5] at H; exact H) | (simp only [hji5] at H ⊢; exact H)
      (try rw [hji5] at c4b0)
      have hji5w : (IntKind.i64.wrap (a1 + 2)) = ji5 := (i64_w _).trans hji5
      by_cases c6 : 0 ≤ (ji5)
      · rw [if_pos c6] at H
        have c6b0 : decide (0 ≤ (ji5)) = true := decide_eq_true c6
        clear c6
        by_cases c8 : (bt a0 (ji5)) = 120
        · rw [if_pos c8] at H
          have c8b0 : ((bt a0 (ji5)) == 120) = true := beq_iff_eq.mpr c8
          have c8b1 : ((bt a0 (ji5)) != 120) = false := bne_eq_false_iff_eq.mpr c8
          clear c8
          have H' := Aside0.mk H
          clear H
          have p7 : 0 ≤ ((ji5) : Int) := of_decide_eq_true (by first | (with_reducible assumption) | assumption)
          have q7 : (ji5) < (a0.size : Int) := of_decide_eq_true (by first | (with_reducible assumption) | assumption)
          have hx7 := bt_at a0 (ji5)
          replace p7 := eq_true p7
          replace q7 := eq_true q7
          go_wp2
          go_meet
          case rel => exact ⟨k, (true), (by first | rfl | (simp; done) | (simp [*]; done)), (by first | exact H' | (simp only [hji5]; exact H') | (simp only [hji5]; exact H')), ⟨by first | omega | exact Nat.le_refl _⟩, ⟨by repeat (first | (with_reducible first | exact HB.out | apply below_alloc | apply pw_below_drewN | apply below_drew1) | exact HB.out)⟩⟩
        · rw [if_neg c8] at H
          have c8b0 : ((bt a0 (ji5)) == 120) = false := beq_eq_false_iff_ne.mpr c8
          have c8b1 : ((bt a0 (ji5)) != 120) = true := bne_iff_ne.mpr c8
          have H' := Aside0.mk H
          clear H
          have p7 : 0 ≤ ((ji5) : Int) := of_decide_eq_true (by first | (with_reducible assumption) | assumption)
          have q7 : (ji5) < (a0.size : Int) := of_decide_eq_true (by first | (with_reducible assumption) | assumption)
          have hx7 := bt_at a0 (ji5)
          replace p7 := eq_true p7
          replace q7 := eq_true q7
          have p9 : 0 ≤ ((ji5) : Int) := of_decide_eq_true (by first | (with_reducible assumption) | assumption)
          have q9 : (ji5) < (a0.size : Int) := of_decide_eq_true (by first | (with_reducible assumption) | assumption)
          have hx9 := bt_at a0 (ji5)
          replace p9 := eq_true p9
          replace q9 := eq_true q9
          go_wp2
          go_meet
          case rel => exact ⟨k, (((bt a0 (ji5)) == 88)), (by first | rfl | (simp; done) | (simp only [← hji5] <;> (first | rfl | simp)) | (simp [*]; done)), (by first | exact H' | (simp only [hji5]; exact H') | (simp only [hji5]; exact H')), ⟨by first | omega | exact Nat.le_refl _⟩, ⟨by repeat (first | (with_reducible first | exact HB.out | apply below_alloc | apply pw_below_drewN | apply below_drew1) | exact HB.out)⟩⟩
      · rw [if_neg c6] at H
        exact absurd H (by simp)
    · rw [if_neg c4] at H
      have c4b0 : decide ((wrap64 (a1 + 2)) < (a0.size : Int)) = false := decide_eq_false c4
      clear c4
      (first | rw [c4b0] | (simp only [i64_w, i32_w]; rw [c4b0]) | skip)
      have H' := Aside0.mk H
      clear H
      go_wp2
      go_meet
      case rel => exact ⟨_, (false), (by first | rfl | (simp; done) | (simp [*]; done)), H', ⟨by first | omega | exact Nat.le_refl _⟩, ⟨by repeat (first | (with_reducible first | exact HB.out | apply below_alloc | apply pw_below_drewN | apply below_drew1) | exact HB.out)⟩⟩
  case rest =>
    clear HC3
    try clear p2
    try clear c4
    try clear c4b0
    try clear c6
    try clear c6b0
    try clear p6
    try clear p7
    try clear q7
    try clear hx7
    try clear c8
    try clear c8b0
    try clear c8b1
    try clear p9
    try clear q9
    try clear hx9
    try clear p7
    try clear p9
    try clear q7
    try clear q9
    obtain ⟨kq, x27_2, rfl, HA, HJ2, HB⟩ := hcut
    cases kq with
    | zero => exact absurd HA.out (by simp [marginaliaref03_number.j0])
    | succ kj2 =>
      have H := HA.out
      clear HA
      simp only [marginaliaref03_number.j0] at H
      have HC10 := Aside0.mk H
      clear H
      go_upto_if 27 with (fail)
      go_cut [6, 7] (fun v6 v7 wc => ∃ (kq : Nat) (x6_9 : Int) (x7_9 : Int), v6 = .int .i64 x6_9 ∧ v7 = .int .i64 x7_9 ∧ Aside0 (marginaliaref03_number.j1 kq a0 a1 x6_9 x7_9 = some (r1, r2)) ∧ Aside0 (kq ≤ kj2) ∧ Aside0 (Below w.heap.size w wc))
      case first =>
        have H := HC10.out
        clear HC10
        by_cases c11 : x27_2 = true
        · subst c11
          have H1 : (marginaliaref03_number.j1 kj2 a0 a1 (wrap64 ((wrap64 (a1 + 2)) + 1)) 16) = some (r1, r2) := by rw [if_pos rfl] at H; exact H
          clear H
          have H := H1
          clear H1
          have H' := Aside0.mk H
          clear H
          go_wp2
          go_meet
          case rel => exact ⟨_, (wrap64 ((wrap64 (a1 + 2)) + 1)), (16), (by first | rfl | (simp; done) | (simp [*]; done)), (by first | rfl | (simp; done) | (simp [*]; done)), H', ⟨by have := HJ2.out; first | omega | exact Nat.le_refl _⟩, ⟨by repeat (first | (with_reducible first | exact HB.out | apply below_alloc | apply pw_below_drewN | apply below_drew1) | exact HB.out)⟩⟩
        · replace c11 := Bool.eq_false_iff.mpr c11
          subst c11
          have H1 : (marginaliaref03_number.j1 kj2 a0 a1 (wrap64 (a1 + 2)) 10) = some (r1, r2) := by rw [if_neg (show ¬ (false = true) by decide)] at H; exact H
          clear H
          have H := H1
          clear H1
          have H' := Aside0.mk H
          clear H
          go_wp2
          go_meet
          case rel => exact ⟨_, ((wrap64 (a1 + 2))), (10), (by first | rfl | (simp; done) | (simp [*]; done)), (by first | rfl | (simp; done) | (simp [*]; done)), H', ⟨by have := HJ2.out; first | omega | exact Nat.le_refl _⟩, ⟨by repeat (first | (with_reducible first | exact HB.out | apply below_alloc | apply pw_below_drewN | apply below_drew1) | exact HB.out)⟩⟩
      case rest =>
        clear HC10
        try clear c1
        try clear p2
        try clear c4
        try clear c4b0
        try clear c6
        try clear c6b0
        try clear p6
        try clear p7
        try clear q7
        try clear hx7
        try clear c8
        try clear c8b0
        try clear c8b1
        try clear p9
        try clear q9
        try clear hx9
        try clear c11
        try clear p2
        try clear p6
        try clear p7
        try clear p9
        try clear q7
        try clear q9
        obtain ⟨kq, x6_9, x7_9, rfl, rfl, HA, HJ9, HB⟩ := hcut
        cases kq with
        | zero => exact absurd HA.out (by simp [marginaliaref03_number.j1])
        | succ kj9 =>
          have H := HA.out
          clear HA
          simp only [marginaliaref03_number.j1] at H
          have H' := Aside0.mk H
          clear H
          go_wp2
          go_loopg [6, 8, 9] kj9 (fun kq v6 v8 v9 w' => ∃ (x6_3 : Int) (x8_3 : Int) (x9_3 : Int), v6 = .int .i64 x6_3 ∧ v8 = .int .i64 x8_3 ∧ v9 = .int .i64 x9_3 ∧ Aside0 (marginaliaref03_number.l0 kq a0 a1 x6_3 x7_9 x8_3 x9_3 = some (r1, r2)) ∧ Aside0 (kq ≤ kj9) ∧ Aside0 (Below w.heap.size w w'))
          case atStart => exact ⟨(x6_9), (0), (0), (by first | rfl | (simp; done) | (simp [*]; done)), (by first | rfl | (simp; done) | (simp [*]; done)), (by first | rfl | (simp; done) | (simp [*]; done)), H', ⟨Nat.le_refl _⟩, ⟨by repeat (first | (with_reducible first | exact HB.out | apply below_alloc | apply pw_below_drewN | apply below_drew1) | exact HB.out)⟩⟩
          case round =>
            clear H'
            try clear c1
            try clear p2
            try clear c4
            try clear c4b0
            try clear c6
            try clear c6b0
            try clear p6
            try clear p7
            try clear q7
            try clear hx7
            try clear c8
            try clear c8b0
            try clear c8b1
            try clear p9
            try clear q9
            try clear hx9
            try clear c11
            try clear p2
            try clear p6
            try clear p7
            try clear p9
            try clear q7
            try clear q9
            obtain ⟨x6_3, x8_3, x9_3, rfl, rfl, rfl, HA, HK3, HB⟩ := hrel
            cases gk with
            | zero => exact absurd HA.out (by simp [marginaliaref03_number.l0])
            | succ k3 =>
              have H := HA.out
              clear HA
              simp only [marginaliaref03_number.l0] at H
              have HC12 := Aside0.mk H
              clear H
              go_upto_region 6 with (fail)
              go_cut [41] (fun v41 wc => ∃ (kq : Nat) (x41_11 : Bool), v41 = .bool x41_11 ∧ Aside0 (marginaliaref03_number.j3 kq a0 a1 x6_3 x7_9 x8_3 x9_3 x41_11 = some (r1, r2)) ∧ Aside0 (kq ≤ k3) ∧ Aside0 (Below w.heap.size w wc))
              case first =>
                have H := HC12.out
                clear HC12
                by_cases c13 : x6_3 < (a0.size : Int)
                · rw [if_pos c13] at H
                  have c13b0 : decide (x6_3 < (a0.size : Int)) = true := decide_eq_true c13
                  clear c13
                  (first | rw [c13b0] | (simp only [i64_w, i32_w]; rw [c13b0]) | skip)
                  by_cases c14 : 0 ≤ x6_3
                  · rw [if_pos c14] at H
                    have c14b0 : decide (0 ≤ x6_3) = true := decide_eq_true c14
                    clear c14
                    replace H := Option.bind_eq_some_iff.mp H
                    obtain ⟨t172, A160, H⟩ := H
                    replace H : (marginaliaref03_number.j3 k3 a0 a1 x6_3 x7_9 x8_3 x9_3 (decide (t172 ≥ 0))) = some (r1, r2) := H
                    have A16 := Aside0.mk A160
                    clear A160
                    have H' := Aside0.mk H
                    clear H
                    have p15 : 0 ≤ (x6_3 : Int) := of_decide_eq_true (by first | (with_reducible assumption) | assumption)
                    have q15 : x6_3 < (a0.size : Int) := of_decide_eq_true (by first | (with_reducible assumption) | assumption)
                    have hx15 := bt_at a0 x6_3
                    replace p15 := eq_true p15
                    replace q15 := eq_true q15
                    go_wp2_with (first | (go_at_call 60; (with_reducible refine (marginaliaref03_digit.calls k3 (bt a0 x6_3) x7_9 t172 _ A16.out).mono ?_); rintro e w' ⟨rfl, ⟨nd, rfl⟩⟩))
                    go_meet
                    case rel => exact ⟨_, (decide (t172 ≥ 0)), (by first | rfl | (simp; done) | (simp [*]; done)), H', ⟨by have := HJ2.out; have := HJ9.out; have := HK3.out; first | omega | exact Nat.le_refl _⟩, ⟨by repeat (first | (with_reducible first | exact HB.out | apply below_alloc | apply pw_below_drewN | apply below_drew1) | exact HB.out)⟩⟩
                  · rw [if_neg c14] at H
                    exact absurd H (by simp)
                · rw [if_neg c13] at H
                  have c13b0 : decide (x6_3 < (a0.size : Int)) = false := decide_eq_false c13
                  clear c13
                  (first | rw [c13b0] | (simp only [i64_w, i32_w]; rw [c13b0]) | skip)
                  have H' := Aside0.mk H
                  clear H
                  go_wp2
                  go_meet
                  case rel => exact ⟨_, (false), (by first | rfl | (simp; done) | (simp [*]; done)), H', ⟨by have := HJ2.out; have := HJ9.out; have := HK3.out; first | omega | exact Nat.le_refl _⟩, ⟨by repeat (first | (with_reducible first | exact HB.out | apply below_alloc | apply pw_below_drewN | apply below_drew1) | exact HB.out)⟩⟩
              case rest =>
                clear HC12
                try clear c1
                try clear p1
                try clear q1
                try clear hx1
                try clear p2
                try clear c4
                try clear c4b0
                try clear c6
                try clear c6b0
                try clear p6
                try clear p7
                try clear q7
                try clear hx7
                try clear c8
                try clear c8b0
                try clear c8b1
                try clear p9
                try clear q9
                try clear hx9
                try clear c11
                try clear c13
                try clear c13b0
                try clear c14
                try clear c14b0
                try clear p15
                try clear q15
                try clear hx15
                try clear p15
                try clear p2
                try clear p6
                try clear p7
                try clear p9
                try clear q15
                try clear q7
                try clear q9
                obtain ⟨kq, x41_11, rfl, HA, HJ11, HB⟩ := hcut
                cases kq with
                | zero => exact absurd HA.out (by simp [marginaliaref03_number.j3])
                | succ kj11 =>
                  have H := HA.out
                  clear HA
                  simp only [marginaliaref03_number.j3] at H
                  by_cases c17 : x41_11 = true
                  · subst c17
                    have H1 : (if 0 ≤ x6_3 then (if x6_3 < (a0.size : Int) then ((marginaliaref03_digit.f kj11 (bt a0 x6_3) x7_9).bind fun t173 => (if (wrap64 ((wrap64 (x8_3 * x7_9)) + t173)) > 1114111 then (marginaliaref03_number.l0 kj11 a0 a1 (wrap64 (x6_3 + 1)) x7_9 1114112 (wrap64 (x9_3 + 1))) else (marginaliaref03_number.l0 kj11 a0 a1 (wrap64 (x6_3 + 1)) x7_9 (wrap64 ((wrap64 (x8_3 * x7_9)) + t173)) (wrap64 (x9_3 + 1))))) else (none)) else (none)) = some (r1, r2) := by rw [if_pos rfl] at H; exact H
                    clear H
                    have H := H1
                    clear H1
                    by_cases c18 : 0 ≤ x6_3
                    · rw [if_pos c18] at H
                      have c18b0 : decide (0 ≤ x6_3) = true := decide_eq_true c18
                      clear c18
                      by_cases c19 : x6_3 < (a0.size : Int)
                      · rw [if_pos c19] at H
                        have c19b0 : decide (x6_3 < (a0.size : Int)) = true := decide_eq_true c19
                        clear c19
                        replace H := Option.bind_eq_some_iff.mp H
                        obtain ⟨t173, A210, H⟩ := H
                        replace H : (if (wrap64 ((wrap64 (x8_3 * x7_9)) + t173)) > 1114111 then (marginaliaref03_number.l0 kj11 a0 a1 (wrap64 (x6_3 + 1)) x7_9 1114112 (wrap64 (x9_3 + 1))) else (marginaliaref03_number.l0 kj11 a0 a1 (wrap64 (x6_3 + 1)) x7_9 (wrap64 ((wrap64 (x8_3 * x7_9)) + t173)) (wrap64 (x9_3 + 1)))) = some (r1, r2) := H
                        have A21 := Aside0.mk A210
                        clear A210
                        by_cases c22 : (wrap64 ((wrap64 (x8_3 * x7_9)) + t173)) > 1114111
                        · rw [if_pos c22] at H
                          have c22b0 : decide (1114111 < (wrap64 ((wrap64 (x8_3 * x7_9)) + t173))) = true := decide_eq_true c22
                          clear c22
                          have H' := Aside0.mk H
                          clear H
                          have p20 : 0 ≤ (x6_3 : Int) := of_decide_eq_true (by first | (with_reducible assumption) | assumption)
                          have q20 : x6_3 < (a0.size : Int) := of_decide_eq_true (by first | (with_reducible assumption) | assumption)
                          have hx20 := bt_at a0 x6_3
                          replace p20 := eq_true p20
                          replace q20 := eq_true q20
                          go_wp2_with (first | ((with_reducible refine gate_callee (f := 60) rfl ?_); refine goesL_ (some 49) rfl rfl Try.func60 (by kernel_rfl) rfl #[.int .u8 (bt a0 x6_3), .int .i64 x7_9] rfl (by (try simp only [List.map_toArray, List.map_cons, List.map_nil]); first | done | rfl | (simp only [List.length_drop, List.length_take]; rfl)) ?_; (with_reducible refine (marginaliaref03_digit.calls kj11 (bt a0 x6_3) x7_9 t173 _ A21.out).mono ?_); rintro e w' ⟨rfl, ⟨nd, rfl⟩⟩; refine ⟨_, rfl, ?_⟩))
                          go_roundg kj11
                          case measure => have := HJ2.out; have := HJ9.out; have := HK3.out; have := HJ11.out; omega
                          case rel => exact ⟨(wrap64 (x6_3 + 1)), (1114112), (wrap64 (x9_3 + 1)), (by first | rfl | (simp; done) | (simp [*]; done)), (by first | rfl | (simp; done) | (simp [*]; done)), (by first | rfl | (simp; done) | (simp [*]; done)), H', ⟨by have := HJ2.out; have := HJ9.out; have := HK3.out; have := HJ11.out; omega⟩, ⟨by repeat (first | (with_reducible first | exact HB.out | apply below_alloc | apply pw_below_drewN | apply below_drew1) | exact HB.out)⟩⟩
                        · rw [if_neg c22] at H
                          have c22b0 : decide (1114111 < (wrap64 ((wrap64 (x8_3 * x7_9)) + t173))) = false := decide_eq_false c22
                          clear c22
                          have H' := Aside0.mk H
                          clear H
                          have p20 : 0 ≤ (x6_3 : Int) := of_decide_eq_true (by first | (with_reducible assumption) | assumption)
                          have q20 : x6_3 < (a0.size : Int) := of_decide_eq_true (by first | (with_reducible assumption) | assumption)
                          have hx20 := bt_at a0 x6_3
                          replace p20 := eq_true p20
                          replace q20 := eq_true q20
                          go_wp2_with (first | ((with_reducible refine gate_callee (f := 60) rfl ?_); refine goesL_ (some 49) rfl rfl Try.func60 (by kernel_rfl) rfl #[.int .u8 (bt a0 x6_3), .int .i64 x7_9] rfl (by (try simp only [List.map_toArray, List.map_cons, List.map_nil]); first | done | rfl | (simp only [List.length_drop, List.length_take]; rfl)) ?_; (with_reducible refine (marginaliaref03_digit.calls kj11 (bt a0 x6_3) x7_9 t173 _ A21.out).mono ?_); rintro e w' ⟨rfl, ⟨nd, rfl⟩⟩; refine ⟨_, rfl, ?_⟩))
                          go_roundg kj11
                          case measure => have := HJ2.out; have := HJ9.out; have := HK3.out; have := HJ11.out; omega
                          case rel => exact ⟨(wrap64 (x6_3 + 1)), (wrap64 ((wrap64 (x8_3 * x7_9)) + t173)), (wrap64 (x9_3 + 1)), (by first | rfl | (simp; done) | (simp [*]; done)), (by first | rfl | (simp; done) | (simp [*]; done)), (by first | rfl | (simp; done) | (simp [*]; done)), H', ⟨by have := HJ2.out; have := HJ9.out; have := HK3.out; have := HJ11.out; omega⟩, ⟨by repeat (first | (with_reducible first | exact HB.out | apply below_alloc | apply pw_below_drewN | apply below_drew1) | exact HB.out)⟩⟩
                      · rw [if_neg c19] at H
                        exact absurd H (by simp)
                    · rw [if_neg c18] at H
                      exact absurd H (by simp)
                  · replace c17 := Bool.eq_false_iff.mpr c17
                    subst c17
                    have H1 : (if x9_3 = 0 then (some ((⟨#[]⟩ : ByteArray), 0)) else (if x6_3 < (a0.size : Int) then (if 0 ≤ x6_3 then (if (bt a0 x6_3) = 59 then ((marginaliaref03_Number.f kj11 x8_3).bind fun t174 => (some (t174, wrap64 ((wrap64 (x6_3 + 1)) - a1)))) else ((marginaliaref03_Number.f kj11 x8_3).bind fun t175 => (some (t175, wrap64 (x6_3 - a1))))) else (none)) else ((marginaliaref03_Number.f kj11 x8_3).bind fun t176 => (some (t176, wrap64 (x6_3 - a1)))))) = some (r1, r2) := by rw [if_neg (show ¬ (false = true) by decide)] at H; exact H
                    clear H
                    have H := H1
                    clear H1
                    by_cases c23 : x9_3 = 0
                    · rw [if_pos c23] at H
                      have c23b0 : (x9_3 == 0) = true := beq_iff_eq.mpr c23
                      have c23b1 : (x9_3 != 0) = false := bne_eq_false_iff_eq.mpr c23
                      clear c23
                      simp only [Option.some.injEq, Prod.mk.injEq] at H
                      obtain ⟨rfl, rfl⟩ := H
                      go_wp2
                      go_ret2
                      exact ⟨by first | rfl | (simp [errW_none, errW_some] <;> rfl) | (simp [*, errW_none, errW_some] <;> rfl), by repeat (first | (with_reducible first | exact HB.out | apply below_alloc | apply pw_below_drewN | apply below_drew1) | exact HB.out)⟩
                    · rw [if_neg c23] at H
                      have c23b0 : (x9_3 == 0) = false := beq_eq_false_iff_ne.mpr c23
                      have c23b1 : (x9_3 != 0) = true := bne_iff_ne.mpr c23
                      by_cases c24 : x6_3 < (a0.size : Int)
                      · rw [if_pos c24] at H
                        have c24b0 : decide (x6_3 < (a0.size : Int)) = true := decide_eq_true c24
                        clear c24
                        by_cases c25 : 0 ≤ x6_3
                        · rw [if_pos c25] at H
                          have c25b0 : decide (0 ≤ x6_3) = true := decide_eq_true c25
                          clear c25
                          by_cases c27 : (bt a0 x6_3) = 59
                          · rw [if_pos c27] at H
                            have c27b0 : ((bt a0 x6_3) == 59) = true := beq_iff_eq.mpr c27
                            have c27b1 : ((bt a0 x6_3) != 59) = false := bne_eq_false_iff_eq.mpr c27
                            clear c27
                            replace H := Option.bind_eq_some_iff.mp H
                            obtain ⟨t174, A280, H⟩ := H
                            replace H : (some (t174, wrap64 ((wrap64 (x6_3 + 1)) - a1))) = some (r1, r2) := H
                            have A28 := Aside0.mk A280
                            clear A280
                            simp only [Option.some.injEq, Prod.mk.injEq] at H
                            obtain ⟨rfl, rfl⟩ := H
                            have p26 : 0 ≤ (x6_3 : Int) := of_decide_eq_true (by first | (with_reducible assumption) | assumption)
                            have q26 : x6_3 < (a0.size : Int) := of_decide_eq_true (by first | (with_reducible assumption) | assumption)
                            have hx26 := bt_at a0 x6_3
                            replace p26 := eq_true p26
                            replace q26 := eq_true q26
                            go_wp2_with (first | ((with_reducible refine gate_callee (f := 24) rfl ?_); refine goesL_ (some 72) rfl rfl Try.func24 (by kernel_rfl) rfl #[.int .i64 x8_3] rfl (by (try simp only [List.map_toArray, List.map_cons, List.map_nil]); first | done | rfl | (simp only [List.length_drop, List.length_take]; rfl)) ?_; (with_reducible refine (marginaliaref03_Number.calls kj11 x8_3 t174 _ A28.out).mono ?_); rintro e w29 ⟨rfl, hb⟩; refine ⟨_, rfl, ?_⟩; have n0_ := Aside0.mk (below_step (by repeat (first | (with_reducible first | exact HB.out | apply below_alloc | apply pw_below_drewN | apply below_drew1) | exact HB.out)) hb); clear HB; have HB := n0_; clear n0_; (try clear hb); (try clear hb2); (try clear hk); (try clear hi)))
                            go_ret2
                            exact ⟨by first | rfl | (simp [errW_none, errW_some] <;> rfl) | (simp [*, errW_none, errW_some] <;> rfl), by repeat (first | (with_reducible first | exact HB.out | apply below_alloc | apply pw_below_drewN | apply below_drew1) | exact HB.out)⟩
                          · rw [if_neg c27] at H
                            have c27b0 : ((bt a0 x6_3) == 59) = false := beq_eq_false_iff_ne.mpr c27
                            have c27b1 : ((bt a0 x6_3) != 59) = true := bne_iff_ne.mpr c27
                            replace H := Option.bind_eq_some_iff.mp H
                            obtain ⟨t175, A300, H⟩ := H
                            replace H : (some (t175, wrap64 (x6_3 - a1))) = some (r1, r2) := H
                            have A30 := Aside0.mk A300
                            clear A300
                            simp only [Option.some.injEq, Prod.mk.injEq] at H
                            obtain ⟨rfl, rfl⟩ := H
                            have p26 : 0 ≤ (x6_3 : Int) := of_decide_eq_true (by first | (with_reducible assumption) | assumption)
                            have q26 : x6_3 < (a0.size : Int) := of_decide_eq_true (by first | (with_reducible assumption) | assumption)
                            have hx26 := bt_at a0 x6_3
                            replace p26 := eq_true p26
                            replace q26 := eq_true q26
                            go_wp2_with (first | ((with_reducible refine gate_callee (f := 24) rfl ?_); refine goesL_ (some 72) rfl rfl Try.func24 (by kernel_rfl) rfl #[.int .i64 x8_3] rfl (by (try simp only [List.map_toArray, List.map_cons, List.map_nil]); first | done | rfl | (simp only [List.length_drop, List.length_take]; rfl)) ?_; (with_reducible refine (marginaliaref03_Number.calls kj11 x8_3 t175 _ A30.out).mono ?_); rintro e w31 ⟨rfl, hb⟩; refine ⟨_, rfl, ?_⟩; have n0_ := Aside0.mk (below_step (by repeat (first | (with_reducible first | exact HB.out | apply below_alloc | apply pw_below_drewN | apply below_drew1) | exact HB.out)) hb); clear HB; have HB := n0_; clear n0_; (try clear hb); (try clear hb2); (try clear hk); (try clear hi)))
                            go_ret2
                            exact ⟨by first | rfl | (simp [errW_none, errW_some] <;> rfl) | (simp [*, errW_none, errW_some] <;> rfl), by repeat (first | (with_reducible first | exact HB.out | apply below_alloc | apply pw_below_drewN | apply below_drew1) | exact HB.out)⟩
                        · rw [if_neg c25] at H
                          exact absurd H (by simp)
                      · rw [if_neg c24] at H
                        have c24b0 : decide (x6_3 < (a0.size : Int)) = false := decide_eq_false c24
                        clear c24
                        replace H := Option.bind_eq_some_iff.mp H
                        obtain ⟨t176, A320, H⟩ := H
                        replace H : (some (t176, wrap64 (x6_3 - a1))) = some (r1, r2) := H
                        have A32 := Aside0.mk A320
                        clear A320
                        simp only [Option.some.injEq, Prod.mk.injEq] at H
                        obtain ⟨rfl, rfl⟩ := H
                        go_wp2_with (first | ((with_reducible refine gate_callee (f := 24) rfl ?_); refine goesL_ (some 72) rfl rfl Try.func24 (by kernel_rfl) rfl #[.int .i64 x8_3] rfl (by (try simp only [List.map_toArray, List.map_cons, List.map_nil]); first | done | rfl | (simp only [List.length_drop, List.length_take]; rfl)) ?_; (with_reducible refine (marginaliaref03_Number.calls kj11 x8_3 t176 _ A32.out).mono ?_); rintro e w33 ⟨rfl, hb⟩; refine ⟨_, rfl, ?_⟩; have n0_ := Aside0.mk (below_step (by repeat (first | (with_reducible first | exact HB.out | apply below_alloc | apply pw_below_drewN | apply below_drew1) | exact HB.out)) hb); clear HB; have HB := n0_; clear n0_; (try clear hb); (try clear hb2); (try clear hk); (try clear hi)))
                        go_ret2
                        exact ⟨by first | rfl | (simp [errW_none, errW_some] <;> rfl) | (simp [*, errW_none, errW_some] <;> rfl), by repeat (first | (with_reducible first | exact HB.out | apply below_alloc | apply pw_below_drewN | apply below_drew1) | exact HB.out)⟩

end Go.Proofs.Ythialihgamlljaa.G
