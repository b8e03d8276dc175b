-- laid by a program of this session's (wip/tools/myprint.py) over the translation
import Derived.Test.YthialihgamlljaaG0
import Derived.Test.YthialihgamlljaaG9
import Derived.Test.YthialihgamlljaaG10
namespace Go.Proofs.Ythialihgamlljaa.G
open Go.RowKit Go.Proofs.YthialihgamlljaaW.PrintWords Go.Proofs.YthialihgamlljaaW.PrintLast Go.Proofs.YthialihgamlljaaW.PrintMore
attribute [local go_sem] max2_int min2_int max_two min_two max_three min_three max_four min_four   -- for this text's walks alone
set_option linter.unusedVariables false
set_option linter.unusedSimpArgs false

/-! ### marginaliaref03_longest: function 47 -/
mutual
def marginaliaref03_longest.l0 : Nat → ByteArray → Int → List (S67) → ByteArray → Int → Int → Option (ByteArray × Int)
  | 0, _, _, _, _, _, _ => none
  | k + 1, x0, x1, x6, x7, x8, x9 => if x9 < (x6.length : Int) then (marginaliaref03_longest.l1 k x0 x1 x6 x7 x8 x9 0) else (some (x7, x8))
def marginaliaref03_longest.l1 : Nat → ByteArray → Int → List (S67) → ByteArray → Int → Int → Int → Option (ByteArray × Int)
  | 0, _, _, _, _, _, _, _ => none
  | k + 1, x0, x1, x6, x7, x8, x9, x10 => if x10 < 2 then (if 0 ≤ x9 then (if x9 < (x6.length : Int) then (if x10 = 0 then (if ((rd_T67 x6 x9).f0).size + 1 ≤ 9223372036854775807 then (if (wrap64 (x1 + ((((rd_T67 x6 x9).f0) ++ (⟨#[59]⟩ : ByteArray)).size : Int))) ≤ (x0.size : Int) then (if 0 ≤ x1 then (if x1 ≤ (wrap64 (x1 + ((((rd_T67 x6 x9).f0) ++ (⟨#[59]⟩ : ByteArray)).size : Int))) then (if (x0.extract (x1 : Int).toNat ((wrap64 (x1 + ((((rd_T67 x6 x9).f0) ++ (⟨#[59]⟩ : ByteArray)).size : Int))) : Int).toNat).toList = (((rd_T67 x6 x9).f0) ++ (⟨#[59]⟩ : ByteArray)).toList then (if ((((rd_T67 x6 x9).f0) ++ (⟨#[59]⟩ : ByteArray)).size : Int) > x8 then ((marginaliaref03_Utf8.f ((rd_T67 x6 x9).f1)).bind fun t182 => (marginaliaref03_longest.l1 k x0 x1 x6 t182 ((((rd_T67 x6 x9).f0) ++ (⟨#[59]⟩ : ByteArray)).size : Int) x9 (wrap64 (x10 + 1)))) else (marginaliaref03_longest.l1 k x0 x1 x6 x7 x8 x9 (wrap64 (x10 + 1)))) else (marginaliaref03_longest.l1 k x0 x1 x6 x7 x8 x9 (wrap64 (x10 + 1)))) else (none)) else (none)) else (marginaliaref03_longest.l1 k x0 x1 x6 x7 x8 x9 (wrap64 (x10 + 1)))) else (none)) else (if ((rd_T67 x6 x9).f2 = true) then (if (wrap64 (x1 + (((rd_T67 x6 x9).f0).size : Int))) ≤ (x0.size : Int) then (if 0 ≤ x1 then (if x1 ≤ (wrap64 (x1 + (((rd_T67 x6 x9).f0).size : Int))) then (if (x0.extract (x1 : Int).toNat ((wrap64 (x1 + (((rd_T67 x6 x9).f0).size : Int))) : Int).toNat).toList = ((rd_T67 x6 x9).f0).toList then (if (((rd_T67 x6 x9).f0).size : Int) > x8 then ((marginaliaref03_Utf8.f ((rd_T67 x6 x9).f1)).bind fun t185 => (marginaliaref03_longest.l1 k x0 x1 x6 t185 (((rd_T67 x6 x9).f0).size : Int) x9 (wrap64 (x10 + 1)))) else (marginaliaref03_longest.l1 k x0 x1 x6 x7 x8 x9 (wrap64 (x10 + 1)))) else (marginaliaref03_longest.l1 k x0 x1 x6 x7 x8 x9 (wrap64 (x10 + 1)))) else (none)) else (none)) else (marginaliaref03_longest.l1 k x0 x1 x6 x7 x8 x9 (wrap64 (x10 + 1)))) else (marginaliaref03_longest.l1 k x0 x1 x6 x7 x8 x9 (wrap64 (x10 + 1))))) else (none)) else (none)) else (marginaliaref03_longest.l0 k x0 x1 x6 x7 x8 (wrap64 (x9 + 1)))
end
def marginaliaref03_longest.f (k : Nat) (a0 : ByteArray) (a1 : Int) : Option (ByteArray × Int) := (marginaliaref03_Entries.f).bind fun t177 => (marginaliaref03_longest.l0 k a0 a1 t177 (⟨#[]⟩ : ByteArray) 0 0)
theorem marginaliaref03_longest.mono_l : ∀ k, (∀ y0 y1 y2 y3 y4 y5, LeO (marginaliaref03_longest.l0 k y0 y1 y2 y3 y4 y5) (marginaliaref03_longest.l0 (k + 1) y0 y1 y2 y3 y4 y5)) ∧ (∀ y0 y1 y2 y3 y4 y5 y6, LeO (marginaliaref03_longest.l1 k y0 y1 y2 y3 y4 y5 y6) (marginaliaref03_longest.l1 (k + 1) y0 y1 y2 y3 y4 y5 y6))
  | 0 => ⟨fun _ _ _ _ _ _ r h => by simp [marginaliaref03_longest.l0] at h, fun _ _ _ _ _ _ _ r h => by simp [marginaliaref03_longest.l1] at h⟩
  | k + 1 => by
    obtain ⟨ih0, ih1⟩ := marginaliaref03_longest.mono_l k
    refine ⟨?_, ?_⟩
    · intro y0 y1 y2 y3 y4 y5
      unfold marginaliaref03_longest.l0
      repeat' first
      | (with_reducible exact ih0 _ _ _ _ _ _)
      | (with_reducible exact ih1 _ _ _ _ _ _ _)
      | (with_reducible exact LeO.refl _)
      | (with_reducible exact LeO.none _)
      | (with_reducible refine LeO.ite ?_ ?_)
      | (with_reducible refine LeO.bind ?_ (fun _ => ?_))
      | exact ih0 _ _ _ _ _ _
      | exact ih1 _ _ _ _ _ _ _
      | exact LeO.none _
      | refine LeO.ite ?_ ?_
      | refine LeO.bind ?_ (fun _ => ?_)
    · intro y0 y1 y2 y3 y4 y5 y6
      unfold marginaliaref03_longest.l1
      repeat' first
      | (with_reducible exact ih0 _ _ _ _ _ _)
      | (with_reducible exact ih1 _ _ _ _ _ _ _)
      | (with_reducible exact LeO.refl _)
      | (with_reducible exact LeO.none _)
      | (with_reducible refine LeO.ite ?_ ?_)
      | (with_reducible refine LeO.bind ?_ (fun _ => ?_))
      | exact ih0 _ _ _ _ _ _
      | exact ih1 _ _ _ _ _ _ _
      | exact LeO.none _
      | refine LeO.ite ?_ ?_
      | refine LeO.bind ?_ (fun _ => ?_)
theorem marginaliaref03_longest.mono : ∀ a0 a1 k, LeO (marginaliaref03_longest.f k a0 a1) (marginaliaref03_longest.f (k + 1) a0 a1) := by
  intro a0 a1 k
  obtain ⟨ih0, ih1⟩ := marginaliaref03_longest.mono_l k
  unfold marginaliaref03_longest.f
  repeat' first
      | (with_reducible exact ih0 _ _ _ _ _ _)
      | (with_reducible exact ih1 _ _ _ _ _ _ _)
      | (with_reducible exact LeO.refl _)
      | (with_reducible exact LeO.none _)
      | (with_reducible refine LeO.ite ?_ ?_)
      | (with_reducible refine LeO.bind ?_ (fun _ => ?_))
      | exact ih0 _ _ _ _ _ _
      | exact ih1 _ _ _ _ _ _ _
      | exact LeO.none _
      | refine LeO.ite ?_ ?_
      | refine LeO.bind ?_ (fun _ => ?_)
set_option maxHeartbeats 8000000 in
set_option maxRecDepth 100000 in
theorem marginaliaref03_longest.calls (k : Nat) (a0 : ByteArray) (a1 : Int) (r1 : ByteArray) (r2 : Int) (w : World) (h : marginaliaref03_longest.f k a0 a1 = some (r1, r2)) :
    Calls Try.prog 47 #[.string a0, .int .i64 a1] w fun e w' => e = .returned (.tuple #[.string r1, .int .i64 r2]) ∧ Below w.heap.size w w' := by
  have HB := Aside0.mk (Below.refl w.heap.size w)
  have H : ((marginaliaref03_Entries.f).bind fun t177 => (marginaliaref03_longest.l0 k a0 a1 t177 (⟨#[]⟩ : ByteArray) 0 0)) = some (r1, r2) := h
  clear h
  replace H := Option.bind_eq_some_iff.mp H
  obtain ⟨t177, A30, H⟩ := H
  replace H : (marginaliaref03_longest.l0 k a0 a1 t177 (⟨#[]⟩ : ByteArray) 0 0) = some (r1, r2) := H
  have A3 := Aside0.mk A30
  clear A30
  have H' := Aside0.mk H
  clear H
  go_enter Try.func47, Try.ntmps47
  go_wp2_with (first | ((with_reducible refine gate_callee (f := 38) rfl ?_); refine goesL_ (some 12) rfl rfl Try.func38 (by kernel_rfl) rfl #[] rfl (by (try simp only [List.map_toArray, List.map_cons, List.map_nil]); first | done | rfl | (simp only [List.length_drop, List.length_take]; rfl)) ?_; (with_reducible refine (marginaliaref03_Entries.calls  t177 _ A3.out).mono ?_); rintro e w4 ⟨v178, rfl, ho0, hb⟩; refine ⟨_, rfl, ?_⟩; have n0_ := Aside0.mk (Kd.R_lower ho0 (below_size (by repeat (first | (with_reducible first | exact HB.out | apply below_alloc | apply pw_below_drewN | apply below_drew1) | exact HB.out)))); have n1_ := Aside0.mk (below_step (by repeat (first | (with_reducible first | exact HB.out | apply below_alloc | apply pw_below_drewN | apply below_drew1) | exact HB.out)) hb); clear HB; have HO179 := n0_; have HB := n1_; clear n0_ n1_; (try clear hb); (try clear hb2); (try clear hk); (try clear hi); (try clear ho0)))
  go_loopg [7, 8, 9] k (fun kq v7 v8 v9 w' => ∃ (x7_1 : ByteArray) (x8_1 : Int) (x9_1 : Int), v7 = .string x7_1 ∧ v8 = .int .i64 x8_1 ∧ v9 = .int .i64 x9_1 ∧ Aside0 (marginaliaref03_longest.l0 kq a0 a1 t177 x7_1 x8_1 x9_1 = some (r1, r2)) ∧ Aside0 (kq ≤ k) ∧ Aside0 (Kd.R k67 67 w' w.heap.size (fun _ => True) v178 t177) ∧ Aside0 (Below w.heap.size w w'))
  case atStart => exact ⟨((⟨#[]⟩ : ByteArray)), (0), (0), (by first | rfl | (simp; done) | (simp [*]; done)), (by first | rfl | (simp; done) | (simp [*]; done)), (by first | rfl | (simp; done) | (simp [*]; done)), H', ⟨Nat.le_refl _⟩, ⟨by (with_reducible repeat (first | apply Kd.R_alloc | apply Kd.R_drewN | apply Kd.R_drew)); exact HO179.out⟩, ⟨by repeat (first | (with_reducible first | exact HB.out | apply below_alloc | apply pw_below_drewN | apply below_drew1) | exact HB.out)⟩⟩
  case round =>
    clear H'
    try clear p2
    try clear c3
    try clear c4
    obtain ⟨x7_1, x8_1, x9_1, rfl, rfl, rfl, HA, HK1, HO_6, HB⟩ := hrel
    cases gk with
    | zero => exact absurd HA.out (by simp [marginaliaref03_longest.l0])
    | succ k1 =>
      have H := HA.out
      clear HA
      simp only [marginaliaref03_longest.l0] at H
      by_cases c5 : x9_1 < (t177.length : Int)
      · rw [if_pos c5] at H
        have c5b0 : decide (x9_1 < (t177.length : Int)) = true := decide_eq_true c5
        clear c5
        have H' := Aside0.mk H
        clear H
        obtain ⟨Ao6, co6, eo6⟩ := Kd.R_slice HO_6.out
        subst eo6
        go_wp2
        go_loopg [7, 8, 10] k1 (fun kq v7 v8 v10 w' => ∃ (x7_2 : ByteArray) (x8_2 : Int) (x10_2 : Int), v7 = .string x7_2 ∧ v8 = .int .i64 x8_2 ∧ v10 = .int .i64 x10_2 ∧ Aside0 (marginaliaref03_longest.l1 kq a0 a1 t177 x7_2 x8_2 x9_1 x10_2 = some (r1, r2)) ∧ Aside0 (kq ≤ k1) ∧ Aside0 (Kd.R k67 67 w' w.heap.size (fun _ => True) (.slice Ao6 t177.length co6) t177) ∧ Aside0 (Below w.heap.size w w'))
        case atStart => exact ⟨(x7_1), (x8_1), (0), (by first | rfl | (simp; done) | (simp [*]; done)), (by first | rfl | (simp; done) | (simp [*]; done)), (by first | rfl | (simp; done) | (simp [*]; done)), H', ⟨Nat.le_refl _⟩, ⟨by (with_reducible repeat (first | apply Kd.R_alloc | apply Kd.R_drewN | apply Kd.R_drew)); exact HO_6.out⟩, ⟨by repeat (first | (with_reducible first | exact HB.out | apply below_alloc | apply pw_below_drewN | apply below_drew1) | exact HB.out)⟩⟩
        case round =>
          clear H'
          try clear p2
          try clear c3
          try clear c4
          try clear c5
          try clear c5b0
          try clear p2
          obtain ⟨x7_2, x8_2, x10_2, rfl, rfl, rfl, HA, HK2, HO_6, HB⟩ := hrel
          cases gk with
          | zero => exact absurd HA.out (by simp [marginaliaref03_longest.l1])
          | succ k2 =>
            have H := HA.out
            clear HA
            simp only [marginaliaref03_longest.l1] at H
            by_cases c7 : x10_2 < 2
            · rw [if_pos c7] at H
              have c7b0 : decide (x10_2 < 2) = true := decide_eq_true c7
              clear c7
              by_cases c8 : 0 ≤ x9_1
              · rw [if_pos c8] at H
                have c8b0 : decide (0 ≤ x9_1) = true := decide_eq_true c8
                clear c8
                by_cases c9 : x9_1 < (t177.length : Int)
                · rw [if_pos c9] at H
                  have c9b0 : decide (x9_1 < (t177.length : Int)) = true := decide_eq_true c9
                  clear c9
                  by_cases c10 : x10_2 = 0
                  · rw [if_pos c10] at H
                    have c10b0 : (x10_2 == 0) = true := beq_iff_eq.mpr c10
                    have c10b1 : (x10_2 != 0) = false := bne_eq_false_iff_eq.mpr c10
                    clear c10
                    by_cases c11 : ((rd_T67 t177 x9_1).f0).size + 1 ≤ 9223372036854775807
                    · rw [if_pos c11] at H
                      have c11b0 := eq_true c11
                      have c11b1 : decide (((rd_T67 t177 x9_1).f0).size + 1 ≤ 9223372036854775807) = true := decide_eq_true c11
                      try have c11b2 : (9223372036854775807 < ((rd_T67 t177 x9_1).f0).size + 1) = False := eq_false (Nat.not_lt.2 c11)
                      by_cases c12 : (wrap64 (a1 + ((((rd_T67 t177 x9_1).f0) ++ (⟨#[59]⟩ : ByteArray)).size : Int))) ≤ (a0.size : Int)
                      · rw [if_pos c12] at H
                        have c12b0 : decide ((wrap64 (a1 + ((((rd_T67 t177 x9_1).f0) ++ (⟨#[59]⟩ : ByteArray)).size : Int))) ≤ (a0.size : Int)) = true := decide_eq_true c12
                        (try (have c12b0s := c12b0; simp only [ByteArray.size_append, Int.natCast_add, Int.cast_ofNat_Int, show ((⟨#[59]⟩ : ByteArray).size : Int) = 1 from rfl, show (⟨#[59]⟩ : ByteArray).size = 1 from rfl] at c12b0s))
                        clear c12
                        by_cases c13 : 0 ≤ a1
                        · rw [if_pos c13] at H
                          have c13b0 := eq_true c13
                          have c13b1 : decide (0 ≤ a1) = true := decide_eq_true c13
                          clear c13
                          by_cases c14 : a1 ≤ (wrap64 (a1 + ((((rd_T67 t177 x9_1).f0) ++ (⟨#[59]⟩ : ByteArray)).size : Int)))
                          · rw [if_pos c14] at H
                            have c14b0 := eq_true c14
                            have c14b1 : decide (a1 ≤ (wrap64 (a1 + ((((rd_T67 t177 x9_1).f0) ++ (⟨#[59]⟩ : ByteArray)).size : Int)))) = true := decide_eq_true c14
                            (try (have c14b0s := c14b0; simp only [ByteArray.size_append, Int.natCast_add, Int.cast_ofNat_Int, show ((⟨#[59]⟩ : ByteArray).size : Int) = 1 from rfl, show (⟨#[59]⟩ : ByteArray).size = 1 from rfl] at c14b0s))
                            (try (have c14b1s := c14b1; simp only [ByteArray.size_append, Int.natCast_add, Int.cast_ofNat_Int, show ((⟨#[59]⟩ : ByteArray).size : Int) = 1 from rfl, show (⟨#[59]⟩ : ByteArray).size = 1 from rfl] at c14b1s))
                            have c15b0 := eq_true (of_decide_eq_true (by first | (with_reducible assumption) | assumption) : (wrap64 (a1 + ((((rd_T67 t177 x9_1).f0) ++ (⟨#[59]⟩ : ByteArray)).size : Int))) ≤ (a0.size : Int))
                            (try (have c15b0s := c15b0; simp only [ByteArray.size_append, Int.natCast_add, Int.cast_ofNat_Int, show ((⟨#[59]⟩ : ByteArray).size : Int) = 1 from rfl, show (⟨#[59]⟩ : ByteArray).size = 1 from rfl] at c15b0s))
                            by_cases c16 : (a0.extract (a1 : Int).toNat ((wrap64 (a1 + ((((rd_T67 t177 x9_1).f0) ++ (⟨#[59]⟩ : ByteArray)).size : Int))) : Int).toNat).toList = (((rd_T67 t177 x9_1).f0) ++ (⟨#[59]⟩ : ByteArray)).toList
                            · rw [if_pos c16] at H
                              have c16b0 : ((a0.extract (a1 : Int).toNat ((wrap64 (a1 + ((((rd_T67 t177 x9_1).f0) ++ (⟨#[59]⟩ : ByteArray)).size : Int))) : Int).toNat).toList == (((rd_T67 t177 x9_1).f0) ++ (⟨#[59]⟩ : ByteArray)).toList) = true := beq_iff_eq.mpr c16
                              (try (have c16b0s := c16b0; simp only [ByteArray.size_append, Int.natCast_add, Int.cast_ofNat_Int, show ((⟨#[59]⟩ : ByteArray).size : Int) = 1 from rfl, show (⟨#[59]⟩ : ByteArray).size = 1 from rfl] at c16b0s))
                              have c16b1 : ((a0.extract (a1 : Int).toNat ((wrap64 (a1 + ((((rd_T67 t177 x9_1).f0) ++ (⟨#[59]⟩ : ByteArray)).size : Int))) : Int).toNat).toList != (((rd_T67 t177 x9_1).f0) ++ (⟨#[59]⟩ : ByteArray)).toList) = false := bne_eq_false_iff_eq.mpr c16
                              (try (have c16b1s := c16b1; simp only [ByteArray.size_append, Int.natCast_add, Int.cast_ofNat_Int, show ((⟨#[59]⟩ : ByteArray).size : Int) = 1 from rfl, show (⟨#[59]⟩ : ByteArray).size = 1 from rfl] at c16b1s))
                              clear c16
                              by_cases c17 : ((((rd_T67 t177 x9_1).f0) ++ (⟨#[59]⟩ : ByteArray)).size : Int) > x8_2
                              · rw [if_pos c17] at H
                                have c17b0 : decide (x8_2 < ((((rd_T67 t177 x9_1).f0) ++ (⟨#[59]⟩ : ByteArray)).size : Int)) = true := decide_eq_true c17
                                (try (have c17b0s := c17b0; simp only [ByteArray.size_append, Int.natCast_add, Int.cast_ofNat_Int, show ((⟨#[59]⟩ : ByteArray).size : Int) = 1 from rfl, show (⟨#[59]⟩ : ByteArray).size = 1 from rfl] at c17b0s))
                                clear c17
                                replace H := Option.bind_eq_some_iff.mp H
                                obtain ⟨t182, A180, H⟩ := H
                                replace H : (marginaliaref03_longest.l1 k2 a0 a1 t177 t182 ((((rd_T67 t177 x9_1).f0) ++ (⟨#[59]⟩ : ByteArray)).size : Int) x9_1 (wrap64 (x10_2 + 1))) = some (r1, r2) := H
                                have A18 := Aside0.mk A180
                                clear A180
                                have H' := Aside0.mk H
                                clear H
                                have p180 : 0 ≤ (x9_1 : Int) := of_decide_eq_true (by first | (with_reducible assumption) | assumption)
                                have q180 : x9_1 < (t177.length : Int) := of_decide_eq_true (by first | (with_reducible assumption) | assumption)
                                obtain ⟨ad180, e180, hx180_0, hx180_1, hx180_2⟩ := at_T67 (Kd.R_reads' HO_6.out).2.2 x9_1 p180 q180
                                cases e180
                                replace p180 := eq_true p180
                                replace q180 := eq_true q180
                                have p181 : 0 ≤ (x9_1 : Int) := of_decide_eq_true (by first | (with_reducible assumption) | assumption)
                                have q181 : x9_1 < (t177.length : Int) := of_decide_eq_true (by first | (with_reducible assumption) | assumption)
                                obtain ⟨ad181, e181, hx181_0, hx181_1, hx181_2⟩ := at_T67 (Kd.R_reads' HO_6.out).2.2 x9_1 p181 q181
                                obtain rfl : ad180 = ad181 := (by injection e181)
                                replace p181 := eq_true p181
                                replace q181 := eq_true q181
                                go_wp2_with (first | ((with_reducible refine gate_callee (f := 39) rfl ?_); refine goesL_ (some 67) rfl rfl Try.func39 (by kernel_rfl) rfl #[.int .i64 ((rd_T67 t177 x9_1).f1)] rfl (by (try simp only [List.map_toArray, List.map_cons, List.map_nil]); first | done | rfl | (simp only [List.length_drop, List.length_take]; rfl)) ?_; (with_reducible refine (marginaliaref03_Utf8.calls ((rd_T67 t177 x9_1).f1) t182 _ A18.out).mono ?_); rintro e w19 ⟨rfl, hb⟩; refine ⟨_, rfl, ?_⟩; have n0_ := Aside0.mk (Kd.R_below (by (with_reducible repeat (first | apply Kd.R_alloc | apply Kd.R_drewN | apply Kd.R_drew)); exact HO_6.out) hb); have n1_ := Aside0.mk (below_step (by repeat (first | (with_reducible first | exact HB.out | apply below_alloc | apply pw_below_drewN | apply below_drew1) | exact HB.out)) hb); clear HO_6; clear HB; have HO_6 := n0_; have HB := n1_; clear n0_ n1_; (try clear hb); (try clear hb2); (try clear hk); (try clear hi)))
                                go_roundg k2
                                case measure => have := HK1.out; have := HK2.out; omega
                                case rel => exact ⟨(t182), (((((rd_T67 t177 x9_1).f0) ++ (⟨#[59]⟩ : ByteArray)).size : Int)), (wrap64 (x10_2 + 1)), (by first | rfl | (simp; done) | (simp [*]; done)), (by first | rfl | (simp; done) | (simp [*]; done) | (simp only [ByteArray.size_append, Int.natCast_add]; rfl)), (by first | rfl | (simp; done) | (simp [*]; done)), H', ⟨by have := HK1.out; have := HK2.out; omega⟩, ⟨by (with_reducible repeat (first | apply Kd.R_alloc | apply Kd.R_drewN | apply Kd.R_drew)); exact HO_6.out⟩, ⟨by repeat (first | (with_reducible first | exact HB.out | apply below_alloc | apply pw_below_drewN | apply below_drew1) | exact HB.out)⟩⟩
                              · rw [if_neg c17] at H
                                have c17b0 : decide (x8_2 < ((((rd_T67 t177 x9_1).f0) ++ (⟨#[59]⟩ : ByteArray)).size : Int)) = false := decide_eq_false c17
                                (try (have c17b0s := c17b0; simp only [ByteArray.size_append, Int.natCast_add, Int.cast_ofNat_Int, show ((⟨#[59]⟩ : ByteArray).size : Int) = 1 from rfl, show (⟨#[59]⟩ : ByteArray).size = 1 from rfl] at c17b0s))
                                clear c17
                                have H' := Aside0.mk H
                                clear H
                                have p180 : 0 ≤ (x9_1 : Int) := of_decide_eq_true (by first | (with_reducible assumption) | assumption)
                                have q180 : x9_1 < (t177.length : Int) := of_decide_eq_true (by first | (with_reducible assumption) | assumption)
                                obtain ⟨ad180, e180, hx180_0, hx180_1, hx180_2⟩ := at_T67 (Kd.R_reads' HO_6.out).2.2 x9_1 p180 q180
                                cases e180
                                replace p180 := eq_true p180
                                replace q180 := eq_true q180
                                go_wp2
                                go_roundg k2
                                case measure => have := HK1.out; have := HK2.out; omega
                                case rel => exact ⟨(x7_2), (x8_2), (wrap64 (x10_2 + 1)), (by first | rfl | (simp; done) | (simp [*]; done)), (by first | rfl | (simp; done) | (simp [*]; done)), (by first | rfl | (simp; done) | (simp [*]; done)), H', ⟨by have := HK1.out; have := HK2.out; omega⟩, ⟨by (with_reducible repeat (first | apply Kd.R_alloc | apply Kd.R_drewN | apply Kd.R_drew)); exact HO_6.out⟩, ⟨by repeat (first | (with_reducible first | exact HB.out | apply below_alloc | apply pw_below_drewN | apply below_drew1) | exact HB.out)⟩⟩
                            · rw [if_neg c16] at H
                              have c16b0 : ((a0.extract (a1 : Int).toNat ((wrap64 (a1 + ((((rd_T67 t177 x9_1).f0) ++ (⟨#[59]⟩ : ByteArray)).size : Int))) : Int).toNat).toList == (((rd_T67 t177 x9_1).f0) ++ (⟨#[59]⟩ : ByteArray)).toList) = false := beq_eq_false_iff_ne.mpr c16
                              (try (have c16b0s := c16b0; simp only [ByteArray.size_append, Int.natCast_add, Int.cast_ofNat_Int, show ((⟨#[59]⟩ : ByteArray).size : Int) = 1 from rfl, show (⟨#[59]⟩ : ByteArray).size = 1 from rfl] at c16b0s))
                              have c16b1 : ((a0.extract (a1 : Int).toNat ((wrap64 (a1 + ((((rd_T67 t177 x9_1).f0) ++ (⟨#[59]⟩ : ByteArray)).size : Int))) : Int).toNat).toList != (((rd_T67 t177 x9_1).f0) ++ (⟨#[59]⟩ : ByteArray)).toList) = true := bne_iff_ne.mpr c16
                              (try (have c16b1s := c16b1; simp only [ByteArray.size_append, Int.natCast_add, Int.cast_ofNat_Int, show ((⟨#[59]⟩ : ByteArray).size : Int) = 1 from rfl, show (⟨#[59]⟩ : ByteArray).size = 1 from rfl] at c16b1s))
                              have H' := Aside0.mk H
                              clear H
                              have p180 : 0 ≤ (x9_1 : Int) := of_decide_eq_true (by first | (with_reducible assumption) | assumption)
                              have q180 : x9_1 < (t177.length : Int) := of_decide_eq_true (by first | (with_reducible assumption) | assumption)
                              obtain ⟨ad180, e180, hx180_0, hx180_1, hx180_2⟩ := at_T67 (Kd.R_reads' HO_6.out).2.2 x9_1 p180 q180
                              cases e180
                              replace p180 := eq_true p180
                              replace q180 := eq_true q180
                              go_wp2
                              go_roundg k2
                              case measure => have := HK1.out; have := HK2.out; omega
                              case rel => exact ⟨(x7_2), (x8_2), (wrap64 (x10_2 + 1)), (by first | rfl | (simp; done) | (simp [*]; done)), (by first | rfl | (simp; done) | (simp [*]; done)), (by first | rfl | (simp; done) | (simp [*]; done)), H', ⟨by have := HK1.out; have := HK2.out; omega⟩, ⟨by (with_reducible repeat (first | apply Kd.R_alloc | apply Kd.R_drewN | apply Kd.R_drew)); exact HO_6.out⟩, ⟨by repeat (first | (with_reducible first | exact HB.out | apply below_alloc | apply pw_below_drewN | apply below_drew1) | exact HB.out)⟩⟩
                          · rw [if_neg c14] at H
                            exact absurd H (by simp)
                        · rw [if_neg c13] at H
                          exact absurd H (by simp)
                      · rw [if_neg c12] at H
                        have c12b0 : decide ((wrap64 (a1 + ((((rd_T67 t177 x9_1).f0) ++ (⟨#[59]⟩ : ByteArray)).size : Int))) ≤ (a0.size : Int)) = false := decide_eq_false c12
                        (try (have c12b0s := c12b0; simp only [ByteArray.size_append, Int.natCast_add, Int.cast_ofNat_Int, show ((⟨#[59]⟩ : ByteArray).size : Int) = 1 from rfl, show (⟨#[59]⟩ : ByteArray).size = 1 from rfl] at c12b0s))
                        clear c12
                        have H' := Aside0.mk H
                        clear H
                        have p180 : 0 ≤ (x9_1 : Int) := of_decide_eq_true (by first | (with_reducible assumption) | assumption)
                        have q180 : x9_1 < (t177.length : Int) := of_decide_eq_true (by first | (with_reducible assumption) | assumption)
                        obtain ⟨ad180, e180, hx180_0, hx180_1, hx180_2⟩ := at_T67 (Kd.R_reads' HO_6.out).2.2 x9_1 p180 q180
                        cases e180
                        replace p180 := eq_true p180
                        replace q180 := eq_true q180
                        go_wp2
                        go_roundg k2
                        case measure => have := HK1.out; have := HK2.out; omega
                        case rel => exact ⟨(x7_2), (x8_2), (wrap64 (x10_2 + 1)), (by first | rfl | (simp; done) | (simp [*]; done)), (by first | rfl | (simp; done) | (simp [*]; done)), (by first | rfl | (simp; done) | (simp [*]; done)), H', ⟨by have := HK1.out; have := HK2.out; omega⟩, ⟨by (with_reducible repeat (first | apply Kd.R_alloc | apply Kd.R_drewN | apply Kd.R_drew)); exact HO_6.out⟩, ⟨by repeat (first | (with_reducible first | exact HB.out | apply below_alloc | apply pw_below_drewN | apply below_drew1) | exact HB.out)⟩⟩
                    · rw [if_neg c11] at H
                      exact absurd H (by simp)
                  · rw [if_neg c10] at H
                    have c10b0 : (x10_2 == 0) = false := beq_eq_false_iff_ne.mpr c10
                    have c10b1 : (x10_2 != 0) = true := bne_iff_ne.mpr c10
                    obtain ⟨bq20, hbq20⟩ : ∃ b_ : Bool, b_ = ((rd_T67 t177 x9_1).f2) := ⟨_, rfl⟩
                    replace H : (if (bq20 = true) then (if (wrap64 (a1 + (((rd_T67 t177 x9_1).f0).size : Int))) ≤ (a0.size : Int) then (if 0 ≤ a1 then (if a1 ≤ (wrap64 (a1 + (((rd_T67 t177 x9_1).f0).size : Int))) then (if (a0.extract (a1 : Int).toNat ((wrap64 (a1 + (((rd_T67 t177 x9_1).f0).size : Int))) : Int).toNat).toList = ((rd_T67 t177 x9_1).f0).toList then (if (((rd_T67 t177 x9_1).f0).size : Int) > x8_2 then ((marginaliaref03_Utf8.f ((rd_T67 t177 x9_1).f1)).bind fun t185 => (marginaliaref03_longest.l1 k2 a0 a1 t177 t185 (((rd_T67 t177 x9_1).f0).size : Int) x9_1 (wrap64 (x10_2 + 1)))) else (marginaliaref03_longest.l1 k2 a0 a1 t177 x7_2 x8_2 x9_1 (wrap64 (x10_2 + 1)))) else (marginaliaref03_longest.l1 k2 a0 a1 t177 x7_2 x8_2 x9_1 (wrap64 (x10_2 + 1)))) else (none)) else (none)) else (marginaliaref03_longest.l1 k2 a0 a1 t177 x7_2 x8_2 x9_1 (wrap64 (x10_2 + 1)))) else (marginaliaref03_longest.l1 k2 a0 a1 t177 x7_2 x8_2 x9_1 (wrap64 (x10_2 + 1)))) = some (r1, r2) := by rw [← hbq20] at H; exact H
                    have Nbq20 := Aside0.mk hbq20
                    clear hbq20
                    by_cases c21 : (bq20 = true)
                    · subst c21
                      have H1 : (if (wrap64 (a1 + (((rd_T67 t177 x9_1).f0).size : Int))) ≤ (a0.size : Int) then (if 0 ≤ a1 then (if a1 ≤ (wrap64 (a1 + (((rd_T67 t177 x9_1).f0).size : Int))) then (if (a0.extract (a1 : Int).toNat ((wrap64 (a1 + (((rd_T67 t177 x9_1).f0).size : Int))) : Int).toNat).toList = ((rd_T67 t177 x9_1).f0).toList then (if (((rd_T67 t177 x9_1).f0).size : Int) > x8_2 then ((marginaliaref03_Utf8.f ((rd_T67 t177 x9_1).f1)).bind fun t185 => (marginaliaref03_longest.l1 k2 a0 a1 t177 t185 (((rd_T67 t177 x9_1).f0).size : Int) x9_1 (wrap64 (x10_2 + 1)))) else (marginaliaref03_longest.l1 k2 a0 a1 t177 x7_2 x8_2 x9_1 (wrap64 (x10_2 + 1)))) else (marginaliaref03_longest.l1 k2 a0 a1 t177 x7_2 x8_2 x9_1 (wrap64 (x10_2 + 1)))) else (none)) else (none)) else (marginaliaref03_longest.l1 k2 a0 a1 t177 x7_2 x8_2 x9_1 (wrap64 (x10_2 + 1)))) = some (r1, r2) := by rw [if_pos rfl] at H; exact H
                      clear H
                      have H := H1
                      clear H1
                      by_cases c22 : (wrap64 (a1 + (((rd_T67 t177 x9_1).f0).size : Int))) ≤ (a0.size : Int)
                      · rw [if_pos c22] at H
                        have c22b0 : decide ((wrap64 (a1 + (((rd_T67 t177 x9_1).f0).size : Int))) ≤ (a0.size : Int)) = true := decide_eq_true c22
                        clear c22
                        by_cases c23 : 0 ≤ a1
                        · rw [if_pos c23] at H
                          have c23b0 := eq_true c23
                          have c23b1 : decide (0 ≤ a1) = true := decide_eq_true c23
                          clear c23
                          by_cases c24 : a1 ≤ (wrap64 (a1 + (((rd_T67 t177 x9_1).f0).size : Int)))
                          · rw [if_pos c24] at H
                            have c24b0 := eq_true c24
                            have c24b1 : decide (a1 ≤ (wrap64 (a1 + (((rd_T67 t177 x9_1).f0).size : Int)))) = true := decide_eq_true c24
                            have c25b0 := eq_true (of_decide_eq_true (by first | (with_reducible assumption) | assumption) : (wrap64 (a1 + (((rd_T67 t177 x9_1).f0).size : Int))) ≤ (a0.size : Int))
                            by_cases c26 : (a0.extract (a1 : Int).toNat ((wrap64 (a1 + (((rd_T67 t177 x9_1).f0).size : Int))) : Int).toNat).toList = ((rd_T67 t177 x9_1).f0).toList
                            · rw [if_pos c26] at H
                              have c26b0 : ((a0.extract (a1 : Int).toNat ((wrap64 (a1 + (((rd_T67 t177 x9_1).f0).size : Int))) : Int).toNat).toList == ((rd_T67 t177 x9_1).f0).toList) = true := beq_iff_eq.mpr c26
                              (try (have c26b0s := c26b0; simp at c26b0s))
                              have c26b1 : ((a0.extract (a1 : Int).toNat ((wrap64 (a1 + (((rd_T67 t177 x9_1).f0).size : Int))) : Int).toNat).toList != ((rd_T67 t177 x9_1).f0).toList) = false := bne_eq_false_iff_eq.mpr c26
                              (try (have c26b1s := c26b1; simp at c26b1s))
                              clear c26
                              by_cases c27 : (((rd_T67 t177 x9_1).f0).size : Int) > x8_2
                              · rw [if_pos c27] at H
                                have c27b0 : decide (x8_2 < (((rd_T67 t177 x9_1).f0).size : Int)) = true := decide_eq_true c27
                                clear c27
                                replace H := Option.bind_eq_some_iff.mp H
                                obtain ⟨t185, A280, H⟩ := H
                                replace H : (marginaliaref03_longest.l1 k2 a0 a1 t177 t185 (((rd_T67 t177 x9_1).f0).size : Int) x9_1 (wrap64 (x10_2 + 1))) = some (r1, r2) := H
                                have A28 := Aside0.mk A280
                                clear A280
                                have H' := Aside0.mk H
                                clear H
                                have p180 : 0 ≤ (x9_1 : Int) := of_decide_eq_true (by first | (with_reducible assumption) | assumption)
                                have q180 : x9_1 < (t177.length : Int) := of_decide_eq_true (by first | (with_reducible assumption) | assumption)
                                obtain ⟨ad180, e180, hx180_0, hx180_1, hx180_2⟩ := at_T67 (Kd.R_reads' HO_6.out).2.2 x9_1 p180 q180
                                (try rw [← Nbq20.out] at hx180_2)
                                cases e180
                                replace p180 := eq_true p180
                                replace q180 := eq_true q180
                                have p183 : 0 ≤ (x9_1 : Int) := of_decide_eq_true (by first | (with_reducible assumption) | assumption)
                                have q183 : x9_1 < (t177.length : Int) := of_decide_eq_true (by first | (with_reducible assumption) | assumption)
                                obtain ⟨ad183, e183, hx183_0, hx183_1, hx183_2⟩ := at_T67 (Kd.R_reads' HO_6.out).2.2 x9_1 p183 q183
                                (try rw [← Nbq20.out] at hx183_2)
                                obtain rfl : ad180 = ad183 := (by injection e183)
                                replace p183 := eq_true p183
                                replace q183 := eq_true q183
                                have p184 : 0 ≤ (x9_1 : Int) := of_decide_eq_true (by first | (with_reducible assumption) | assumption)
                                have q184 : x9_1 < (t177.length : Int) := of_decide_eq_true (by first | (with_reducible assumption) | assumption)
                                obtain ⟨ad184, e184, hx184_0, hx184_1, hx184_2⟩ := at_T67 (Kd.R_reads' HO_6.out).2.2 x9_1 p184 q184
                                (try rw [← Nbq20.out] at hx184_2)
                                obtain rfl : ad180 = ad184 := (by injection e184)
                                replace p184 := eq_true p184
                                replace q184 := eq_true q184
                                go_wp2_with (first | ((with_reducible refine gate_callee (f := 39) rfl ?_); refine goesL_ (some 67) rfl rfl Try.func39 (by kernel_rfl) rfl #[.int .i64 ((rd_T67 t177 x9_1).f1)] rfl (by (try simp only [List.map_toArray, List.map_cons, List.map_nil]); first | done | rfl | (simp only [List.length_drop, List.length_take]; rfl)) ?_; (with_reducible refine (marginaliaref03_Utf8.calls ((rd_T67 t177 x9_1).f1) t185 _ A28.out).mono ?_); rintro e w29 ⟨rfl, hb⟩; refine ⟨_, rfl, ?_⟩; have n0_ := Aside0.mk (Kd.R_below (by (with_reducible repeat (first | apply Kd.R_alloc | apply Kd.R_drewN | apply Kd.R_drew)); exact HO_6.out) hb); have n1_ := Aside0.mk (below_step (by repeat (first | (with_reducible first | exact HB.out | apply below_alloc | apply pw_below_drewN | apply below_drew1) | exact HB.out)) hb); clear HO_6; clear HB; have HO_6 := n0_; have HB := n1_; clear n0_ n1_; (try clear hb); (try clear hb2); (try clear hk); (try clear hi)))
                                go_roundg k2
                                case measure => have := HK1.out; have := HK2.out; omega
                                case rel => exact ⟨(t185), ((((rd_T67 t177 x9_1).f0).size : Int)), (wrap64 (x10_2 + 1)), (by first | rfl | (simp; done) | (simp [*]; done)), (by first | rfl | (simp; done) | (simp [*]; done)), (by first | rfl | (simp; done) | (simp [*]; done)), H', ⟨by have := HK1.out; have := HK2.out; omega⟩, ⟨by (with_reducible repeat (first | apply Kd.R_alloc | apply Kd.R_drewN | apply Kd.R_drew)); exact HO_6.out⟩, ⟨by repeat (first | (with_reducible first | exact HB.out | apply below_alloc | apply pw_below_drewN | apply below_drew1) | exact HB.out)⟩⟩
                              · rw [if_neg c27] at H
                                have c27b0 : decide (x8_2 < (((rd_T67 t177 x9_1).f0).size : Int)) = false := decide_eq_false c27
                                clear c27
                                have H' := Aside0.mk H
                                clear H
                                have p180 : 0 ≤ (x9_1 : Int) := of_decide_eq_true (by first | (with_reducible assumption) | assumption)
                                have q180 : x9_1 < (t177.length : Int) := of_decide_eq_true (by first | (with_reducible assumption) | assumption)
                                obtain ⟨ad180, e180, hx180_0, hx180_1, hx180_2⟩ := at_T67 (Kd.R_reads' HO_6.out).2.2 x9_1 p180 q180
                                (try rw [← Nbq20.out] at hx180_2)
                                cases e180
                                replace p180 := eq_true p180
                                replace q180 := eq_true q180
                                have p183 : 0 ≤ (x9_1 : Int) := of_decide_eq_true (by first | (with_reducible assumption) | assumption)
                                have q183 : x9_1 < (t177.length : Int) := of_decide_eq_true (by first | (with_reducible assumption) | assumption)
                                obtain ⟨ad183, e183, hx183_0, hx183_1, hx183_2⟩ := at_T67 (Kd.R_reads' HO_6.out).2.2 x9_1 p183 q183
                                (try rw [← Nbq20.out] at hx183_2)
                                obtain rfl : ad180 = ad183 := (by injection e183)
                                replace p183 := eq_true p183
                                replace q183 := eq_true q183
                                go_wp2
                                go_roundg k2
                                case measure => have := HK1.out; have := HK2.out; omega
                                case rel => exact ⟨(x7_2), (x8_2), (wrap64 (x10_2 + 1)), (by first | rfl | (simp; done) | (simp [*]; done)), (by first | rfl | (simp; done) | (simp [*]; done)), (by first | rfl | (simp; done) | (simp [*]; done)), H', ⟨by have := HK1.out; have := HK2.out; omega⟩, ⟨by (with_reducible repeat (first | apply Kd.R_alloc | apply Kd.R_drewN | apply Kd.R_drew)); exact HO_6.out⟩, ⟨by repeat (first | (with_reducible first | exact HB.out | apply below_alloc | apply pw_below_drewN | apply below_drew1) | exact HB.out)⟩⟩
                            · rw [if_neg c26] at H
                              have c26b0 : ((a0.extract (a1 : Int).toNat ((wrap64 (a1 + (((rd_T67 t177 x9_1).f0).size : Int))) : Int).toNat).toList == ((rd_T67 t177 x9_1).f0).toList) = false := beq_eq_false_iff_ne.mpr c26
                              (try (have c26b0s := c26b0; simp at c26b0s))
                              have c26b1 : ((a0.extract (a1 : Int).toNat ((wrap64 (a1 + (((rd_T67 t177 x9_1).f0).size : Int))) : Int).toNat).toList != ((rd_T67 t177 x9_1).f0).toList) = true := bne_iff_ne.mpr c26
                              (try (have c26b1s := c26b1; simp at c26b1s))
                              have H' := Aside0.mk H
                              clear H
                              have p180 : 0 ≤ (x9_1 : Int) := of_decide_eq_true (by first | (with_reducible assumption) | assumption)
                              have q180 : x9_1 < (t177.length : Int) := of_decide_eq_true (by first | (with_reducible assumption) | assumption)
                              obtain ⟨ad180, e180, hx180_0, hx180_1, hx180_2⟩ := at_T67 (Kd.R_reads' HO_6.out).2.2 x9_1 p180 q180
                              (try rw [← Nbq20.out] at hx180_2)
                              cases e180
                              replace p180 := eq_true p180
                              replace q180 := eq_true q180
                              have p183 : 0 ≤ (x9_1 : Int) := of_decide_eq_true (by first | (with_reducible assumption) | assumption)
                              have q183 : x9_1 < (t177.length : Int) := of_decide_eq_true (by first | (with_reducible assumption) | assumption)
                              obtain ⟨ad183, e183, hx183_0, hx183_1, hx183_2⟩ := at_T67 (Kd.R_reads' HO_6.out).2.2 x9_1 p183 q183
                              (try rw [← Nbq20.out] at hx183_2)
                              obtain rfl : ad180 = ad183 := (by injection e183)
                              replace p183 := eq_true p183
                              replace q183 := eq_true q183
                              go_wp2
                              go_roundg k2
                              case measure => have := HK1.out; have := HK2.out; omega
                              case rel => exact ⟨(x7_2), (x8_2), (wrap64 (x10_2 + 1)), (by first | rfl | (simp; done) | (simp [*]; done)), (by first | rfl | (simp; done) | (simp [*]; done)), (by first | rfl | (simp; done) | (simp [*]; done)), H', ⟨by have := HK1.out; have := HK2.out; omega⟩, ⟨by (with_reducible repeat (first | apply Kd.R_alloc | apply Kd.R_drewN | apply Kd.R_drew)); exact HO_6.out⟩, ⟨by repeat (first | (with_reducible first | exact HB.out | apply below_alloc | apply pw_below_drewN | apply below_drew1) | exact HB.out)⟩⟩
                          · rw [if_neg c24] at H
                            exact absurd H (by simp)
                        · rw [if_neg c23] at H
                          exact absurd H (by simp)
                      · rw [if_neg c22] at H
                        have c22b0 : decide ((wrap64 (a1 + (((rd_T67 t177 x9_1).f0).size : Int))) ≤ (a0.size : Int)) = false := decide_eq_false c22
                        clear c22
                        have H' := Aside0.mk H
                        clear H
                        have p180 : 0 ≤ (x9_1 : Int) := of_decide_eq_true (by first | (with_reducible assumption) | assumption)
                        have q180 : x9_1 < (t177.length : Int) := of_decide_eq_true (by first | (with_reducible assumption) | assumption)
                        obtain ⟨ad180, e180, hx180_0, hx180_1, hx180_2⟩ := at_T67 (Kd.R_reads' HO_6.out).2.2 x9_1 p180 q180
                        (try rw [← Nbq20.out] at hx180_2)
                        cases e180
                        replace p180 := eq_true p180
                        replace q180 := eq_true q180
                        have p183 : 0 ≤ (x9_1 : Int) := of_decide_eq_true (by first | (with_reducible assumption) | assumption)
                        have q183 : x9_1 < (t177.length : Int) := of_decide_eq_true (by first | (with_reducible assumption) | assumption)
                        obtain ⟨ad183, e183, hx183_0, hx183_1, hx183_2⟩ := at_T67 (Kd.R_reads' HO_6.out).2.2 x9_1 p183 q183
                        (try rw [← Nbq20.out] at hx183_2)
                        obtain rfl : ad180 = ad183 := (by injection e183)
                        replace p183 := eq_true p183
                        replace q183 := eq_true q183
                        go_wp2
                        go_roundg k2
                        case measure => have := HK1.out; have := HK2.out; omega
                        case rel => exact ⟨(x7_2), (x8_2), (wrap64 (x10_2 + 1)), (by first | rfl | (simp; done) | (simp [*]; done)), (by first | rfl | (simp; done) | (simp [*]; done)), (by first | rfl | (simp; done) | (simp [*]; done)), H', ⟨by have := HK1.out; have := HK2.out; omega⟩, ⟨by (with_reducible repeat (first | apply Kd.R_alloc | apply Kd.R_drewN | apply Kd.R_drew)); exact HO_6.out⟩, ⟨by repeat (first | (with_reducible first | exact HB.out | apply below_alloc | apply pw_below_drewN | apply below_drew1) | exact HB.out)⟩⟩
                    · replace c21 := Bool.eq_false_iff.mpr c21
                      subst c21
                      have H1 : (marginaliaref03_longest.l1 k2 a0 a1 t177 x7_2 x8_2 x9_1 (wrap64 (x10_2 + 1))) = some (r1, r2) := by rw [if_neg (show ¬ (false = true) by decide)] at H; exact H
                      clear H
                      have H := H1
                      clear H1
                      have H' := Aside0.mk H
                      clear H
                      have p180 : 0 ≤ (x9_1 : Int) := of_decide_eq_true (by first | (with_reducible assumption) | assumption)
                      have q180 : x9_1 < (t177.length : Int) := of_decide_eq_true (by first | (with_reducible assumption) | assumption)
                      obtain ⟨ad180, e180, hx180_0, hx180_1, hx180_2⟩ := at_T67 (Kd.R_reads' HO_6.out).2.2 x9_1 p180 q180
                      (try rw [← Nbq20.out] at hx180_2)
                      cases e180
                      replace p180 := eq_true p180
                      replace q180 := eq_true q180
                      have p183 : 0 ≤ (x9_1 : Int) := of_decide_eq_true (by first | (with_reducible assumption) | assumption)
                      have q183 : x9_1 < (t177.length : Int) := of_decide_eq_true (by first | (with_reducible assumption) | assumption)
                      obtain ⟨ad183, e183, hx183_0, hx183_1, hx183_2⟩ := at_T67 (Kd.R_reads' HO_6.out).2.2 x9_1 p183 q183
                      (try rw [← Nbq20.out] at hx183_2)
                      obtain rfl : ad180 = ad183 := (by injection e183)
                      replace p183 := eq_true p183
                      replace q183 := eq_true q183
                      go_wp2
                      go_roundg k2
                      case measure => have := HK1.out; have := HK2.out; omega
                      case rel => exact ⟨(x7_2), (x8_2), (wrap64 (x10_2 + 1)), (by first | rfl | (simp; done) | (simp [*]; done)), (by first | rfl | (simp; done) | (simp [*]; done)), (by first | rfl | (simp; done) | (simp [*]; done)), H', ⟨by have := HK1.out; have := HK2.out; omega⟩, ⟨by (with_reducible repeat (first | apply Kd.R_alloc | apply Kd.R_drewN | apply Kd.R_drew)); exact HO_6.out⟩, ⟨by repeat (first | (with_reducible first | exact HB.out | apply below_alloc | apply pw_below_drewN | apply below_drew1) | exact HB.out)⟩⟩
                · rw [if_neg c9] at H
                  exact absurd H (by simp)
              · rw [if_neg c8] at H
                exact absurd H (by simp)
            · rw [if_neg c7] at H
              have c7b0 : decide (x10_2 < 2) = false := decide_eq_false c7
              clear c7
              have H' := Aside0.mk H
              clear H
              go_wp2
              go_roundg k2
              case measure => have := HK1.out; have := HK2.out; omega
              case rel => exact ⟨(x7_2), (x8_2), (wrap64 (x9_1 + 1)), (by first | rfl | (simp; done) | (simp [*]; done)), (by first | rfl | (simp; done) | (simp [*]; done)), (by first | rfl | (simp; done) | (simp [*]; done)), H', ⟨by have := HK1.out; have := HK2.out; omega⟩, ⟨by (with_reducible repeat (first | apply Kd.R_alloc | apply Kd.R_drewN | apply Kd.R_drew)); exact HO_6.out⟩, ⟨by repeat (first | (with_reducible first | exact HB.out | apply below_alloc | apply pw_below_drewN | apply below_drew1) | exact HB.out)⟩⟩
      · rw [if_neg c5] at H
        have c5b0 : decide (x9_1 < (t177.length : Int)) = false := decide_eq_false c5
        clear c5
        simp only [Option.some.injEq, Prod.mk.injEq] at H
        obtain ⟨rfl, rfl⟩ := H
        obtain ⟨Ao30, co30, eo30⟩ := Kd.R_slice HO_6.out
        subst eo30
        go_wp2
        go_ret2
        exact ⟨by first | rfl | (simp [errW_none, errW_some] <;> rfl) | (simp [*, errW_none, errW_some] <;> rfl), by repeat (first | (with_reducible first | exact HB.out | apply below_alloc | apply pw_below_drewN | apply below_drew1) | exact HB.out)⟩

/-! ### marginaliaref02_Letter: function 48 -/
def marginaliaref02_Letter.f (a0 : Int) : Option (Bool) := if a0 ≥ 65 then (if a0 ≤ 90 then (some true) else (if a0 ≥ 97 then (some (decide (a0 ≤ 122))) else (some false))) else (if a0 ≥ 97 then (some (decide (a0 ≤ 122))) else (some false))
set_option maxHeartbeats 8000000 in
set_option maxRecDepth 100000 in
theorem marginaliaref02_Letter.calls (a0 : Int) (r : Bool) (w : World) (h : marginaliaref02_Letter.f a0 = some r) :
    Calls Try.prog 48 #[.int .u8 a0] w fun e w' => e = .returned (.bool r) ∧ Drawn0 w w' := by
  have H : (if a0 ≥ 65 then (if a0 ≤ 90 then (some true) else (if a0 ≥ 97 then (some (decide (a0 ≤ 122))) else (some false))) else (if a0 ≥ 97 then (some (decide (a0 ≤ 122))) else (some false))) = some r := h
  clear h
  by_cases c2 : a0 ≥ 65
  · rw [if_pos c2] at H
    have c2b0 : decide (65 ≤ a0) = true := decide_eq_true c2
    clear c2
    by_cases c3 : a0 ≤ 90
    · rw [if_pos c3] at H
      have c3b0 : decide (a0 ≤ 90) = true := decide_eq_true c3
      clear c3
      obtain rfl := Option.some.inj H
      go_enter Try.func48, Try.ntmps48
      go_wp2
      go_ret
      exact ⟨by first | rfl | (simp; done) | (simp [*]; done), by repeat (first | exact Drawn0.refl _ | apply Drawn0.step)⟩
    · rw [if_neg c3] at H
      have c3b0 : decide (a0 ≤ 90) = false := decide_eq_false c3
      clear c3
      by_cases c4 : a0 ≥ 97
      · rw [if_pos c4] at H
        have c4b0 : decide (97 ≤ a0) = true := decide_eq_true c4
        clear c4
        obtain rfl := Option.some.inj H
        go_enter Try.func48, Try.ntmps48
        go_wp2
        go_ret
        exact ⟨by first | rfl | (simp; done) | (simp [*]; done), by repeat (first | exact Drawn0.refl _ | apply Drawn0.step)⟩
      · rw [if_neg c4] at H
        have c4b0 : decide (97 ≤ a0) = false := decide_eq_false c4
        clear c4
        obtain rfl := Option.some.inj H
        go_enter Try.func48, Try.ntmps48
        go_wp2
        go_ret
        exact ⟨by first | rfl | (simp; done) | (simp [*]; done), by repeat (first | exact Drawn0.refl _ | apply Drawn0.step)⟩
  · rw [if_neg c2] at H
    have c2b0 : decide (65 ≤ a0) = false := decide_eq_false c2
    clear c2
    by_cases c5 : a0 ≥ 97
    · rw [if_pos c5] at H
      have c5b0 : decide (97 ≤ a0) = true := decide_eq_true c5
      clear c5
      obtain rfl := Option.some.inj H
      go_enter Try.func48, Try.ntmps48
      go_wp2
      go_ret
      exact ⟨by first | rfl | (simp; done) | (simp [*]; done), by repeat (first | exact Drawn0.refl _ | apply Drawn0.step)⟩
    · rw [if_neg c5] at H
      have c5b0 : decide (97 ≤ a0) = false := decide_eq_false c5
      clear c5
      obtain rfl := Option.some.inj H
      go_enter Try.func48, Try.ntmps48
      go_wp2
      go_ret
      exact ⟨by first | rfl | (simp; done) | (simp [*]; done), by repeat (first | exact Drawn0.refl _ | apply Drawn0.step)⟩

/-! ### marginaliaref02_Figure: function 49 -/
def marginaliaref02_Figure.f (a0 : Int) : Option (Bool) := if a0 ≥ 48 then (some (decide (a0 ≤ 57))) else (some false)
set_option maxHeartbeats 8000000 in
set_option maxRecDepth 100000 in
theorem marginaliaref02_Figure.calls (a0 : Int) (r : Bool) (w : World) (h : marginaliaref02_Figure.f a0 = some r) :
    Calls Try.prog 49 #[.int .u8 a0] w fun e w' => e = .returned (.bool r) ∧ Drawn0 w w' := by
  have H : (if a0 ≥ 48 then (some (decide (a0 ≤ 57))) else (some false)) = some r := h
  clear h
  by_cases c2 : a0 ≥ 48
  · rw [if_pos c2] at H
    have c2b0 : decide (48 ≤ a0) = true := decide_eq_true c2
    clear c2
    obtain rfl := Option.some.inj H
    go_enter Try.func49, Try.ntmps49
    go_wp2
    go_ret
    exact ⟨by first | rfl | (simp; done) | (simp [*]; done), by repeat (first | exact Drawn0.refl _ | apply Drawn0.step)⟩
  · rw [if_neg c2] at H
    have c2b0 : decide (48 ≤ a0) = false := decide_eq_false c2
    clear c2
    obtain rfl := Option.some.inj H
    go_enter Try.func49, Try.ntmps49
    go_wp2
    go_ret
    exact ⟨by first | rfl | (simp; done) | (simp [*]; done), by repeat (first | exact Drawn0.refl _ | apply Drawn0.step)⟩

end Go.Proofs.Ythialihgamlljaa.G
