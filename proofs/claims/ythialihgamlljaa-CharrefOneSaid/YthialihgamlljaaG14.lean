-- laid by a program of this session's (wip/tools/myprint.py) over the translation
import Derived.Test.YthialihgamlljaaG0
import Derived.Test.YthialihgamlljaaG5
import Derived.Test.YthialihgamlljaaG7
import Derived.Test.YthialihgamlljaaG8
namespace Go.Proofs.Ythialihgamlljaa.G
open Go.RowKit Go.Proofs.YthialihgamlljaaW.PrintWords Go.Proofs.YthialihgamlljaaW.PrintLast Go.Proofs.YthialihgamlljaaW.PrintMore
attribute [local go_sem] max2_int min2_int max_two min_two max_three min_three max_four min_four   -- for this text's walks alone
set_option linter.unusedVariables false
set_option linter.unusedSimpArgs false

/-! ### marginalialaw03_CharrefBack: function 10 -/
def marginalialaw03_CharrefBack.l0 : Nat → ByteArray → Bool → ByteArray → ByteArray → ByteArray → Int → Option (Bool)
  | 0, _, _, _, _, _, _ => none
  | k + 1, x0, x1, x5, x6, x7, x8 => if x8 < (x0.size : Int) then (if 0 ≤ x8 then (if x8 ≤ (wrap64 (x8 + 1)) then (if (wrap64 (x8 + 1)) ≤ (x0.size : Int) then (if (x0.extract (x8 : Int).toNat ((wrap64 (x8 + 1)) : Int).toNat).toList = ([38] : List UInt8) then (if x5.size + 5 ≤ 9223372036854775807 then (if x6.size + 5 ≤ 9223372036854775807 then (if x7.size + 6 ≤ 9223372036854775807 then (marginalialaw03_CharrefBack.l0 k x0 x1 (x5 ++ (⟨#[38, 97, 109, 112, 59]⟩ : ByteArray)) (x6 ++ (⟨#[38, 35, 51, 56, 59]⟩ : ByteArray)) (x7 ++ (⟨#[38, 35, 120, 50, 54, 59]⟩ : ByteArray)) (wrap64 (x8 + 1))) else (none)) else (none)) else (none)) else (if x5.size + (x0.extract (x8 : Int).toNat ((wrap64 (x8 + 1)) : Int).toNat).size ≤ 9223372036854775807 then (if x6.size + (x0.extract (x8 : Int).toNat ((wrap64 (x8 + 1)) : Int).toNat).size ≤ 9223372036854775807 then (if x7.size + (x0.extract (x8 : Int).toNat ((wrap64 (x8 + 1)) : Int).toNat).size ≤ 9223372036854775807 then (marginalialaw03_CharrefBack.l0 k x0 x1 (x5 ++ (x0.extract (x8 : Int).toNat ((wrap64 (x8 + 1)) : Int).toNat)) (x6 ++ (x0.extract (x8 : Int).toNat ((wrap64 (x8 + 1)) : Int).toNat)) (x7 ++ (x0.extract (x8 : Int).toNat ((wrap64 (x8 + 1)) : Int).toNat)) (wrap64 (x8 + 1))) else (none)) else (none)) else (none))) else (none)) else (none)) else (none)) else ((marginalialaw03_alive.f k).bind fun t205 => (if t205 = true then ((charref_Decode.f k x5 x1).bind fun t206 => (if t206.toList = x0.toList then ((charref_Decode.f k x6 x1).bind fun t207 => (if t207.toList = x0.toList then ((charref_Decode.f k x7 x1).bind fun t208 => (some (t208.toList == x0.toList))) else (some false))) else (some false))) else (some false)))
def marginalialaw03_CharrefBack.f (k : Nat) (a0 : ByteArray) (a1 : Bool) : Option (Bool) := if (a0.size : Int) > 200 then ((marginalialaw03_alive.f k).bind fun t204 => (some t204)) else (marginalialaw03_CharrefBack.l0 k a0 a1 (⟨#[]⟩ : ByteArray) (⟨#[]⟩ : ByteArray) (⟨#[]⟩ : ByteArray) 0)
theorem marginalialaw03_CharrefBack.mono_l : ∀ k, (∀ y0 y1 y2 y3 y4 y5, LeO (marginalialaw03_CharrefBack.l0 k y0 y1 y2 y3 y4 y5) (marginalialaw03_CharrefBack.l0 (k + 1) y0 y1 y2 y3 y4 y5))
  | 0 => fun _ _ _ _ _ _ r h => by simp [marginalialaw03_CharrefBack.l0] at h
  | k + 1 => by
    have ih0 := marginalialaw03_CharrefBack.mono_l k
    · intro y0 y1 y2 y3 y4 y5
      unfold marginalialaw03_CharrefBack.l0
      repeat' first
      | (with_reducible exact ih0 _ _ _ _ _ _)
      | (with_reducible exact charref_Decode.mono _ _ _)
      | (with_reducible exact marginalialaw03_alive.mono _)
      | (with_reducible exact LeO.refl _)
      | (with_reducible exact LeO.none _)
      | (with_reducible refine LeO.ite ?_ ?_)
      | (with_reducible refine LeO.bind ?_ (fun _ => ?_))
      | exact ih0 _ _ _ _ _ _
      | exact charref_Decode.mono _ _ _
      | exact marginalialaw03_alive.mono _
      | exact LeO.none _
      | refine LeO.ite ?_ ?_
      | refine LeO.bind ?_ (fun _ => ?_)
theorem marginalialaw03_CharrefBack.mono : ∀ a0 a1 k, LeO (marginalialaw03_CharrefBack.f k a0 a1) (marginalialaw03_CharrefBack.f (k + 1) a0 a1) := by
  intro a0 a1 k
  have ih0 := marginalialaw03_CharrefBack.mono_l k
  unfold marginalialaw03_CharrefBack.f
  repeat' first
      | (with_reducible exact ih0 _ _ _ _ _ _)
      | (with_reducible exact charref_Decode.mono _ _ _)
      | (with_reducible exact marginalialaw03_alive.mono _)
      | (with_reducible exact LeO.refl _)
      | (with_reducible exact LeO.none _)
      | (with_reducible refine LeO.ite ?_ ?_)
      | (with_reducible refine LeO.bind ?_ (fun _ => ?_))
      | exact ih0 _ _ _ _ _ _
      | exact charref_Decode.mono _ _ _
      | exact marginalialaw03_alive.mono _
      | exact LeO.none _
      | refine LeO.ite ?_ ?_
      | refine LeO.bind ?_ (fun _ => ?_)
set_option maxHeartbeats 8000000 in
set_option maxRecDepth 100000 in
theorem marginalialaw03_CharrefBack.calls (k : Nat) (a0 : ByteArray) (a1 : Bool) (r : Bool) (w : World) (h : marginalialaw03_CharrefBack.f k a0 a1 = some r) :
    Calls Try.prog 10 #[.string a0, .bool a1] w fun e w' => e = .returned (.bool r) ∧ Below w.heap.size w w' := by
  have HB := Aside0.mk (Below.refl w.heap.size w)
  have H : (if (a0.size : Int) > 200 then ((marginalialaw03_alive.f k).bind fun t204 => (some t204)) else (marginalialaw03_CharrefBack.l0 k a0 a1 (⟨#[]⟩ : ByteArray) (⟨#[]⟩ : ByteArray) (⟨#[]⟩ : ByteArray) 0)) = some r := h
  clear h
  by_cases c3 : (a0.size : Int) > 200
  · rw [if_pos c3] at H
    have c3b0 : decide (200 < (a0.size : Int)) = true := decide_eq_true c3
    have c3b1 : decide (200 < a0.size) = true := decide_eq_true (by omega)
    clear c3
    replace H := Option.bind_eq_some_iff.mp H
    obtain ⟨t204, A40, H⟩ := H
    replace H : (some t204) = some r := H
    have A4 := Aside0.mk A40
    clear A40
    obtain rfl := Option.some.inj H
    go_enter Try.func10, Try.ntmps10
    go_wp2_with (first | ((with_reducible refine gate_callee (f := 20) rfl ?_); refine goesL_ (some 13) rfl rfl Try.func20 (by kernel_rfl) rfl #[] rfl (by (try simp only [List.map_toArray, List.map_cons, List.map_nil]); first | done | rfl | (simp only [List.length_drop, List.length_take]; rfl)) ?_; (with_reducible refine (marginalialaw03_alive.calls k  t204 _ A4.out).mono ?_); rintro e w5 ⟨rfl, hb⟩; refine ⟨_, rfl, ?_⟩; have n0_ := Aside0.mk (below_step (by repeat (first | (with_reducible first | exact HB.out | apply below_alloc | apply pw_below_drewN | apply below_drew1) | exact HB.out)) hb); clear HB; have HB := n0_; clear n0_; (try clear hb); (try clear hb2); (try clear hk); (try clear hi)))
    go_ret
    exact ⟨by first | rfl | (simp [errW_none, errW_some] <;> rfl) | (simp [*, errW_none, errW_some] <;> rfl), by repeat (first | (with_reducible first | exact HB.out | apply below_alloc | apply pw_below_drewN | apply below_drew1) | exact HB.out)⟩
  · rw [if_neg c3] at H
    have c3b0 : decide (200 < (a0.size : Int)) = false := decide_eq_false c3
    have c3b1 : decide (200 < a0.size) = false := decide_eq_false (by omega)
    clear c3
    have H' := Aside0.mk H
    clear H
    go_enter Try.func10, Try.ntmps10
    go_wp2
    go_loopg [5, 6, 7, 8] k (fun kq v5 v6 v7 v8 w' => ∃ (x5_1 : ByteArray) (x6_1 : ByteArray) (x7_1 : ByteArray) (x8_1 : Int), v5 = .string x5_1 ∧ v6 = .string x6_1 ∧ v7 = .string x7_1 ∧ v8 = .int .i64 x8_1 ∧ Aside0 (marginalialaw03_CharrefBack.l0 kq a0 a1 x5_1 x6_1 x7_1 x8_1 = some r) ∧ Aside0 (kq ≤ k) ∧ Aside0 (Below w.heap.size w w'))
    case atStart => exact ⟨((⟨#[]⟩ : ByteArray)), ((⟨#[]⟩ : ByteArray)), ((⟨#[]⟩ : ByteArray)), (0), (by first | rfl | (simp; done) | (simp [*]; done)), (by first | rfl | (simp; done) | (simp [*]; done)), (by first | rfl | (simp; done) | (simp [*]; done)), (by first | rfl | (simp; done) | (simp [*]; done)), H', ⟨Nat.le_refl _⟩, ⟨by repeat (first | (with_reducible first | exact HB.out | apply below_alloc | apply pw_below_drewN | apply below_drew1) | exact HB.out)⟩⟩
    case round =>
      clear H'
      try clear c1
      try clear c2
      try clear p2
      try clear c3
      try clear c3b0
      try clear c3b1
      obtain ⟨x5_1, x6_1, x7_1, x8_1, rfl, rfl, rfl, rfl, HA, HK1, HB⟩ := hrel
      cases gk with
      | zero => exact absurd HA.out (by simp [marginalialaw03_CharrefBack.l0])
      | succ k1 =>
        have H := HA.out
        clear HA
        simp only [marginalialaw03_CharrefBack.l0] at H
        by_cases c6 : x8_1 < (a0.size : Int)
        · rw [if_pos c6] at H
          have c6b0 : decide (x8_1 < (a0.size : Int)) = true := decide_eq_true c6
          clear c6
          by_cases c7 : 0 ≤ x8_1
          · rw [if_pos c7] at H
            have c7b0 := eq_true c7
            have c7b1 : decide (0 ≤ x8_1) = true := decide_eq_true c7
            clear c7
            by_cases c8 : x8_1 ≤ (wrap64 (x8_1 + 1))
            · rw [if_pos c8] at H
              have c8b0 := eq_true c8
              have c8b1 : decide (x8_1 ≤ (wrap64 (x8_1 + 1))) = true := decide_eq_true c8
              by_cases c9 : (wrap64 (x8_1 + 1)) ≤ (a0.size : Int)
              · rw [if_pos c9] at H
                have c9b0 := eq_true c9
                have c9b1 : decide ((wrap64 (x8_1 + 1)) ≤ (a0.size : Int)) = true := decide_eq_true c9
                by_cases c10 : (a0.extract (x8_1 : Int).toNat ((wrap64 (x8_1 + 1)) : Int).toNat).toList = ([38] : List UInt8)
                · rw [if_pos c10] at H
                  have c10b0 : ((a0.extract (x8_1 : Int).toNat ((wrap64 (x8_1 + 1)) : Int).toNat).toList == ([38] : List UInt8)) = true := beq_iff_eq.mpr c10
                  have c10b1 : ((a0.extract (x8_1 : Int).toNat ((wrap64 (x8_1 + 1)) : Int).toNat).toList != ([38] : List UInt8)) = false := bne_eq_false_iff_eq.mpr c10
                  clear c10
                  by_cases c11 : x5_1.size + 5 ≤ 9223372036854775807
                  · rw [if_pos c11] at H
                    have c11b0 := eq_true c11
                    have c11b1 : decide (x5_1.size + 5 ≤ 9223372036854775807) = true := decide_eq_true c11
                    try have c11b2 : (9223372036854775807 < x5_1.size + 5) = False := eq_false (Nat.not_lt.2 c11)
                    by_cases c12 : x6_1.size + 5 ≤ 9223372036854775807
                    · rw [if_pos c12] at H
                      have c12b0 := eq_true c12
                      have c12b1 : decide (x6_1.size + 5 ≤ 9223372036854775807) = true := decide_eq_true c12
                      try have c12b2 : (9223372036854775807 < x6_1.size + 5) = False := eq_false (Nat.not_lt.2 c12)
                      by_cases c13 : x7_1.size + 6 ≤ 9223372036854775807
                      · rw [if_pos c13] at H
                        have c13b0 := eq_true c13
                        have c13b1 : decide (x7_1.size + 6 ≤ 9223372036854775807) = true := decide_eq_true c13
                        try have c13b2 : (9223372036854775807 < x7_1.size + 6) = False := eq_false (Nat.not_lt.2 c13)
                        have H' := Aside0.mk H
                        clear H
                        go_wp2
                        go_roundg k1
                        case measure => have := HK1.out; omega
                        case rel => exact ⟨(x5_1 ++ (⟨#[38, 97, 109, 112, 59]⟩ : ByteArray)), (x6_1 ++ (⟨#[38, 35, 51, 56, 59]⟩ : ByteArray)), (x7_1 ++ (⟨#[38, 35, 120, 50, 54, 59]⟩ : ByteArray)), (wrap64 (x8_1 + 1)), (by first | rfl | (simp; done) | (simp [*]; done) | (simp only [ByteArray.size_append, Int.natCast_add]; rfl)), (by first | rfl | (simp; done) | (simp [*]; done) | (simp only [ByteArray.size_append, Int.natCast_add]; rfl)), (by first | rfl | (simp; done) | (simp [*]; done) | (simp only [ByteArray.size_append, Int.natCast_add]; rfl)), (by first | rfl | (simp; done) | (simp [*]; done)), H', ⟨by have := HK1.out; omega⟩, ⟨by repeat (first | (with_reducible first | exact HB.out | apply below_alloc | apply pw_below_drewN | apply below_drew1) | exact HB.out)⟩⟩
                      · rw [if_neg c13] at H
                        exact absurd H (by simp)
                    · rw [if_neg c12] at H
                      exact absurd H (by simp)
                  · rw [if_neg c11] at H
                    exact absurd H (by simp)
                · rw [if_neg c10] at H
                  have c10b0 : ((a0.extract (x8_1 : Int).toNat ((wrap64 (x8_1 + 1)) : Int).toNat).toList == ([38] : List UInt8)) = false := beq_eq_false_iff_ne.mpr c10
                  have c10b1 : ((a0.extract (x8_1 : Int).toNat ((wrap64 (x8_1 + 1)) : Int).toNat).toList != ([38] : List UInt8)) = true := bne_iff_ne.mpr c10
                  by_cases c14 : x5_1.size + (a0.extract (x8_1 : Int).toNat ((wrap64 (x8_1 + 1)) : Int).toNat).size ≤ 9223372036854775807
                  · rw [if_pos c14] at H
                    have c14b0 := eq_true c14
                    have c14b1 : decide (x5_1.size + (a0.extract (x8_1 : Int).toNat ((wrap64 (x8_1 + 1)) : Int).toNat).size ≤ 9223372036854775807) = true := decide_eq_true c14
                    try have c14b2 : (9223372036854775807 < x5_1.size + (a0.extract (x8_1 : Int).toNat ((wrap64 (x8_1 + 1)) : Int).toNat).size) = False := eq_false (Nat.not_lt.2 c14)
                    by_cases c15 : x6_1.size + (a0.extract (x8_1 : Int).toNat ((wrap64 (x8_1 + 1)) : Int).toNat).size ≤ 9223372036854775807
                    · rw [if_pos c15] at H
                      have c15b0 := eq_true c15
                      have c15b1 : decide (x6_1.size + (a0.extract (x8_1 : Int).toNat ((wrap64 (x8_1 + 1)) : Int).toNat).size ≤ 9223372036854775807) = true := decide_eq_true c15
                      try have c15b2 : (9223372036854775807 < x6_1.size + (a0.extract (x8_1 : Int).toNat ((wrap64 (x8_1 + 1)) : Int).toNat).size) = False := eq_false (Nat.not_lt.2 c15)
                      by_cases c16 : x7_1.size + (a0.extract (x8_1 : Int).toNat ((wrap64 (x8_1 + 1)) : Int).toNat).size ≤ 9223372036854775807
                      · rw [if_pos c16] at H
                        have c16b0 := eq_true c16
                        have c16b1 : decide (x7_1.size + (a0.extract (x8_1 : Int).toNat ((wrap64 (x8_1 + 1)) : Int).toNat).size ≤ 9223372036854775807) = true := decide_eq_true c16
                        try have c16b2 : (9223372036854775807 < x7_1.size + (a0.extract (x8_1 : Int).toNat ((wrap64 (x8_1 + 1)) : Int).toNat).size) = False := eq_false (Nat.not_lt.2 c16)
                        have H' := Aside0.mk H
                        clear H
                        go_wp2
                        go_roundg k1
                        case measure => have := HK1.out; omega
                        case rel => exact ⟨(x5_1 ++ (a0.extract (x8_1 : Int).toNat ((wrap64 (x8_1 + 1)) : Int).toNat)), (x6_1 ++ (a0.extract (x8_1 : Int).toNat ((wrap64 (x8_1 + 1)) : Int).toNat)), (x7_1 ++ (a0.extract (x8_1 : Int).toNat ((wrap64 (x8_1 + 1)) : Int).toNat)), (wrap64 (x8_1 + 1)), (by first | rfl | (simp; done) | (simp [*]; done) | (simp only [ByteArray.size_append, Int.natCast_add]; rfl)), (by first | rfl | (simp; done) | (simp [*]; done) | (simp only [ByteArray.size_append, Int.natCast_add]; rfl)), (by first | rfl | (simp; done) | (simp [*]; done) | (simp only [ByteArray.size_append, Int.natCast_add]; rfl)), (by first | rfl | (simp; done) | (simp [*]; done)), H', ⟨by have := HK1.out; omega⟩, ⟨by repeat (first | (with_reducible first | exact HB.out | apply below_alloc | apply pw_below_drewN | apply below_drew1) | exact HB.out)⟩⟩
                      · rw [if_neg c16] at H
                        exact absurd H (by simp)
                    · rw [if_neg c15] at H
                      exact absurd H (by simp)
                  · rw [if_neg c14] at H
                    exact absurd H (by simp)
              · rw [if_neg c9] at H
                exact absurd H (by simp)
            · rw [if_neg c8] at H
              exact absurd H (by simp)
          · rw [if_neg c7] at H
            exact absurd H (by simp)
        · rw [if_neg c6] at H
          have c6b0 : decide (x8_1 < (a0.size : Int)) = false := decide_eq_false c6
          clear c6
          replace H := Option.bind_eq_some_iff.mp H
          obtain ⟨t205, A170, H⟩ := H
          replace H : (if t205 = true then ((charref_Decode.f k1 x5_1 a1).bind fun t206 => (if t206.toList = a0.toList then ((charref_Decode.f k1 x6_1 a1).bind fun t207 => (if t207.toList = a0.toList then ((charref_Decode.f k1 x7_1 a1).bind fun t208 => (some (t208.toList == a0.toList))) else (some false))) else (some false))) else (some false)) = some r := H
          have A17 := Aside0.mk A170
          clear A170
          by_cases c18 : t205 = true
          · subst c18
            have H1 : ((charref_Decode.f k1 x5_1 a1).bind fun t206 => (if t206.toList = a0.toList then ((charref_Decode.f k1 x6_1 a1).bind fun t207 => (if t207.toList = a0.toList then ((charref_Decode.f k1 x7_1 a1).bind fun t208 => (some (t208.toList == a0.toList))) else (some false))) else (some false))) = some r := by rw [if_pos rfl] at H; exact H
            clear H
            have H := H1
            clear H1
            replace H := Option.bind_eq_some_iff.mp H
            obtain ⟨t206, A190, H⟩ := H
            replace H : (if t206.toList = a0.toList then ((charref_Decode.f k1 x6_1 a1).bind fun t207 => (if t207.toList = a0.toList then ((charref_Decode.f k1 x7_1 a1).bind fun t208 => (some (t208.toList == a0.toList))) else (some false))) else (some false)) = some r := H
            have A19 := Aside0.mk A190
            clear A190
            by_cases c20 : t206.toList = a0.toList
            · rw [if_pos c20] at H
              have c20b0 : (t206.toList == a0.toList) = true := beq_iff_eq.mpr c20
              have c20b1 : (t206.toList != a0.toList) = false := bne_eq_false_iff_eq.mpr c20
              clear c20
              replace H := Option.bind_eq_some_iff.mp H
              obtain ⟨t207, A210, H⟩ := H
              replace H : (if t207.toList = a0.toList then ((charref_Decode.f k1 x7_1 a1).bind fun t208 => (some (t208.toList == a0.toList))) else (some false)) = some r := H
              have A21 := Aside0.mk A210
              clear A210
              by_cases c22 : t207.toList = a0.toList
              · rw [if_pos c22] at H
                have c22b0 : (t207.toList == a0.toList) = true := beq_iff_eq.mpr c22
                have c22b1 : (t207.toList != a0.toList) = false := bne_eq_false_iff_eq.mpr c22
                clear c22
                replace H := Option.bind_eq_some_iff.mp H
                obtain ⟨t208, A230, H⟩ := H
                replace H : (some (t208.toList == a0.toList)) = some r := H
                have A23 := Aside0.mk A230
                clear A230
                obtain rfl := Option.some.inj H
                go_wp2_with (first | ((with_reducible refine gate_callee (f := 20) rfl ?_); refine goesL_ (some 42) rfl rfl Try.func20 (by kernel_rfl) rfl #[] rfl (by (try simp only [List.map_toArray, List.map_cons, List.map_nil]); first | done | rfl | (simp only [List.length_drop, List.length_take]; rfl)) ?_; (with_reducible refine (marginalialaw03_alive.calls k1  true _ A17.out).mono ?_); rintro e w24 ⟨rfl, hb⟩; refine ⟨_, rfl, ?_⟩; have n0_ := Aside0.mk (below_step (by repeat (first | (with_reducible first | exact HB.out | apply below_alloc | apply pw_below_drewN | apply below_drew1) | exact HB.out)) hb); clear HB; have HB := n0_; clear n0_; (try clear hb); (try clear hb2); (try clear hk); (try clear hi)) | (go_at_call 27; (with_reducible refine (charref_Decode.calls k1 x5_1 a1 t206 _ A19.out).mono ?_); rintro e w25 ⟨rfl, hb⟩; have n0_ := Aside0.mk (below_step (by repeat (first | (with_reducible first | exact HB.out | apply below_alloc | apply pw_below_drewN | apply below_drew1) | exact HB.out)) hb); clear HB; have HB := n0_; clear n0_; (try clear hb); (try clear hb2); (try clear hk); (try clear hi)) | (go_at_call 27; (with_reducible refine (charref_Decode.calls k1 x6_1 a1 t207 _ A21.out).mono ?_); rintro e w26 ⟨rfl, hb⟩; have n0_ := Aside0.mk (below_step (by repeat (first | (with_reducible first | exact HB.out | apply below_alloc | apply pw_below_drewN | apply below_drew1) | exact HB.out)) hb); clear HB; have HB := n0_; clear n0_; (try clear hb); (try clear hb2); (try clear hk); (try clear hi)) | (go_at_call 27; (with_reducible refine (charref_Decode.calls k1 x7_1 a1 t208 _ A23.out).mono ?_); rintro e w27 ⟨rfl, hb⟩; have n0_ := Aside0.mk (below_step (by repeat (first | (with_reducible first | exact HB.out | apply below_alloc | apply pw_below_drewN | apply below_drew1) | exact HB.out)) hb); clear HB; have HB := n0_; clear n0_; (try clear hb); (try clear hb2); (try clear hk); (try clear hi)))
                go_ret
                exact ⟨by first | rfl | (simp [errW_none, errW_some] <;> rfl) | (simp [*, errW_none, errW_some] <;> rfl), by repeat (first | (with_reducible first | exact HB.out | apply below_alloc | apply pw_below_drewN | apply below_drew1) | exact HB.out)⟩
              · rw [if_neg c22] at H
                have c22b0 : (t207.toList == a0.toList) = false := beq_eq_false_iff_ne.mpr c22
                have c22b1 : (t207.toList != a0.toList) = true := bne_iff_ne.mpr c22
                obtain rfl := Option.some.inj H
                go_wp2_with (first | ((with_reducible refine gate_callee (f := 20) rfl ?_); refine goesL_ (some 42) rfl rfl Try.func20 (by kernel_rfl) rfl #[] rfl (by (try simp only [List.map_toArray, List.map_cons, List.map_nil]); first | done | rfl | (simp only [List.length_drop, List.length_take]; rfl)) ?_; (with_reducible refine (marginalialaw03_alive.calls k1  true _ A17.out).mono ?_); rintro e w28 ⟨rfl, hb⟩; refine ⟨_, rfl, ?_⟩; have n0_ := Aside0.mk (below_step (by repeat (first | (with_reducible first | exact HB.out | apply below_alloc | apply pw_below_drewN | apply below_drew1) | exact HB.out)) hb); clear HB; have HB := n0_; clear n0_; (try clear hb); (try clear hb2); (try clear hk); (try clear hi)) | (go_at_call 27; (with_reducible refine (charref_Decode.calls k1 x5_1 a1 t206 _ A19.out).mono ?_); rintro e w29 ⟨rfl, hb⟩; have n0_ := Aside0.mk (below_step (by repeat (first | (with_reducible first | exact HB.out | apply below_alloc | apply pw_below_drewN | apply below_drew1) | exact HB.out)) hb); clear HB; have HB := n0_; clear n0_; (try clear hb); (try clear hb2); (try clear hk); (try clear hi)) | (go_at_call 27; (with_reducible refine (charref_Decode.calls k1 x6_1 a1 t207 _ A21.out).mono ?_); rintro e w30 ⟨rfl, hb⟩; have n0_ := Aside0.mk (below_step (by repeat (first | (with_reducible first | exact HB.out | apply below_alloc | apply pw_below_drewN | apply below_drew1) | exact HB.out)) hb); clear HB; have HB := n0_; clear n0_; (try clear hb); (try clear hb2); (try clear hk); (try clear hi)))
                go_ret
                exact ⟨by first | rfl | (simp [errW_none, errW_some] <;> rfl) | (simp [*, errW_none, errW_some] <;> rfl), by repeat (first | (with_reducible first | exact HB.out | apply below_alloc | apply pw_below_drewN | apply below_drew1) | exact HB.out)⟩
            · rw [if_neg c20] at H
              have c20b0 : (t206.toList == a0.toList) = false := beq_eq_false_iff_ne.mpr c20
              have c20b1 : (t206.toList != a0.toList) = true := bne_iff_ne.mpr c20
              obtain rfl := Option.some.inj H
              go_wp2_with (first | ((with_reducible refine gate_callee (f := 20) rfl ?_); refine goesL_ (some 42) rfl rfl Try.func20 (by kernel_rfl) rfl #[] rfl (by (try simp only [List.map_toArray, List.map_cons, List.map_nil]); first | done | rfl | (simp only [List.length_drop, List.length_take]; rfl)) ?_; (with_reducible refine (marginalialaw03_alive.calls k1  true _ A17.out).mono ?_); rintro e w31 ⟨rfl, hb⟩; refine ⟨_, rfl, ?_⟩; have n0_ := Aside0.mk (below_step (by repeat (first | (with_reducible first | exact HB.out | apply below_alloc | apply pw_below_drewN | apply below_drew1) | exact HB.out)) hb); clear HB; have HB := n0_; clear n0_; (try clear hb); (try clear hb2); (try clear hk); (try clear hi)) | (go_at_call 27; (with_reducible refine (charref_Decode.calls k1 x5_1 a1 t206 _ A19.out).mono ?_); rintro e w32 ⟨rfl, hb⟩; have n0_ := Aside0.mk (below_step (by repeat (first | (with_reducible first | exact HB.out | apply below_alloc | apply pw_below_drewN | apply below_drew1) | exact HB.out)) hb); clear HB; have HB := n0_; clear n0_; (try clear hb); (try clear hb2); (try clear hk); (try clear hi)))
              go_ret
              exact ⟨by first | rfl | (simp [errW_none, errW_some] <;> rfl) | (simp [*, errW_none, errW_some] <;> rfl), by repeat (first | (with_reducible first | exact HB.out | apply below_alloc | apply pw_below_drewN | apply below_drew1) | exact HB.out)⟩
          · replace c18 := Bool.eq_false_iff.mpr c18
            subst c18
            have H1 : (some false) = some r := by rw [if_neg (show ¬ (false = true) by decide)] at H; exact H
            clear H
            have H := H1
            clear H1
            obtain rfl := Option.some.inj H
            go_wp2_with (first | ((with_reducible refine gate_callee (f := 20) rfl ?_); refine goesL_ (some 42) rfl rfl Try.func20 (by kernel_rfl) rfl #[] rfl (by (try simp only [List.map_toArray, List.map_cons, List.map_nil]); first | done | rfl | (simp only [List.length_drop, List.length_take]; rfl)) ?_; (with_reducible refine (marginalialaw03_alive.calls k1  false _ A17.out).mono ?_); rintro e w33 ⟨rfl, hb⟩; refine ⟨_, rfl, ?_⟩; have n0_ := Aside0.mk (below_step (by repeat (first | (with_reducible first | exact HB.out | apply below_alloc | apply pw_below_drewN | apply below_drew1) | exact HB.out)) hb); clear HB; have HB := n0_; clear n0_; (try clear hb); (try clear hb2); (try clear hk); (try clear hi)))
            go_ret
            exact ⟨by first | rfl | (simp [errW_none, errW_some] <;> rfl) | (simp [*, errW_none, errW_some] <;> rfl), by repeat (first | (with_reducible first | exact HB.out | apply below_alloc | apply pw_below_drewN | apply below_drew1) | exact HB.out)⟩

/-- THE ONE PURE STATEMENT of marginalialaw03_CharrefBack: yours. -/
def marginalialaw03_CharrefBack.Pure : Prop := ∀ (a0 : ByteArray) (a1 : Bool), a0.size ≤ 140737488351232 → ∃ k, marginalialaw03_CharrefBack.f k a0 a1 = some true
theorem marginalialaw03_CharrefBack.walk (P : marginalialaw03_CharrefBack.Pure) (a0 : ByteArray) (a1 : Bool) (w : World) (w0 : a0.size ≤ 140737488351232) :
    Calls Try.prog 10 #[.string a0, .bool a1] w fun e w' => e = .returned (.bool true) ∧ Below w.heap.size w w' := by
  obtain ⟨k, h⟩ := P a0 a1 w0
  refine (marginalialaw03_CharrefBack.calls k a0 a1 true w h).mono ?_
  rintro e w' ⟨rfl, hd⟩
  exact ⟨rfl, hd⟩

/-! ### marginalialaw03_CharrefParts: function 11 -/
def marginalialaw03_CharrefParts.j0 : Nat → ByteArray → ByteArray → Bool → Bool → Option (Bool)
  | 0, _, _, _, _ => none
  | k + 1, x0, x1, x2, x16 => if x16 = true then ((marginalialaw03_alive.f k).bind fun t209 => (some t209)) else ((charref_Decode.f k x0 x2).bind fun t210 => ((charref_Decode.f k x1 x2).bind fun t211 => ((marginalialaw03_alive.f k).bind fun t212 => (if t212 = true then (if x0.size + 1 ≤ 9223372036854775807 then (if x0.size + 1 + x1.size ≤ 9223372036854775807 then ((charref_Decode.f k ((x0 ++ (⟨#[32]⟩ : ByteArray)) ++ x1) x2).bind fun t213 => (if t210.size + 1 ≤ 9223372036854775807 then (if t210.size + 1 + t211.size ≤ 9223372036854775807 then (if t213.toList = ((t210 ++ (⟨#[32]⟩ : ByteArray)) ++ t211).toList then ((charref_Decode.f k ((x0 ++ (⟨#[60]⟩ : ByteArray)) ++ x1) x2).bind fun t214 => (some (t214.toList == ((t210 ++ (⟨#[60]⟩ : ByteArray)) ++ t211).toList))) else (some false)) else (none)) else (none))) else (none)) else (none)) else (some false)))))
def marginalialaw03_CharrefParts.f (k : Nat) (a0 : ByteArray) (a1 : ByteArray) (a2 : Bool) : Option (Bool) := if (a0.size : Int) > 200 then (marginalialaw03_CharrefParts.j0 k a0 a1 a2 true) else (marginalialaw03_CharrefParts.j0 k a0 a1 a2 (decide ((a1.size : Int) > 200)))
theorem marginalialaw03_CharrefParts.mono_l : ∀ k, (∀ y0 y1 y2 y3, LeO (marginalialaw03_CharrefParts.j0 k y0 y1 y2 y3) (marginalialaw03_CharrefParts.j0 (k + 1) y0 y1 y2 y3))
  | 0 => fun _ _ _ _ r h => by simp [marginalialaw03_CharrefParts.j0] at h
  | k + 1 => by
    have ih0 := marginalialaw03_CharrefParts.mono_l k
    · intro y0 y1 y2 y3
      unfold marginalialaw03_CharrefParts.j0
      repeat' first
      | (with_reducible exact ih0 _ _ _ _)
      | (with_reducible exact charref_Decode.mono _ _ _)
      | (with_reducible exact marginalialaw03_alive.mono _)
      | (with_reducible exact LeO.refl _)
      | (with_reducible exact LeO.none _)
      | (with_reducible refine LeO.ite ?_ ?_)
      | (with_reducible refine LeO.bind ?_ (fun _ => ?_))
      | exact ih0 _ _ _ _
      | exact charref_Decode.mono _ _ _
      | exact marginalialaw03_alive.mono _
      | exact LeO.none _
      | refine LeO.ite ?_ ?_
      | refine LeO.bind ?_ (fun _ => ?_)
theorem marginalialaw03_CharrefParts.mono : ∀ a0 a1 a2 k, LeO (marginalialaw03_CharrefParts.f k a0 a1 a2) (marginalialaw03_CharrefParts.f (k + 1) a0 a1 a2) := by
  intro a0 a1 a2 k
  have ih0 := marginalialaw03_CharrefParts.mono_l k
  unfold marginalialaw03_CharrefParts.f
  repeat' first
      | (with_reducible exact ih0 _ _ _ _)
      | (with_reducible exact charref_Decode.mono _ _ _)
      | (with_reducible exact marginalialaw03_alive.mono _)
      | (with_reducible exact LeO.refl _)
      | (with_reducible exact LeO.none _)
      | (with_reducible refine LeO.ite ?_ ?_)
      | (with_reducible refine LeO.bind ?_ (fun _ => ?_))
      | exact ih0 _ _ _ _
      | exact charref_Decode.mono _ _ _
      | exact marginalialaw03_alive.mono _
      | exact LeO.none _
      | refine LeO.ite ?_ ?_
      | refine LeO.bind ?_ (fun _ => ?_)
set_option maxHeartbeats 8000000 in
set_option maxRecDepth 100000 in
theorem marginalialaw03_CharrefParts.calls (k : Nat) (a0 : ByteArray) (a1 : ByteArray) (a2 : Bool) (r : Bool) (w : World) (h : marginalialaw03_CharrefParts.f k a0 a1 a2 = some r) :
    Calls Try.prog 11 #[.string a0, .string a1, .bool a2] w fun e w' => e = .returned (.bool r) ∧ Below w.heap.size w w' := by
  have HB := Aside0.mk (Below.refl w.heap.size w)
  have H : (if (a0.size : Int) > 200 then (marginalialaw03_CharrefParts.j0 k a0 a1 a2 true) else (marginalialaw03_CharrefParts.j0 k a0 a1 a2 (decide ((a1.size : Int) > 200)))) = some r := h
  clear h
  have HC4 := Aside0.mk H
  clear H
  go_enter Try.func11, Try.ntmps11
  go_upto_region 1 with (fail)
  go_cut [16] (fun v16 wc => ∃ (kq : Nat) (x16_3 : Bool), v16 = .bool x16_3 ∧ Aside0 (marginalialaw03_CharrefParts.j0 kq a0 a1 a2 x16_3 = some r) ∧ Aside0 (kq ≤ k) ∧ Aside0 (Below w.heap.size w wc))
  case first =>
    have H := HC4.out
    clear HC4
    by_cases c5 : (a0.size : Int) > 200
    · rw [if_pos c5] at H
      have c5b0 : decide (200 < (a0.size : Int)) = true := decide_eq_true c5
      have c5b1 : decide (200 < a0.size) = true := decide_eq_true (by omega)
      clear c5
      (first | rw [c5b0] | (simp only [i64_w, i32_w]; rw [c5b0]) | skip)
      have H' := Aside0.mk H
      clear H
      go_wp2
      go_meet
      case rel => exact ⟨_, (true), (by first | rfl | (simp; done) | (simp [*]; done)), H', ⟨by first | omega | exact Nat.le_refl _⟩, ⟨by repeat (first | (with_reducible first | exact HB.out | apply below_alloc | apply pw_below_drewN | apply below_drew1) | exact HB.out)⟩⟩
    · rw [if_neg c5] at H
      have c5b0 : decide (200 < (a0.size : Int)) = false := decide_eq_false c5
      have c5b1 : decide (200 < a0.size) = false := decide_eq_false (by omega)
      clear c5
      (first | rw [c5b0] | (simp only [i64_w, i32_w]; rw [c5b0]) | skip)
      have H' := Aside0.mk H
      clear H
      go_wp2
      go_meet
      case rel => exact ⟨_, (decide ((a1.size : Int) > 200)), (by first | rfl | (simp; done) | (simp [*]; done)), H', ⟨by first | omega | exact Nat.le_refl _⟩, ⟨by repeat (first | (with_reducible first | exact HB.out | apply below_alloc | apply pw_below_drewN | apply below_drew1) | exact HB.out)⟩⟩
  case rest =>
    clear HC4
    try clear c1
    try clear p2
    try clear c5
    try clear c5b0
    try clear c5b1
    obtain ⟨kq, x16_3, rfl, HA, HJ3, HB⟩ := hcut
    cases kq with
    | zero => exact absurd HA.out (by simp [marginalialaw03_CharrefParts.j0])
    | succ kj3 =>
      have H := HA.out
      clear HA
      simp only [marginalialaw03_CharrefParts.j0] at H
      by_cases c6 : x16_3 = true
      · subst c6
        have H1 : ((marginalialaw03_alive.f kj3).bind fun t209 => (some t209)) = some r := by rw [if_pos rfl] at H; exact H
        clear H
        have H := H1
        clear H1
        replace H := Option.bind_eq_some_iff.mp H
        obtain ⟨t209, A70, H⟩ := H
        replace H : (some t209) = some r := H
        have A7 := Aside0.mk A70
        clear A70
        obtain rfl := Option.some.inj H
        go_wp2_with (first | ((with_reducible refine gate_callee (f := 20) rfl ?_); refine goesL_ (some 17) rfl rfl Try.func20 (by kernel_rfl) rfl #[] rfl (by (try simp only [List.map_toArray, List.map_cons, List.map_nil]); first | done | rfl | (simp only [List.length_drop, List.length_take]; rfl)) ?_; (with_reducible refine (marginalialaw03_alive.calls kj3  t209 _ A7.out).mono ?_); rintro e w8 ⟨rfl, hb⟩; refine ⟨_, rfl, ?_⟩; have n0_ := Aside0.mk (below_step (by repeat (first | (with_reducible first | exact HB.out | apply below_alloc | apply pw_below_drewN | apply below_drew1) | exact HB.out)) hb); clear HB; have HB := n0_; clear n0_; (try clear hb); (try clear hb2); (try clear hk); (try clear hi)))
        go_ret
        exact ⟨by first | rfl | (simp [errW_none, errW_some] <;> rfl) | (simp [*, errW_none, errW_some] <;> rfl), by repeat (first | (with_reducible first | exact HB.out | apply below_alloc | apply pw_below_drewN | apply below_drew1) | exact HB.out)⟩
      · replace c6 := Bool.eq_false_iff.mpr c6
        subst c6
        have H1 : ((charref_Decode.f kj3 a0 a2).bind fun t210 => ((charref_Decode.f kj3 a1 a2).bind fun t211 => ((marginalialaw03_alive.f kj3).bind fun t212 => (if t212 = true then (if a0.size + 1 ≤ 9223372036854775807 then (if a0.size + 1 + a1.size ≤ 9223372036854775807 then ((charref_Decode.f kj3 ((a0 ++ (⟨#[32]⟩ : ByteArray)) ++ a1) a2).bind fun t213 => (if t210.size + 1 ≤ 9223372036854775807 then (if t210.size + 1 + t211.size ≤ 9223372036854775807 then (if t213.toList = ((t210 ++ (⟨#[32]⟩ : ByteArray)) ++ t211).toList then ((charref_Decode.f kj3 ((a0 ++ (⟨#[60]⟩ : ByteArray)) ++ a1) a2).bind fun t214 => (some (t214.toList == ((t210 ++ (⟨#[60]⟩ : ByteArray)) ++ t211).toList))) else (some false)) else (none)) else (none))) else (none)) else (none)) else (some false))))) = some r := by rw [if_neg (show ¬ (false = true) by decide)] at H; exact H
        clear H
        have H := H1
        clear H1
        replace H := Option.bind_eq_some_iff.mp H
        obtain ⟨t210, A90, H⟩ := H
        replace H : ((charref_Decode.f kj3 a1 a2).bind fun t211 => ((marginalialaw03_alive.f kj3).bind fun t212 => (if t212 = true then (if a0.size + 1 ≤ 9223372036854775807 then (if a0.size + 1 + a1.size ≤ 9223372036854775807 then ((charref_Decode.f kj3 ((a0 ++ (⟨#[32]⟩ : ByteArray)) ++ a1) a2).bind fun t213 => (if t210.size + 1 ≤ 9223372036854775807 then (if t210.size + 1 + t211.size ≤ 9223372036854775807 then (if t213.toList = ((t210 ++ (⟨#[32]⟩ : ByteArray)) ++ t211).toList then ((charref_Decode.f kj3 ((a0 ++ (⟨#[60]⟩ : ByteArray)) ++ a1) a2).bind fun t214 => (some (t214.toList == ((t210 ++ (⟨#[60]⟩ : ByteArray)) ++ t211).toList))) else (some false)) else (none)) else (none))) else (none)) else (none)) else (some false)))) = some r := H
        have A9 := Aside0.mk A90
        clear A90
        replace H := Option.bind_eq_some_iff.mp H
        obtain ⟨t211, A100, H⟩ := H
        replace H : ((marginalialaw03_alive.f kj3).bind fun t212 => (if t212 = true then (if a0.size + 1 ≤ 9223372036854775807 then (if a0.size + 1 + a1.size ≤ 9223372036854775807 then ((charref_Decode.f kj3 ((a0 ++ (⟨#[32]⟩ : ByteArray)) ++ a1) a2).bind fun t213 => (if t210.size + 1 ≤ 9223372036854775807 then (if t210.size + 1 + t211.size ≤ 9223372036854775807 then (if t213.toList = ((t210 ++ (⟨#[32]⟩ : ByteArray)) ++ t211).toList then ((charref_Decode.f kj3 ((a0 ++ (⟨#[60]⟩ : ByteArray)) ++ a1) a2).bind fun t214 => (some (t214.toList == ((t210 ++ (⟨#[60]⟩ : ByteArray)) ++ t211).toList))) else (some false)) else (none)) else (none))) else (none)) else (none)) else (some false))) = some r := H
        have A10 := Aside0.mk A100
        clear A100
        replace H := Option.bind_eq_some_iff.mp H
        obtain ⟨t212, A110, H⟩ := H
        replace H : (if t212 = true then (if a0.size + 1 ≤ 9223372036854775807 then (if a0.size + 1 + a1.size ≤ 9223372036854775807 then ((charref_Decode.f kj3 ((a0 ++ (⟨#[32]⟩ : ByteArray)) ++ a1) a2).bind fun t213 => (if t210.size + 1 ≤ 9223372036854775807 then (if t210.size + 1 + t211.size ≤ 9223372036854775807 then (if t213.toList = ((t210 ++ (⟨#[32]⟩ : ByteArray)) ++ t211).toList then ((charref_Decode.f kj3 ((a0 ++ (⟨#[60]⟩ : ByteArray)) ++ a1) a2).bind fun t214 => (some (t214.toList == ((t210 ++ (⟨#[60]⟩ : ByteArray)) ++ t211).toList))) else (some false)) else (none)) else (none))) else (none)) else (none)) else (some false)) = some r := H
        have A11 := Aside0.mk A110
        clear A110
        by_cases c12 : t212 = true
        · subst c12
          have H1 : (if a0.size + 1 ≤ 9223372036854775807 then (if a0.size + 1 + a1.size ≤ 9223372036854775807 then ((charref_Decode.f kj3 ((a0 ++ (⟨#[32]⟩ : ByteArray)) ++ a1) a2).bind fun t213 => (if t210.size + 1 ≤ 9223372036854775807 then (if t210.size + 1 + t211.size ≤ 9223372036854775807 then (if t213.toList = ((t210 ++ (⟨#[32]⟩ : ByteArray)) ++ t211).toList then ((charref_Decode.f kj3 ((a0 ++ (⟨#[60]⟩ : ByteArray)) ++ a1) a2).bind fun t214 => (some (t214.toList == ((t210 ++ (⟨#[60]⟩ : ByteArray)) ++ t211).toList))) else (some false)) else (none)) else (none))) else (none)) else (none)) = some r := by rw [if_pos rfl] at H; exact H
          clear H
          have H := H1
          clear H1
          by_cases c13 : a0.size + 1 ≤ 9223372036854775807
          · rw [if_pos c13] at H
            have c13b0 := eq_true c13
            have c13b1 : decide (a0.size + 1 ≤ 9223372036854775807) = true := decide_eq_true c13
            try have c13b2 : (9223372036854775807 < a0.size + 1) = False := eq_false (Nat.not_lt.2 c13)
            by_cases c14 : a0.size + 1 + a1.size ≤ 9223372036854775807
            · rw [if_pos c14] at H
              have c14b0 := eq_true c14
              have c14b1 : decide (a0.size + 1 + a1.size ≤ 9223372036854775807) = true := decide_eq_true c14
              try have c14b2 : (9223372036854775807 < a0.size + 1 + a1.size) = False := eq_false (Nat.not_lt.2 c14)
              replace H := Option.bind_eq_some_iff.mp H
              obtain ⟨t213, A150, H⟩ := H
              replace H : (if t210.size + 1 ≤ 9223372036854775807 then (if t210.size + 1 + t211.size ≤ 9223372036854775807 then (if t213.toList = ((t210 ++ (⟨#[32]⟩ : ByteArray)) ++ t211).toList then ((charref_Decode.f kj3 ((a0 ++ (⟨#[60]⟩ : ByteArray)) ++ a1) a2).bind fun t214 => (some (t214.toList == ((t210 ++ (⟨#[60]⟩ : ByteArray)) ++ t211).toList))) else (some false)) else (none)) else (none)) = some r := H
              have A15 := Aside0.mk A150
              clear A150
              by_cases c16 : t210.size + 1 ≤ 9223372036854775807
              · rw [if_pos c16] at H
                have c16b0 := eq_true c16
                have c16b1 : decide (t210.size + 1 ≤ 9223372036854775807) = true := decide_eq_true c16
                try have c16b2 : (9223372036854775807 < t210.size + 1) = False := eq_false (Nat.not_lt.2 c16)
                by_cases c17 : t210.size + 1 + t211.size ≤ 9223372036854775807
                · rw [if_pos c17] at H
                  have c17b0 := eq_true c17
                  have c17b1 : decide (t210.size + 1 + t211.size ≤ 9223372036854775807) = true := decide_eq_true c17
                  try have c17b2 : (9223372036854775807 < t210.size + 1 + t211.size) = False := eq_false (Nat.not_lt.2 c17)
                  by_cases c18 : t213.toList = ((t210 ++ (⟨#[32]⟩ : ByteArray)) ++ t211).toList
                  · rw [if_pos c18] at H
                    have c18b0 : (t213.toList == ((t210 ++ (⟨#[32]⟩ : ByteArray)) ++ t211).toList) = true := beq_iff_eq.mpr c18
                    have c18b1 : (t213.toList != ((t210 ++ (⟨#[32]⟩ : ByteArray)) ++ t211).toList) = false := bne_eq_false_iff_eq.mpr c18
                    clear c18
                    replace H := Option.bind_eq_some_iff.mp H
                    obtain ⟨t214, A190, H⟩ := H
                    replace H : (some (t214.toList == ((t210 ++ (⟨#[60]⟩ : ByteArray)) ++ t211).toList)) = some r := H
                    have A19 := Aside0.mk A190
                    clear A190
                    obtain rfl := Option.some.inj H
                    go_wp2_with (first | ((with_reducible refine gate_callee (f := 27) rfl ?_); refine goesL_ (some 20) rfl rfl Try.func27 (by kernel_rfl) rfl #[.string a0, .bool a2] rfl (by (try simp only [List.map_toArray, List.map_cons, List.map_nil]); first | done | rfl | (simp only [List.length_drop, List.length_take]; rfl)) ?_; (with_reducible refine (charref_Decode.calls kj3 a0 a2 t210 _ A9.out).mono ?_); rintro e w20 ⟨rfl, hb⟩; refine ⟨_, rfl, ?_⟩; have n0_ := Aside0.mk (below_step (by repeat (first | (with_reducible first | exact HB.out | apply below_alloc | apply pw_below_drewN | apply below_drew1) | exact HB.out)) hb); clear HB; have HB := n0_; clear n0_; (try clear hb); (try clear hb2); (try clear hk); (try clear hi)) | ((with_reducible refine gate_callee (f := 27) rfl ?_); refine goesL_ (some 23) rfl rfl Try.func27 (by kernel_rfl) rfl #[.string a1, .bool a2] rfl (by (try simp only [List.map_toArray, List.map_cons, List.map_nil]); first | done | rfl | (simp only [List.length_drop, List.length_take]; rfl)) ?_; (with_reducible refine (charref_Decode.calls kj3 a1 a2 t211 _ A10.out).mono ?_); rintro e w21 ⟨rfl, hb⟩; refine ⟨_, rfl, ?_⟩; have n0_ := Aside0.mk (below_step (by repeat (first | (with_reducible first | exact HB.out | apply below_alloc | apply pw_below_drewN | apply below_drew1) | exact HB.out)) hb); clear HB; have HB := n0_; clear n0_; (try clear hb); (try clear hb2); (try clear hk); (try clear hi)) | ((with_reducible refine gate_callee (f := 20) rfl ?_); refine goesL_ (some 24) rfl rfl Try.func20 (by kernel_rfl) rfl #[] rfl (by (try simp only [List.map_toArray, List.map_cons, List.map_nil]); first | done | rfl | (simp only [List.length_drop, List.length_take]; rfl)) ?_; (with_reducible refine (marginalialaw03_alive.calls kj3  true _ A11.out).mono ?_); rintro e w22 ⟨rfl, hb⟩; refine ⟨_, rfl, ?_⟩; have n0_ := Aside0.mk (below_step (by repeat (first | (with_reducible first | exact HB.out | apply below_alloc | apply pw_below_drewN | apply below_drew1) | exact HB.out)) hb); clear HB; have HB := n0_; clear n0_; (try clear hb); (try clear hb2); (try clear hk); (try clear hi)) | (go_at_call 27; (with_reducible refine (charref_Decode.calls kj3 ((a0 ++ (⟨#[32]⟩ : ByteArray)) ++ a1) a2 t213 _ A15.out).mono ?_); rintro e w23 ⟨rfl, hb⟩; have n0_ := Aside0.mk (below_step (by repeat (first | (with_reducible first | exact HB.out | apply below_alloc | apply pw_below_drewN | apply below_drew1) | exact HB.out)) hb); clear HB; have HB := n0_; clear n0_; (try clear hb); (try clear hb2); (try clear hk); (try clear hi)) | (go_at_call 27; (with_reducible refine (charref_Decode.calls kj3 ((a0 ++ (⟨#[60]⟩ : ByteArray)) ++ a1) a2 t214 _ A19.out).mono ?_); rintro e w24 ⟨rfl, hb⟩; have n0_ := Aside0.mk (below_step (by repeat (first | (with_reducible first | exact HB.out | apply below_alloc | apply pw_below_drewN | apply below_drew1) | exact HB.out)) hb); clear HB; have HB := n0_; clear n0_; (try clear hb); (try clear hb2); (try clear hk); (try clear hi)))
                    go_ret
                    exact ⟨by first | rfl | (simp [errW_none, errW_some] <;> rfl) | (simp [*, errW_none, errW_some] <;> rfl), by repeat (first | (with_reducible first | exact HB.out | apply below_alloc | apply pw_below_drewN | apply below_drew1) | exact HB.out)⟩
                  · rw [if_neg c18] at H
                    have c18b0 : (t213.toList == ((t210 ++ (⟨#[32]⟩ : ByteArray)) ++ t211).toList) = false := beq_eq_false_iff_ne.mpr c18
                    have c18b1 : (t213.toList != ((t210 ++ (⟨#[32]⟩ : ByteArray)) ++ t211).toList) = true := bne_iff_ne.mpr c18
                    obtain rfl := Option.some.inj H
                    go_wp2_with (first | ((with_reducible refine gate_callee (f := 27) rfl ?_); refine goesL_ (some 20) rfl rfl Try.func27 (by kernel_rfl) rfl #[.string a0, .bool a2] rfl (by (try simp only [List.map_toArray, List.map_cons, List.map_nil]); first | done | rfl | (simp only [List.length_drop, List.length_take]; rfl)) ?_; (with_reducible refine (charref_Decode.calls kj3 a0 a2 t210 _ A9.out).mono ?_); rintro e w25 ⟨rfl, hb⟩; refine ⟨_, rfl, ?_⟩; have n0_ := Aside0.mk (below_step (by repeat (first | (with_reducible first | exact HB.out | apply below_alloc | apply pw_below_drewN | apply below_drew1) | exact HB.out)) hb); clear HB; have HB := n0_; clear n0_; (try clear hb); (try clear hb2); (try clear hk); (try clear hi)) | ((with_reducible refine gate_callee (f := 27) rfl ?_); refine goesL_ (some 23) rfl rfl Try.func27 (by kernel_rfl) rfl #[.string a1, .bool a2] rfl (by (try simp only [List.map_toArray, List.map_cons, List.map_nil]); first | done | rfl | (simp only [List.length_drop, List.length_take]; rfl)) ?_; (with_reducible refine (charref_Decode.calls kj3 a1 a2 t211 _ A10.out).mono ?_); rintro e w26 ⟨rfl, hb⟩; refine ⟨_, rfl, ?_⟩; have n0_ := Aside0.mk (below_step (by repeat (first | (with_reducible first | exact HB.out | apply below_alloc | apply pw_below_drewN | apply below_drew1) | exact HB.out)) hb); clear HB; have HB := n0_; clear n0_; (try clear hb); (try clear hb2); (try clear hk); (try clear hi)) | ((with_reducible refine gate_callee (f := 20) rfl ?_); refine goesL_ (some 24) rfl rfl Try.func20 (by kernel_rfl) rfl #[] rfl (by (try simp only [List.map_toArray, List.map_cons, List.map_nil]); first | done | rfl | (simp only [List.length_drop, List.length_take]; rfl)) ?_; (with_reducible refine (marginalialaw03_alive.calls kj3  true _ A11.out).mono ?_); rintro e w27 ⟨rfl, hb⟩; refine ⟨_, rfl, ?_⟩; have n0_ := Aside0.mk (below_step (by repeat (first | (with_reducible first | exact HB.out | apply below_alloc | apply pw_below_drewN | apply below_drew1) | exact HB.out)) hb); clear HB; have HB := n0_; clear n0_; (try clear hb); (try clear hb2); (try clear hk); (try clear hi)) | (go_at_call 27; (with_reducible refine (charref_Decode.calls kj3 ((a0 ++ (⟨#[32]⟩ : ByteArray)) ++ a1) a2 t213 _ A15.out).mono ?_); rintro e w28 ⟨rfl, hb⟩; have n0_ := Aside0.mk (below_step (by repeat (first | (with_reducible first | exact HB.out | apply below_alloc | apply pw_below_drewN | apply below_drew1) | exact HB.out)) hb); clear HB; have HB := n0_; clear n0_; (try clear hb); (try clear hb2); (try clear hk); (try clear hi)))
                    go_ret
                    exact ⟨by first | rfl | (simp [errW_none, errW_some] <;> rfl) | (simp [*, errW_none, errW_some] <;> rfl), by repeat (first | (with_reducible first | exact HB.out | apply below_alloc | apply pw_below_drewN | apply below_drew1) | exact HB.out)⟩
                · rw [if_neg c17] at H
                  exact absurd H (by simp)
              · rw [if_neg c16] at H
                exact absurd H (by simp)
            · rw [if_neg c14] at H
              exact absurd H (by simp)
          · rw [if_neg c13] at H
            exact absurd H (by simp)
        · replace c12 := Bool.eq_false_iff.mpr c12
          subst c12
          have H1 : (some false) = some r := by rw [if_neg (show ¬ (false = true) by decide)] at H; exact H
          clear H
          have H := H1
          clear H1
          obtain rfl := Option.some.inj H
          go_wp2_with (first | ((with_reducible refine gate_callee (f := 27) rfl ?_); refine goesL_ (some 20) rfl rfl Try.func27 (by kernel_rfl) rfl #[.string a0, .bool a2] rfl (by (try simp only [List.map_toArray, List.map_cons, List.map_nil]); first | done | rfl | (simp only [List.length_drop, List.length_take]; rfl)) ?_; (with_reducible refine (charref_Decode.calls kj3 a0 a2 t210 _ A9.out).mono ?_); rintro e w29 ⟨rfl, hb⟩; refine ⟨_, rfl, ?_⟩; have n0_ := Aside0.mk (below_step (by repeat (first | (with_reducible first | exact HB.out | apply below_alloc | apply pw_below_drewN | apply below_drew1) | exact HB.out)) hb); clear HB; have HB := n0_; clear n0_; (try clear hb); (try clear hb2); (try clear hk); (try clear hi)) | ((with_reducible refine gate_callee (f := 27) rfl ?_); refine goesL_ (some 23) rfl rfl Try.func27 (by kernel_rfl) rfl #[.string a1, .bool a2] rfl (by (try simp only [List.map_toArray, List.map_cons, List.map_nil]); first | done | rfl | (simp only [List.length_drop, List.length_take]; rfl)) ?_; (with_reducible refine (charref_Decode.calls kj3 a1 a2 t211 _ A10.out).mono ?_); rintro e w30 ⟨rfl, hb⟩; refine ⟨_, rfl, ?_⟩; have n0_ := Aside0.mk (below_step (by repeat (first | (with_reducible first | exact HB.out | apply below_alloc | apply pw_below_drewN | apply below_drew1) | exact HB.out)) hb); clear HB; have HB := n0_; clear n0_; (try clear hb); (try clear hb2); (try clear hk); (try clear hi)) | ((with_reducible refine gate_callee (f := 20) rfl ?_); refine goesL_ (some 24) rfl rfl Try.func20 (by kernel_rfl) rfl #[] rfl (by (try simp only [List.map_toArray, List.map_cons, List.map_nil]); first | done | rfl | (simp only [List.length_drop, List.length_take]; rfl)) ?_; (with_reducible refine (marginalialaw03_alive.calls kj3  false _ A11.out).mono ?_); rintro e w31 ⟨rfl, hb⟩; refine ⟨_, rfl, ?_⟩; have n0_ := Aside0.mk (below_step (by repeat (first | (with_reducible first | exact HB.out | apply below_alloc | apply pw_below_drewN | apply below_drew1) | exact HB.out)) hb); clear HB; have HB := n0_; clear n0_; (try clear hb); (try clear hb2); (try clear hk); (try clear hi)))
          go_ret
          exact ⟨by first | rfl | (simp [errW_none, errW_some] <;> rfl) | (simp [*, errW_none, errW_some] <;> rfl), by repeat (first | (with_reducible first | exact HB.out | apply below_alloc | apply pw_below_drewN | apply below_drew1) | exact HB.out)⟩

/-- THE ONE PURE STATEMENT of marginalialaw03_CharrefParts: yours. -/
def marginalialaw03_CharrefParts.Pure : Prop := ∀ (a0 : ByteArray) (a1 : ByteArray) (a2 : Bool), a0.size ≤ 140737488351232 → a1.size ≤ 140737488351232 → ∃ k, marginalialaw03_CharrefParts.f k a0 a1 a2 = some true
theorem marginalialaw03_CharrefParts.walk (P : marginalialaw03_CharrefParts.Pure) (a0 : ByteArray) (a1 : ByteArray) (a2 : Bool) (w : World) (w0 : a0.size ≤ 140737488351232) (w1 : a1.size ≤ 140737488351232) :
    Calls Try.prog 11 #[.string a0, .string a1, .bool a2] w fun e w' => e = .returned (.bool true) ∧ Below w.heap.size w w' := by
  obtain ⟨k, h⟩ := P a0 a1 a2 w0 w1
  refine (marginalialaw03_CharrefParts.calls k a0 a1 a2 true w h).mono ?_
  rintro e w' ⟨rfl, hd⟩
  exact ⟨rfl, hd⟩

/-! ### marginalialaw03_CharrefOne: function 12 -/
mutual
def marginalialaw03_CharrefOne.j0 : Nat → ByteArray → Int → ByteArray → Int → Bool → Option (Bool)
  | 0, _, _, _, _, _ => none
  | k + 1, x0, x1, x7, x8, x33 => if x33 = true then ((marginalialaw03_alive.f k).bind fun t218 => (if t218 = true then (if x7.toList = ([] : List UInt8) then (some (x8 == 0)) else (some false)) else (some false))) else (if x8 < 1 then (marginalialaw03_CharrefOne.j1 k x0 x1 x7 x8 true) else (if x8 > (wrap64 ((x0.size : Int) - x1)) then (marginalialaw03_CharrefOne.j1 k x0 x1 x7 x8 true) else (marginalialaw03_CharrefOne.j1 k x0 x1 x7 x8 (x7.toList == ([] : List UInt8)))))
def marginalialaw03_CharrefOne.j1 : Nat → ByteArray → Int → ByteArray → Int → Bool → Option (Bool)
  | 0, _, _, _, _, _ => none
  | k + 1, x0, x1, x7, x8, x56 => if x56 = true then (some false) else ((marginalialaw03_alive.f k).bind fun t219 => (if t219 = true then (if 0 ≤ x1 then (if x1 ≤ (wrap64 (x1 + x8)) then (if (wrap64 (x1 + x8)) ≤ (x0.size : Int) then ((charref_Decode.f k (x0.extract (x1 : Int).toNat ((wrap64 (x1 + x8)) : Int).toNat) false).bind fun t220 => (some (t220.toList == x7.toList))) else (none)) else (none)) else (none)) else (some false)))
end
def marginalialaw03_CharrefOne.f (k : Nat) (a0 : ByteArray) (a1 : Int) (a2 : Bool) : Option (Bool) := if (a0.size : Int) > 200 then ((marginalialaw03_alive.f k).bind fun t215 => (some t215)) else ((charref_At.f k a0 a1 a2).bind fun bt216 => (if a1 < 0 then (marginalialaw03_CharrefOne.j0 k a0 a1 bt216.1 bt216.2 true) else (if a1 ≥ (a0.size : Int) then (marginalialaw03_CharrefOne.j0 k a0 a1 bt216.1 bt216.2 true) else (if 0 ≤ a1 then (if a1 < (a0.size : Int) then (marginalialaw03_CharrefOne.j0 k a0 a1 bt216.1 bt216.2 ((bt a0 a1) != 38)) else (none)) else (none)))))
theorem marginalialaw03_CharrefOne.mono_l : ∀ k, (∀ y0 y1 y2 y3 y4, LeO (marginalialaw03_CharrefOne.j0 k y0 y1 y2 y3 y4) (marginalialaw03_CharrefOne.j0 (k + 1) y0 y1 y2 y3 y4)) ∧ (∀ y0 y1 y2 y3 y4, LeO (marginalialaw03_CharrefOne.j1 k y0 y1 y2 y3 y4) (marginalialaw03_CharrefOne.j1 (k + 1) y0 y1 y2 y3 y4))
  | 0 => ⟨fun _ _ _ _ _ r h => by simp [marginalialaw03_CharrefOne.j0] at h, fun _ _ _ _ _ r h => by simp [marginalialaw03_CharrefOne.j1] at h⟩
  | k + 1 => by
    obtain ⟨ih0, ih1⟩ := marginalialaw03_CharrefOne.mono_l k
    refine ⟨?_, ?_⟩
    · intro y0 y1 y2 y3 y4
      unfold marginalialaw03_CharrefOne.j0
      repeat' first
      | (with_reducible exact ih0 _ _ _ _ _)
      | (with_reducible exact ih1 _ _ _ _ _)
      | (with_reducible exact charref_At.mono _ _ _ _)
      | (with_reducible exact charref_Decode.mono _ _ _)
      | (with_reducible exact marginalialaw03_alive.mono _)
      | (with_reducible exact LeO.refl _)
      | (with_reducible exact LeO.none _)
      | (with_reducible refine LeO.ite ?_ ?_)
      | (with_reducible refine LeO.bind ?_ (fun _ => ?_))
      | exact ih0 _ _ _ _ _
      | exact ih1 _ _ _ _ _
      | exact charref_At.mono _ _ _ _
      | exact charref_Decode.mono _ _ _
      | exact marginalialaw03_alive.mono _
      | exact LeO.none _
      | refine LeO.ite ?_ ?_
      | refine LeO.bind ?_ (fun _ => ?_)
    · intro y0 y1 y2 y3 y4
      unfold marginalialaw03_CharrefOne.j1
      repeat' first
      | (with_reducible exact ih0 _ _ _ _ _)
      | (with_reducible exact ih1 _ _ _ _ _)
      | (with_reducible exact charref_At.mono _ _ _ _)
      | (with_reducible exact charref_Decode.mono _ _ _)
      | (with_reducible exact marginalialaw03_alive.mono _)
      | (with_reducible exact LeO.refl _)
      | (with_reducible exact LeO.none _)
      | (with_reducible refine LeO.ite ?_ ?_)
      | (with_reducible refine LeO.bind ?_ (fun _ => ?_))
      | exact ih0 _ _ _ _ _
      | exact ih1 _ _ _ _ _
      | exact charref_At.mono _ _ _ _
      | exact charref_Decode.mono _ _ _
      | exact marginalialaw03_alive.mono _
      | exact LeO.none _
      | refine LeO.ite ?_ ?_
      | refine LeO.bind ?_ (fun _ => ?_)
theorem marginalialaw03_CharrefOne.mono : ∀ a0 a1 a2 k, LeO (marginalialaw03_CharrefOne.f k a0 a1 a2) (marginalialaw03_CharrefOne.f (k + 1) a0 a1 a2) := by
  intro a0 a1 a2 k
  obtain ⟨ih0, ih1⟩ := marginalialaw03_CharrefOne.mono_l k
  unfold marginalialaw03_CharrefOne.f
  repeat' first
      | (with_reducible exact ih0 _ _ _ _ _)
      | (with_reducible exact ih1 _ _ _ _ _)
      | (with_reducible exact charref_At.mono _ _ _ _)
      | (with_reducible exact charref_Decode.mono _ _ _)
      | (with_reducible exact marginalialaw03_alive.mono _)
      | (with_reducible exact LeO.refl _)
      | (with_reducible exact LeO.none _)
      | (with_reducible refine LeO.ite ?_ ?_)
      | (with_reducible refine LeO.bind ?_ (fun _ => ?_))
      | exact ih0 _ _ _ _ _
      | exact ih1 _ _ _ _ _
      | exact charref_At.mono _ _ _ _
      | exact charref_Decode.mono _ _ _
      | exact marginalialaw03_alive.mono _
      | exact LeO.none _
      | refine LeO.ite ?_ ?_
      | refine LeO.bind ?_ (fun _ => ?_)
set_option maxHeartbeats 8000000 in
set_option maxRecDepth 100000 in
theorem marginalialaw03_CharrefOne.calls (k : Nat) (a0 : ByteArray) (a1 : Int) (a2 : Bool) (r : Bool) (w : World) (h : marginalialaw03_CharrefOne.f k a0 a1 a2 = some r) :
    Calls Try.prog 12 #[.string a0, .int .i64 a1, .bool a2] w fun e w' => e = .returned (.bool r) ∧ Below w.heap.size w w' := by
  have HB := Aside0.mk (Below.refl w.heap.size w)
  have H : (if (a0.size : Int) > 200 then ((marginalialaw03_alive.f k).bind fun t215 => (some t215)) else ((charref_At.f k a0 a1 a2).bind fun bt216 => (if a1 < 0 then (marginalialaw03_CharrefOne.j0 k a0 a1 bt216.1 bt216.2 true) else (if a1 ≥ (a0.size : Int) then (marginalialaw03_CharrefOne.j0 k a0 a1 bt216.1 bt216.2 true) else (if 0 ≤ a1 then (if a1 < (a0.size : Int) then (marginalialaw03_CharrefOne.j0 k a0 a1 bt216.1 bt216.2 ((bt a0 a1) != 38)) else (none)) else (none)))))) = some r := h
  clear h
  by_cases c4 : (a0.size : Int) > 200
  · rw [if_pos c4] at H
    have c4b0 : decide (200 < (a0.size : Int)) = true := decide_eq_true c4
    have c4b1 : decide (200 < a0.size) = true := decide_eq_true (by omega)
    clear c4
    replace H := Option.bind_eq_some_iff.mp H
    obtain ⟨t215, A50, H⟩ := H
    replace H : (some t215) = some r := H
    have A5 := Aside0.mk A50
    clear A50
    obtain rfl := Option.some.inj H
    go_enter Try.func12, Try.ntmps12
    go_wp2_with (first | ((with_reducible refine gate_callee (f := 20) rfl ?_); refine goesL_ (some 12) rfl rfl Try.func20 (by kernel_rfl) rfl #[] rfl (by (try simp only [List.map_toArray, List.map_cons, List.map_nil]); first | done | rfl | (simp only [List.length_drop, List.length_take]; rfl)) ?_; (with_reducible refine (marginalialaw03_alive.calls k  t215 _ A5.out).mono ?_); rintro e w6 ⟨rfl, hb⟩; refine ⟨_, rfl, ?_⟩; have n0_ := Aside0.mk (below_step (by repeat (first | (with_reducible first | exact HB.out | apply below_alloc | apply pw_below_drewN | apply below_drew1) | exact HB.out)) hb); clear HB; have HB := n0_; clear n0_; (try clear hb); (try clear hb2); (try clear hk); (try clear hi)))
    go_ret
    exact ⟨by first | rfl | (simp [errW_none, errW_some] <;> rfl) | (simp [*, errW_none, errW_some] <;> rfl), by repeat (first | (with_reducible first | exact HB.out | apply below_alloc | apply pw_below_drewN | apply below_drew1) | exact HB.out)⟩
  · rw [if_neg c4] at H
    have c4b0 : decide (200 < (a0.size : Int)) = false := decide_eq_false c4
    have c4b1 : decide (200 < a0.size) = false := decide_eq_false (by omega)
    clear c4
    replace H := Option.bind_eq_some_iff.mp H
    obtain ⟨⟨t216, t217⟩, A70, H⟩ := H
    replace H : (if a1 < 0 then (marginalialaw03_CharrefOne.j0 k a0 a1 t216 t217 true) else (if a1 ≥ (a0.size : Int) then (marginalialaw03_CharrefOne.j0 k a0 a1 t216 t217 true) else (if 0 ≤ a1 then (if a1 < (a0.size : Int) then (marginalialaw03_CharrefOne.j0 k a0 a1 t216 t217 ((bt a0 a1) != 38)) else (none)) else (none)))) = some r := H
    have A7 := Aside0.mk A70
    clear A70
    have HC8 := Aside0.mk H
    clear H
    go_enter Try.func12, Try.ntmps12
    go_upto_region 4 with (first | ((with_reducible refine gate_callee (f := 25) rfl ?_); refine goesL_ (some 17) rfl rfl Try.func25 (by kernel_rfl) rfl #[.string a0, .int .i64 a1, .bool a2] rfl (by (try simp only [List.map_toArray, List.map_cons, List.map_nil]); first | done | rfl | (simp only [List.length_drop, List.length_take]; rfl)) ?_; (with_reducible refine (charref_At.calls k a0 a1 a2 t216 t217 _ A7.out).mono ?_); rintro e w9 ⟨rfl, hb⟩; refine ⟨_, rfl, ?_⟩; have n0_ := Aside0.mk (below_step (by repeat (first | (with_reducible first | exact HB.out | apply below_alloc | apply pw_below_drewN | apply below_drew1) | exact HB.out)) hb); clear HB; have HB := n0_; clear n0_; (try clear hb); (try clear hb2); (try clear hk); (try clear hi)))
    (try simp only [Act.put, List.setIfInBounds_toArray, List.set_cons_zero, List.set_cons_succ])
    go_cut [33] (fun v33 wc => ∃ (kq : Nat) (x33_7 : Bool), v33 = .bool x33_7 ∧ Aside0 (marginalialaw03_CharrefOne.j0 kq a0 a1 t216 t217 x33_7 = some r) ∧ Aside0 (kq ≤ k) ∧ Aside0 (Below w.heap.size w wc))
    case first =>
      have H := HC8.out
      clear HC8
      by_cases c10 : a1 < 0
      · rw [if_pos c10] at H
        have c10b0 : decide (a1 < 0) = true := decide_eq_true c10
        clear c10
        (first | rw [c10b0] | (simp only [i64_w, i32_w]; rw [c10b0]) | skip)
        have H' := Aside0.mk H
        clear H
        go_wp2
        go_meet
        case rel => exact ⟨_, (true), (by first | rfl | (simp; done) | (simp [*]; done)), H', ⟨by first | omega | exact Nat.le_refl _⟩, ⟨by repeat (first | (with_reducible first | exact HB.out | apply below_alloc | apply pw_below_drewN | apply below_drew1) | exact HB.out)⟩⟩
      · rw [if_neg c10] at H
        have c10b0 : decide (a1 < 0) = false := decide_eq_false c10
        clear c10
        (first | rw [c10b0] | (simp only [i64_w, i32_w]; rw [c10b0]) | skip)
        by_cases c11 : a1 ≥ (a0.size : Int)
        · rw [if_pos c11] at H
          have c11b0 : decide ((a0.size : Int) ≤ a1) = true := decide_eq_true c11
          clear c11
          have H' := Aside0.mk H
          clear H
          go_wp2
          go_meet
          case rel => exact ⟨_, (true), (by first | rfl | (simp; done) | (simp [*]; done)), H', ⟨by first | omega | exact Nat.le_refl _⟩, ⟨by repeat (first | (with_reducible first | exact HB.out | apply below_alloc | apply pw_below_drewN | apply below_drew1) | exact HB.out)⟩⟩
        · rw [if_neg c11] at H
          have c11b0 : decide ((a0.size : Int) ≤ a1) = false := decide_eq_false c11
          clear c11
          by_cases c12 : 0 ≤ a1
          · rw [if_pos c12] at H
            have c12b0 : decide (0 ≤ a1) = true := decide_eq_true c12
            clear c12
            by_cases c13 : a1 < (a0.size : Int)
            · rw [if_pos c13] at H
              have c13b0 : decide (a1 < (a0.size : Int)) = true := decide_eq_true c13
              clear c13
              have H' := Aside0.mk H
              clear H
              have p14 : 0 ≤ (a1 : Int) := of_decide_eq_true (by first | (with_reducible assumption) | assumption)
              have q14 : a1 < (a0.size : Int) := of_decide_eq_true (by first | (with_reducible assumption) | assumption)
              have hx14 := bt_at a0 a1
              replace p14 := eq_true p14
              replace q14 := eq_true q14
              go_wp2
              go_meet
              case rel => exact ⟨_, (((bt a0 a1) != 38)), (by first | rfl | (simp; done) | (simp [*]; done)), H', ⟨by first | omega | exact Nat.le_refl _⟩, ⟨by repeat (first | (with_reducible first | exact HB.out | apply below_alloc | apply pw_below_drewN | apply below_drew1) | exact HB.out)⟩⟩
            · rw [if_neg c13] at H
              exact absurd H (by simp)
          · rw [if_neg c12] at H
            exact absurd H (by simp)
    case rest =>
      clear HC8
      try clear c1
      try clear p1
      try clear q1
      try clear hx1
      try clear c2
      try clear p2
      try clear c4
      try clear c4b0
      try clear c4b1
      try clear c10
      try clear c10b0
      try clear c11
      try clear c11b0
      try clear c12
      try clear c12b0
      try clear c13
      try clear c13b0
      try clear p14
      try clear q14
      try clear hx14
      try clear p14
      try clear q14
      obtain ⟨kq, x33_7, rfl, HA, HJ7, HB⟩ := hcut
      cases kq with
      | zero => exact absurd HA.out (by simp [marginalialaw03_CharrefOne.j0])
      | succ kj7 =>
        have H := HA.out
        clear HA
        simp only [marginalialaw03_CharrefOne.j0] at H
        by_cases c15 : x33_7 = true
        · subst c15
          have H1 : ((marginalialaw03_alive.f kj7).bind fun t218 => (if t218 = true then (if t216.toList = ([] : List UInt8) then (some (t217 == 0)) else (some false)) else (some false))) = some r := by rw [if_pos rfl] at H; exact H
          clear H
          have H := H1
          clear H1
          replace H := Option.bind_eq_some_iff.mp H
          obtain ⟨t218, A160, H⟩ := H
          replace H : (if t218 = true then (if t216.toList = ([] : List UInt8) then (some (t217 == 0)) else (some false)) else (some false)) = some r := H
          have A16 := Aside0.mk A160
          clear A160
          by_cases c17 : t218 = true
          · subst c17
            have H1 : (if t216.toList = ([] : List UInt8) then (some (t217 == 0)) else (some false)) = some r := by rw [if_pos rfl] at H; exact H
            clear H
            have H := H1
            clear H1
            by_cases c18 : t216.toList = ([] : List UInt8)
            · rw [if_pos c18] at H
              have c18b0 : (t216.toList == ([] : List UInt8)) = true := beq_iff_eq.mpr c18
              have c18b1 : (t216.toList != ([] : List UInt8)) = false := bne_eq_false_iff_eq.mpr c18
              clear c18
              obtain rfl := Option.some.inj H
              go_wp2_with (first | ((with_reducible refine gate_callee (f := 20) rfl ?_); refine goesL_ (some 34) rfl rfl Try.func20 (by kernel_rfl) rfl #[] rfl (by (try simp only [List.map_toArray, List.map_cons, List.map_nil]); first | done | rfl | (simp only [List.length_drop, List.length_take]; rfl)) ?_; (with_reducible refine (marginalialaw03_alive.calls kj7  true _ A16.out).mono ?_); rintro e w19 ⟨rfl, hb⟩; refine ⟨_, rfl, ?_⟩; have n0_ := Aside0.mk (below_step (by repeat (first | (with_reducible first | exact HB.out | apply below_alloc | apply pw_below_drewN | apply below_drew1) | exact HB.out)) hb); clear HB; have HB := n0_; clear n0_; (try clear hb); (try clear hb2); (try clear hk); (try clear hi)))
              go_ret
              exact ⟨by first | rfl | (simp [errW_none, errW_some] <;> rfl) | (simp [*, errW_none, errW_some] <;> rfl), by repeat (first | (with_reducible first | exact HB.out | apply below_alloc | apply pw_below_drewN | apply below_drew1) | exact HB.out)⟩
            · rw [if_neg c18] at H
              have c18b0 : (t216.toList == ([] : List UInt8)) = false := beq_eq_false_iff_ne.mpr c18
              have c18b1 : (t216.toList != ([] : List UInt8)) = true := bne_iff_ne.mpr c18
              obtain rfl := Option.some.inj H
              go_wp2_with (first | ((with_reducible refine gate_callee (f := 20) rfl ?_); refine goesL_ (some 34) rfl rfl Try.func20 (by kernel_rfl) rfl #[] rfl (by (try simp only [List.map_toArray, List.map_cons, List.map_nil]); first | done | rfl | (simp only [List.length_drop, List.length_take]; rfl)) ?_; (with_reducible refine (marginalialaw03_alive.calls kj7  true _ A16.out).mono ?_); rintro e w20 ⟨rfl, hb⟩; refine ⟨_, rfl, ?_⟩; have n0_ := Aside0.mk (below_step (by repeat (first | (with_reducible first | exact HB.out | apply below_alloc | apply pw_below_drewN | apply below_drew1) | exact HB.out)) hb); clear HB; have HB := n0_; clear n0_; (try clear hb); (try clear hb2); (try clear hk); (try clear hi)))
              go_ret
              exact ⟨by first | rfl | (simp [errW_none, errW_some] <;> rfl) | (simp [*, errW_none, errW_some] <;> rfl), by repeat (first | (with_reducible first | exact HB.out | apply below_alloc | apply pw_below_drewN | apply below_drew1) | exact HB.out)⟩
          · replace c17 := Bool.eq_false_iff.mpr c17
            subst c17
            have H1 : (some false) = some r := by rw [if_neg (show ¬ (false = true) by decide)] at H; exact H
            clear H
            have H := H1
            clear H1
            obtain rfl := Option.some.inj H
            go_wp2_with (first | ((with_reducible refine gate_callee (f := 20) rfl ?_); refine goesL_ (some 34) rfl rfl Try.func20 (by kernel_rfl) rfl #[] rfl (by (try simp only [List.map_toArray, List.map_cons, List.map_nil]); first | done | rfl | (simp only [List.length_drop, List.length_take]; rfl)) ?_; (with_reducible refine (marginalialaw03_alive.calls kj7  false _ A16.out).mono ?_); rintro e w21 ⟨rfl, hb⟩; refine ⟨_, rfl, ?_⟩; have n0_ := Aside0.mk (below_step (by repeat (first | (with_reducible first | exact HB.out | apply below_alloc | apply pw_below_drewN | apply below_drew1) | exact HB.out)) hb); clear HB; have HB := n0_; clear n0_; (try clear hb); (try clear hb2); (try clear hk); (try clear hi)))
            go_ret
            exact ⟨by first | rfl | (simp [errW_none, errW_some] <;> rfl) | (simp [*, errW_none, errW_some] <;> rfl), by repeat (first | (with_reducible first | exact HB.out | apply below_alloc | apply pw_below_drewN | apply below_drew1) | exact HB.out)⟩
        · replace c15 := Bool.eq_false_iff.mpr c15
          subst c15
          have H1 : (if t217 < 1 then (marginalialaw03_CharrefOne.j1 kj7 a0 a1 t216 t217 true) else (if t217 > (wrap64 ((a0.size : Int) - a1)) then (marginalialaw03_CharrefOne.j1 kj7 a0 a1 t216 t217 true) else (marginalialaw03_CharrefOne.j1 kj7 a0 a1 t216 t217 (t216.toList == ([] : List UInt8))))) = some r := by rw [if_neg (show ¬ (false = true) by decide)] at H; exact H
          clear H
          have H := H1
          clear H1
          have HC22 := Aside0.mk H
          clear H
          go_upto_region 6 with (fail)
          go_cut [56] (fun v56 wc => ∃ (kq : Nat) (x56_21 : Bool), v56 = .bool x56_21 ∧ Aside0 (marginalialaw03_CharrefOne.j1 kq a0 a1 t216 t217 x56_21 = some r) ∧ Aside0 (kq ≤ kj7) ∧ Aside0 (Below w.heap.size w wc))
          case first =>
            have H := HC22.out
            clear HC22
            by_cases c23 : t217 < 1
            · rw [if_pos c23] at H
              have c23b0 : decide (t217 < 1) = true := decide_eq_true c23
              clear c23
              (first | rw [c23b0] | (simp only [i64_w, i32_w]; rw [c23b0]) | skip)
              have H' := Aside0.mk H
              clear H
              go_wp2
              go_meet
              case rel => exact ⟨_, (true), (by first | rfl | (simp; done) | (simp [*]; done)), H', ⟨by have := HJ7.out; first | omega | exact Nat.le_refl _⟩, ⟨by repeat (first | (with_reducible first | exact HB.out | apply below_alloc | apply pw_below_drewN | apply below_drew1) | exact HB.out)⟩⟩
            · rw [if_neg c23] at H
              have c23b0 : decide (t217 < 1) = false := decide_eq_false c23
              clear c23
              (first | rw [c23b0] | (simp only [i64_w, i32_w]; rw [c23b0]) | skip)
              by_cases c24 : t217 > (wrap64 ((a0.size : Int) - a1))
              · rw [if_pos c24] at H
                have c24b0 : decide ((wrap64 ((a0.size : Int) - a1)) < t217) = true := decide_eq_true c24
                clear c24
                have H' := Aside0.mk H
                clear H
                go_wp2
                go_meet
                case rel => exact ⟨_, (true), (by first | rfl | (simp; done) | (simp [*]; done)), H', ⟨by have := HJ7.out; first | omega | exact Nat.le_refl _⟩, ⟨by repeat (first | (with_reducible first | exact HB.out | apply below_alloc | apply pw_below_drewN | apply below_drew1) | exact HB.out)⟩⟩
              · rw [if_neg c24] at H
                have c24b0 : decide ((wrap64 ((a0.size : Int) - a1)) < t217) = false := decide_eq_false c24
                clear c24
                have H' := Aside0.mk H
                clear H
                go_wp2
                go_meet
                case rel => exact ⟨_, ((t216.toList == ([] : List UInt8))), (by first | rfl | (simp; done) | (simp [*]; done)), H', ⟨by have := HJ7.out; first | omega | exact Nat.le_refl _⟩, ⟨by repeat (first | (with_reducible first | exact HB.out | apply below_alloc | apply pw_below_drewN | apply below_drew1) | exact HB.out)⟩⟩
          case rest =>
            clear HC22
            try clear c1
            try clear p1
            try clear q1
            try clear hx1
            try clear c2
            try clear p2
            try clear c4
            try clear c4b0
            try clear c4b1
            try clear p6
            try clear c10
            try clear c10b0
            try clear c11
            try clear c11b0
            try clear c12
            try clear c12b0
            try clear c13
            try clear c13b0
            try clear p14
            try clear q14
            try clear hx14
            try clear c15
            try clear c17
            try clear c18
            try clear c18b0
            try clear c18b1
            try clear c20
            try clear c23
            try clear c23b0
            try clear c24
            try clear c24b0
            try clear p1
            try clear p14
            try clear p2
            try clear q1
            try clear q14
            obtain ⟨kq, x56_21, rfl, HA, HJ21, HB⟩ := hcut
            cases kq with
            | zero => exact absurd HA.out (by simp [marginalialaw03_CharrefOne.j1])
            | succ kj21 =>
              have H := HA.out
              clear HA
              simp only [marginalialaw03_CharrefOne.j1] at H
              by_cases c25 : x56_21 = true
              · subst c25
                have H1 : (some false) = some r := by rw [if_pos rfl] at H; exact H
                clear H
                have H := H1
                clear H1
                obtain rfl := Option.some.inj H
                go_wp2
                go_ret
                exact ⟨by first | rfl | (simp [errW_none, errW_some] <;> rfl) | (simp [*, errW_none, errW_some] <;> rfl), by repeat (first | (with_reducible first | exact HB.out | apply below_alloc | apply pw_below_drewN | apply below_drew1) | exact HB.out)⟩
              · replace c25 := Bool.eq_false_iff.mpr c25
                subst c25
                have H1 : ((marginalialaw03_alive.f kj21).bind fun t219 => (if t219 = true then (if 0 ≤ a1 then (if a1 ≤ (wrap64 (a1 + t217)) then (if (wrap64 (a1 + t217)) ≤ (a0.size : Int) then ((charref_Decode.f kj21 (a0.extract (a1 : Int).toNat ((wrap64 (a1 + t217)) : Int).toNat) false).bind fun t220 => (some (t220.toList == t216.toList))) else (none)) else (none)) else (none)) else (some false))) = some r := by rw [if_neg (show ¬ (false = true) by decide)] at H; exact H
                clear H
                have H := H1
                clear H1
                replace H := Option.bind_eq_some_iff.mp H
                obtain ⟨t219, A260, H⟩ := H
                replace H : (if t219 = true then (if 0 ≤ a1 then (if a1 ≤ (wrap64 (a1 + t217)) then (if (wrap64 (a1 + t217)) ≤ (a0.size : Int) then ((charref_Decode.f kj21 (a0.extract (a1 : Int).toNat ((wrap64 (a1 + t217)) : Int).toNat) false).bind fun t220 => (some (t220.toList == t216.toList))) else (none)) else (none)) else (none)) else (some false)) = some r := H
                have A26 := Aside0.mk A260
                clear A260
                by_cases c27 : t219 = true
                · subst c27
                  have H1 : (if 0 ≤ a1 then (if a1 ≤ (wrap64 (a1 + t217)) then (if (wrap64 (a1 + t217)) ≤ (a0.size : Int) then ((charref_Decode.f kj21 (a0.extract (a1 : Int).toNat ((wrap64 (a1 + t217)) : Int).toNat) false).bind fun t220 => (some (t220.toList == t216.toList))) else (none)) else (none)) else (none)) = some r := by rw [if_pos rfl] at H; exact H
                  clear H
                  have H := H1
                  clear H1
                  by_cases c28 : 0 ≤ a1
                  · rw [if_pos c28] at H
                    have c28b0 := eq_true c28
                    have c28b1 : decide (0 ≤ a1) = true := decide_eq_true c28
                    clear c28
                    by_cases c29 : a1 ≤ (wrap64 (a1 + t217))
                    · rw [if_pos c29] at H
                      have c29b0 := eq_true c29
                      have c29b1 : decide (a1 ≤ (wrap64 (a1 + t217))) = true := decide_eq_true c29
                      by_cases c30 : (wrap64 (a1 + t217)) ≤ (a0.size : Int)
                      · rw [if_pos c30] at H
                        have c30b0 := eq_true c30
                        have c30b1 : decide ((wrap64 (a1 + t217)) ≤ (a0.size : Int)) = true := decide_eq_true c30
                        replace H := Option.bind_eq_some_iff.mp H
                        obtain ⟨t220, A310, H⟩ := H
                        replace H : (some (t220.toList == t216.toList)) = some r := H
                        have A31 := Aside0.mk A310
                        clear A310
                        obtain rfl := Option.some.inj H
                        go_wp2_with (first | ((with_reducible refine gate_callee (f := 20) rfl ?_); refine goesL_ (some 57) rfl rfl Try.func20 (by kernel_rfl) rfl #[] rfl (by (try simp only [List.map_toArray, List.map_cons, List.map_nil]); first | done | rfl | (simp only [List.length_drop, List.length_take]; rfl)) ?_; (with_reducible refine (marginalialaw03_alive.calls kj21  true _ A26.out).mono ?_); rintro e w32 ⟨rfl, hb⟩; refine ⟨_, rfl, ?_⟩; have n0_ := Aside0.mk (below_step (by repeat (first | (with_reducible first | exact HB.out | apply below_alloc | apply pw_below_drewN | apply below_drew1) | exact HB.out)) hb); clear HB; have HB := n0_; clear n0_; (try clear hb); (try clear hb2); (try clear hk); (try clear hi)) | (go_at_call 27; refine calls_of_args (args' := #[.string (a0.extract (a1 : Int).toNat ((wrap64 (a1 + t217)) : Int).toNat), .bool false]) (by first | rfl | (simp only [ByteArray.size_extract, Nat.min_self]; done) | simp) ?_; (with_reducible refine (charref_Decode.calls kj21 (a0.extract (a1 : Int).toNat ((wrap64 (a1 + t217)) : Int).toNat) false t220 _ A31.out).mono ?_); rintro e w33 ⟨rfl, hb⟩; have n0_ := Aside0.mk (below_step (by repeat (first | (with_reducible first | exact HB.out | apply below_alloc | apply pw_below_drewN | apply below_drew1) | exact HB.out)) hb); clear HB; have HB := n0_; clear n0_; (try clear hb); (try clear hb2); (try clear hk); (try clear hi)))
                        go_ret
                        exact ⟨by first | rfl | (simp [errW_none, errW_some] <;> rfl) | (simp [*, errW_none, errW_some] <;> rfl), by repeat (first | (with_reducible first | exact HB.out | apply below_alloc | apply pw_below_drewN | apply below_drew1) | exact HB.out)⟩
                      · rw [if_neg c30] at H
                        exact absurd H (by simp)
                    · rw [if_neg c29] at H
                      exact absurd H (by simp)
                  · rw [if_neg c28] at H
                    exact absurd H (by simp)
                · replace c27 := Bool.eq_false_iff.mpr c27
                  subst c27
                  have H1 : (some false) = some r := by rw [if_neg (show ¬ (false = true) by decide)] at H; exact H
                  clear H
                  have H := H1
                  clear H1
                  obtain rfl := Option.some.inj H
                  go_wp2_with (first | ((with_reducible refine gate_callee (f := 20) rfl ?_); refine goesL_ (some 57) rfl rfl Try.func20 (by kernel_rfl) rfl #[] rfl (by (try simp only [List.map_toArray, List.map_cons, List.map_nil]); first | done | rfl | (simp only [List.length_drop, List.length_take]; rfl)) ?_; (with_reducible refine (marginalialaw03_alive.calls kj21  false _ A26.out).mono ?_); rintro e w34 ⟨rfl, hb⟩; refine ⟨_, rfl, ?_⟩; have n0_ := Aside0.mk (below_step (by repeat (first | (with_reducible first | exact HB.out | apply below_alloc | apply pw_below_drewN | apply below_drew1) | exact HB.out)) hb); clear HB; have HB := n0_; clear n0_; (try clear hb); (try clear hb2); (try clear hk); (try clear hi)))
                  go_ret
                  exact ⟨by first | rfl | (simp [errW_none, errW_some] <;> rfl) | (simp [*, errW_none, errW_some] <;> rfl), by repeat (first | (with_reducible first | exact HB.out | apply below_alloc | apply pw_below_drewN | apply below_drew1) | exact HB.out)⟩

/-- THE ONE PURE STATEMENT of marginalialaw03_CharrefOne: yours. -/
def marginalialaw03_CharrefOne.Pure : Prop := ∀ (a0 : ByteArray) (a1 : Int) (a2 : Bool), a0.size ≤ 140737488351232 → (Lit.int .i64 a1).wf = true → ∃ k, marginalialaw03_CharrefOne.f k a0 a1 a2 = some true
theorem marginalialaw03_CharrefOne.walk (P : marginalialaw03_CharrefOne.Pure) (a0 : ByteArray) (a1 : Int) (a2 : Bool) (w : World) (w0 : a0.size ≤ 140737488351232) (w1 : (Lit.int .i64 a1).wf = true) :
    Calls Try.prog 12 #[.string a0, .int .i64 a1, .bool a2] w fun e w' => e = .returned (.bool true) ∧ Below w.heap.size w w' := by
  obtain ⟨k, h⟩ := P a0 a1 a2 w0 w1
  refine (marginalialaw03_CharrefOne.calls k a0 a1 a2 true w h).mono ?_
  rintro e w' ⟨rfl, hd⟩
  exact ⟨rfl, hd⟩

end Go.Proofs.Ythialihgamlljaa.G
