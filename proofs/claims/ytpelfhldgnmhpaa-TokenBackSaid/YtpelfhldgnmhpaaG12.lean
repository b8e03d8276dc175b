-- laid by a program of this session's (wip/tools/myprint.py) over the translation
import Derived.Test.YtpelfhldgnmhpaaG0
import Derived.Test.YtpelfhldgnmhpaaG2
import Derived.Test.YtpelfhldgnmhpaaG8
import Derived.Test.YtpelfhldgnmhpaaG10
import Derived.Test.YtpelfhldgnmhpaaG11
namespace Go.Proofs.Ytpelfhldgnmhpaa.G
open Go.RowKit Go.Proofs.YtpelfhldgnmhpaaW.PrintWords Go.Proofs.YtpelfhldgnmhpaaW.PrintLast Go.Proofs.YtpelfhldgnmhpaaW.PrintMore
attribute [local go_sem] max2_int min2_int max_two min_two max_three min_three max_four min_four   -- for this text's walks alone
set_option linter.unusedVariables false
set_option linter.unusedSimpArgs false

/-! ### charref_Named: function 84 -/
def charref_Named.j0 : Nat → ByteArray → Int → Bool → Option (ByteArray × Bool)
  | 0, _, _, _ => none
  | k + 1, x4, x6, x18 => if x18 = true then ((charref_ended.f x4).bind fun t128 => (if t128 = 0 then (some ((⟨#[]⟩ : ByteArray), false)) else (some (Utf8.encode t128, true)))) else (if x6 = 0 then (some ((⟨#[]⟩ : ByteArray), false)) else (some (Utf8.encode x6, true)))
def charref_Named.f (k : Nat) (a0 : ByteArray) : Option (ByteArray × Bool) := (strings_CutSuffix.f a0 (⟨#[59]⟩ : ByteArray)).bind fun bt125 => ((charref_bare.f k bt125.1).bind fun t127 => (if t127 = 0 then (charref_Named.j0 k bt125.1 t127 bt125.2) else (charref_Named.j0 k bt125.1 t127 false)))
theorem charref_Named.mono_l : ∀ k, (∀ y0 y1 y2, LeO (charref_Named.j0 k y0 y1 y2) (charref_Named.j0 (k + 1) y0 y1 y2))
  | 0 => fun _ _ _ r h => by simp [charref_Named.j0] at h
  | k + 1 => by
    have ih0 := charref_Named.mono_l k
    · intro y0 y1 y2
      unfold charref_Named.j0
      repeat' first
      | (with_reducible exact ih0 _ _ _)
      | (with_reducible exact charref_bare.mono _ _)
      | (with_reducible exact LeO.refl _)
      | (with_reducible exact LeO.none _)
      | (with_reducible refine LeO.ite ?_ ?_)
      | (with_reducible refine LeO.bind ?_ (fun _ => ?_))
      | exact ih0 _ _ _
      | exact charref_bare.mono _ _
      | exact LeO.none _
      | refine LeO.ite ?_ ?_
      | refine LeO.bind ?_ (fun _ => ?_)
theorem charref_Named.mono : ∀ a0 k, LeO (charref_Named.f k a0) (charref_Named.f (k + 1) a0) := by
  intro a0 k
  have ih0 := charref_Named.mono_l k
  unfold charref_Named.f
  repeat' first
      | (with_reducible exact ih0 _ _ _)
      | (with_reducible exact charref_bare.mono _ _)
      | (with_reducible exact LeO.refl _)
      | (with_reducible exact LeO.none _)
      | (with_reducible refine LeO.ite ?_ ?_)
      | (with_reducible refine LeO.bind ?_ (fun _ => ?_))
      | exact ih0 _ _ _
      | exact charref_bare.mono _ _
      | exact LeO.none _
      | refine LeO.ite ?_ ?_
      | refine LeO.bind ?_ (fun _ => ?_)
set_option maxHeartbeats 8000000 in
set_option maxRecDepth 100000 in
theorem charref_Named.calls (k : Nat) (a0 : ByteArray) (r1 : ByteArray) (r2 : Bool) (w : World) (h : charref_Named.f k a0 = some (r1, r2)) :
    Calls Try.prog 84 #[.string a0] w fun e w' => e = .returned (.tuple #[.string r1, .bool r2]) ∧ Drawn0 w w' := by
  have H : ((strings_CutSuffix.f a0 (⟨#[59]⟩ : ByteArray)).bind fun bt125 => ((charref_bare.f k bt125.1).bind fun t127 => (if t127 = 0 then (charref_Named.j0 k bt125.1 t127 bt125.2) else (charref_Named.j0 k bt125.1 t127 false)))) = some (r1, r2) := h
  clear h
  replace H := Option.bind_eq_some_iff.mp H
  obtain ⟨⟨t125, t126⟩, A20, H⟩ := H
  replace H : ((charref_bare.f k t125).bind fun t127 => (if t127 = 0 then (charref_Named.j0 k t125 t127 t126) else (charref_Named.j0 k t125 t127 false))) = some (r1, r2) := H
  have A2 := Aside0.mk A20
  clear A20
  replace H := Option.bind_eq_some_iff.mp H
  obtain ⟨t127, A30, H⟩ := H
  replace H : (if t127 = 0 then (charref_Named.j0 k t125 t127 t126) else (charref_Named.j0 k t125 t127 false)) = some (r1, r2) := H
  have A3 := Aside0.mk A30
  clear A30
  have HC4 := Aside0.mk H
  clear H
  go_enter Try.func84, Try.ntmps84
  go_upto_region 3 with (first | ((with_reducible refine gate_callee (f := 88) rfl ?_); refine goesL_ (some 9) rfl rfl Try.func88 (by kernel_rfl) rfl #[.string a0, .string (⟨#[59]⟩ : ByteArray)] rfl (by (try simp only [List.map_toArray, List.map_cons, List.map_nil]); first | done | rfl | (simp only [List.length_drop, List.length_take]; rfl)) ?_; (with_reducible refine (strings_CutSuffix.calls a0 (⟨#[59]⟩ : ByteArray) t125 t126 _ A2.out).mono ?_); rintro e w' ⟨rfl, ⟨nd, rfl⟩⟩; refine ⟨_, rfl, ?_⟩) | ((with_reducible refine gate_callee (f := 94) rfl ?_); refine goesL_ (some 13) rfl rfl Try.func94 (by kernel_rfl) rfl #[.string t125] rfl (by (try simp only [List.map_toArray, List.map_cons, List.map_nil]); first | done | rfl | (simp only [List.length_drop, List.length_take]; rfl)) ?_; (with_reducible refine (charref_bare.calls k t125 t127 _ A3.out).mono ?_); rintro e w' ⟨rfl, ⟨nd, rfl⟩⟩; refine ⟨_, rfl, ?_⟩))
  (try simp only [Act.put, List.setIfInBounds_toArray, List.set_cons_zero, List.set_cons_succ])
  go_cut [18] (fun v18 wc => ∃ (kq : Nat) (x18_3 : Bool), v18 = .bool x18_3 ∧ Aside0 (charref_Named.j0 kq t125 t127 x18_3 = some (r1, r2)) ∧ Aside0 (kq ≤ k) ∧ Drawn0 w wc)
  case first =>
    have H := HC4.out
    clear HC4
    by_cases c5 : t127 = 0
    · rw [if_pos c5] at H
      have c5b0 : (t127 == 0) = true := beq_iff_eq.mpr c5
      have c5b1 : (t127 != 0) = false := bne_eq_false_iff_eq.mpr c5
      clear c5
      (first | rw [c5b0] | (simp only [i64_w, i32_w]; rw [c5b0]) | skip)
      have H' := Aside0.mk H
      clear H
      go_wp2
      go_meet
      case rel => exact ⟨_, (t126), (by first | rfl | (simp; done) | (simp [*]; done)), H', ⟨by first | omega | exact Nat.le_refl _⟩, by repeat (first | exact Drawn0.refl _ | apply Drawn0.step)⟩
    · rw [if_neg c5] at H
      have c5b0 : (t127 == 0) = false := beq_eq_false_iff_ne.mpr c5
      have c5b1 : (t127 != 0) = true := bne_iff_ne.mpr c5
      (first | rw [c5b0] | (simp only [i64_w, i32_w]; rw [c5b0]) | skip)
      have H' := Aside0.mk H
      clear H
      go_wp2
      go_meet
      case rel => exact ⟨_, (false), (by first | rfl | (simp; done) | (simp [*]; done)), H', ⟨by first | omega | exact Nat.le_refl _⟩, by repeat (first | exact Drawn0.refl _ | apply Drawn0.step)⟩
  case rest =>
    clear HC4
    try clear p2
    try clear c5
    try clear c5b0
    try clear c5b1
    obtain ⟨kq, x18_3, rfl, HA, HJ3, ⟨mc3, rfl⟩⟩ := hcut
    cases kq with
    | zero => exact absurd HA.out (by simp [charref_Named.j0])
    | succ kj3 =>
      have H := HA.out
      clear HA
      simp only [charref_Named.j0] at H
      by_cases c6 : x18_3 = true
      · subst c6
        have H1 : ((charref_ended.f t125).bind fun t128 => (if t128 = 0 then (some ((⟨#[]⟩ : ByteArray), false)) else (some (Utf8.encode t128, true)))) = some (r1, r2) := by rw [if_pos rfl] at H; exact H
        clear H
        have H := H1
        clear H1
        replace H := Option.bind_eq_some_iff.mp H
        obtain ⟨t128, A70, H⟩ := H
        replace H : (if t128 = 0 then (some ((⟨#[]⟩ : ByteArray), false)) else (some (Utf8.encode t128, true))) = some (r1, r2) := H
        have A7 := Aside0.mk A70
        clear A70
        by_cases c8 : t128 = 0
        · rw [if_pos c8] at H
          have c8b0 : (t128 == 0) = true := beq_iff_eq.mpr c8
          have c8b1 : (t128 != 0) = false := bne_eq_false_iff_eq.mpr c8
          clear c8
          simp only [Option.some.injEq, Prod.mk.injEq] at H
          obtain ⟨rfl, rfl⟩ := H
          go_wp2_with (first | ((with_reducible refine gate_callee (f := 95) rfl ?_); refine goesL_ (some 20) rfl rfl Try.func95 (by kernel_rfl) rfl #[.string t125] rfl (by (try simp only [List.map_toArray, List.map_cons, List.map_nil]); first | done | rfl | (simp only [List.length_drop, List.length_take]; rfl)) ?_; (with_reducible refine (charref_ended.calls t125 t128 _ A7.out).mono ?_); rintro e w' ⟨rfl, ⟨nd, rfl⟩⟩; refine ⟨_, rfl, ?_⟩))
          go_ret2
          exact ⟨by first | rfl | (simp; done) | (simp [*]; done), by repeat (first | exact Drawn0.refl _ | apply Drawn0.step)⟩
        · rw [if_neg c8] at H
          have c8b0 : (t128 == 0) = false := beq_eq_false_iff_ne.mpr c8
          have c8b1 : (t128 != 0) = true := bne_iff_ne.mpr c8
          simp only [Option.some.injEq, Prod.mk.injEq] at H
          obtain ⟨rfl, rfl⟩ := H
          go_wp2_with (first | ((with_reducible refine gate_callee (f := 95) rfl ?_); refine goesL_ (some 20) rfl rfl Try.func95 (by kernel_rfl) rfl #[.string t125] rfl (by (try simp only [List.map_toArray, List.map_cons, List.map_nil]); first | done | rfl | (simp only [List.length_drop, List.length_take]; rfl)) ?_; (with_reducible refine (charref_ended.calls t125 t128 _ A7.out).mono ?_); rintro e w' ⟨rfl, ⟨nd, rfl⟩⟩; refine ⟨_, rfl, ?_⟩))
          go_ret2
          exact ⟨by first | rfl | (simp; done) | (simp [*]; done), by repeat (first | exact Drawn0.refl _ | apply Drawn0.step)⟩
      · replace c6 := Bool.eq_false_iff.mpr c6
        subst c6
        have H1 : (if t127 = 0 then (some ((⟨#[]⟩ : ByteArray), false)) else (some (Utf8.encode t127, true))) = some (r1, r2) := by rw [if_neg (show ¬ (false = true) by decide)] at H; exact H
        clear H
        have H := H1
        clear H1
        by_cases c9 : t127 = 0
        · rw [if_pos c9] at H
          have c9b0 : (t127 == 0) = true := beq_iff_eq.mpr c9
          have c9b1 : (t127 != 0) = false := bne_eq_false_iff_eq.mpr c9
          clear c9
          simp only [Option.some.injEq, Prod.mk.injEq] at H
          obtain ⟨rfl, rfl⟩ := H
          go_wp2
          go_ret2
          exact ⟨by first | rfl | (simp; done) | (simp [*]; done), by repeat (first | exact Drawn0.refl _ | apply Drawn0.step)⟩
        · rw [if_neg c9] at H
          have c9b0 : (t127 == 0) = false := beq_eq_false_iff_ne.mpr c9
          have c9b1 : (t127 != 0) = true := bne_iff_ne.mpr c9
          simp only [Option.some.injEq, Prod.mk.injEq] at H
          obtain ⟨rfl, rfl⟩ := H
          go_wp2
          go_ret2
          exact ⟨by first | rfl | (simp; done) | (simp [*]; done), by repeat (first | exact Drawn0.refl _ | apply Drawn0.step)⟩

/-! ### charref_byName: function 63 -/
def charref_byName.l0 : Nat → ByteArray → Int → Option (ByteArray × Int)
  | 0, _, _ => none
  | k + 1, x0, x4 => if x4 > 0 then (if 0 ≤ x4 then (if x4 ≤ (x0.size : Int) then ((charref_Named.f k (x0.extract 0 (x4 : Int).toNat)).bind fun bt129 => (if bt129.2 = true then (some (bt129.1, x4)) else (charref_byName.l0 k x0 (wrap64 (x4 - 1))))) else (none)) else (none)) else (some ((⟨#[]⟩ : ByteArray), 0))
def charref_byName.f (k : Nat) (a0 : ByteArray) : Option (ByteArray × Int) := charref_byName.l0 k a0 (mn (a0.size : Int) 8)
theorem charref_byName.mono_l : ∀ k, (∀ y0 y1, LeO (charref_byName.l0 k y0 y1) (charref_byName.l0 (k + 1) y0 y1))
  | 0 => fun _ _ r h => by simp [charref_byName.l0] at h
  | k + 1 => by
    have ih0 := charref_byName.mono_l k
    · intro y0 y1
      unfold charref_byName.l0
      repeat' first
      | (with_reducible exact ih0 _ _)
      | (with_reducible exact charref_Named.mono _ _)
      | (with_reducible exact LeO.refl _)
      | (with_reducible exact LeO.none _)
      | (with_reducible refine LeO.ite ?_ ?_)
      | (with_reducible refine LeO.bind ?_ (fun _ => ?_))
      | exact ih0 _ _
      | exact charref_Named.mono _ _
      | exact LeO.none _
      | refine LeO.ite ?_ ?_
      | refine LeO.bind ?_ (fun _ => ?_)
theorem charref_byName.mono : ∀ a0 k, LeO (charref_byName.f k a0) (charref_byName.f (k + 1) a0) := by
  intro a0 k
  have ih0 := charref_byName.mono_l k
  unfold charref_byName.f
  repeat' first
      | (with_reducible exact ih0 _ _)
      | (with_reducible exact charref_Named.mono _ _)
      | (with_reducible exact LeO.refl _)
      | (with_reducible exact LeO.none _)
      | (with_reducible refine LeO.ite ?_ ?_)
      | (with_reducible refine LeO.bind ?_ (fun _ => ?_))
      | exact ih0 _ _
      | exact charref_Named.mono _ _
      | exact LeO.none _
      | refine LeO.ite ?_ ?_
      | refine LeO.bind ?_ (fun _ => ?_)
set_option maxHeartbeats 8000000 in
set_option maxRecDepth 100000 in
theorem charref_byName.calls (k : Nat) (a0 : ByteArray) (r1 : ByteArray) (r2 : Int) (w : World) (h : charref_byName.f k a0 = some (r1, r2)) :
    Calls Try.prog 63 #[.string a0] w fun e w' => e = .returned (.tuple #[.string r1, .int .i64 r2]) ∧ Below w.heap.size w w' := by
  have HB := Aside0.mk (Below.refl w.heap.size w)
  have H : (charref_byName.l0 k a0 (mn (a0.size : Int) 8)) = some (r1, r2) := h
  clear h
  obtain ⟨ji2, hji2⟩ : ∃ j_ : Int, (mn (a0.size : Int) 8) = j_ := ⟨_, rfl⟩
  replace H : (charref_byName.l0 k a0 ji2) = some (r1, r2) := by first | (rw [hji2] at H; exact H) | (simp only [hji2] at H ⊢; exact H)
  (try (have hji2h : ji2 ≤ 8 := by (rw [← hji2]; unfold mn; (repeat' split) <;> omega)))
  (try (have hji2g : ji2 ≤ 64 := by omega))
  (try (have hji2l : 0 ≤ ji2 := by (rw [← hji2]; unfold mn; (repeat' split) <;> omega)))
  (try (have hji2m : 0 ≤ ji2 := by omega))
  have hji2_ : (if 8 < (a0.size : Int) then 8 else (a0.size : Int)) = ji2 := hji2
  have H' := Aside0.mk H
  clear H
  go_enter Try.func63, Try.ntmps63
  go_wp2
  go_loopg [4] k (fun kq v4 w' => ∃ (x4_1 : Int), v4 = .int .i64 x4_1 ∧ Aside0 (charref_byName.l0 kq a0 x4_1 = some (r1, r2)) ∧ Aside0 (kq ≤ k) ∧ Aside0 (Below w.heap.size w w'))
  case atStart => exact ⟨(ji2), (by first | rfl | (simp; done) | (simp only [← hji2] <;> (first | rfl | simp)) | (simp [*]; done)), H', ⟨Nat.le_refl _⟩, ⟨by repeat (first | (with_reducible first | exact HB.out | apply below_alloc | apply pw_below_drewN | apply below_drew1) | exact HB.out)⟩⟩
  case round =>
    clear H'
    try clear p2
    obtain ⟨x4_1, rfl, HA, HK1, HB⟩ := hrel
    cases gk with
    | zero => exact absurd HA.out (by simp [charref_byName.l0])
    | succ k1 =>
      have H := HA.out
      clear HA
      simp only [charref_byName.l0] at H
      by_cases c3 : x4_1 > 0
      · rw [if_pos c3] at H
        have c3b0 : decide (0 < x4_1) = true := decide_eq_true c3
        clear c3
        by_cases c4 : 0 ≤ x4_1
        · rw [if_pos c4] at H
          have c4b0 := eq_true c4
          have c4b1 : decide (0 ≤ x4_1) = true := decide_eq_true c4
          clear c4
          by_cases c5 : x4_1 ≤ (a0.size : Int)
          · rw [if_pos c5] at H
            have c5b0 := eq_true c5
            have c5b1 : decide (x4_1 ≤ (a0.size : Int)) = true := decide_eq_true c5
            clear c5
            replace H := Option.bind_eq_some_iff.mp H
            obtain ⟨⟨t129, t130⟩, A60, H⟩ := H
            replace H : (if t130 = true then (some (t129, x4_1)) else (charref_byName.l0 k1 a0 (wrap64 (x4_1 - 1)))) = some (r1, r2) := H
            have A6 := Aside0.mk A60
            clear A60
            by_cases c7 : t130 = true
            · subst c7
              have H1 : (some (t129, x4_1)) = some (r1, r2) := by rw [if_pos rfl] at H; exact H
              clear H
              have H := H1
              clear H1
              simp only [Option.some.injEq, Prod.mk.injEq] at H
              obtain ⟨rfl, rfl⟩ := H
              go_wp2_with (first | ((with_reducible refine gate_callee (f := 84) rfl ?_); refine goesL_ (some 18) rfl rfl Try.func84 (by kernel_rfl) rfl #[.string (a0.extract 0 (x4_1 : Int).toNat)] rfl (by (try simp only [List.map_toArray, List.map_cons, List.map_nil]); first | done | rfl | (simp only [List.length_drop, List.length_take]; rfl)) ?_; (with_reducible refine (charref_Named.calls k1 (a0.extract 0 (x4_1 : Int).toNat) t129 true _ A6.out).mono ?_); rintro e w' ⟨rfl, ⟨nd, rfl⟩⟩; refine ⟨_, rfl, ?_⟩))
              go_ret2
              exact ⟨by first | rfl | (simp [errW_none, errW_some] <;> rfl) | (simp only [← hji2]; first | rfl | (simp [errW_none, errW_some] <;> rfl)) | (simp [*, errW_none, errW_some] <;> rfl), by repeat (first | (with_reducible first | exact HB.out | apply below_alloc | apply pw_below_drewN | apply below_drew1) | exact HB.out)⟩
            · replace c7 := Bool.eq_false_iff.mpr c7
              subst c7
              have H1 : (charref_byName.l0 k1 a0 (wrap64 (x4_1 - 1))) = some (r1, r2) := by rw [if_neg (show ¬ (false = true) by decide)] at H; exact H
              clear H
              have H := H1
              clear H1
              have H' := Aside0.mk H
              clear H
              go_wp2_with (first | ((with_reducible refine gate_callee (f := 84) rfl ?_); refine goesL_ (some 18) rfl rfl Try.func84 (by kernel_rfl) rfl #[.string (a0.extract 0 (x4_1 : Int).toNat)] rfl (by (try simp only [List.map_toArray, List.map_cons, List.map_nil]); first | done | rfl | (simp only [List.length_drop, List.length_take]; rfl)) ?_; (with_reducible refine (charref_Named.calls k1 (a0.extract 0 (x4_1 : Int).toNat) t129 false _ A6.out).mono ?_); rintro e w' ⟨rfl, ⟨nd, rfl⟩⟩; refine ⟨_, rfl, ?_⟩))
              go_roundg k1
              case measure => have := HK1.out; omega
              case rel => exact ⟨(wrap64 (x4_1 - 1)), (by first | rfl | (simp; done) | (simp [*]; done)), (by first | exact H' | (simp only [hji2]; exact H') | (simp only [hji2]; exact H')), ⟨by have := HK1.out; omega⟩, ⟨by repeat (first | (with_reducible first | exact HB.out | apply below_alloc | apply pw_below_drewN | apply below_drew1) | exact HB.out)⟩⟩
          · rw [if_neg c5] at H
            exact absurd H (by simp)
        · rw [if_neg c4] at H
          exact absurd H (by simp)
      · rw [if_neg c3] at H
        have c3b0 : decide (0 < x4_1) = false := decide_eq_false c3
        clear c3
        simp only [Option.some.injEq, Prod.mk.injEq] at H
        obtain ⟨rfl, rfl⟩ := H
        go_wp2
        go_ret2
        exact ⟨by first | rfl | (simp [errW_none, errW_some] <;> rfl) | (simp only [← hji2]; first | rfl | (simp [errW_none, errW_some] <;> rfl)) | (simp [*, errW_none, errW_some] <;> rfl), by repeat (first | (with_reducible first | exact HB.out | apply below_alloc | apply pw_below_drewN | apply below_drew1) | exact HB.out)⟩

/-! ### kind_Letter: function 42 -/
def kind_Letter.f (a0 : Int) : Option (Bool) := if (Go.bits .or .u8 a0 32) ≥ 97 then (some (decide ((Go.bits .or .u8 a0 32) ≤ 122))) else (some false)
set_option maxHeartbeats 8000000 in
set_option maxRecDepth 100000 in
theorem kind_Letter.calls (a0 : Int) (r : Bool) (w : World) (h : kind_Letter.f a0 = some r) :
    Calls Try.prog 42 #[.int .u8 a0] w fun e w' => e = .returned (.bool r) ∧ Drawn0 w w' := by
  have H : (if (Go.bits .or .u8 a0 32) ≥ 97 then (some (decide ((Go.bits .or .u8 a0 32) ≤ 122))) else (some false)) = some r := h
  clear h
  by_cases c2 : (Go.bits .or .u8 a0 32) ≥ 97
  · rw [if_pos c2] at H
    have c2b0 : decide (97 ≤ (Go.bits .or .u8 a0 32)) = true := decide_eq_true c2
    clear c2
    obtain rfl := Option.some.inj H
    go_enter Try.func42, Try.ntmps42
    go_wp2
    go_ret
    exact ⟨by first | rfl | (simp; done) | (simp [*]; done), by repeat (first | exact Drawn0.refl _ | apply Drawn0.step)⟩
  · rw [if_neg c2] at H
    have c2b0 : decide (97 ≤ (Go.bits .or .u8 a0 32)) = false := decide_eq_false c2
    clear c2
    obtain rfl := Option.some.inj H
    go_enter Try.func42, Try.ntmps42
    go_wp2
    go_ret
    exact ⟨by first | rfl | (simp; done) | (simp [*]; done), by repeat (first | exact Drawn0.refl _ | apply Drawn0.step)⟩

/-! ### charref_stays: function 64 -/
def charref_stays.f (a0 : ByteArray) : Option (Bool) := if a0.toList = ([] : List UInt8) then (some false) else (if 0 < (a0.size : Int) then (if (bt a0 0) = 61 then (some true) else ((kind_Letter.f (bt a0 0)).bind fun t131 => (if t131 = true then (some true) else ((kind_Figure.f (bt a0 0)).bind fun t132 => (some t132))))) else (none))
set_option maxHeartbeats 8000000 in
set_option maxRecDepth 100000 in
theorem charref_stays.calls (a0 : ByteArray) (r : Bool) (w : World) (h : charref_stays.f a0 = some r) :
    Calls Try.prog 64 #[.string a0] w fun e w' => e = .returned (.bool r) ∧ Drawn0 w w' := by
  have H : (if a0.toList = ([] : List UInt8) then (some false) else (if 0 < (a0.size : Int) then (if (bt a0 0) = 61 then (some true) else ((kind_Letter.f (bt a0 0)).bind fun t131 => (if t131 = true then (some true) else ((kind_Figure.f (bt a0 0)).bind fun t132 => (some t132))))) else (none))) = some r := h
  clear h
  by_cases c2 : a0.toList = ([] : List UInt8)
  · rw [if_pos c2] at H
    have c2b0 : (a0.toList == ([] : List UInt8)) = true := beq_iff_eq.mpr c2
    have c2b1 : (a0.toList != ([] : List UInt8)) = false := bne_eq_false_iff_eq.mpr c2
    clear c2
    obtain rfl := Option.some.inj H
    go_enter Try.func64, Try.ntmps64
    go_wp2
    go_ret
    exact ⟨by first | rfl | (simp; done) | (simp [*]; done), by repeat (first | exact Drawn0.refl _ | apply Drawn0.step)⟩
  · rw [if_neg c2] at H
    have c2b0 : (a0.toList == ([] : List UInt8)) = false := beq_eq_false_iff_ne.mpr c2
    have c2b1 : (a0.toList != ([] : List UInt8)) = true := bne_iff_ne.mpr c2
    by_cases c3 : 0 < (a0.size : Int)
    · rw [if_pos c3] at H
      have c3b0 : decide (0 < (a0.size : Int)) = true := decide_eq_true c3
      have c3b1 : decide (0 < a0.size) = true := decide_eq_true (by omega)
      clear c3
      by_cases c5 : (bt a0 0) = 61
      · rw [if_pos c5] at H
        have c5b0 : ((bt a0 0) == 61) = true := beq_iff_eq.mpr c5
        have c5b1 : ((bt a0 0) != 61) = false := bne_eq_false_iff_eq.mpr c5
        clear c5
        obtain rfl := Option.some.inj H
        have p4 : 0 ≤ (0 : Int) := (by omega)
        have q4 : 0 < a0.size := (by have : (0 : Int) < (a0.size : Int) := of_decide_eq_true (by first | (with_reducible assumption) | assumption); omega)
        have hx4 : ∀ h : 0 < a0.size, ((a0[0]'h).toNat : Int) = bt a0 0 := bt_at a0 0
        clear p4
        have qi4 : (0 < (a0.size : Int)) = True := eq_true (of_decide_eq_true (by first | (with_reducible assumption) | assumption))
        replace q4 := eq_true q4
        go_enter Try.func64, Try.ntmps64
        go_wp2
        go_ret
        exact ⟨by first | rfl | (simp; done) | (simp [*]; done), by repeat (first | exact Drawn0.refl _ | apply Drawn0.step)⟩
      · rw [if_neg c5] at H
        have c5b0 : ((bt a0 0) == 61) = false := beq_eq_false_iff_ne.mpr c5
        have c5b1 : ((bt a0 0) != 61) = true := bne_iff_ne.mpr c5
        replace H := Option.bind_eq_some_iff.mp H
        obtain ⟨t131, A70, H⟩ := H
        replace H : (if t131 = true then (some true) else ((kind_Figure.f (bt a0 0)).bind fun t132 => (some t132))) = some r := H
        have A7 := Aside0.mk A70
        clear A70
        by_cases c8 : t131 = true
        · subst c8
          have H1 : (some true) = some r := by rw [if_pos rfl] at H; exact H
          clear H
          have H := H1
          clear H1
          obtain rfl := Option.some.inj H
          have p4 : 0 ≤ (0 : Int) := (by omega)
          have q4 : 0 < a0.size := (by have : (0 : Int) < (a0.size : Int) := of_decide_eq_true (by first | (with_reducible assumption) | assumption); omega)
          have hx4 : ∀ h : 0 < a0.size, ((a0[0]'h).toNat : Int) = bt a0 0 := bt_at a0 0
          clear p4
          have qi4 : (0 < (a0.size : Int)) = True := eq_true (of_decide_eq_true (by first | (with_reducible assumption) | assumption))
          replace q4 := eq_true q4
          have p6 : 0 ≤ (0 : Int) := (by omega)
          have q6 : 0 < a0.size := (by have : (0 : Int) < (a0.size : Int) := of_decide_eq_true (by first | (with_reducible assumption) | assumption); omega)
          have hx6 : ∀ h : 0 < a0.size, ((a0[0]'h).toNat : Int) = bt a0 0 := bt_at a0 0
          clear p6
          have qi6 : (0 < (a0.size : Int)) = True := eq_true (of_decide_eq_true (by first | (with_reducible assumption) | assumption))
          replace q6 := eq_true q6
          go_enter Try.func64, Try.ntmps64
          go_wp2_with (first | (go_at_call 42; (with_reducible refine (kind_Letter.calls (bt a0 0) true _ A7.out).mono ?_); rintro e w' ⟨rfl, ⟨nd, rfl⟩⟩))
          go_ret
          exact ⟨by first | rfl | (simp; done) | (simp [*]; done), by repeat (first | exact Drawn0.refl _ | apply Drawn0.step)⟩
        · replace c8 := Bool.eq_false_iff.mpr c8
          subst c8
          have H1 : ((kind_Figure.f (bt a0 0)).bind fun t132 => (some t132)) = some r := by rw [if_neg (show ¬ (false = true) by decide)] at H; exact H
          clear H
          have H := H1
          clear H1
          replace H := Option.bind_eq_some_iff.mp H
          obtain ⟨t132, A100, H⟩ := H
          replace H : (some t132) = some r := H
          have A10 := Aside0.mk A100
          clear A100
          obtain rfl := Option.some.inj H
          have p4 : 0 ≤ (0 : Int) := (by omega)
          have q4 : 0 < a0.size := (by have : (0 : Int) < (a0.size : Int) := of_decide_eq_true (by first | (with_reducible assumption) | assumption); omega)
          have hx4 : ∀ h : 0 < a0.size, ((a0[0]'h).toNat : Int) = bt a0 0 := bt_at a0 0
          clear p4
          have qi4 : (0 < (a0.size : Int)) = True := eq_true (of_decide_eq_true (by first | (with_reducible assumption) | assumption))
          replace q4 := eq_true q4
          have p6 : 0 ≤ (0 : Int) := (by omega)
          have q6 : 0 < a0.size := (by have : (0 : Int) < (a0.size : Int) := of_decide_eq_true (by first | (with_reducible assumption) | assumption); omega)
          have hx6 : ∀ h : 0 < a0.size, ((a0[0]'h).toNat : Int) = bt a0 0 := bt_at a0 0
          clear p6
          have qi6 : (0 < (a0.size : Int)) = True := eq_true (of_decide_eq_true (by first | (with_reducible assumption) | assumption))
          replace q6 := eq_true q6
          go_enter Try.func64, Try.ntmps64
          go_wp2_with (first | (go_at_call 42; (with_reducible refine (kind_Letter.calls (bt a0 0) false _ A7.out).mono ?_); rintro e w' ⟨rfl, ⟨nd, rfl⟩⟩; have p9 : 0 ≤ (0 : Int) := (by omega); have q9 : 0 < a0.size := (by have : (0 : Int) < (a0.size : Int) := of_decide_eq_true (by first | (with_reducible assumption) | assumption); omega); have hx9 : ∀ h : 0 < a0.size, ((a0[0]'h).toNat : Int) = bt a0 0 := bt_at a0 0; clear p9; have qi9 : (0 < (a0.size : Int)) = True := eq_true (of_decide_eq_true (by first | (with_reducible assumption) | assumption)); replace q9 := eq_true q9) | (go_at_call 85; (with_reducible refine (kind_Figure.calls (bt a0 0) t132 _ A10.out).mono ?_); rintro e w' ⟨rfl, ⟨nd, rfl⟩⟩))
          go_ret
          exact ⟨by first | rfl | (simp; done) | (simp [*]; done), by repeat (first | exact Drawn0.refl _ | apply Drawn0.step)⟩
    · rw [if_neg c3] at H
      exact absurd H (by simp)

/-! ### charref_At: function 36 -/
def charref_At.j0 : Nat → ByteArray → Int → Bool → Bool → Option (ByteArray × Int)
  | 0, _, _, _, _ => none
  | k + 1, x0, x1, x2, x28 => if x28 = true then (some ((⟨#[]⟩ : ByteArray), 0)) else (if 0 ≤ (wrap64 (x1 + 1)) then (if (wrap64 (x1 + 1)) ≤ (x0.size : Int) then ((strings_CutPrefix.f (x0.extract ((wrap64 (x1 + 1)) : Int).toNat x0.size) (⟨#[35]⟩ : ByteArray)).bind fun bt133 => (if bt133.2 = true then ((charref_byNumber.f k bt133.1).bind fun bt135 => (if bt135.2 > 0 then (some (bt135.1, wrap64 (bt135.2 + 2))) else (some ((⟨#[38]⟩ : ByteArray), 1)))) else ((charref_byName.f k (x0.extract ((wrap64 (x1 + 1)) : Int).toNat x0.size)).bind fun bt137 => (if bt137.2 = 0 then (some ((⟨#[38]⟩ : ByteArray), 1)) else (if x2 = true then (if 0 ≤ (wrap64 (bt137.2 - 1)) then (if (wrap64 (bt137.2 - 1)) < ((x0.extract ((wrap64 (x1 + 1)) : Int).toNat x0.size).size : Int) then (if (bt (x0.extract ((wrap64 (x1 + 1)) : Int).toNat x0.size) (wrap64 (bt137.2 - 1))) = 59 then (some (bt137.1, wrap64 (bt137.2 + 1))) else (if 0 ≤ bt137.2 then (if bt137.2 ≤ ((x0.extract ((wrap64 (x1 + 1)) : Int).toNat x0.size).size : Int) then ((charref_stays.f ((x0.extract ((wrap64 (x1 + 1)) : Int).toNat x0.size).extract (bt137.2 : Int).toNat (x0.extract ((wrap64 (x1 + 1)) : Int).toNat x0.size).size)).bind fun t139 => (if t139 = true then (some ((⟨#[38]⟩ : ByteArray), 1)) else (some (bt137.1, wrap64 (bt137.2 + 1))))) else (none)) else (none))) else (none)) else (none)) else (some (bt137.1, wrap64 (bt137.2 + 1)))))))) else (none)) else (none))
def charref_At.f (k : Nat) (a0 : ByteArray) (a1 : Int) (a2 : Bool) : Option (ByteArray × Int) := if a1 < 0 then (charref_At.j0 k a0 a1 a2 true) else (if a1 ≥ (a0.size : Int) then (charref_At.j0 k a0 a1 a2 true) else (if 0 ≤ a1 then (if a1 < (a0.size : Int) then (charref_At.j0 k a0 a1 a2 ((bt a0 a1) != 38)) else (none)) else (none)))
theorem charref_At.mono_l : ∀ k, (∀ y0 y1 y2 y3, LeO (charref_At.j0 k y0 y1 y2 y3) (charref_At.j0 (k + 1) y0 y1 y2 y3))
  | 0 => fun _ _ _ _ r h => by simp [charref_At.j0] at h
  | k + 1 => by
    have ih0 := charref_At.mono_l k
    · intro y0 y1 y2 y3
      unfold charref_At.j0
      repeat' first
      | (with_reducible exact ih0 _ _ _ _)
      | (with_reducible exact charref_byName.mono _ _)
      | (with_reducible exact charref_byNumber.mono _ _)
      | (with_reducible exact LeO.refl _)
      | (with_reducible exact LeO.none _)
      | (with_reducible refine LeO.ite ?_ ?_)
      | (with_reducible refine LeO.bind ?_ (fun _ => ?_))
      | exact ih0 _ _ _ _
      | exact charref_byName.mono _ _
      | exact charref_byNumber.mono _ _
      | exact LeO.none _
      | refine LeO.ite ?_ ?_
      | refine LeO.bind ?_ (fun _ => ?_)
theorem charref_At.mono : ∀ a0 a1 a2 k, LeO (charref_At.f k a0 a1 a2) (charref_At.f (k + 1) a0 a1 a2) := by
  intro a0 a1 a2 k
  have ih0 := charref_At.mono_l k
  unfold charref_At.f
  repeat' first
      | (with_reducible exact ih0 _ _ _ _)
      | (with_reducible exact charref_byName.mono _ _)
      | (with_reducible exact charref_byNumber.mono _ _)
      | (with_reducible exact LeO.refl _)
      | (with_reducible exact LeO.none _)
      | (with_reducible refine LeO.ite ?_ ?_)
      | (with_reducible refine LeO.bind ?_ (fun _ => ?_))
      | exact ih0 _ _ _ _
      | exact charref_byName.mono _ _
      | exact charref_byNumber.mono _ _
      | exact LeO.none _
      | refine LeO.ite ?_ ?_
      | refine LeO.bind ?_ (fun _ => ?_)
set_option maxHeartbeats 8000000 in
set_option maxRecDepth 100000 in
theorem charref_At.calls (k : Nat) (a0 : ByteArray) (a1 : Int) (a2 : Bool) (r1 : ByteArray) (r2 : Int) (w : World) (h : charref_At.f k a0 a1 a2 = some (r1, r2)) :
    Calls Try.prog 36 #[.string a0, .int .i64 a1, .bool a2] w fun e w' => e = .returned (.tuple #[.string r1, .int .i64 r2]) ∧ Below w.heap.size w w' := by
  have HB := Aside0.mk (Below.refl w.heap.size w)
  have H : (if a1 < 0 then (charref_At.j0 k a0 a1 a2 true) else (if a1 ≥ (a0.size : Int) then (charref_At.j0 k a0 a1 a2 true) else (if 0 ≤ a1 then (if a1 < (a0.size : Int) then (charref_At.j0 k a0 a1 a2 ((bt a0 a1) != 38)) else (none)) else (none)))) = some (r1, r2) := h
  clear h
  have HC4 := Aside0.mk H
  clear H
  go_enter Try.func36, Try.ntmps36
  go_upto_region 1 with (fail)
  go_cut [28] (fun v28 wc => ∃ (kq : Nat) (x28_3 : Bool), v28 = .bool x28_3 ∧ Aside0 (charref_At.j0 kq a0 a1 a2 x28_3 = some (r1, r2)) ∧ Aside0 (kq ≤ k) ∧ Aside0 (Below w.heap.size w wc))
  case first =>
    have H := HC4.out
    clear HC4
    by_cases c5 : a1 < 0
    · rw [if_pos c5] at H
      have c5b0 : decide (a1 < 0) = true := decide_eq_true c5
      clear c5
      (first | rw [c5b0] | (simp only [i64_w, i32_w]; rw [c5b0]) | skip)
      have H' := Aside0.mk H
      clear H
      go_wp2
      go_meet
      case rel => exact ⟨_, (true), (by first | rfl | (simp; done) | (simp [*]; done)), H', ⟨by first | omega | exact Nat.le_refl _⟩, ⟨by repeat (first | (with_reducible first | exact HB.out | apply below_alloc | apply pw_below_drewN | apply below_drew1) | exact HB.out)⟩⟩
    · rw [if_neg c5] at H
      have c5b0 : decide (a1 < 0) = false := decide_eq_false c5
      clear c5
      (first | rw [c5b0] | (simp only [i64_w, i32_w]; rw [c5b0]) | skip)
      by_cases c6 : a1 ≥ (a0.size : Int)
      · rw [if_pos c6] at H
        have c6b0 : decide ((a0.size : Int) ≤ a1) = true := decide_eq_true c6
        clear c6
        have H' := Aside0.mk H
        clear H
        go_wp2
        go_meet
        case rel => exact ⟨_, (true), (by first | rfl | (simp; done) | (simp [*]; done)), H', ⟨by first | omega | exact Nat.le_refl _⟩, ⟨by repeat (first | (with_reducible first | exact HB.out | apply below_alloc | apply pw_below_drewN | apply below_drew1) | exact HB.out)⟩⟩
      · rw [if_neg c6] at H
        have c6b0 : decide ((a0.size : Int) ≤ a1) = false := decide_eq_false c6
        clear c6
        by_cases c7 : 0 ≤ a1
        · rw [if_pos c7] at H
          have c7b0 : decide (0 ≤ a1) = true := decide_eq_true c7
          clear c7
          by_cases c8 : a1 < (a0.size : Int)
          · rw [if_pos c8] at H
            have c8b0 : decide (a1 < (a0.size : Int)) = true := decide_eq_true c8
            clear c8
            have H' := Aside0.mk H
            clear H
            have p9 : 0 ≤ (a1 : Int) := of_decide_eq_true (by first | (with_reducible assumption) | assumption)
            have q9 : a1 < (a0.size : Int) := of_decide_eq_true (by first | (with_reducible assumption) | assumption)
            have hx9 := bt_at a0 a1
            replace p9 := eq_true p9
            replace q9 := eq_true q9
            go_wp2
            go_meet
            case rel => exact ⟨_, (((bt a0 a1) != 38)), (by first | rfl | (simp; done) | (simp [*]; done)), H', ⟨by first | omega | exact Nat.le_refl _⟩, ⟨by repeat (first | (with_reducible first | exact HB.out | apply below_alloc | apply pw_below_drewN | apply below_drew1) | exact HB.out)⟩⟩
          · rw [if_neg c8] at H
            exact absurd H (by simp)
        · rw [if_neg c7] at H
          exact absurd H (by simp)
  case rest =>
    clear HC4
    try clear p2
    try clear c3
    try clear c5
    try clear c5b0
    try clear c6
    try clear c6b0
    try clear c7
    try clear c7b0
    try clear c8
    try clear c8b0
    try clear p9
    try clear q9
    try clear hx9
    try clear p9
    try clear q9
    obtain ⟨kq, x28_3, rfl, HA, HJ3, HB⟩ := hcut
    cases kq with
    | zero => exact absurd HA.out (by simp [charref_At.j0])
    | succ kj3 =>
      have H := HA.out
      clear HA
      simp only [charref_At.j0] at H
      by_cases c10 : x28_3 = true
      · subst c10
        have H1 : (some ((⟨#[]⟩ : ByteArray), 0)) = some (r1, r2) := by rw [if_pos rfl] at H; exact H
        clear H
        have H := H1
        clear H1
        simp only [Option.some.injEq, Prod.mk.injEq] at H
        obtain ⟨rfl, rfl⟩ := H
        go_wp2
        go_ret2
        exact ⟨by first | rfl | (simp [errW_none, errW_some] <;> rfl) | (simp [*, errW_none, errW_some] <;> rfl), by repeat (first | (with_reducible first | exact HB.out | apply below_alloc | apply pw_below_drewN | apply below_drew1) | exact HB.out)⟩
      · replace c10 := Bool.eq_false_iff.mpr c10
        subst c10
        have H1 : (if 0 ≤ (wrap64 (a1 + 1)) then (if (wrap64 (a1 + 1)) ≤ (a0.size : Int) then ((strings_CutPrefix.f (a0.extract ((wrap64 (a1 + 1)) : Int).toNat a0.size) (⟨#[35]⟩ : ByteArray)).bind fun bt133 => (if bt133.2 = true then ((charref_byNumber.f kj3 bt133.1).bind fun bt135 => (if bt135.2 > 0 then (some (bt135.1, wrap64 (bt135.2 + 2))) else (some ((⟨#[38]⟩ : ByteArray), 1)))) else ((charref_byName.f kj3 (a0.extract ((wrap64 (a1 + 1)) : Int).toNat a0.size)).bind fun bt137 => (if bt137.2 = 0 then (some ((⟨#[38]⟩ : ByteArray), 1)) else (if a2 = true then (if 0 ≤ (wrap64 (bt137.2 - 1)) then (if (wrap64 (bt137.2 - 1)) < ((a0.extract ((wrap64 (a1 + 1)) : Int).toNat a0.size).size : Int) then (if (bt (a0.extract ((wrap64 (a1 + 1)) : Int).toNat a0.size) (wrap64 (bt137.2 - 1))) = 59 then (some (bt137.1, wrap64 (bt137.2 + 1))) else (if 0 ≤ bt137.2 then (if bt137.2 ≤ ((a0.extract ((wrap64 (a1 + 1)) : Int).toNat a0.size).size : Int) then ((charref_stays.f ((a0.extract ((wrap64 (a1 + 1)) : Int).toNat a0.size).extract (bt137.2 : Int).toNat (a0.extract ((wrap64 (a1 + 1)) : Int).toNat a0.size).size)).bind fun t139 => (if t139 = true then (some ((⟨#[38]⟩ : ByteArray), 1)) else (some (bt137.1, wrap64 (bt137.2 + 1))))) else (none)) else (none))) else (none)) else (none)) else (some (bt137.1, wrap64 (bt137.2 + 1)))))))) else (none)) else (none)) = some (r1, r2) := by rw [if_neg (show ¬ (false = true) by decide)] at H; exact H
        clear H
        have H := H1
        clear H1
        obtain ⟨ji11, hji11⟩ : ∃ j_ : Int, (wrap64 (a1 + 1)) = j_ := ⟨_, rfl⟩
        replace H : (if 0 ≤ (ji11) then (if (ji11) ≤ (a0.size : Int) then ((strings_CutPrefix.f (a0.extract ((ji11) : Int).toNat a0.size) (⟨#[35]⟩ : ByteArray)).bind fun bt133 => (if bt133.2 = true then ((charref_byNumber.f kj3 bt133.1).bind fun bt135 => (if bt135.2 > 0 then (some (bt135.1, wrap64 (bt135.2 + 2))) else (some ((⟨#[38]⟩ : ByteArray), 1)))) else ((charref_byName.f kj3 (a0.extract ((ji11) : Int).toNat a0.size)).bind fun bt137 => (if bt137.2 = 0 then (some ((⟨#[38]⟩ : ByteArray), 1)) else (if a2 = true then (if 0 ≤ (wrap64 (bt137.2 - 1)) then (if (wrap64 (bt137.2 - 1)) < ((a0.extract ((ji11) : Int).toNat a0.size).size : Int) then (if (bt (a0.extract ((ji11) : Int).toNat a0.size) (wrap64 (bt137.2 - 1))) = 59 then (some (bt137.1, wrap64 (bt137.2 + 1))) else (if 0 ≤ bt137.2 then (if bt137.2 ≤ ((a0.extract ((ji11) : Int).toNat a0.size).size : Int) then ((charref_stays.f ((a0.extract ((ji11) : Int).toNat a0.size).extract (bt137.2 : Int).toNat (a0.extract ((ji11) : Int).toNat a0.size).size)).bind fun t139 => (if t139 = true then (some ((⟨#[38]⟩ : ByteArray), 1)) else (some (bt137.1, wrap64 (bt137.2 + 1))))) else (none)) else (none))) else (none)) else (none)) else (some (bt137.1, wrap64 (bt137.2 + 1)))))))) else (none)) else (none)) = some (r1, r2) := by first | (rw [hji11] at H; exact H) | (simp only [hji11] at H ⊢; exact H)
        have hji11w : (IntKind.i64.wrap (a1 + 1)) = ji11 := (i64_w _).trans hji11
        by_cases c12 : 0 ≤ (ji11)
        · rw [if_pos c12] at H
          have c12b0 := eq_true c12
          have c12b1 : decide (0 ≤ (ji11)) = true := decide_eq_true c12
          clear c12
          by_cases c13 : (ji11) ≤ (a0.size : Int)
          · rw [if_pos c13] at H
            have c13b0 := eq_true c13
            have c13b1 : decide ((ji11) ≤ (a0.size : Int)) = true := decide_eq_true c13
            clear c13
            replace H := Option.bind_eq_some_iff.mp H
            obtain ⟨⟨t133, t134⟩, A140, H⟩ := H
            replace H : (if t134 = true then ((charref_byNumber.f kj3 t133).bind fun bt135 => (if bt135.2 > 0 then (some (bt135.1, wrap64 (bt135.2 + 2))) else (some ((⟨#[38]⟩ : ByteArray), 1)))) else ((charref_byName.f kj3 (a0.extract ((ji11) : Int).toNat a0.size)).bind fun bt137 => (if bt137.2 = 0 then (some ((⟨#[38]⟩ : ByteArray), 1)) else (if a2 = true then (if 0 ≤ (wrap64 (bt137.2 - 1)) then (if (wrap64 (bt137.2 - 1)) < ((a0.extract ((ji11) : Int).toNat a0.size).size : Int) then (if (bt (a0.extract ((ji11) : Int).toNat a0.size) (wrap64 (bt137.2 - 1))) = 59 then (some (bt137.1, wrap64 (bt137.2 + 1))) else (if 0 ≤ bt137.2 then (if bt137.2 ≤ ((a0.extract ((ji11) : Int).toNat a0.size).size : Int) then ((charref_stays.f ((a0.extract ((ji11) : Int).toNat a0.size).extract (bt137.2 : Int).toNat (a0.extract ((ji11) : Int).toNat a0.size).size)).bind fun t139 => (if t139 = true then (some ((⟨#[38]⟩ : ByteArray), 1)) else (some (bt137.1, wrap64 (bt137.2 + 1))))) else (none)) else (none))) else (none)) else (none)) else (some (bt137.1, wrap64 (bt137.2 + 1))))))) = some (r1, r2) := H
            have A14 := Aside0.mk A140
            clear A140
            by_cases c15 : t134 = true
            · subst c15
              have H1 : ((charref_byNumber.f kj3 t133).bind fun bt135 => (if bt135.2 > 0 then (some (bt135.1, wrap64 (bt135.2 + 2))) else (some ((⟨#[38]⟩ : ByteArray), 1)))) = some (r1, r2) := by rw [if_pos rfl] at H; exact H
              clear H
              have H := H1
              clear H1
              replace H := Option.bind_eq_some_iff.mp H
              obtain ⟨⟨t135, t136⟩, A160, H⟩ := H
              replace H : (if t136 > 0 then (some (t135, wrap64 (t136 + 2))) else (some ((⟨#[38]⟩ : ByteArray), 1))) = some (r1, r2) := H
              have A16 := Aside0.mk A160
              clear A160
              by_cases c17 : t136 > 0
              · rw [if_pos c17] at H
                have c17b0 : decide (0 < t136) = true := decide_eq_true c17
                clear c17
                simp only [Option.some.injEq, Prod.mk.injEq] at H
                obtain ⟨rfl, rfl⟩ := H
                go_wp2_with (first | ((with_reducible refine gate_callee (f := 54) rfl ?_); refine goesL_ (some 35) rfl rfl Try.func54 (by kernel_rfl) rfl #[.string (a0.extract ((ji11) : Int).toNat a0.size), .string (⟨#[35]⟩ : ByteArray)] rfl (by (try simp only [List.map_toArray, List.map_cons, List.map_nil]); first | done | (simp only [hji11]; rfl) | rfl | (simp only [List.length_drop, List.length_take]; rfl)) ?_; (with_reducible refine (strings_CutPrefix.calls (a0.extract ((ji11) : Int).toNat a0.size) (⟨#[35]⟩ : ByteArray) t133 true _ A14.out).mono ?_); rintro e w' ⟨rfl, ⟨nd, rfl⟩⟩; refine ⟨_, rfl, ?_⟩) | ((with_reducible refine gate_callee (f := 62) rfl ?_); refine goesL_ (some 41) rfl rfl Try.func62 (by kernel_rfl) rfl #[.string t133] rfl (by (try simp only [List.map_toArray, List.map_cons, List.map_nil]); first | done | rfl | (simp only [List.length_drop, List.length_take]; rfl)) ?_; (with_reducible refine (charref_byNumber.calls kj3 t133 t135 t136 _ A16.out).mono ?_); rintro e w18 ⟨rfl, hb⟩; refine ⟨_, rfl, ?_⟩; have n0_ := Aside0.mk (below_step (by repeat (first | (with_reducible first | exact HB.out | apply below_alloc | apply pw_below_drewN | apply below_drew1) | exact HB.out)) hb); clear HB; have HB := n0_; clear n0_; (try clear hb); (try clear hb2); (try clear hk); (try clear hi)))
                go_ret2
                exact ⟨by first | rfl | (simp [errW_none, errW_some] <;> rfl) | (simp only [← hji11]; first | rfl | (simp [errW_none, errW_some] <;> rfl)) | (simp [*, errW_none, errW_some] <;> rfl), by repeat (first | (with_reducible first | exact HB.out | apply below_alloc | apply pw_below_drewN | apply below_drew1) | exact HB.out)⟩
              · rw [if_neg c17] at H
                have c17b0 : decide (0 < t136) = false := decide_eq_false c17
                clear c17
                simp only [Option.some.injEq, Prod.mk.injEq] at H
                obtain ⟨rfl, rfl⟩ := H
                go_wp2_with (first | ((with_reducible refine gate_callee (f := 54) rfl ?_); refine goesL_ (some 35) rfl rfl Try.func54 (by kernel_rfl) rfl #[.string (a0.extract ((ji11) : Int).toNat a0.size), .string (⟨#[35]⟩ : ByteArray)] rfl (by (try simp only [List.map_toArray, List.map_cons, List.map_nil]); first | done | (simp only [hji11]; rfl) | rfl | (simp only [List.length_drop, List.length_take]; rfl)) ?_; (with_reducible refine (strings_CutPrefix.calls (a0.extract ((ji11) : Int).toNat a0.size) (⟨#[35]⟩ : ByteArray) t133 true _ A14.out).mono ?_); rintro e w' ⟨rfl, ⟨nd, rfl⟩⟩; refine ⟨_, rfl, ?_⟩) | ((with_reducible refine gate_callee (f := 62) rfl ?_); refine goesL_ (some 41) rfl rfl Try.func62 (by kernel_rfl) rfl #[.string t133] rfl (by (try simp only [List.map_toArray, List.map_cons, List.map_nil]); first | done | rfl | (simp only [List.length_drop, List.length_take]; rfl)) ?_; (with_reducible refine (charref_byNumber.calls kj3 t133 t135 t136 _ A16.out).mono ?_); rintro e w19 ⟨rfl, hb⟩; refine ⟨_, rfl, ?_⟩; have n0_ := Aside0.mk (below_step (by repeat (first | (with_reducible first | exact HB.out | apply below_alloc | apply pw_below_drewN | apply below_drew1) | exact HB.out)) hb); clear HB; have HB := n0_; clear n0_; (try clear hb); (try clear hb2); (try clear hk); (try clear hi)))
                go_ret2
                exact ⟨by first | rfl | (simp [errW_none, errW_some] <;> rfl) | (simp only [← hji11]; first | rfl | (simp [errW_none, errW_some] <;> rfl)) | (simp [*, errW_none, errW_some] <;> rfl), by repeat (first | (with_reducible first | exact HB.out | apply below_alloc | apply pw_below_drewN | apply below_drew1) | exact HB.out)⟩
            · replace c15 := Bool.eq_false_iff.mpr c15
              subst c15
              have H1 : ((charref_byName.f kj3 (a0.extract ((ji11) : Int).toNat a0.size)).bind fun bt137 => (if bt137.2 = 0 then (some ((⟨#[38]⟩ : ByteArray), 1)) else (if a2 = true then (if 0 ≤ (wrap64 (bt137.2 - 1)) then (if (wrap64 (bt137.2 - 1)) < ((a0.extract ((ji11) : Int).toNat a0.size).size : Int) then (if (bt (a0.extract ((ji11) : Int).toNat a0.size) (wrap64 (bt137.2 - 1))) = 59 then (some (bt137.1, wrap64 (bt137.2 + 1))) else (if 0 ≤ bt137.2 then (if bt137.2 ≤ ((a0.extract ((ji11) : Int).toNat a0.size).size : Int) then ((charref_stays.f ((a0.extract ((ji11) : Int).toNat a0.size).extract (bt137.2 : Int).toNat (a0.extract ((ji11) : Int).toNat a0.size).size)).bind fun t139 => (if t139 = true then (some ((⟨#[38]⟩ : ByteArray), 1)) else (some (bt137.1, wrap64 (bt137.2 + 1))))) else (none)) else (none))) else (none)) else (none)) else (some (bt137.1, wrap64 (bt137.2 + 1)))))) = some (r1, r2) := by rw [if_neg (show ¬ (false = true) by decide)] at H; exact H
              clear H
              have H := H1
              clear H1
              replace H := Option.bind_eq_some_iff.mp H
              obtain ⟨⟨t137, t138⟩, A200, H⟩ := H
              replace H : (if t138 = 0 then (some ((⟨#[38]⟩ : ByteArray), 1)) else (if a2 = true then (if 0 ≤ (wrap64 (t138 - 1)) then (if (wrap64 (t138 - 1)) < ((a0.extract ((ji11) : Int).toNat a0.size).size : Int) then (if (bt (a0.extract ((ji11) : Int).toNat a0.size) (wrap64 (t138 - 1))) = 59 then (some (t137, wrap64 (t138 + 1))) else (if 0 ≤ t138 then (if t138 ≤ ((a0.extract ((ji11) : Int).toNat a0.size).size : Int) then ((charref_stays.f ((a0.extract ((ji11) : Int).toNat a0.size).extract (t138 : Int).toNat (a0.extract ((ji11) : Int).toNat a0.size).size)).bind fun t139 => (if t139 = true then (some ((⟨#[38]⟩ : ByteArray), 1)) else (some (t137, wrap64 (t138 + 1))))) else (none)) else (none))) else (none)) else (none)) else (some (t137, wrap64 (t138 + 1))))) = some (r1, r2) := H
              have A20 := Aside0.mk A200
              clear A200
              by_cases c21 : t138 = 0
              · rw [if_pos c21] at H
                have c21b0 : (t138 == 0) = true := beq_iff_eq.mpr c21
                have c21b1 : (t138 != 0) = false := bne_eq_false_iff_eq.mpr c21
                clear c21
                simp only [Option.some.injEq, Prod.mk.injEq] at H
                obtain ⟨rfl, rfl⟩ := H
                go_wp2_with (first | ((with_reducible refine gate_callee (f := 54) rfl ?_); refine goesL_ (some 35) rfl rfl Try.func54 (by kernel_rfl) rfl #[.string (a0.extract ((ji11) : Int).toNat a0.size), .string (⟨#[35]⟩ : ByteArray)] rfl (by (try simp only [List.map_toArray, List.map_cons, List.map_nil]); first | done | (simp only [hji11]; rfl) | rfl | (simp only [List.length_drop, List.length_take]; rfl)) ?_; (with_reducible refine (strings_CutPrefix.calls (a0.extract ((ji11) : Int).toNat a0.size) (⟨#[35]⟩ : ByteArray) t133 false _ A14.out).mono ?_); rintro e w' ⟨rfl, ⟨nd, rfl⟩⟩; refine ⟨_, rfl, ?_⟩) | ((with_reducible refine gate_callee (f := 63) rfl ?_); refine goesL_ (some 51) rfl rfl Try.func63 (by kernel_rfl) rfl #[.string (a0.extract ((ji11) : Int).toNat a0.size)] rfl (by (try simp only [List.map_toArray, List.map_cons, List.map_nil]); first | done | (simp only [hji11]; rfl) | rfl | (simp only [List.length_drop, List.length_take]; rfl)) ?_; (with_reducible refine (charref_byName.calls kj3 (a0.extract ((ji11) : Int).toNat a0.size) t137 t138 _ A20.out).mono ?_); rintro e w22 ⟨rfl, hb⟩; refine ⟨_, rfl, ?_⟩; have n0_ := Aside0.mk (below_step (by repeat (first | (with_reducible first | exact HB.out | apply below_alloc | apply pw_below_drewN | apply below_drew1) | exact HB.out)) hb); clear HB; have HB := n0_; clear n0_; (try clear hb); (try clear hb2); (try clear hk); (try clear hi)))
                go_ret2
                exact ⟨by first | rfl | (simp [errW_none, errW_some] <;> rfl) | (simp only [← hji11]; first | rfl | (simp [errW_none, errW_some] <;> rfl)) | (simp [*, errW_none, errW_some] <;> rfl), by repeat (first | (with_reducible first | exact HB.out | apply below_alloc | apply pw_below_drewN | apply below_drew1) | exact HB.out)⟩
              · rw [if_neg c21] at H
                have c21b0 : (t138 == 0) = false := beq_eq_false_iff_ne.mpr c21
                have c21b1 : (t138 != 0) = true := bne_iff_ne.mpr c21
                by_cases c23 : a2 = true
                · subst c23
                  have H1 : (if 0 ≤ (wrap64 (t138 - 1)) then (if (wrap64 (t138 - 1)) < ((a0.extract ((ji11) : Int).toNat a0.size).size : Int) then (if (bt (a0.extract ((ji11) : Int).toNat a0.size) (wrap64 (t138 - 1))) = 59 then (some (t137, wrap64 (t138 + 1))) else (if 0 ≤ t138 then (if t138 ≤ ((a0.extract ((ji11) : Int).toNat a0.size).size : Int) then ((charref_stays.f ((a0.extract ((ji11) : Int).toNat a0.size).extract (t138 : Int).toNat (a0.extract ((ji11) : Int).toNat a0.size).size)).bind fun t139 => (if t139 = true then (some ((⟨#[38]⟩ : ByteArray), 1)) else (some (t137, wrap64 (t138 + 1))))) else (none)) else (none))) else (none)) else (none)) = some (r1, r2) := by rw [if_pos rfl] at H; exact H
                  clear H
                  have H := H1
                  clear H1
                  obtain ⟨ji24, hji24⟩ : ∃ j_ : Int, (wrap64 (t138 - 1)) = j_ := ⟨_, rfl⟩
                  replace H : (if 0 ≤ (ji24) then (if (ji24) < ((a0.extract ((ji11) : Int).toNat a0.size).size : Int) then (if (bt (a0.extract ((ji11) : Int).toNat a0.size) (ji24)) = 59 then (some (t137, wrap64 (t138 + 1))) else (if 0 ≤ t138 then (if t138 ≤ ((a0.extract ((ji11) : Int).toNat a0.size).size : Int) then ((charref_stays.f ((a0.extract ((ji11) : Int).toNat a0.size).extract (t138 : Int).toNat (a0.extract ((ji11) : Int).toNat a0.size).size)).bind fun t139 => (if t139 = true then (some ((⟨#[38]⟩ : ByteArray), 1)) else (some (t137, wrap64 (t138 + 1))))) else (none)) else (none))) else (none)) else (none)) = some (r1, r2) := by first | (rw [hji24] at H; exact H) | (simp only [hji24] at H ⊢; exact H)
                  (try rw [hji24] at A14)
                  (try rw [hji24] at A20)
                  have hji24w : (IntKind.i64.wrap (t138 - 1)) = ji24 := (i64_w _).trans hji24
                  by_cases c25 : 0 ≤ (ji24)
                  · rw [if_pos c25] at H
                    have c25b0 : decide (0 ≤ (ji24)) = true := decide_eq_true c25
                    clear c25
                    by_cases c26 : (ji24) < ((a0.extract ((ji11) : Int).toNat a0.size).size : Int)
                    · rw [if_pos c26] at H
                      have c26b0 : decide ((ji24) < ((a0.extract ((ji11) : Int).toNat a0.size).size : Int)) = true := decide_eq_true c26
                      (try (have c26b0s := c26b0; simp at c26b0s))
                      clear c26
                      by_cases c28 : (bt (a0.extract ((ji11) : Int).toNat a0.size) (ji24)) = 59
                      · rw [if_pos c28] at H
                        have c28b0 : ((bt (a0.extract ((ji11) : Int).toNat a0.size) (ji24)) == 59) = true := beq_iff_eq.mpr c28
                        (try (have c28b0s := c28b0; simp at c28b0s))
                        have c28b1 : ((bt (a0.extract ((ji11) : Int).toNat a0.size) (ji24)) != 59) = false := bne_eq_false_iff_eq.mpr c28
                        (try (have c28b1s := c28b1; simp at c28b1s))
                        clear c28
                        simp only [Option.some.injEq, Prod.mk.injEq] at H
                        obtain ⟨rfl, rfl⟩ := H
                        go_wp2_with (first | ((with_reducible refine gate_callee (f := 54) rfl ?_); refine goesL_ (some 35) rfl rfl Try.func54 (by kernel_rfl) rfl #[.string (a0.extract ((ji11) : Int).toNat a0.size), .string (⟨#[35]⟩ : ByteArray)] rfl (by (try simp only [List.map_toArray, List.map_cons, List.map_nil]); first | done | (simp only [hji11]; rfl) | rfl | (simp only [List.length_drop, List.length_take]; rfl)) ?_; (with_reducible refine (strings_CutPrefix.calls (a0.extract ((ji11) : Int).toNat a0.size) (⟨#[35]⟩ : ByteArray) t133 false _ A14.out).mono ?_); rintro e w' ⟨rfl, ⟨nd, rfl⟩⟩; refine ⟨_, rfl, ?_⟩) | ((with_reducible refine gate_callee (f := 63) rfl ?_); refine goesL_ (some 51) rfl rfl Try.func63 (by kernel_rfl) rfl #[.string (a0.extract ((ji11) : Int).toNat a0.size)] rfl (by (try simp only [List.map_toArray, List.map_cons, List.map_nil]); first | done | (simp only [hji11]; rfl) | rfl | (simp only [List.length_drop, List.length_take]; rfl)) ?_; (with_reducible refine (charref_byName.calls kj3 (a0.extract ((ji11) : Int).toNat a0.size) t137 t138 _ A20.out).mono ?_); rintro e w29 ⟨rfl, hb⟩; refine ⟨_, rfl, ?_⟩; have n0_ := Aside0.mk (below_step (by repeat (first | (with_reducible first | exact HB.out | apply below_alloc | apply pw_below_drewN | apply below_drew1) | exact HB.out)) hb); clear HB; have HB := n0_; clear n0_; (try clear hb); (try clear hb2); (try clear hk); (try clear hi); have p27 : 0 ≤ ((ji24) : Int) := of_decide_eq_true (by first | (with_reducible assumption) | assumption); have q27 : (ji24) < ((a0.extract ((ji11) : Int).toNat a0.size).size : Int) := of_decide_eq_true (by first | (with_reducible assumption) | assumption); have hx27 := bt_at (a0.extract ((ji11) : Int).toNat a0.size) (ji24); (try (have qs27 := q27; simp at qs27)); (try (have hxs27 := bt_at (a0.extract ((ji11) : Int).toNat a0.size) (ji24); simp only [ByteArray.size_extract, Nat.min_self] at hxs27)); replace p27 := eq_true p27; replace q27 := eq_true q27))
                        go_ret2
                        exact ⟨by first | rfl | (simp [errW_none, errW_some] <;> rfl) | (simp only [← hji11, ← hji24]; first | rfl | (simp [errW_none, errW_some] <;> rfl)) | (simp [*, errW_none, errW_some] <;> rfl), by repeat (first | (with_reducible first | exact HB.out | apply below_alloc | apply pw_below_drewN | apply below_drew1) | exact HB.out)⟩
                      · rw [if_neg c28] at H
                        have c28b0 : ((bt (a0.extract ((ji11) : Int).toNat a0.size) (ji24)) == 59) = false := beq_eq_false_iff_ne.mpr c28
                        (try (have c28b0s := c28b0; simp at c28b0s))
                        have c28b1 : ((bt (a0.extract ((ji11) : Int).toNat a0.size) (ji24)) != 59) = true := bne_iff_ne.mpr c28
                        (try (have c28b1s := c28b1; simp at c28b1s))
                        by_cases c30 : 0 ≤ t138
                        · rw [if_pos c30] at H
                          have c30b0 := eq_true c30
                          have c30b1 : decide (0 ≤ t138) = true := decide_eq_true c30
                          clear c30
                          by_cases c31 : t138 ≤ ((a0.extract ((ji11) : Int).toNat a0.size).size : Int)
                          · rw [if_pos c31] at H
                            have c31b0 := eq_true c31
                            have c31b1 : decide (t138 ≤ ((a0.extract ((ji11) : Int).toNat a0.size).size : Int)) = true := decide_eq_true c31
                            (try (have c31b1s := c31b1; simp at c31b1s))
                            clear c31
                            replace H := Option.bind_eq_some_iff.mp H
                            obtain ⟨t139, A320, H⟩ := H
                            replace H : (if t139 = true then (some ((⟨#[38]⟩ : ByteArray), 1)) else (some (t137, wrap64 (t138 + 1)))) = some (r1, r2) := H
                            have A32 := Aside0.mk A320
                            clear A320
                            by_cases c33 : t139 = true
                            · subst c33
                              have H1 : (some ((⟨#[38]⟩ : ByteArray), 1)) = some (r1, r2) := by rw [if_pos rfl] at H; exact H
                              clear H
                              have H := H1
                              clear H1
                              simp only [Option.some.injEq, Prod.mk.injEq] at H
                              obtain ⟨rfl, rfl⟩ := H
                              go_wp2_with (first | ((with_reducible refine gate_callee (f := 54) rfl ?_); refine goesL_ (some 35) rfl rfl Try.func54 (by kernel_rfl) rfl #[.string (a0.extract ((ji11) : Int).toNat a0.size), .string (⟨#[35]⟩ : ByteArray)] rfl (by (try simp only [List.map_toArray, List.map_cons, List.map_nil]); first | done | (simp only [hji11]; rfl) | rfl | (simp only [List.length_drop, List.length_take]; rfl)) ?_; (with_reducible refine (strings_CutPrefix.calls (a0.extract ((ji11) : Int).toNat a0.size) (⟨#[35]⟩ : ByteArray) t133 false _ A14.out).mono ?_); rintro e w' ⟨rfl, ⟨nd, rfl⟩⟩; refine ⟨_, rfl, ?_⟩) | ((with_reducible refine gate_callee (f := 63) rfl ?_); refine goesL_ (some 51) rfl rfl Try.func63 (by kernel_rfl) rfl #[.string (a0.extract ((ji11) : Int).toNat a0.size)] rfl (by (try simp only [List.map_toArray, List.map_cons, List.map_nil]); first | done | (simp only [hji11]; rfl) | rfl | (simp only [List.length_drop, List.length_take]; rfl)) ?_; (with_reducible refine (charref_byName.calls kj3 (a0.extract ((ji11) : Int).toNat a0.size) t137 t138 _ A20.out).mono ?_); rintro e w34 ⟨rfl, hb⟩; refine ⟨_, rfl, ?_⟩; have n0_ := Aside0.mk (below_step (by repeat (first | (with_reducible first | exact HB.out | apply below_alloc | apply pw_below_drewN | apply below_drew1) | exact HB.out)) hb); clear HB; have HB := n0_; clear n0_; (try clear hb); (try clear hb2); (try clear hk); (try clear hi); have p27 : 0 ≤ ((ji24) : Int) := of_decide_eq_true (by first | (with_reducible assumption) | assumption); have q27 : (ji24) < ((a0.extract ((ji11) : Int).toNat a0.size).size : Int) := of_decide_eq_true (by first | (with_reducible assumption) | assumption); have hx27 := bt_at (a0.extract ((ji11) : Int).toNat a0.size) (ji24); (try (have qs27 := q27; simp at qs27)); (try (have hxs27 := bt_at (a0.extract ((ji11) : Int).toNat a0.size) (ji24); simp only [ByteArray.size_extract, Nat.min_self] at hxs27)); replace p27 := eq_true p27; replace q27 := eq_true q27) | (go_at_call 64; refine calls_of_args (args' := #[.string ((a0.extract ((ji11) : Int).toNat a0.size).extract (t138 : Int).toNat (a0.extract ((ji11) : Int).toNat a0.size).size)]) (by first | rfl | (simp only [ByteArray.size_extract, Nat.min_self]; done) | simp) ?_; (with_reducible refine (charref_stays.calls ((a0.extract ((ji11) : Int).toNat a0.size).extract (t138 : Int).toNat (a0.extract ((ji11) : Int).toNat a0.size).size) true _ A32.out).mono ?_); rintro e w' ⟨rfl, ⟨nd, rfl⟩⟩))
                              go_ret2
                              exact ⟨by first | rfl | (simp [errW_none, errW_some] <;> rfl) | (simp only [← hji11, ← hji24]; first | rfl | (simp [errW_none, errW_some] <;> rfl)) | (simp [*, errW_none, errW_some] <;> rfl), by repeat (first | (with_reducible first | exact HB.out | apply below_alloc | apply pw_below_drewN | apply below_drew1) | exact HB.out)⟩
                            · replace c33 := Bool.eq_false_iff.mpr c33
                              subst c33
                              have H1 : (some (t137, wrap64 (t138 + 1))) = some (r1, r2) := by rw [if_neg (show ¬ (false = true) by decide)] at H; exact H
                              clear H
                              have H := H1
                              clear H1
                              simp only [Option.some.injEq, Prod.mk.injEq] at H
                              obtain ⟨rfl, rfl⟩ := H
                              go_wp2_with (first | ((with_reducible refine gate_callee (f := 54) rfl ?_); refine goesL_ (some 35) rfl rfl Try.func54 (by kernel_rfl) rfl #[.string (a0.extract ((ji11) : Int).toNat a0.size), .string (⟨#[35]⟩ : ByteArray)] rfl (by (try simp only [List.map_toArray, List.map_cons, List.map_nil]); first | done | (simp only [hji11]; rfl) | rfl | (simp only [List.length_drop, List.length_take]; rfl)) ?_; (with_reducible refine (strings_CutPrefix.calls (a0.extract ((ji11) : Int).toNat a0.size) (⟨#[35]⟩ : ByteArray) t133 false _ A14.out).mono ?_); rintro e w' ⟨rfl, ⟨nd, rfl⟩⟩; refine ⟨_, rfl, ?_⟩) | ((with_reducible refine gate_callee (f := 63) rfl ?_); refine goesL_ (some 51) rfl rfl Try.func63 (by kernel_rfl) rfl #[.string (a0.extract ((ji11) : Int).toNat a0.size)] rfl (by (try simp only [List.map_toArray, List.map_cons, List.map_nil]); first | done | (simp only [hji11]; rfl) | rfl | (simp only [List.length_drop, List.length_take]; rfl)) ?_; (with_reducible refine (charref_byName.calls kj3 (a0.extract ((ji11) : Int).toNat a0.size) t137 t138 _ A20.out).mono ?_); rintro e w35 ⟨rfl, hb⟩; refine ⟨_, rfl, ?_⟩; have n0_ := Aside0.mk (below_step (by repeat (first | (with_reducible first | exact HB.out | apply below_alloc | apply pw_below_drewN | apply below_drew1) | exact HB.out)) hb); clear HB; have HB := n0_; clear n0_; (try clear hb); (try clear hb2); (try clear hk); (try clear hi); have p27 : 0 ≤ ((ji24) : Int) := of_decide_eq_true (by first | (with_reducible assumption) | assumption); have q27 : (ji24) < ((a0.extract ((ji11) : Int).toNat a0.size).size : Int) := of_decide_eq_true (by first | (with_reducible assumption) | assumption); have hx27 := bt_at (a0.extract ((ji11) : Int).toNat a0.size) (ji24); (try (have qs27 := q27; simp at qs27)); (try (have hxs27 := bt_at (a0.extract ((ji11) : Int).toNat a0.size) (ji24); simp only [ByteArray.size_extract, Nat.min_self] at hxs27)); replace p27 := eq_true p27; replace q27 := eq_true q27) | (go_at_call 64; refine calls_of_args (args' := #[.string ((a0.extract ((ji11) : Int).toNat a0.size).extract (t138 : Int).toNat (a0.extract ((ji11) : Int).toNat a0.size).size)]) (by first | rfl | (simp only [ByteArray.size_extract, Nat.min_self]; done) | simp) ?_; (with_reducible refine (charref_stays.calls ((a0.extract ((ji11) : Int).toNat a0.size).extract (t138 : Int).toNat (a0.extract ((ji11) : Int).toNat a0.size).size) false _ A32.out).mono ?_); rintro e w' ⟨rfl, ⟨nd, rfl⟩⟩))
                              go_ret2
                              exact ⟨by first | rfl | (simp [errW_none, errW_some] <;> rfl) | (simp only [← hji11, ← hji24]; first | rfl | (simp [errW_none, errW_some] <;> rfl)) | (simp [*, errW_none, errW_some] <;> rfl), by repeat (first | (with_reducible first | exact HB.out | apply below_alloc | apply pw_below_drewN | apply below_drew1) | exact HB.out)⟩
                          · rw [if_neg c31] at H
                            exact absurd H (by simp)
                        · rw [if_neg c30] at H
                          exact absurd H (by simp)
                    · rw [if_neg c26] at H
                      exact absurd H (by simp)
                  · rw [if_neg c25] at H
                    exact absurd H (by simp)
                · replace c23 := Bool.eq_false_iff.mpr c23
                  subst c23
                  have H1 : (some (t137, wrap64 (t138 + 1))) = some (r1, r2) := by rw [if_neg (show ¬ (false = true) by decide)] at H; exact H
                  clear H
                  have H := H1
                  clear H1
                  simp only [Option.some.injEq, Prod.mk.injEq] at H
                  obtain ⟨rfl, rfl⟩ := H
                  go_wp2_with (first | ((with_reducible refine gate_callee (f := 54) rfl ?_); refine goesL_ (some 35) rfl rfl Try.func54 (by kernel_rfl) rfl #[.string (a0.extract ((ji11) : Int).toNat a0.size), .string (⟨#[35]⟩ : ByteArray)] rfl (by (try simp only [List.map_toArray, List.map_cons, List.map_nil]); first | done | (simp only [hji11]; rfl) | rfl | (simp only [List.length_drop, List.length_take]; rfl)) ?_; (with_reducible refine (strings_CutPrefix.calls (a0.extract ((ji11) : Int).toNat a0.size) (⟨#[35]⟩ : ByteArray) t133 false _ A14.out).mono ?_); rintro e w' ⟨rfl, ⟨nd, rfl⟩⟩; refine ⟨_, rfl, ?_⟩) | ((with_reducible refine gate_callee (f := 63) rfl ?_); refine goesL_ (some 51) rfl rfl Try.func63 (by kernel_rfl) rfl #[.string (a0.extract ((ji11) : Int).toNat a0.size)] rfl (by (try simp only [List.map_toArray, List.map_cons, List.map_nil]); first | done | (simp only [hji11]; rfl) | rfl | (simp only [List.length_drop, List.length_take]; rfl)) ?_; (with_reducible refine (charref_byName.calls kj3 (a0.extract ((ji11) : Int).toNat a0.size) t137 t138 _ A20.out).mono ?_); rintro e w36 ⟨rfl, hb⟩; refine ⟨_, rfl, ?_⟩; have n0_ := Aside0.mk (below_step (by repeat (first | (with_reducible first | exact HB.out | apply below_alloc | apply pw_below_drewN | apply below_drew1) | exact HB.out)) hb); clear HB; have HB := n0_; clear n0_; (try clear hb); (try clear hb2); (try clear hk); (try clear hi)))
                  go_ret2
                  exact ⟨by first | rfl | (simp [errW_none, errW_some] <;> rfl) | (simp only [← hji11]; first | rfl | (simp [errW_none, errW_some] <;> rfl)) | (simp [*, errW_none, errW_some] <;> rfl), by repeat (first | (with_reducible first | exact HB.out | apply below_alloc | apply pw_below_drewN | apply below_drew1) | exact HB.out)⟩
          · rw [if_neg c13] at H
            exact absurd H (by simp)
        · rw [if_neg c12] at H
          exact absurd H (by simp)

end Go.Proofs.Ytpelfhldgnmhpaa.G
