-- laid by a program of this session's (wip/tools/myprint.py) over the translation
import Derived.Test.YthialihgamlljaaG0
import Derived.Test.YthialihgamlljaaG4
namespace Go.Proofs.Ythialihgamlljaa.G
open Go.RowKit Go.Proofs.YthialihgamlljaaW.PrintWords Go.Proofs.YthialihgamlljaaW.PrintLast Go.Proofs.YthialihgamlljaaW.PrintMore
attribute [local go_sem] max2_int min2_int max_two min_two max_three min_three max_four min_four   -- for this text's walks alone
set_option linter.unusedVariables false
set_option linter.unusedSimpArgs false

/-! ### kind_Is: function 71 -/
def kind_Is.f (k : Nat) (a0 : Int) (a1 : ByteArray) : Option (Bool) := if a0 = 1 then ((kind_void.f k a1).bind fun t154 => (some t154)) else (if a0 = 2 then ((kind_raw.f k a1).bind fun t155 => (some t155)) else (if a0 = 3 then ((kind_rcdata.f k a1).bind fun t156 => (some t156)) else (if a0 = 4 then ((kind_special.f k a1).bind fun t157 => (some t157)) else (if a0 = 5 then ((kind_among.f k a1 (([(⟨#[97]⟩ : ByteArray), (⟨#[98]⟩ : ByteArray), (⟨#[98, 105, 103]⟩ : ByteArray), (⟨#[99, 111, 100, 101]⟩ : ByteArray), (⟨#[101, 109]⟩ : ByteArray), (⟨#[102, 111, 110, 116]⟩ : ByteArray), (⟨#[105]⟩ : ByteArray), (⟨#[110, 111, 98, 114]⟩ : ByteArray), (⟨#[115]⟩ : ByteArray), (⟨#[115, 109, 97, 108, 108]⟩ : ByteArray), (⟨#[115, 116, 114, 105, 107, 101]⟩ : ByteArray), (⟨#[115, 116, 114, 111, 110, 103]⟩ : ByteArray), (⟨#[116, 116]⟩ : ByteArray), (⟨#[117]⟩ : ByteArray)] : List ByteArray))).bind fun t161 => (some t161)) else (if a0 = 6 then ((kind_block.f k a1).bind fun t162 => (some t162)) else (if a0 = 7 then ((kind_heading.f a1).bind fun t163 => (some t163)) else (if a0 = 8 then ((kind_among.f k a1 (([(⟨#[100, 100]⟩ : ByteArray), (⟨#[100, 116]⟩ : ByteArray), (⟨#[108, 105]⟩ : ByteArray), (⟨#[111, 112, 116, 103, 114, 111, 117, 112]⟩ : ByteArray), (⟨#[111, 112, 116, 105, 111, 110]⟩ : ByteArray), (⟨#[112]⟩ : ByteArray), (⟨#[114, 98]⟩ : ByteArray), (⟨#[114, 112]⟩ : ByteArray), (⟨#[114, 116]⟩ : ByteArray), (⟨#[114, 116, 99]⟩ : ByteArray)] : List ByteArray))).bind fun t167 => (some t167)) else (if a0 = 9 then ((kind_table.f k a1).bind fun t168 => (some t168)) else (if a0 = 10 then ((kind_breaks.f k a1).bind fun t169 => (some t169)) else (if a0 = 11 then ((kind_marker.f k a1).bind fun t170 => (some t170)) else (if a0 = 12 then ((kind_table.f k a1).bind fun t171 => (if t171 = true then (some true) else ((kind_among.f k a1 (([(⟨#[98, 111, 100, 121]⟩ : ByteArray), (⟨#[102, 114, 97, 109, 101]⟩ : ByteArray), (⟨#[102, 114, 97, 109, 101, 115, 101, 116]⟩ : ByteArray), (⟨#[104, 101, 97, 100]⟩ : ByteArray), (⟨#[104, 116, 109, 108]⟩ : ByteArray)] : List ByteArray))).bind fun t175 => (some t175)))) else (some false))))))))))))
theorem kind_Is.mono : ∀ a0 a1 k, LeO (kind_Is.f k a0 a1) (kind_Is.f (k + 1) a0 a1) := by
  intro a0 a1 k
  unfold kind_Is.f
  repeat' first
      | (with_reducible exact kind_among.mono _ _ _)
      | (with_reducible exact kind_block.mono _ _)
      | (with_reducible exact kind_breaks.mono _ _)
      | (with_reducible exact kind_marker.mono _ _)
      | (with_reducible exact kind_raw.mono _ _)
      | (with_reducible exact kind_rcdata.mono _ _)
      | (with_reducible exact kind_special.mono _ _)
      | (with_reducible exact kind_table.mono _ _)
      | (with_reducible exact kind_void.mono _ _)
      | (with_reducible exact LeO.refl _)
      | (with_reducible exact LeO.none _)
      | (with_reducible refine LeO.ite ?_ ?_)
      | (with_reducible refine LeO.bind ?_ (fun _ => ?_))
      | exact kind_among.mono _ _ _
      | exact kind_block.mono _ _
      | exact kind_breaks.mono _ _
      | exact kind_marker.mono _ _
      | exact kind_raw.mono _ _
      | exact kind_rcdata.mono _ _
      | exact kind_special.mono _ _
      | exact kind_table.mono _ _
      | exact kind_void.mono _ _
      | exact LeO.none _
      | refine LeO.ite ?_ ?_
      | refine LeO.bind ?_ (fun _ => ?_)
set_option maxHeartbeats 8000000 in
set_option maxRecDepth 100000 in
theorem kind_Is.calls (k : Nat) (a0 : Int) (a1 : ByteArray) (r : Bool) (w : World) (h : kind_Is.f k a0 a1 = some r) :
    Calls Try.prog 71 #[.int .i64 a0, .string a1] w fun e w' => e = .returned (.bool r) ∧ Below w.heap.size w w' := by
  have HB := Aside0.mk (Below.refl w.heap.size w)
  have H : (if a0 = 1 then ((kind_void.f k a1).bind fun t154 => (some t154)) else (if a0 = 2 then ((kind_raw.f k a1).bind fun t155 => (some t155)) else (if a0 = 3 then ((kind_rcdata.f k a1).bind fun t156 => (some t156)) else (if a0 = 4 then ((kind_special.f k a1).bind fun t157 => (some t157)) else (if a0 = 5 then ((kind_among.f k a1 (([(⟨#[97]⟩ : ByteArray), (⟨#[98]⟩ : ByteArray), (⟨#[98, 105, 103]⟩ : ByteArray), (⟨#[99, 111, 100, 101]⟩ : ByteArray), (⟨#[101, 109]⟩ : ByteArray), (⟨#[102, 111, 110, 116]⟩ : ByteArray), (⟨#[105]⟩ : ByteArray), (⟨#[110, 111, 98, 114]⟩ : ByteArray), (⟨#[115]⟩ : ByteArray), (⟨#[115, 109, 97, 108, 108]⟩ : ByteArray), (⟨#[115, 116, 114, 105, 107, 101]⟩ : ByteArray), (⟨#[115, 116, 114, 111, 110, 103]⟩ : ByteArray), (⟨#[116, 116]⟩ : ByteArray), (⟨#[117]⟩ : ByteArray)] : List ByteArray))).bind fun t161 => (some t161)) else (if a0 = 6 then ((kind_block.f k a1).bind fun t162 => (some t162)) else (if a0 = 7 then ((kind_heading.f a1).bind fun t163 => (some t163)) else (if a0 = 8 then ((kind_among.f k a1 (([(⟨#[100, 100]⟩ : ByteArray), (⟨#[100, 116]⟩ : ByteArray), (⟨#[108, 105]⟩ : ByteArray), (⟨#[111, 112, 116, 103, 114, 111, 117, 112]⟩ : ByteArray), (⟨#[111, 112, 116, 105, 111, 110]⟩ : ByteArray), (⟨#[112]⟩ : ByteArray), (⟨#[114, 98]⟩ : ByteArray), (⟨#[114, 112]⟩ : ByteArray), (⟨#[114, 116]⟩ : ByteArray), (⟨#[114, 116, 99]⟩ : ByteArray)] : List ByteArray))).bind fun t167 => (some t167)) else (if a0 = 9 then ((kind_table.f k a1).bind fun t168 => (some t168)) else (if a0 = 10 then ((kind_breaks.f k a1).bind fun t169 => (some t169)) else (if a0 = 11 then ((kind_marker.f k a1).bind fun t170 => (some t170)) else (if a0 = 12 then ((kind_table.f k a1).bind fun t171 => (if t171 = true then (some true) else ((kind_among.f k a1 (([(⟨#[98, 111, 100, 121]⟩ : ByteArray), (⟨#[102, 114, 97, 109, 101]⟩ : ByteArray), (⟨#[102, 114, 97, 109, 101, 115, 101, 116]⟩ : ByteArray), (⟨#[104, 101, 97, 100]⟩ : ByteArray), (⟨#[104, 116, 109, 108]⟩ : ByteArray)] : List ByteArray))).bind fun t175 => (some t175)))) else (some false))))))))))))) = some r := h
  clear h
  by_cases c3 : a0 = 1
  · rw [if_pos c3] at H
    have c3b0 : (a0 == 1) = true := beq_iff_eq.mpr c3
    have c3b1 : (a0 != 1) = false := bne_eq_false_iff_eq.mpr c3
    clear c3
    replace H := Option.bind_eq_some_iff.mp H
    obtain ⟨t154, A40, H⟩ := H
    replace H : (some t154) = some r := H
    have A4 := Aside0.mk A40
    clear A40
    obtain rfl := Option.some.inj H
    go_enter Try.func71, Try.ntmps71
    go_wp2_with (first | ((with_reducible refine gate_callee (f := 72) rfl ?_); refine goesL_ (some 9) rfl rfl Try.func72 (by kernel_rfl) rfl #[.string a1] rfl (by (try simp only [List.map_toArray, List.map_cons, List.map_nil]); first | done | rfl | (simp only [List.length_drop, List.length_take]; rfl)) ?_; (with_reducible refine (kind_void.calls k a1 t154 _ A4.out).mono ?_); rintro e w5 ⟨rfl, hb⟩; refine ⟨_, rfl, ?_⟩; have n0_ := Aside0.mk (below_step (by repeat (first | (with_reducible first | exact HB.out | apply below_alloc | apply pw_below_drewN | apply below_drew1) | exact HB.out)) hb); clear HB; have HB := n0_; clear n0_; (try clear hb); (try clear hb2); (try clear hk); (try clear hi)))
    go_ret
    exact ⟨by first | rfl | (simp [errW_none, errW_some] <;> rfl) | (simp [*, errW_none, errW_some] <;> rfl), by repeat (first | (with_reducible first | exact HB.out | apply below_alloc | apply pw_below_drewN | apply below_drew1) | exact HB.out)⟩
  · rw [if_neg c3] at H
    have c3b0 : (a0 == 1) = false := beq_eq_false_iff_ne.mpr c3
    have c3b1 : (a0 != 1) = true := bne_iff_ne.mpr c3
    by_cases c6 : a0 = 2
    · rw [if_pos c6] at H
      have c6b0 : (a0 == 2) = true := beq_iff_eq.mpr c6
      have c6b1 : (a0 != 2) = false := bne_eq_false_iff_eq.mpr c6
      clear c6
      replace H := Option.bind_eq_some_iff.mp H
      obtain ⟨t155, A70, H⟩ := H
      replace H : (some t155) = some r := H
      have A7 := Aside0.mk A70
      clear A70
      obtain rfl := Option.some.inj H
      go_enter Try.func71, Try.ntmps71
      go_wp2_with (first | ((with_reducible refine gate_callee (f := 73) rfl ?_); refine goesL_ (some 13) rfl rfl Try.func73 (by kernel_rfl) rfl #[.string a1] rfl (by (try simp only [List.map_toArray, List.map_cons, List.map_nil]); first | done | rfl | (simp only [List.length_drop, List.length_take]; rfl)) ?_; (with_reducible refine (kind_raw.calls k a1 t155 _ A7.out).mono ?_); rintro e w8 ⟨rfl, hb⟩; refine ⟨_, rfl, ?_⟩; have n0_ := Aside0.mk (below_step (by repeat (first | (with_reducible first | exact HB.out | apply below_alloc | apply pw_below_drewN | apply below_drew1) | exact HB.out)) hb); clear HB; have HB := n0_; clear n0_; (try clear hb); (try clear hb2); (try clear hk); (try clear hi)))
      go_ret
      exact ⟨by first | rfl | (simp [errW_none, errW_some] <;> rfl) | (simp [*, errW_none, errW_some] <;> rfl), by repeat (first | (with_reducible first | exact HB.out | apply below_alloc | apply pw_below_drewN | apply below_drew1) | exact HB.out)⟩
    · rw [if_neg c6] at H
      have c6b0 : (a0 == 2) = false := beq_eq_false_iff_ne.mpr c6
      have c6b1 : (a0 != 2) = true := bne_iff_ne.mpr c6
      by_cases c9 : a0 = 3
      · rw [if_pos c9] at H
        have c9b0 : (a0 == 3) = true := beq_iff_eq.mpr c9
        have c9b1 : (a0 != 3) = false := bne_eq_false_iff_eq.mpr c9
        clear c9
        replace H := Option.bind_eq_some_iff.mp H
        obtain ⟨t156, A100, H⟩ := H
        replace H : (some t156) = some r := H
        have A10 := Aside0.mk A100
        clear A100
        obtain rfl := Option.some.inj H
        go_enter Try.func71, Try.ntmps71
        go_wp2_with (first | ((with_reducible refine gate_callee (f := 74) rfl ?_); refine goesL_ (some 17) rfl rfl Try.func74 (by kernel_rfl) rfl #[.string a1] rfl (by (try simp only [List.map_toArray, List.map_cons, List.map_nil]); first | done | rfl | (simp only [List.length_drop, List.length_take]; rfl)) ?_; (with_reducible refine (kind_rcdata.calls k a1 t156 _ A10.out).mono ?_); rintro e w11 ⟨rfl, hb⟩; refine ⟨_, rfl, ?_⟩; have n0_ := Aside0.mk (below_step (by repeat (first | (with_reducible first | exact HB.out | apply below_alloc | apply pw_below_drewN | apply below_drew1) | exact HB.out)) hb); clear HB; have HB := n0_; clear n0_; (try clear hb); (try clear hb2); (try clear hk); (try clear hi)))
        go_ret
        exact ⟨by first | rfl | (simp [errW_none, errW_some] <;> rfl) | (simp [*, errW_none, errW_some] <;> rfl), by repeat (first | (with_reducible first | exact HB.out | apply below_alloc | apply pw_below_drewN | apply below_drew1) | exact HB.out)⟩
      · rw [if_neg c9] at H
        have c9b0 : (a0 == 3) = false := beq_eq_false_iff_ne.mpr c9
        have c9b1 : (a0 != 3) = true := bne_iff_ne.mpr c9
        by_cases c12 : a0 = 4
        · rw [if_pos c12] at H
          have c12b0 : (a0 == 4) = true := beq_iff_eq.mpr c12
          have c12b1 : (a0 != 4) = false := bne_eq_false_iff_eq.mpr c12
          clear c12
          replace H := Option.bind_eq_some_iff.mp H
          obtain ⟨t157, A130, H⟩ := H
          replace H : (some t157) = some r := H
          have A13 := Aside0.mk A130
          clear A130
          obtain rfl := Option.some.inj H
          go_enter Try.func71, Try.ntmps71
          go_wp2_with (first | ((with_reducible refine gate_callee (f := 75) rfl ?_); refine goesL_ (some 21) rfl rfl Try.func75 (by kernel_rfl) rfl #[.string a1] rfl (by (try simp only [List.map_toArray, List.map_cons, List.map_nil]); first | done | rfl | (simp only [List.length_drop, List.length_take]; rfl)) ?_; (with_reducible refine (kind_special.calls k a1 t157 _ A13.out).mono ?_); rintro e w14 ⟨rfl, hb⟩; refine ⟨_, rfl, ?_⟩; have n0_ := Aside0.mk (below_step (by repeat (first | (with_reducible first | exact HB.out | apply below_alloc | apply pw_below_drewN | apply below_drew1) | exact HB.out)) hb); clear HB; have HB := n0_; clear n0_; (try clear hb); (try clear hb2); (try clear hk); (try clear hi)))
          go_ret
          exact ⟨by first | rfl | (simp [errW_none, errW_some] <;> rfl) | (simp [*, errW_none, errW_some] <;> rfl), by repeat (first | (with_reducible first | exact HB.out | apply below_alloc | apply pw_below_drewN | apply below_drew1) | exact HB.out)⟩
        · rw [if_neg c12] at H
          have c12b0 : (a0 == 4) = false := beq_eq_false_iff_ne.mpr c12
          have c12b1 : (a0 != 4) = true := bne_iff_ne.mpr c12
          by_cases c15 : a0 = 5
          · rw [if_pos c15] at H
            have c15b0 : (a0 == 5) = true := beq_iff_eq.mpr c15
            have c15b1 : (a0 != 5) = false := bne_eq_false_iff_eq.mpr c15
            clear c15
            obtain ⟨y158, hy158⟩ : ∃ y_ : List ByteArray, y_ = (([(⟨#[97]⟩ : ByteArray), (⟨#[98]⟩ : ByteArray), (⟨#[98, 105, 103]⟩ : ByteArray), (⟨#[99, 111, 100, 101]⟩ : ByteArray), (⟨#[101, 109]⟩ : ByteArray), (⟨#[102, 111, 110, 116]⟩ : ByteArray), (⟨#[105]⟩ : ByteArray), (⟨#[110, 111, 98, 114]⟩ : ByteArray), (⟨#[115]⟩ : ByteArray), (⟨#[115, 109, 97, 108, 108]⟩ : ByteArray), (⟨#[115, 116, 114, 105, 107, 101]⟩ : ByteArray), (⟨#[115, 116, 114, 111, 110, 103]⟩ : ByteArray), (⟨#[116, 116]⟩ : ByteArray), (⟨#[117]⟩ : ByteArray)] : List ByteArray)) := ⟨_, rfl⟩
            replace H : ((kind_among.f k a1 y158).bind fun t161 => (some t161)) = some r := by first | (rw [hy158]; with_reducible exact H) | (have H2_ := (Option.bind_some _ _).symm.trans H; rw [hy158]; with_reducible exact H2_) | (have H2_ := (Option.bind_some _ _).symm.trans H; with_reducible exact H2_) | with_reducible exact H | (rw [hy158]; exact H) | exact H
            have Ny158 := Aside0.mk hy158
            clear hy158
            replace H := Option.bind_eq_some_iff.mp H
            obtain ⟨t161, A160, H⟩ := H
            replace H : (some t161) = some r := H
            have A16 := Aside0.mk A160
            clear A160
            obtain rfl := Option.some.inj H
            go_enter Try.func71, Try.ntmps71
            go_wp2_with (first | ((with_reducible refine gate_dst (N := 25) rfl ?_); (try (refine gate_guard (by rfl) ?_; dsimp only)); refine Kd.R_lit Kd.string _ 9 ?hg (N := 25) ?hd (xs := ([(⟨#[97]⟩ : ByteArray), (⟨#[98]⟩ : ByteArray), (⟨#[98, 105, 103]⟩ : ByteArray), (⟨#[99, 111, 100, 101]⟩ : ByteArray), (⟨#[101, 109]⟩ : ByteArray), (⟨#[102, 111, 110, 116]⟩ : ByteArray), (⟨#[105]⟩ : ByteArray), (⟨#[110, 111, 98, 114]⟩ : ByteArray), (⟨#[115]⟩ : ByteArray), (⟨#[115, 109, 97, 108, 108]⟩ : ByteArray), (⟨#[115, 116, 114, 105, 107, 101]⟩ : ByteArray), (⟨#[115, 116, 114, 111, 110, 103]⟩ : ByteArray), (⟨#[116, 116]⟩ : ByteArray), (⟨#[117]⟩ : ByteArray)] : List ByteArray)) (inner := [.string (⟨#[97]⟩ : ByteArray), .string (⟨#[98]⟩ : ByteArray), .string (⟨#[98, 105, 103]⟩ : ByteArray), .string (⟨#[99, 111, 100, 101]⟩ : ByteArray), .string (⟨#[101, 109]⟩ : ByteArray), .string (⟨#[102, 111, 110, 116]⟩ : ByteArray), .string (⟨#[105]⟩ : ByteArray), .string (⟨#[110, 111, 98, 114]⟩ : ByteArray), .string (⟨#[115]⟩ : ByteArray), .string (⟨#[115, 109, 97, 108, 108]⟩ : ByteArray), .string (⟨#[115, 116, 114, 105, 107, 101]⟩ : ByteArray), .string (⟨#[115, 116, 114, 111, 110, 103]⟩ : ByteArray), .string (⟨#[116, 116]⟩ : ByteArray), .string (⟨#[117]⟩ : ByteArray)]) (ok := fun _ => True) (okp := fun _ => True) ?hr ?hp (fun _ hk => hk) trivial (Below.refl _ _) (Nat.le_refl _) (by simp) ?_; (case hd => rfl); (case hg => rfl); (case hr => first | (go_simp; done) | (go_simp; rfl)); (case hp => exact (Reps.one (show Kd.M Kd.string _ _ _ (⟨#[97]⟩ : ByteArray) [.string (⟨#[97]⟩ : ByteArray)] from rfl) (Reps.one (show Kd.M Kd.string _ _ _ (⟨#[98]⟩ : ByteArray) [.string (⟨#[98]⟩ : ByteArray)] from rfl) (Reps.one (show Kd.M Kd.string _ _ _ (⟨#[98, 105, 103]⟩ : ByteArray) [.string (⟨#[98, 105, 103]⟩ : ByteArray)] from rfl) (Reps.one (show Kd.M Kd.string _ _ _ (⟨#[99, 111, 100, 101]⟩ : ByteArray) [.string (⟨#[99, 111, 100, 101]⟩ : ByteArray)] from rfl) (Reps.one (show Kd.M Kd.string _ _ _ (⟨#[101, 109]⟩ : ByteArray) [.string (⟨#[101, 109]⟩ : ByteArray)] from rfl) (Reps.one (show Kd.M Kd.string _ _ _ (⟨#[102, 111, 110, 116]⟩ : ByteArray) [.string (⟨#[102, 111, 110, 116]⟩ : ByteArray)] from rfl) (Reps.one (show Kd.M Kd.string _ _ _ (⟨#[105]⟩ : ByteArray) [.string (⟨#[105]⟩ : ByteArray)] from rfl) (Reps.one (show Kd.M Kd.string _ _ _ (⟨#[110, 111, 98, 114]⟩ : ByteArray) [.string (⟨#[110, 111, 98, 114]⟩ : ByteArray)] from rfl) (Reps.one (show Kd.M Kd.string _ _ _ (⟨#[115]⟩ : ByteArray) [.string (⟨#[115]⟩ : ByteArray)] from rfl) (Reps.one (show Kd.M Kd.string _ _ _ (⟨#[115, 109, 97, 108, 108]⟩ : ByteArray) [.string (⟨#[115, 109, 97, 108, 108]⟩ : ByteArray)] from rfl) (Reps.one (show Kd.M Kd.string _ _ _ (⟨#[115, 116, 114, 105, 107, 101]⟩ : ByteArray) [.string (⟨#[115, 116, 114, 105, 107, 101]⟩ : ByteArray)] from rfl) (Reps.one (show Kd.M Kd.string _ _ _ (⟨#[115, 116, 114, 111, 110, 103]⟩ : ByteArray) [.string (⟨#[115, 116, 114, 111, 110, 103]⟩ : ByteArray)] from rfl) (Reps.one (show Kd.M Kd.string _ _ _ (⟨#[116, 116]⟩ : ByteArray) [.string (⟨#[116, 116]⟩ : ByteArray)] from rfl) (Reps.one (show Kd.M Kd.string _ _ _ (⟨#[117]⟩ : ByteArray) [.string (⟨#[117]⟩ : ByteArray)] from rfl) (Reps.none _ _)))))))))))))))); intro v159 w17 ho18 hb hg_ hnew_; clear hg_ hnew_; (first | rw [← Ny158.out] at ho18 | (simp only [Int.reduceToNat] at ho18; rw [← Ny158.out] at ho18)); have n0_ := Aside0.mk (Kd.R_lower ho18 (below_size (by repeat (first | (with_reducible first | exact HB.out | apply below_alloc | apply pw_below_drewN | apply below_drew1) | exact HB.out)))); have n1_ := Aside0.mk (below_step (by repeat (first | (with_reducible first | exact HB.out | apply below_alloc | apply pw_below_drewN | apply below_drew1) | exact HB.out)) hb); clear HB; have HO160 := n0_; have HB := n1_; clear n0_ n1_; clear hb ho18; obtain ⟨Ao19, co19, eo19⟩ := Kd.R_slice HO160.out; subst eo19) | ((with_reducible refine gate_callee (f := 76) rfl ?_); refine goesL_ (some 26) rfl rfl Try.func76 (by kernel_rfl) rfl #[.string a1, .slice Ao19 y158.length co19] rfl (by (try simp only [List.map_toArray, List.map_cons, List.map_nil]); first | done | rfl | (simp only [List.length_drop, List.length_take]; rfl)) ?_; (with_reducible refine (kind_among.calls k a1 _ _ y158 t161 _ ?side1 ?side2 A16.out).mono ?_); (case side1 => repeat (first | exact (Kd.R_reads' HO160.out).2.2 | (with_reducible refine Kd.C_alloc ?_ _) | (with_reducible refine Kd.C_drewN ?_ _) | (with_reducible refine Kd.C_drew ?_))); (case side2 => exact (Kd.R_reads' HO160.out).2.1); rintro e w' ⟨rfl, ⟨nd, rfl⟩⟩; refine ⟨_, rfl, ?_⟩))
            go_ret
            exact ⟨by first | rfl | (simp [errW_none, errW_some] <;> rfl) | (simp [*, errW_none, errW_some] <;> rfl), by repeat (first | (with_reducible first | exact HB.out | apply below_alloc | apply pw_below_drewN | apply below_drew1) | exact HB.out)⟩
          · rw [if_neg c15] at H
            have c15b0 : (a0 == 5) = false := beq_eq_false_iff_ne.mpr c15
            have c15b1 : (a0 != 5) = true := bne_iff_ne.mpr c15
            by_cases c20 : a0 = 6
            · rw [if_pos c20] at H
              have c20b0 : (a0 == 6) = true := beq_iff_eq.mpr c20
              have c20b1 : (a0 != 6) = false := bne_eq_false_iff_eq.mpr c20
              clear c20
              replace H := Option.bind_eq_some_iff.mp H
              obtain ⟨t162, A210, H⟩ := H
              replace H : (some t162) = some r := H
              have A21 := Aside0.mk A210
              clear A210
              obtain rfl := Option.some.inj H
              go_enter Try.func71, Try.ntmps71
              go_wp2_with (first | ((with_reducible refine gate_callee (f := 77) rfl ?_); refine goesL_ (some 30) rfl rfl Try.func77 (by kernel_rfl) rfl #[.string a1] rfl (by (try simp only [List.map_toArray, List.map_cons, List.map_nil]); first | done | rfl | (simp only [List.length_drop, List.length_take]; rfl)) ?_; (with_reducible refine (kind_block.calls k a1 t162 _ A21.out).mono ?_); rintro e w22 ⟨rfl, hb⟩; refine ⟨_, rfl, ?_⟩; have n0_ := Aside0.mk (below_step (by repeat (first | (with_reducible first | exact HB.out | apply below_alloc | apply pw_below_drewN | apply below_drew1) | exact HB.out)) hb); clear HB; have HB := n0_; clear n0_; (try clear hb); (try clear hb2); (try clear hk); (try clear hi)))
              go_ret
              exact ⟨by first | rfl | (simp [errW_none, errW_some] <;> rfl) | (simp [*, errW_none, errW_some] <;> rfl), by repeat (first | (with_reducible first | exact HB.out | apply below_alloc | apply pw_below_drewN | apply below_drew1) | exact HB.out)⟩
            · rw [if_neg c20] at H
              have c20b0 : (a0 == 6) = false := beq_eq_false_iff_ne.mpr c20
              have c20b1 : (a0 != 6) = true := bne_iff_ne.mpr c20
              by_cases c23 : a0 = 7
              · rw [if_pos c23] at H
                have c23b0 : (a0 == 7) = true := beq_iff_eq.mpr c23
                have c23b1 : (a0 != 7) = false := bne_eq_false_iff_eq.mpr c23
                clear c23
                replace H := Option.bind_eq_some_iff.mp H
                obtain ⟨t163, A240, H⟩ := H
                replace H : (some t163) = some r := H
                have A24 := Aside0.mk A240
                clear A240
                obtain rfl := Option.some.inj H
                go_enter Try.func71, Try.ntmps71
                go_wp2_with (first | ((with_reducible refine gate_callee (f := 78) rfl ?_); refine goesL_ (some 34) rfl rfl Try.func78 (by kernel_rfl) rfl #[.string a1] rfl (by (try simp only [List.map_toArray, List.map_cons, List.map_nil]); first | done | rfl | (simp only [List.length_drop, List.length_take]; rfl)) ?_; (with_reducible refine (kind_heading.calls a1 t163 _ A24.out).mono ?_); rintro e w' ⟨rfl, ⟨nd, rfl⟩⟩; refine ⟨_, rfl, ?_⟩))
                go_ret
                exact ⟨by first | rfl | (simp [errW_none, errW_some] <;> rfl) | (simp [*, errW_none, errW_some] <;> rfl), by repeat (first | (with_reducible first | exact HB.out | apply below_alloc | apply pw_below_drewN | apply below_drew1) | exact HB.out)⟩
              · rw [if_neg c23] at H
                have c23b0 : (a0 == 7) = false := beq_eq_false_iff_ne.mpr c23
                have c23b1 : (a0 != 7) = true := bne_iff_ne.mpr c23
                by_cases c25 : a0 = 8
                · rw [if_pos c25] at H
                  have c25b0 : (a0 == 8) = true := beq_iff_eq.mpr c25
                  have c25b1 : (a0 != 8) = false := bne_eq_false_iff_eq.mpr c25
                  clear c25
                  obtain ⟨y164, hy164⟩ : ∃ y_ : List ByteArray, y_ = (([(⟨#[100, 100]⟩ : ByteArray), (⟨#[100, 116]⟩ : ByteArray), (⟨#[108, 105]⟩ : ByteArray), (⟨#[111, 112, 116, 103, 114, 111, 117, 112]⟩ : ByteArray), (⟨#[111, 112, 116, 105, 111, 110]⟩ : ByteArray), (⟨#[112]⟩ : ByteArray), (⟨#[114, 98]⟩ : ByteArray), (⟨#[114, 112]⟩ : ByteArray), (⟨#[114, 116]⟩ : ByteArray), (⟨#[114, 116, 99]⟩ : ByteArray)] : List ByteArray)) := ⟨_, rfl⟩
                  replace H : ((kind_among.f k a1 y164).bind fun t167 => (some t167)) = some r := by first | (rw [hy164]; with_reducible exact H) | (have H2_ := (Option.bind_some _ _).symm.trans H; rw [hy164]; with_reducible exact H2_) | (have H2_ := (Option.bind_some _ _).symm.trans H; with_reducible exact H2_) | with_reducible exact H | (rw [hy164]; exact H) | exact H
                  have Ny164 := Aside0.mk hy164
                  clear hy164
                  replace H := Option.bind_eq_some_iff.mp H
                  obtain ⟨t167, A260, H⟩ := H
                  replace H : (some t167) = some r := H
                  have A26 := Aside0.mk A260
                  clear A260
                  obtain rfl := Option.some.inj H
                  go_enter Try.func71, Try.ntmps71
                  go_wp2_with (first | ((with_reducible refine gate_dst (N := 38) rfl ?_); (try (refine gate_guard (by rfl) ?_; dsimp only)); refine Kd.R_lit Kd.string _ 9 ?hg (N := 38) ?hd (xs := ([(⟨#[100, 100]⟩ : ByteArray), (⟨#[100, 116]⟩ : ByteArray), (⟨#[108, 105]⟩ : ByteArray), (⟨#[111, 112, 116, 103, 114, 111, 117, 112]⟩ : ByteArray), (⟨#[111, 112, 116, 105, 111, 110]⟩ : ByteArray), (⟨#[112]⟩ : ByteArray), (⟨#[114, 98]⟩ : ByteArray), (⟨#[114, 112]⟩ : ByteArray), (⟨#[114, 116]⟩ : ByteArray), (⟨#[114, 116, 99]⟩ : ByteArray)] : List ByteArray)) (inner := [.string (⟨#[100, 100]⟩ : ByteArray), .string (⟨#[100, 116]⟩ : ByteArray), .string (⟨#[108, 105]⟩ : ByteArray), .string (⟨#[111, 112, 116, 103, 114, 111, 117, 112]⟩ : ByteArray), .string (⟨#[111, 112, 116, 105, 111, 110]⟩ : ByteArray), .string (⟨#[112]⟩ : ByteArray), .string (⟨#[114, 98]⟩ : ByteArray), .string (⟨#[114, 112]⟩ : ByteArray), .string (⟨#[114, 116]⟩ : ByteArray), .string (⟨#[114, 116, 99]⟩ : ByteArray)]) (ok := fun _ => True) (okp := fun _ => True) ?hr ?hp (fun _ hk => hk) trivial (Below.refl _ _) (Nat.le_refl _) (by simp) ?_; (case hd => rfl); (case hg => rfl); (case hr => first | (go_simp; done) | (go_simp; rfl)); (case hp => exact (Reps.one (show Kd.M Kd.string _ _ _ (⟨#[100, 100]⟩ : ByteArray) [.string (⟨#[100, 100]⟩ : ByteArray)] from rfl) (Reps.one (show Kd.M Kd.string _ _ _ (⟨#[100, 116]⟩ : ByteArray) [.string (⟨#[100, 116]⟩ : ByteArray)] from rfl) (Reps.one (show Kd.M Kd.string _ _ _ (⟨#[108, 105]⟩ : ByteArray) [.string (⟨#[108, 105]⟩ : ByteArray)] from rfl) (Reps.one (show Kd.M Kd.string _ _ _ (⟨#[111, 112, 116, 103, 114, 111, 117, 112]⟩ : ByteArray) [.string (⟨#[111, 112, 116, 103, 114, 111, 117, 112]⟩ : ByteArray)] from rfl) (Reps.one (show Kd.M Kd.string _ _ _ (⟨#[111, 112, 116, 105, 111, 110]⟩ : ByteArray) [.string (⟨#[111, 112, 116, 105, 111, 110]⟩ : ByteArray)] from rfl) (Reps.one (show Kd.M Kd.string _ _ _ (⟨#[112]⟩ : ByteArray) [.string (⟨#[112]⟩ : ByteArray)] from rfl) (Reps.one (show Kd.M Kd.string _ _ _ (⟨#[114, 98]⟩ : ByteArray) [.string (⟨#[114, 98]⟩ : ByteArray)] from rfl) (Reps.one (show Kd.M Kd.string _ _ _ (⟨#[114, 112]⟩ : ByteArray) [.string (⟨#[114, 112]⟩ : ByteArray)] from rfl) (Reps.one (show Kd.M Kd.string _ _ _ (⟨#[114, 116]⟩ : ByteArray) [.string (⟨#[114, 116]⟩ : ByteArray)] from rfl) (Reps.one (show Kd.M Kd.string _ _ _ (⟨#[114, 116, 99]⟩ : ByteArray) [.string (⟨#[114, 116, 99]⟩ : ByteArray)] from rfl) (Reps.none _ _)))))))))))); intro v165 w27 ho28 hb hg_ hnew_; clear hg_ hnew_; (first | rw [← Ny164.out] at ho28 | (simp only [Int.reduceToNat] at ho28; rw [← Ny164.out] at ho28)); have n0_ := Aside0.mk (Kd.R_lower ho28 (below_size (by repeat (first | (with_reducible first | exact HB.out | apply below_alloc | apply pw_below_drewN | apply below_drew1) | exact HB.out)))); have n1_ := Aside0.mk (below_step (by repeat (first | (with_reducible first | exact HB.out | apply below_alloc | apply pw_below_drewN | apply below_drew1) | exact HB.out)) hb); clear HB; have HO166 := n0_; have HB := n1_; clear n0_ n1_; clear hb ho28; obtain ⟨Ao29, co29, eo29⟩ := Kd.R_slice HO166.out; subst eo29) | ((with_reducible refine gate_callee (f := 76) rfl ?_); refine goesL_ (some 39) rfl rfl Try.func76 (by kernel_rfl) rfl #[.string a1, .slice Ao29 y164.length co29] rfl (by (try simp only [List.map_toArray, List.map_cons, List.map_nil]); first | done | rfl | (simp only [List.length_drop, List.length_take]; rfl)) ?_; (with_reducible refine (kind_among.calls k a1 _ _ y164 t167 _ ?side1 ?side2 A26.out).mono ?_); (case side1 => repeat (first | exact (Kd.R_reads' HO166.out).2.2 | (with_reducible refine Kd.C_alloc ?_ _) | (with_reducible refine Kd.C_drewN ?_ _) | (with_reducible refine Kd.C_drew ?_))); (case side2 => exact (Kd.R_reads' HO166.out).2.1); rintro e w' ⟨rfl, ⟨nd, rfl⟩⟩; refine ⟨_, rfl, ?_⟩))
                  go_ret
                  exact ⟨by first | rfl | (simp [errW_none, errW_some] <;> rfl) | (simp [*, errW_none, errW_some] <;> rfl), by repeat (first | (with_reducible first | exact HB.out | apply below_alloc | apply pw_below_drewN | apply below_drew1) | exact HB.out)⟩
                · rw [if_neg c25] at H
                  have c25b0 : (a0 == 8) = false := beq_eq_false_iff_ne.mpr c25
                  have c25b1 : (a0 != 8) = true := bne_iff_ne.mpr c25
                  by_cases c30 : a0 = 9
                  · rw [if_pos c30] at H
                    have c30b0 : (a0 == 9) = true := beq_iff_eq.mpr c30
                    have c30b1 : (a0 != 9) = false := bne_eq_false_iff_eq.mpr c30
                    clear c30
                    replace H := Option.bind_eq_some_iff.mp H
                    obtain ⟨t168, A310, H⟩ := H
                    replace H : (some t168) = some r := H
                    have A31 := Aside0.mk A310
                    clear A310
                    obtain rfl := Option.some.inj H
                    go_enter Try.func71, Try.ntmps71
                    go_wp2_with (first | ((with_reducible refine gate_callee (f := 79) rfl ?_); refine goesL_ (some 43) rfl rfl Try.func79 (by kernel_rfl) rfl #[.string a1] rfl (by (try simp only [List.map_toArray, List.map_cons, List.map_nil]); first | done | rfl | (simp only [List.length_drop, List.length_take]; rfl)) ?_; (with_reducible refine (kind_table.calls k a1 t168 _ A31.out).mono ?_); rintro e w32 ⟨rfl, hb⟩; refine ⟨_, rfl, ?_⟩; have n0_ := Aside0.mk (below_step (by repeat (first | (with_reducible first | exact HB.out | apply below_alloc | apply pw_below_drewN | apply below_drew1) | exact HB.out)) hb); clear HB; have HB := n0_; clear n0_; (try clear hb); (try clear hb2); (try clear hk); (try clear hi)))
                    go_ret
                    exact ⟨by first | rfl | (simp [errW_none, errW_some] <;> rfl) | (simp [*, errW_none, errW_some] <;> rfl), by repeat (first | (with_reducible first | exact HB.out | apply below_alloc | apply pw_below_drewN | apply below_drew1) | exact HB.out)⟩
                  · rw [if_neg c30] at H
                    have c30b0 : (a0 == 9) = false := beq_eq_false_iff_ne.mpr c30
                    have c30b1 : (a0 != 9) = true := bne_iff_ne.mpr c30
                    by_cases c33 : a0 = 10
                    · rw [if_pos c33] at H
                      have c33b0 : (a0 == 10) = true := beq_iff_eq.mpr c33
                      have c33b1 : (a0 != 10) = false := bne_eq_false_iff_eq.mpr c33
                      clear c33
                      replace H := Option.bind_eq_some_iff.mp H
                      obtain ⟨t169, A340, H⟩ := H
                      replace H : (some t169) = some r := H
                      have A34 := Aside0.mk A340
                      clear A340
                      obtain rfl := Option.some.inj H
                      go_enter Try.func71, Try.ntmps71
                      go_wp2_with (first | ((with_reducible refine gate_callee (f := 80) rfl ?_); refine goesL_ (some 47) rfl rfl Try.func80 (by kernel_rfl) rfl #[.string a1] rfl (by (try simp only [List.map_toArray, List.map_cons, List.map_nil]); first | done | rfl | (simp only [List.length_drop, List.length_take]; rfl)) ?_; (with_reducible refine (kind_breaks.calls k a1 t169 _ A34.out).mono ?_); rintro e w35 ⟨rfl, hb⟩; refine ⟨_, rfl, ?_⟩; have n0_ := Aside0.mk (below_step (by repeat (first | (with_reducible first | exact HB.out | apply below_alloc | apply pw_below_drewN | apply below_drew1) | exact HB.out)) hb); clear HB; have HB := n0_; clear n0_; (try clear hb); (try clear hb2); (try clear hk); (try clear hi)))
                      go_ret
                      exact ⟨by first | rfl | (simp [errW_none, errW_some] <;> rfl) | (simp [*, errW_none, errW_some] <;> rfl), by repeat (first | (with_reducible first | exact HB.out | apply below_alloc | apply pw_below_drewN | apply below_drew1) | exact HB.out)⟩
                    · rw [if_neg c33] at H
                      have c33b0 : (a0 == 10) = false := beq_eq_false_iff_ne.mpr c33
                      have c33b1 : (a0 != 10) = true := bne_iff_ne.mpr c33
                      by_cases c36 : a0 = 11
                      · rw [if_pos c36] at H
                        have c36b0 : (a0 == 11) = true := beq_iff_eq.mpr c36
                        have c36b1 : (a0 != 11) = false := bne_eq_false_iff_eq.mpr c36
                        clear c36
                        replace H := Option.bind_eq_some_iff.mp H
                        obtain ⟨t170, A370, H⟩ := H
                        replace H : (some t170) = some r := H
                        have A37 := Aside0.mk A370
                        clear A370
                        obtain rfl := Option.some.inj H
                        go_enter Try.func71, Try.ntmps71
                        go_wp2_with (first | ((with_reducible refine gate_callee (f := 81) rfl ?_); refine goesL_ (some 51) rfl rfl Try.func81 (by kernel_rfl) rfl #[.string a1] rfl (by (try simp only [List.map_toArray, List.map_cons, List.map_nil]); first | done | rfl | (simp only [List.length_drop, List.length_take]; rfl)) ?_; (with_reducible refine (kind_marker.calls k a1 t170 _ A37.out).mono ?_); rintro e w38 ⟨rfl, hb⟩; refine ⟨_, rfl, ?_⟩; have n0_ := Aside0.mk (below_step (by repeat (first | (with_reducible first | exact HB.out | apply below_alloc | apply pw_below_drewN | apply below_drew1) | exact HB.out)) hb); clear HB; have HB := n0_; clear n0_; (try clear hb); (try clear hb2); (try clear hk); (try clear hi)))
                        go_ret
                        exact ⟨by first | rfl | (simp [errW_none, errW_some] <;> rfl) | (simp [*, errW_none, errW_some] <;> rfl), by repeat (first | (with_reducible first | exact HB.out | apply below_alloc | apply pw_below_drewN | apply below_drew1) | exact HB.out)⟩
                      · rw [if_neg c36] at H
                        have c36b0 : (a0 == 11) = false := beq_eq_false_iff_ne.mpr c36
                        have c36b1 : (a0 != 11) = true := bne_iff_ne.mpr c36
                        by_cases c39 : a0 = 12
                        · rw [if_pos c39] at H
                          have c39b0 : (a0 == 12) = true := beq_iff_eq.mpr c39
                          have c39b1 : (a0 != 12) = false := bne_eq_false_iff_eq.mpr c39
                          clear c39
                          replace H := Option.bind_eq_some_iff.mp H
                          obtain ⟨t171, A400, H⟩ := H
                          replace H : (if t171 = true then (some true) else ((kind_among.f k a1 (([(⟨#[98, 111, 100, 121]⟩ : ByteArray), (⟨#[102, 114, 97, 109, 101]⟩ : ByteArray), (⟨#[102, 114, 97, 109, 101, 115, 101, 116]⟩ : ByteArray), (⟨#[104, 101, 97, 100]⟩ : ByteArray), (⟨#[104, 116, 109, 108]⟩ : ByteArray)] : List ByteArray))).bind fun t175 => (some t175))) = some r := H
                          have A40 := Aside0.mk A400
                          clear A400
                          by_cases c41 : t171 = true
                          · subst c41
                            have H1 : (some true) = some r := by rw [if_pos rfl] at H; exact H
                            clear H
                            have H := H1
                            clear H1
                            obtain rfl := Option.some.inj H
                            go_enter Try.func71, Try.ntmps71
                            go_wp2_with (first | ((with_reducible refine gate_callee (f := 79) rfl ?_); refine goesL_ (some 55) rfl rfl Try.func79 (by kernel_rfl) rfl #[.string a1] rfl (by (try simp only [List.map_toArray, List.map_cons, List.map_nil]); first | done | rfl | (simp only [List.length_drop, List.length_take]; rfl)) ?_; (with_reducible refine (kind_table.calls k a1 true _ A40.out).mono ?_); rintro e w42 ⟨rfl, hb⟩; refine ⟨_, rfl, ?_⟩; have n0_ := Aside0.mk (below_step (by repeat (first | (with_reducible first | exact HB.out | apply below_alloc | apply pw_below_drewN | apply below_drew1) | exact HB.out)) hb); clear HB; have HB := n0_; clear n0_; (try clear hb); (try clear hb2); (try clear hk); (try clear hi)))
                            go_ret
                            exact ⟨by first | rfl | (simp [errW_none, errW_some] <;> rfl) | (simp [*, errW_none, errW_some] <;> rfl), by repeat (first | (with_reducible first | exact HB.out | apply below_alloc | apply pw_below_drewN | apply below_drew1) | exact HB.out)⟩
                          · replace c41 := Bool.eq_false_iff.mpr c41
                            subst c41
                            have H1 : ((kind_among.f k a1 (([(⟨#[98, 111, 100, 121]⟩ : ByteArray), (⟨#[102, 114, 97, 109, 101]⟩ : ByteArray), (⟨#[102, 114, 97, 109, 101, 115, 101, 116]⟩ : ByteArray), (⟨#[104, 101, 97, 100]⟩ : ByteArray), (⟨#[104, 116, 109, 108]⟩ : ByteArray)] : List ByteArray))).bind fun t175 => (some t175)) = some r := by rw [if_neg (show ¬ (false = true) by decide)] at H; exact H
                            clear H
                            have H := H1
                            clear H1
                            obtain ⟨y172, hy172⟩ : ∃ y_ : List ByteArray, y_ = (([(⟨#[98, 111, 100, 121]⟩ : ByteArray), (⟨#[102, 114, 97, 109, 101]⟩ : ByteArray), (⟨#[102, 114, 97, 109, 101, 115, 101, 116]⟩ : ByteArray), (⟨#[104, 101, 97, 100]⟩ : ByteArray), (⟨#[104, 116, 109, 108]⟩ : ByteArray)] : List ByteArray)) := ⟨_, rfl⟩
                            replace H : ((kind_among.f k a1 y172).bind fun t175 => (some t175)) = some r := by first | (rw [hy172]; with_reducible exact H) | (have H2_ := (Option.bind_some _ _).symm.trans H; rw [hy172]; with_reducible exact H2_) | (have H2_ := (Option.bind_some _ _).symm.trans H; with_reducible exact H2_) | with_reducible exact H | (rw [hy172]; exact H) | exact H
                            have Ny172 := Aside0.mk hy172
                            clear hy172
                            replace H := Option.bind_eq_some_iff.mp H
                            obtain ⟨t175, A430, H⟩ := H
                            replace H : (some t175) = some r := H
                            have A43 := Aside0.mk A430
                            clear A430
                            obtain rfl := Option.some.inj H
                            go_enter Try.func71, Try.ntmps71
                            go_wp2_with (first | ((with_reducible refine gate_callee (f := 79) rfl ?_); refine goesL_ (some 55) rfl rfl Try.func79 (by kernel_rfl) rfl #[.string a1] rfl (by (try simp only [List.map_toArray, List.map_cons, List.map_nil]); first | done | rfl | (simp only [List.length_drop, List.length_take]; rfl)) ?_; (with_reducible refine (kind_table.calls k a1 false _ A40.out).mono ?_); rintro e w44 ⟨rfl, hb⟩; refine ⟨_, rfl, ?_⟩; have n0_ := Aside0.mk (below_step (by repeat (first | (with_reducible first | exact HB.out | apply below_alloc | apply pw_below_drewN | apply below_drew1) | exact HB.out)) hb); clear HB; have HB := n0_; clear n0_; (try clear hb); (try clear hb2); (try clear hk); (try clear hi)) | ((with_reducible refine gate_dst (N := 58) rfl ?_); (try (refine gate_guard (by rfl) ?_; dsimp only)); refine Kd.R_lit Kd.string _ 9 ?hg (N := 58) ?hd (xs := ([(⟨#[98, 111, 100, 121]⟩ : ByteArray), (⟨#[102, 114, 97, 109, 101]⟩ : ByteArray), (⟨#[102, 114, 97, 109, 101, 115, 101, 116]⟩ : ByteArray), (⟨#[104, 101, 97, 100]⟩ : ByteArray), (⟨#[104, 116, 109, 108]⟩ : ByteArray)] : List ByteArray)) (inner := [.string (⟨#[98, 111, 100, 121]⟩ : ByteArray), .string (⟨#[102, 114, 97, 109, 101]⟩ : ByteArray), .string (⟨#[102, 114, 97, 109, 101, 115, 101, 116]⟩ : ByteArray), .string (⟨#[104, 101, 97, 100]⟩ : ByteArray), .string (⟨#[104, 116, 109, 108]⟩ : ByteArray)]) (ok := fun _ => True) (okp := fun _ => True) ?hr ?hp (fun _ hk => hk) trivial (Below.refl _ _) (Nat.le_refl _) (by simp) ?_; (case hd => rfl); (case hg => rfl); (case hr => first | (go_simp; done) | (go_simp; rfl)); (case hp => exact (Reps.one (show Kd.M Kd.string _ _ _ (⟨#[98, 111, 100, 121]⟩ : ByteArray) [.string (⟨#[98, 111, 100, 121]⟩ : ByteArray)] from rfl) (Reps.one (show Kd.M Kd.string _ _ _ (⟨#[102, 114, 97, 109, 101]⟩ : ByteArray) [.string (⟨#[102, 114, 97, 109, 101]⟩ : ByteArray)] from rfl) (Reps.one (show Kd.M Kd.string _ _ _ (⟨#[102, 114, 97, 109, 101, 115, 101, 116]⟩ : ByteArray) [.string (⟨#[102, 114, 97, 109, 101, 115, 101, 116]⟩ : ByteArray)] from rfl) (Reps.one (show Kd.M Kd.string _ _ _ (⟨#[104, 101, 97, 100]⟩ : ByteArray) [.string (⟨#[104, 101, 97, 100]⟩ : ByteArray)] from rfl) (Reps.one (show Kd.M Kd.string _ _ _ (⟨#[104, 116, 109, 108]⟩ : ByteArray) [.string (⟨#[104, 116, 109, 108]⟩ : ByteArray)] from rfl) (Reps.none _ _))))))); intro v173 w45 ho46 hb hg_ hnew_; clear hg_ hnew_; (first | rw [← Ny172.out] at ho46 | (simp only [Int.reduceToNat] at ho46; rw [← Ny172.out] at ho46)); have n0_ := Aside0.mk (Kd.R_lower ho46 (below_size (by repeat (first | (with_reducible first | exact HB.out | apply below_alloc | apply pw_below_drewN | apply below_drew1) | exact HB.out)))); have n1_ := Aside0.mk (below_step (by repeat (first | (with_reducible first | exact HB.out | apply below_alloc | apply pw_below_drewN | apply below_drew1) | exact HB.out)) hb); clear HB; have HO174 := n0_; have HB := n1_; clear n0_ n1_; clear hb ho46; obtain ⟨Ao47, co47, eo47⟩ := Kd.R_slice HO174.out; subst eo47) | (go_at_call 76; (with_reducible refine (kind_among.calls k a1 _ _ y172 t175 _ ?side1 ?side2 A43.out).mono ?_); (case side1 => repeat (first | exact (Kd.R_reads' HO174.out).2.2 | (with_reducible refine Kd.C_alloc ?_ _) | (with_reducible refine Kd.C_drewN ?_ _) | (with_reducible refine Kd.C_drew ?_))); (case side2 => exact (Kd.R_reads' HO174.out).2.1); rintro e w' ⟨rfl, ⟨nd, rfl⟩⟩))
                            go_ret
                            exact ⟨by first | rfl | (simp [errW_none, errW_some] <;> rfl) | (simp [*, errW_none, errW_some] <;> rfl), by repeat (first | (with_reducible first | exact HB.out | apply below_alloc | apply pw_below_drewN | apply below_drew1) | exact HB.out)⟩
                        · rw [if_neg c39] at H
                          have c39b0 : (a0 == 12) = false := beq_eq_false_iff_ne.mpr c39
                          have c39b1 : (a0 != 12) = true := bne_iff_ne.mpr c39
                          obtain rfl := Option.some.inj H
                          go_enter Try.func71, Try.ntmps71
                          go_wp2
                          go_ret
                          exact ⟨by first | rfl | (simp [errW_none, errW_some] <;> rfl) | (simp [*, errW_none, errW_some] <;> rfl), by repeat (first | (with_reducible first | exact HB.out | apply below_alloc | apply pw_below_drewN | apply below_drew1) | exact HB.out)⟩

-- NOT PRINTED: function 64 (print_printer_element)

-- NOT PRINTED: function 65 (print_printer_nothing)

end Go.Proofs.Ythialihgamlljaa.G
