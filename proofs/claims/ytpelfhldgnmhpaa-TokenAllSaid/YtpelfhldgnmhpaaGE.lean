-- laid by programs of this session's (wip/tools/myprint.py, linear.py, merge.py) over the translation, and by hand
import Derived.Test.YtpelfhldgnmhpaaGA
import Derived.Test.YtpelfhldgnmhpaaGB
import Derived.Test.YtpelfhldgnmhpaaGC
import Derived.Test.YtpelfhldgnmhpaaGD
namespace Go.Proofs.Ytpelfhldgnmhpaa.G
section
open Go.RowKit Go.Proofs.YtpelfhldgnmhpaaW.PrintWords Go.Proofs.YtpelfhldgnmhpaaW.PrintLast Go.Proofs.YtpelfhldgnmhpaaW.PrintMore
attribute [local go_sem] max2_int min2_int max_two min_two max_three min_three max_four min_four
set_option linter.unusedVariables false
set_option linter.unusedSimpArgs false
/-! ### marginaliaref04_Same: function 13 -/
def marginaliaref04_Same.f (k : Nat) (a0_0 : Int) (a0_1 : ByteArray) (l0_2 : List (S41)) (a0_3 : Bool) (a0_4 : ByteArray) (a1_0 : Int) (a1_1 : ByteArray) (l1_2 : List (S41)) (a1_3 : Bool) (a1_4 : ByteArray) : Option (Bool) := if a0_0 = a1_0 then (if a0_1.toList = a1_1.toList then ((marginaliaref04_Attrs.f k l0_2 l1_2).bind fun t417 => (if t417 = true then (if (a0_3 == a1_3) = true then (some (a0_4.toList == a1_4.toList)) else (some false)) else (some false))) else (some false)) else (some false)
set_option maxHeartbeats 8000000 in
set_option maxRecDepth 100000 in
theorem marginaliaref04_Same.calls (k : Nat) (a0_0 : Int) (a0_1 : ByteArray) (A0_2 : Option Addr) (c0_2 : Nat) (l0_2 : List (S41)) (a0_3 : Bool) (a0_4 : ByteArray) (a1_0 : Int) (a1_1 : ByteArray) (A1_2 : Option Addr) (c1_2 : Nat) (l1_2 : List (S41)) (a1_3 : Bool) (a1_4 : ByteArray) (r : Bool) (w : World) (hr0_2 : Kd.C k41 w A0_2 l0_2.length l0_2) (hc0_2 : l0_2.length ≤ c0_2) (hr1_2 : Kd.C k41 w A1_2 l1_2.length l1_2) (hc1_2 : l1_2.length ≤ c1_2) (h : marginaliaref04_Same.f k a0_0 a0_1 l0_2 a0_3 a0_4 a1_0 a1_1 l1_2 a1_3 a1_4 = some r) :
    Calls Try.prog 13 #[.agg #[.int .i64 a0_0, .string a0_1, .slice A0_2 l0_2.length c0_2, .bool a0_3, .string a0_4], .agg #[.int .i64 a1_0, .string a1_1, .slice A1_2 l1_2.length c1_2, .bool a1_3, .string a1_4]] w fun e w' => e = .returned (.bool r) ∧ Below w.heap.size w w' := by
 have hu29 := Try.underlying29
 have HR0_2 := Aside0.mk hr0_2
 have HC0_2 := Aside0.mk hc0_2
 clear hr0_2 hc0_2
 have HR1_2 := Aside0.mk hr1_2
 have HC1_2 := Aside0.mk hc1_2
 clear hr1_2 hc1_2
 have HB := Aside0.mk (Below.refl w.heap.size w)
 have H : (if a0_0 = a1_0 then (if a0_1.toList = a1_1.toList then ((marginaliaref04_Attrs.f k l0_2 l1_2).bind fun t417 => (if t417 = true then (if (a0_3 == a1_3) = true then (some (a0_4.toList == a1_4.toList)) else (some false)) else (some false))) else (some false)) else (some false)) = some r := h
 clear h
 by_cases c3 : a0_0 = a1_0
 ·
  rw [if_pos c3] at H
  have c3b0 : (a0_0 == a1_0) = true := beq_iff_eq.mpr c3
  have c3b1 : (a0_0 != a1_0) = false := bne_eq_false_iff_eq.mpr c3
  clear c3
  by_cases c4 : a0_1.toList = a1_1.toList
  ·
   rw [if_pos c4] at H
   have c4b0 : (a0_1.toList == a1_1.toList) = true := beq_iff_eq.mpr c4
   have c4b1 : (a0_1.toList != a1_1.toList) = false := bne_eq_false_iff_eq.mpr c4
   clear c4
   replace H := Option.bind_eq_some_iff.mp H
   obtain ⟨t417, A50, H⟩ := H
   try dsimp only at H
   have A5 := Aside0.mk A50
   clear A50
   go_enter Try.func13, Try.ntmps13
   go_wp2_with (first | ((with_reducible refine gate_dst (N := 2) rfl ?_); refine box_event ?hg (N := 2) ?hd (cs := #[.int .i64 a0_0, .string a0_1, .slice A0_2 l0_2.length c0_2, .bool a0_3, .string a0_4]) (t := 29) ?hr ?_; (case hd => rfl); (case hg => rfl); (case hr => first | (go_simp; done) | (go_simp; rfl)); intro gb415 hg w8 hbox hb; have n0_ := Aside0.mk (below_step (by repeat (first | (with_reducible first | exact HB.out | apply below_alloc | apply pw_below_drewN | apply below_drew1) | exact HB.out)) hb); have n1_ := Aside0.mk (hbox); have n2_ := Aside0.mk ((by rw [hg]; exact (below_size (by repeat (first | (with_reducible first | exact HB.out | apply below_alloc | apply pw_below_drewN | apply below_drew1) | exact HB.out))) : w.heap.size ≤ gb415)); have n3_ := Aside0.mk ((by rw [hg]; exact (below_size (by repeat (first | (with_reducible first | exact HB.out | apply below_alloc | apply pw_below_drewN | apply below_drew1) | exact HB.out))) : w.heap.size ≤ gb415)); clear HB; have HB := n0_; have BK415 := n1_; have GW415 := n2_; have GE415 := n3_; clear n0_ n1_ n2_ n3_; clear hb hbox hg) | ((with_reducible refine gate_dst (N := 3) rfl ?_); refine box_event ?hg (N := 3) ?hd (cs := #[.int .i64 a1_0, .string a1_1, .slice A1_2 l1_2.length c1_2, .bool a1_3, .string a1_4]) (t := 29) ?hr ?_; (case hd => rfl); (case hg => rfl); (case hr => first | (go_simp; done) | (go_simp; rfl)); intro gb416 hg w9 hbox hb; have n0_ := Aside0.mk (blk_below (g := gb415) (o := .cells #[.int .i64 a0_0, .string a0_1, .slice A0_2 l0_2.length c0_2, .bool a0_3, .string a0_4] 29 (0, 0)) (by (with_reducible repeat (first | refine blk_drewN ?_ _ | refine blk_drew ?_ | refine blk_alloc ?_ _)); exact BK415.out) hb); have n1_ := Aside0.mk (below_step (by repeat (first | (with_reducible first | exact HB.out | apply below_alloc | apply pw_below_drewN | apply below_drew1 | refine below_set ?_ GE415.out) | exact HB.out)) hb); have n2_ := Aside0.mk (hbox); have n3_ := Aside0.mk ((by rw [hg]; exact (below_size (by repeat (first | (with_reducible first | exact HB.out | apply below_alloc | apply pw_below_drewN | apply below_drew1 | refine below_set ?_ GE415.out) | exact HB.out))) : w.heap.size ≤ gb416)); have n4_ := Aside0.mk ((by rw [hg]; exact (below_size (by repeat (first | (with_reducible first | exact HB.out | apply below_alloc | apply pw_below_drewN | apply below_drew1 | refine below_set ?_ GE415.out) | exact HB.out))) : w.heap.size ≤ gb416)); have n5_ := Aside0.mk ((by rw [hg]; exact Nat.ne_of_lt (blk_lt (g := gb415) (o := .cells #[.int .i64 a0_0, .string a0_1, .slice A0_2 l0_2.length c0_2, .bool a0_3, .string a0_4] 29 (0, 0)) (by (with_reducible repeat (first | refine blk_drewN ?_ _ | refine blk_drew ?_ | refine blk_alloc ?_ _)); exact BK415.out)) : gb415 ≠ gb416)); have n6_ := Aside0.mk ((by rw [hg]; exact Nat.ne_of_gt (blk_lt (g := gb415) (o := .cells #[.int .i64 a0_0, .string a0_1, .slice A0_2 l0_2.length c0_2, .bool a0_3, .string a0_4] 29 (0, 0)) (by (with_reducible repeat (first | refine blk_drewN ?_ _ | refine blk_drew ?_ | refine blk_alloc ?_ _)); exact BK415.out)) : gb416 ≠ gb415)); clear BK415; clear HB; have BK415 := n0_; have HB := n1_; have BK416 := n2_; have GW416 := n3_; have GE416 := n4_; have NB415_416 := n5_; have NB416_415 := n6_; clear n0_ n1_ n2_ n3_ n4_ n5_ n6_; clear hb hbox hg; have hnb10 := NB415_416.out; have hnc10 := NB416_415.out; have hcz11_0 : w9.cell? ⟨gb415, 0, none⟩ = some (.int .i64 a0_0) := (blk_cell BK415.out 0).trans rfl; have hcz11_1 : w9.cell? ⟨gb415, 1, none⟩ = some (.string a0_1) := (blk_cell BK415.out 1).trans rfl; have hcz11_2 : w9.cell? ⟨gb415, 2, none⟩ = some (.slice A0_2 l0_2.length c0_2) := (blk_cell BK415.out 2).trans rfl; have hcz11_3 : w9.cell? ⟨gb415, 3, none⟩ = some (.bool a0_3) := (blk_cell BK415.out 3).trans rfl; have hcz11_4 : w9.cell? ⟨gb415, 4, none⟩ = some (.string a0_4) := (blk_cell BK415.out 4).trans rfl; have hfz11_0 := blk_frozen BK415.out 0; have hfz11_1 := blk_frozen BK415.out 1; have hfz11_2 := blk_frozen BK415.out 2; have hfz11_3 := blk_frozen BK415.out 3; have hfz11_4 := blk_frozen BK415.out 4; have hcz12_0 : w9.cell? ⟨gb416, 0, none⟩ = some (.int .i64 a1_0) := (blk_cell BK416.out 0).trans rfl; have hcz12_1 : w9.cell? ⟨gb416, 1, none⟩ = some (.string a1_1) := (blk_cell BK416.out 1).trans rfl; have hcz12_2 : w9.cell? ⟨gb416, 2, none⟩ = some (.slice A1_2 l1_2.length c1_2) := (blk_cell BK416.out 2).trans rfl; have hcz12_3 : w9.cell? ⟨gb416, 3, none⟩ = some (.bool a1_3) := (blk_cell BK416.out 3).trans rfl; have hcz12_4 : w9.cell? ⟨gb416, 4, none⟩ = some (.string a1_4) := (blk_cell BK416.out 4).trans rfl; have hfz12_0 := blk_frozen BK416.out 0; have hfz12_1 := blk_frozen BK416.out 1; have hfz12_2 := blk_frozen BK416.out 2; have hfz12_3 := blk_frozen BK416.out 3; have hfz12_4 := blk_frozen BK416.out 4))
   (with_reducible refine (marginaliaref04_Attrs.calls k _ _ l0_2 _ _ l1_2 t417 _ ?side1 ?side2 ?side3 ?side4 A5.out).mono ?_)
   (case side1 => repeat (first | exact (Kd.C_below HR0_2.out HB.out) | (with_reducible refine Kd.C_alloc ?_ _) | (with_reducible refine Kd.C_drewN ?_ _) | (with_reducible refine Kd.C_drew ?_)))
   (case side2 => exact HC0_2.out)
   (case side3 => repeat (first | exact (Kd.C_below HR1_2.out HB.out) | (with_reducible refine Kd.C_alloc ?_ _) | (with_reducible refine Kd.C_drewN ?_ _) | (with_reducible refine Kd.C_drew ?_)))
   (case side4 => exact HC1_2.out)
   rintro e w' ⟨rfl, ⟨nd, rfl⟩⟩
   by_cases c6 : t417 = true
   ·
    subst c6
    replace H := (if_pos rfl).symm.trans H
    by_cases c7 : (a0_3 == a1_3) = true
    ·
     rw [if_pos c7] at H
     have c7b0 : (a0_3 == a1_3) = true := c7
     (try (have c7b1 : decide (a0_3 = a1_3) = true := by simpa using c7))
     (try (have c7b2 : (a0_3 == a1_3) = true := by simpa using c7))
     clear c7
     obtain rfl := Option.some.inj H
     go_wp2
     go_ret
     exact ⟨by first | rfl | (simp [errW_none, errW_some] <;> rfl) | (simp [*, errW_none, errW_some] <;> rfl), by repeat (first | (with_reducible first | exact HB.out | apply below_alloc | apply pw_below_drewN | apply below_drew1 | refine below_set ?_ GE415.out | refine below_set ?_ GE416.out) | exact HB.out)⟩
    ·
     rw [if_neg c7] at H
     have c7b0 : (a0_3 == a1_3) = false := by simpa using c7
     (try (have c7b1 : decide (a0_3 = a1_3) = false := by simpa using c7))
     (try (have c7b2 : (a0_3 == a1_3) = false := by simpa using c7))
     (try (have c7b3 : ¬ (a0_3 = a1_3) := by simpa using c7))
     clear c7
     obtain rfl := Option.some.inj H
     go_wp2
     go_ret
     exact ⟨by first | rfl | (simp [errW_none, errW_some] <;> rfl) | (simp [*, errW_none, errW_some] <;> rfl), by repeat (first | (with_reducible first | exact HB.out | apply below_alloc | apply pw_below_drewN | apply below_drew1 | refine below_set ?_ GE415.out | refine below_set ?_ GE416.out) | exact HB.out)⟩
   ·
    replace c6 := Bool.eq_false_iff.mpr c6
    subst c6
    replace H := (if_neg Bool.false_ne_true).symm.trans H
    obtain rfl := Option.some.inj H
    go_wp2
    go_ret
    exact ⟨by first | rfl | (simp [errW_none, errW_some] <;> rfl) | (simp [*, errW_none, errW_some] <;> rfl), by repeat (first | (with_reducible first | exact HB.out | apply below_alloc | apply pw_below_drewN | apply below_drew1 | refine below_set ?_ GE415.out | refine below_set ?_ GE416.out) | exact HB.out)⟩
  ·
   rw [if_neg c4] at H
   have c4b0 : (a0_1.toList == a1_1.toList) = false := beq_eq_false_iff_ne.mpr c4
   have c4b1 : (a0_1.toList != a1_1.toList) = true := bne_iff_ne.mpr c4
   obtain rfl := Option.some.inj H
   go_enter Try.func13, Try.ntmps13
   go_wp2_with (first | ((with_reducible refine gate_dst (N := 2) rfl ?_); refine box_event ?hg (N := 2) ?hd (cs := #[.int .i64 a0_0, .string a0_1, .slice A0_2 l0_2.length c0_2, .bool a0_3, .string a0_4]) (t := 29) ?hr ?_; (case hd => rfl); (case hg => rfl); (case hr => first | (go_simp; done) | (go_simp; rfl)); intro gb415 hg w23 hbox hb; have n0_ := Aside0.mk (below_step (by repeat (first | (with_reducible first | exact HB.out | apply below_alloc | apply pw_below_drewN | apply below_drew1) | exact HB.out)) hb); have n1_ := Aside0.mk (hbox); have n2_ := Aside0.mk ((by rw [hg]; exact (below_size (by repeat (first | (with_reducible first | exact HB.out | apply below_alloc | apply pw_below_drewN | apply below_drew1) | exact HB.out))) : w.heap.size ≤ gb415)); have n3_ := Aside0.mk ((by rw [hg]; exact (below_size (by repeat (first | (with_reducible first | exact HB.out | apply below_alloc | apply pw_below_drewN | apply below_drew1) | exact HB.out))) : w.heap.size ≤ gb415)); clear HB; have HB := n0_; have BK415 := n1_; have GW415 := n2_; have GE415 := n3_; clear n0_ n1_ n2_ n3_; clear hb hbox hg) | ((with_reducible refine gate_dst (N := 3) rfl ?_); refine box_event ?hg (N := 3) ?hd (cs := #[.int .i64 a1_0, .string a1_1, .slice A1_2 l1_2.length c1_2, .bool a1_3, .string a1_4]) (t := 29) ?hr ?_; (case hd => rfl); (case hg => rfl); (case hr => first | (go_simp; done) | (go_simp; rfl)); intro gb416 hg w24 hbox hb; have n0_ := Aside0.mk (blk_below (g := gb415) (o := .cells #[.int .i64 a0_0, .string a0_1, .slice A0_2 l0_2.length c0_2, .bool a0_3, .string a0_4] 29 (0, 0)) (by (with_reducible repeat (first | refine blk_drewN ?_ _ | refine blk_drew ?_ | refine blk_alloc ?_ _)); exact BK415.out) hb); have n1_ := Aside0.mk (below_step (by repeat (first | (with_reducible first | exact HB.out | apply below_alloc | apply pw_below_drewN | apply below_drew1 | refine below_set ?_ GE415.out) | exact HB.out)) hb); have n2_ := Aside0.mk (hbox); have n3_ := Aside0.mk ((by rw [hg]; exact (below_size (by repeat (first | (with_reducible first | exact HB.out | apply below_alloc | apply pw_below_drewN | apply below_drew1 | refine below_set ?_ GE415.out) | exact HB.out))) : w.heap.size ≤ gb416)); have n4_ := Aside0.mk ((by rw [hg]; exact (below_size (by repeat (first | (with_reducible first | exact HB.out | apply below_alloc | apply pw_below_drewN | apply below_drew1 | refine below_set ?_ GE415.out) | exact HB.out))) : w.heap.size ≤ gb416)); have n5_ := Aside0.mk ((by rw [hg]; exact Nat.ne_of_lt (blk_lt (g := gb415) (o := .cells #[.int .i64 a0_0, .string a0_1, .slice A0_2 l0_2.length c0_2, .bool a0_3, .string a0_4] 29 (0, 0)) (by (with_reducible repeat (first | refine blk_drewN ?_ _ | refine blk_drew ?_ | refine blk_alloc ?_ _)); exact BK415.out)) : gb415 ≠ gb416)); have n6_ := Aside0.mk ((by rw [hg]; exact Nat.ne_of_gt (blk_lt (g := gb415) (o := .cells #[.int .i64 a0_0, .string a0_1, .slice A0_2 l0_2.length c0_2, .bool a0_3, .string a0_4] 29 (0, 0)) (by (with_reducible repeat (first | refine blk_drewN ?_ _ | refine blk_drew ?_ | refine blk_alloc ?_ _)); exact BK415.out)) : gb416 ≠ gb415)); clear BK415; clear HB; have BK415 := n0_; have HB := n1_; have BK416 := n2_; have GW416 := n3_; have GE416 := n4_; have NB415_416 := n5_; have NB416_415 := n6_; clear n0_ n1_ n2_ n3_ n4_ n5_ n6_; clear hb hbox hg; have hnb25 := NB415_416.out; have hnc25 := NB416_415.out; have hcz26_0 : w24.cell? ⟨gb415, 0, none⟩ = some (.int .i64 a0_0) := (blk_cell BK415.out 0).trans rfl; have hcz26_1 : w24.cell? ⟨gb415, 1, none⟩ = some (.string a0_1) := (blk_cell BK415.out 1).trans rfl; have hcz26_2 : w24.cell? ⟨gb415, 2, none⟩ = some (.slice A0_2 l0_2.length c0_2) := (blk_cell BK415.out 2).trans rfl; have hcz26_3 : w24.cell? ⟨gb415, 3, none⟩ = some (.bool a0_3) := (blk_cell BK415.out 3).trans rfl; have hcz26_4 : w24.cell? ⟨gb415, 4, none⟩ = some (.string a0_4) := (blk_cell BK415.out 4).trans rfl; have hfz26_0 := blk_frozen BK415.out 0; have hfz26_1 := blk_frozen BK415.out 1; have hfz26_2 := blk_frozen BK415.out 2; have hfz26_3 := blk_frozen BK415.out 3; have hfz26_4 := blk_frozen BK415.out 4; have hcz27_0 : w24.cell? ⟨gb416, 0, none⟩ = some (.int .i64 a1_0) := (blk_cell BK416.out 0).trans rfl; have hcz27_1 : w24.cell? ⟨gb416, 1, none⟩ = some (.string a1_1) := (blk_cell BK416.out 1).trans rfl; have hcz27_2 : w24.cell? ⟨gb416, 2, none⟩ = some (.slice A1_2 l1_2.length c1_2) := (blk_cell BK416.out 2).trans rfl; have hcz27_3 : w24.cell? ⟨gb416, 3, none⟩ = some (.bool a1_3) := (blk_cell BK416.out 3).trans rfl; have hcz27_4 : w24.cell? ⟨gb416, 4, none⟩ = some (.string a1_4) := (blk_cell BK416.out 4).trans rfl; have hfz27_0 := blk_frozen BK416.out 0; have hfz27_1 := blk_frozen BK416.out 1; have hfz27_2 := blk_frozen BK416.out 2; have hfz27_3 := blk_frozen BK416.out 3; have hfz27_4 := blk_frozen BK416.out 4))
   go_ret
   exact ⟨by first | rfl | (simp [errW_none, errW_some] <;> rfl) | (simp [*, errW_none, errW_some] <;> rfl), by repeat (first | (with_reducible first | exact HB.out | apply below_alloc | apply pw_below_drewN | apply below_drew1 | refine below_set ?_ GE415.out | refine below_set ?_ GE416.out) | exact HB.out)⟩
 ·
  rw [if_neg c3] at H
  have c3b0 : (a0_0 == a1_0) = false := beq_eq_false_iff_ne.mpr c3
  have c3b1 : (a0_0 != a1_0) = true := bne_iff_ne.mpr c3
  obtain rfl := Option.some.inj H
  go_enter Try.func13, Try.ntmps13
  go_wp2_with (first | ((with_reducible refine gate_dst (N := 2) rfl ?_); refine box_event ?hg (N := 2) ?hd (cs := #[.int .i64 a0_0, .string a0_1, .slice A0_2 l0_2.length c0_2, .bool a0_3, .string a0_4]) (t := 29) ?hr ?_; (case hd => rfl); (case hg => rfl); (case hr => first | (go_simp; done) | (go_simp; rfl)); intro gb415 hg w28 hbox hb; have n0_ := Aside0.mk (below_step (by repeat (first | (with_reducible first | exact HB.out | apply below_alloc | apply pw_below_drewN | apply below_drew1) | exact HB.out)) hb); have n1_ := Aside0.mk (hbox); have n2_ := Aside0.mk ((by rw [hg]; exact (below_size (by repeat (first | (with_reducible first | exact HB.out | apply below_alloc | apply pw_below_drewN | apply below_drew1) | exact HB.out))) : w.heap.size ≤ gb415)); have n3_ := Aside0.mk ((by rw [hg]; exact (below_size (by repeat (first | (with_reducible first | exact HB.out | apply below_alloc | apply pw_below_drewN | apply below_drew1) | exact HB.out))) : w.heap.size ≤ gb415)); clear HB; have HB := n0_; have BK415 := n1_; have GW415 := n2_; have GE415 := n3_; clear n0_ n1_ n2_ n3_; clear hb hbox hg) | ((with_reducible refine gate_dst (N := 3) rfl ?_); refine box_event ?hg (N := 3) ?hd (cs := #[.int .i64 a1_0, .string a1_1, .slice A1_2 l1_2.length c1_2, .bool a1_3, .string a1_4]) (t := 29) ?hr ?_; (case hd => rfl); (case hg => rfl); (case hr => first | (go_simp; done) | (go_simp; rfl)); intro gb416 hg w29 hbox hb; have n0_ := Aside0.mk (blk_below (g := gb415) (o := .cells #[.int .i64 a0_0, .string a0_1, .slice A0_2 l0_2.length c0_2, .bool a0_3, .string a0_4] 29 (0, 0)) (by (with_reducible repeat (first | refine blk_drewN ?_ _ | refine blk_drew ?_ | refine blk_alloc ?_ _)); exact BK415.out) hb); have n1_ := Aside0.mk (below_step (by repeat (first | (with_reducible first | exact HB.out | apply below_alloc | apply pw_below_drewN | apply below_drew1 | refine below_set ?_ GE415.out) | exact HB.out)) hb); have n2_ := Aside0.mk (hbox); have n3_ := Aside0.mk ((by rw [hg]; exact (below_size (by repeat (first | (with_reducible first | exact HB.out | apply below_alloc | apply pw_below_drewN | apply below_drew1 | refine below_set ?_ GE415.out) | exact HB.out))) : w.heap.size ≤ gb416)); have n4_ := Aside0.mk ((by rw [hg]; exact (below_size (by repeat (first | (with_reducible first | exact HB.out | apply below_alloc | apply pw_below_drewN | apply below_drew1 | refine below_set ?_ GE415.out) | exact HB.out))) : w.heap.size ≤ gb416)); have n5_ := Aside0.mk ((by rw [hg]; exact Nat.ne_of_lt (blk_lt (g := gb415) (o := .cells #[.int .i64 a0_0, .string a0_1, .slice A0_2 l0_2.length c0_2, .bool a0_3, .string a0_4] 29 (0, 0)) (by (with_reducible repeat (first | refine blk_drewN ?_ _ | refine blk_drew ?_ | refine blk_alloc ?_ _)); exact BK415.out)) : gb415 ≠ gb416)); have n6_ := Aside0.mk ((by rw [hg]; exact Nat.ne_of_gt (blk_lt (g := gb415) (o := .cells #[.int .i64 a0_0, .string a0_1, .slice A0_2 l0_2.length c0_2, .bool a0_3, .string a0_4] 29 (0, 0)) (by (with_reducible repeat (first | refine blk_drewN ?_ _ | refine blk_drew ?_ | refine blk_alloc ?_ _)); exact BK415.out)) : gb416 ≠ gb415)); clear BK415; clear HB; have BK415 := n0_; have HB := n1_; have BK416 := n2_; have GW416 := n3_; have GE416 := n4_; have NB415_416 := n5_; have NB416_415 := n6_; clear n0_ n1_ n2_ n3_ n4_ n5_ n6_; clear hb hbox hg; have hnb30 := NB415_416.out; have hnc30 := NB416_415.out; have hcz31_0 : w29.cell? ⟨gb415, 0, none⟩ = some (.int .i64 a0_0) := (blk_cell BK415.out 0).trans rfl; have hcz31_1 : w29.cell? ⟨gb415, 1, none⟩ = some (.string a0_1) := (blk_cell BK415.out 1).trans rfl; have hcz31_2 : w29.cell? ⟨gb415, 2, none⟩ = some (.slice A0_2 l0_2.length c0_2) := (blk_cell BK415.out 2).trans rfl; have hcz31_3 : w29.cell? ⟨gb415, 3, none⟩ = some (.bool a0_3) := (blk_cell BK415.out 3).trans rfl; have hcz31_4 : w29.cell? ⟨gb415, 4, none⟩ = some (.string a0_4) := (blk_cell BK415.out 4).trans rfl; have hfz31_0 := blk_frozen BK415.out 0; have hfz31_1 := blk_frozen BK415.out 1; have hfz31_2 := blk_frozen BK415.out 2; have hfz31_3 := blk_frozen BK415.out 3; have hfz31_4 := blk_frozen BK415.out 4; have hcz32_0 : w29.cell? ⟨gb416, 0, none⟩ = some (.int .i64 a1_0) := (blk_cell BK416.out 0).trans rfl; have hcz32_1 : w29.cell? ⟨gb416, 1, none⟩ = some (.string a1_1) := (blk_cell BK416.out 1).trans rfl; have hcz32_2 : w29.cell? ⟨gb416, 2, none⟩ = some (.slice A1_2 l1_2.length c1_2) := (blk_cell BK416.out 2).trans rfl; have hcz32_3 : w29.cell? ⟨gb416, 3, none⟩ = some (.bool a1_3) := (blk_cell BK416.out 3).trans rfl; have hcz32_4 : w29.cell? ⟨gb416, 4, none⟩ = some (.string a1_4) := (blk_cell BK416.out 4).trans rfl; have hfz32_0 := blk_frozen BK416.out 0; have hfz32_1 := blk_frozen BK416.out 1; have hfz32_2 := blk_frozen BK416.out 2; have hfz32_3 := blk_frozen BK416.out 3; have hfz32_4 := blk_frozen BK416.out 4))
  go_ret
  exact ⟨by first | rfl | (simp [errW_none, errW_some] <;> rfl) | (simp [*, errW_none, errW_some] <;> rfl), by repeat (first | (with_reducible first | exact HB.out | apply below_alloc | apply pw_below_drewN | apply below_drew1 | refine below_set ?_ GE415.out | refine below_set ?_ GE416.out) | exact HB.out)⟩
-- BY HAND: marginalialaw04_TokenNext
/-- The block of an argument of the law. -/
def OB (w : World) (B : Nat) (a b : Int) (c : ByteArray) (d : Bool) : Prop := w.heap[B]? = some (.cells #[.int .i64 a, .int .i64 b, .string c, .bool d] 24 (0, 0))
section
variable {w w' : World} {B : Nat} {a b : Int} {c : ByteArray} {d : Bool}
theorem OB.new (w : World) (a b : Int) (c : ByteArray) (d : Bool) : OB (w.alloc (.cells #[.int .i64 a, .int .i64 b, .string c, .bool d] 24)) w.heap.size a b c d := by
 simpa [OB] using heap_alloc_last w (.cells #[.int .i64 a, .int .i64 b, .string c, .bool d] 24)
theorem OB.lt (h : OB w B a b c d) : B < w.heap.size := (Array.getElem?_eq_some_iff.1 h).1
theorem OB.keep (h : OB w B a b c d) (hb : Below w.heap.size w w') : OB w' B a b c d := (hb.block B h.lt).trans h
theorem OB.c0 (h : OB w B a b c d) : w.cell? ⟨B, 0, none⟩ = some (.int .i64 a) := Lib.cell_of_heap h 0
theorem OB.c1 (h : OB w B a b c d) : w.cell? ⟨B, 1, none⟩ = some (.int .i64 b) := Lib.cell_of_heap h 1
theorem OB.c2 (h : OB w B a b c d) : w.cell? ⟨B, 2, none⟩ = some (.string c) := Lib.cell_of_heap h 2
theorem OB.c3 (h : OB w B a b c d) : w.cell? ⟨B, 3, none⟩ = some (.bool d) := Lib.cell_of_heap h 3
end
/-! ### marginaliaref04_All: function 15 -/
def marginaliaref04_All.l0 : Nat → ByteArray → List (S29) → Int → Int → ByteArray → List (S41) → Bool → ByteArray → Option ((List (S29)))
  | 0, _, _, _, _, _, _, _, _ => none
  | k + 1, x0, x3, x5, x452000, x452001, x452002, x452003, x452004 => if x452000 = 0 then (some x3) else (if x3.length < 1954687338268 then ((marginaliaref04_Next.f k x0 x5 0 (⟨#[]⟩ : ByteArray) false).bind fun bt455 => (marginaliaref04_All.l0 k x0 (x3 ++ [(⟨x452000, x452001, x452002, x452003, x452004⟩ : S29)]) bt455.2.2.2.2.2 bt455.1 bt455.2.1 bt455.2.2.1 bt455.2.2.2.1 bt455.2.2.2.2.1)) else (none))
def marginaliaref04_All.f (k : Nat) (a0 : ByteArray) : Option ((List (S29))) := (marginaliaref04_Next.f k a0 0 0 (⟨#[]⟩ : ByteArray) false).bind fun bt443 => (marginaliaref04_All.l0 k a0 (([] : List (S29))) bt443.2.2.2.2.2 bt443.1 bt443.2.1 bt443.2.2.1 bt443.2.2.2.1 bt443.2.2.2.2.1)
set_option maxHeartbeats 8000000 in
set_option maxRecDepth 100000 in
theorem marginaliaref04_All.calls (k : Nat) (a0 : ByteArray) (r : List (S29)) (w : World) (h : marginaliaref04_All.f k a0 = some r) :
    Calls Try.prog 15 #[.string a0] w fun e w' => ∃ v0_ : Value, e = .returned (v0_) ∧ Kd.S k29 29 w' w.heap.size (fun _ => True) v0_ r ∧ Below w.heap.size w w' := by
 have hu29 := Try.underlying29
 have HB := Aside0.mk (Below.refl w.heap.size w)
 have H : ((marginaliaref04_Next.f k a0 0 0 (⟨#[]⟩ : ByteArray) false).bind fun bt443 => (marginaliaref04_All.l0 k a0 (([] : List (S29))) bt443.2.2.2.2.2 bt443.1 bt443.2.1 bt443.2.2.1 bt443.2.2.2.1 bt443.2.2.2.2.1)) = some r := h
 clear h
 obtain ⟨y440, hy440⟩ : ∃ y_ : List (S29), y_ = (([] : List (S29))) := ⟨_, rfl⟩
 replace H : ((marginaliaref04_Next.f k a0 0 0 (⟨#[]⟩ : ByteArray) false).bind fun bt443 => (marginaliaref04_All.l0 k a0 y440 bt443.2.2.2.2.2 bt443.1 bt443.2.1 bt443.2.2.1 bt443.2.2.2.1 bt443.2.2.2.2.1)) = some r := by first | (rw [hy440]; with_reducible exact H) | (have H2_ := (Option.bind_some _ _).symm.trans H; rw [hy440]; with_reducible exact H2_) | (have H2_ := (Option.bind_some _ _).symm.trans H; with_reducible exact H2_) | with_reducible exact H | (rw [hy440]; exact H) | exact H
 have Ny440 := Aside0.mk hy440
 clear hy440
 replace H := Option.bind_eq_some_iff.mp H
 obtain ⟨⟨t443, t444, t445, t448, t449, t450⟩, A20, H⟩ := H
 try dsimp only at H
 have A2 := Aside0.mk A20
 clear A20
 go_enter Try.func15, Try.ntmps15
 go_wp2_with (first | ((with_reducible refine gate_dst (N := 6) rfl ?_); refine Kd.S_lit k29 _ 29 ?hg (N := 6) ?hd (xs := ([] : List (S29))) (inner := []) (ok := fun _ => True) (okp := fun _ => True) ?hr ?hp (fun _ hk => hk) trivial (Below.refl _ _) (Nat.le_refl _) (by simp) ?_; (case hd => rfl); (case hg => rfl); (case hr => first | (go_simp; done) | (go_simp; rfl)); (case hp => exact (Reps.none _ _)); intro v441 w3 ho4 hb hg_ hnew_; clear hg_ hnew_; (first | rw [← Ny440.out] at ho4 | (simp only [Int.reduceToNat] at ho4; rw [← Ny440.out] at ho4)); have n0_ := Aside0.mk (Kd.S_lower ho4 (below_size (by repeat (first | (with_reducible first | exact HB.out | apply below_alloc | apply pw_below_drewN | apply below_drew1) | exact HB.out)))); have n1_ := Aside0.mk (below_step (by repeat (first | (with_reducible first | exact HB.out | apply below_alloc | apply pw_below_drewN | apply below_drew1) | exact HB.out)) hb); clear HB; have HO442 := n0_; have HB := n1_; clear n0_ n1_; clear hb ho4))
 (with_reducible refine (marginaliaref04_Next.calls k a0 0 0 (⟨#[]⟩ : ByteArray) false t443 t444 t445 t448 t449 t450 _ A2.out).mono ?_)
 rintro e w5 ⟨v446, rfl, ho0, hb⟩
 have n0_ := Aside0.mk (Kd.S_elder' (by (with_reducible repeat (first | apply Kd.S_alloc | apply Kd.S_drewN | apply Kd.S_drew)); exact HO442.out) (Kd.R_base ho0) hb)
 have n1_ := Aside0.mk (Kd.R_lower ho0 (below_size (by repeat (first | (with_reducible first | exact HB.out | apply below_alloc | apply pw_below_drewN | apply below_drew1) | exact HB.out))))
 have n2_ := Aside0.mk (below_step (by repeat (first | (with_reducible first | exact HB.out | apply below_alloc | apply pw_below_drewN | apply below_drew1) | exact HB.out)) hb)
 clear HO442
 clear HB
 have HO442 := n0_
 have HO447 := n1_
 have HB := n2_
 clear n0_ n1_ n2_
 (try clear hb)
 (try clear hb2)
 (try clear hk)
 (try clear hi)
 (try clear ho0)
 have H' := Aside0.mk H
 clear H
 go_wp2_with (first | ((with_reducible refine gate_dst (N := 4) rfl ?_); refine box_event ?hg (N := 4) ?hd (cs := #[.int .i64 0, .string (⟨#[]⟩ : ByteArray), .slice none 0 0, .bool false, .string (⟨#[]⟩ : ByteArray)]) (t := 29) ?hr ?_; (case hd => rfl); (case hg => rfl); (case hr => first | (go_simp; done) | (go_simp; rfl)); intro gb451 hg w6 hbox hb; have n0_ := Aside0.mk (Kd.S_below (Kd.S_elderB (by (with_reducible repeat (first | apply Kd.S_alloc | apply Kd.S_drewN | apply Kd.S_drew)); exact HO442.out) gb451 (Nat.le_of_eq hg.symm)) hb); have n1_ := Aside0.mk (Kd.R_below (by (with_reducible repeat (first | apply Kd.R_alloc | apply Kd.R_drewN | apply Kd.R_drew)); exact HO447.out) hb); have n2_ := Aside0.mk (below_step (by repeat (first | (with_reducible first | exact HB.out | apply below_alloc | apply pw_below_drewN | apply below_drew1) | exact HB.out)) hb); have n3_ := Aside0.mk (hbox); have n4_ := Aside0.mk ((by rw [hg]; exact (below_size (by repeat (first | (with_reducible first | exact HB.out | apply below_alloc | apply pw_below_drewN | apply below_drew1) | exact HB.out))) : w.heap.size ≤ gb451)); have n5_ := Aside0.mk ((by rw [hg]; exact (below_size (by repeat (first | (with_reducible first | exact HB.out | apply below_alloc | apply pw_below_drewN | apply below_drew1) | exact HB.out))) : w.heap.size ≤ gb451)); clear HO442; clear HO447; clear HB; have HO442 := n0_; have HO447 := n1_; have HB := n2_; have BK451 := n3_; have GW451 := n4_; have GE451 := n5_; clear n0_ n1_ n2_ n3_ n4_ n5_; clear hb hbox hg; have hcz7_0 : w6.cell? ⟨gb451, 0, none⟩ = some (.int .i64 0) := (blk_cell BK451.out 0).trans rfl; have hcz7_1 : w6.cell? ⟨gb451, 1, none⟩ = some (.string (⟨#[]⟩ : ByteArray)) := (blk_cell BK451.out 1).trans rfl; have hcz7_2 : w6.cell? ⟨gb451, 2, none⟩ = some (.slice none 0 0) := (blk_cell BK451.out 2).trans rfl; have hcz7_3 : w6.cell? ⟨gb451, 3, none⟩ = some (.bool false) := (blk_cell BK451.out 3).trans rfl; have hcz7_4 : w6.cell? ⟨gb451, 4, none⟩ = some (.string (⟨#[]⟩ : ByteArray)) := (blk_cell BK451.out 4).trans rfl; have hfz7_0 := blk_frozen BK451.out 0; have hfz7_1 := blk_frozen BK451.out 1; have hfz7_2 := blk_frozen BK451.out 2; have hfz7_3 := blk_frozen BK451.out 3; have hfz7_4 := blk_frozen BK451.out 4; obtain ⟨Ao8, co8, eo8⟩ := Kd.R_slice HO447.out; subst eo8))
 go_loopg [3, 5] k (fun kq v3 v5 w' => ∃ (x3_1 : List (S29)) (x5_1 : Int) (x452000_1 : Int) (x452001_1 : ByteArray) (x452002_1 : List (S41)) (x452003_1 : Bool) (x452004_1 : ByteArray) (u452002 : Value), v5 = .int .i64 x5_1 ∧ Aside0 (marginaliaref04_All.l0 kq a0 x3_1 x5_1 x452000_1 x452001_1 x452002_1 x452003_1 x452004_1 = some r) ∧ Aside0 (kq ≤ k) ∧ Aside0 (Kd.S k29 29 w' w.heap.size (fun k_ => some k_ ≠ (u452002 : Value).ownBlock ∧ k_ ≠ gb451) v3 x3_1) ∧ Aside0 (Kd.R k41 41 w' w.heap.size (fun _ => True) u452002 x452002_1) ∧ Aside0 (w'.heap[gb451]? = some (.cells #[.int .i64 x452000_1, .string x452001_1, u452002, .bool x452003_1, .string x452004_1] 29 (0, 0))) ∧ Aside0 (Below w.heap.size w w'))
 case atStart => exact ⟨(y440), (t450), (t443), (t444), (t445), (t448), (t449), (.slice Ao8 t445.length co8), (by first | rfl | (simp; done) | (simp [*]; done)), H', ⟨Nat.le_refl _⟩, ⟨by (with_reducible repeat (first | apply Kd.S_alloc | apply Kd.S_drewN | apply Kd.S_drew)); exact Kd.S_mono (Kd.S_far (p := ⟨gb451, 4, none⟩) (Kd.S_far (p := ⟨gb451, 3, none⟩) (Kd.S_far (p := ⟨gb451, 2, none⟩) (Kd.S_far (p := ⟨gb451, 1, none⟩) (Kd.S_far (p := ⟨gb451, 0, none⟩) (Kd.S_mono HO442.out (fun k_ hk => (⟨hk, hk.2⟩ : _ ∧ k_ ≠ gb451))) (fun _ hk => hk.2) (.int .i64 t443)) (fun _ hk => hk.2) (.string t444)) (fun _ hk => hk.2) (.slice Ao8 t445.length co8)) (fun _ hk => hk.2) (.bool t448)) (fun _ hk => hk.2) (.string t449)) (fun _ hk => ⟨hk.1.1.2, hk.1.2⟩)⟩, ⟨by (with_reducible repeat (first | apply Kd.R_alloc | apply Kd.R_drewN | apply Kd.R_drew)); exact Kd.R_mono (Kd.R_far (p := ⟨gb451, 4, none⟩) (Kd.R_far (p := ⟨gb451, 3, none⟩) (Kd.R_far (p := ⟨gb451, 2, none⟩) (Kd.R_far (p := ⟨gb451, 1, none⟩) (Kd.R_far (p := ⟨gb451, 0, none⟩) (Kd.R_types HO447.out BK451.out (by decide)) (fun _ hk => hk.2) (.int .i64 t443)) (fun _ hk => hk.2) (.string t444)) (fun _ hk => hk.2) (.slice Ao8 t445.length co8)) (fun _ hk => hk.2) (.bool t448)) (fun _ hk => hk.2) (.string t449)) (fun _ hk => trivial)⟩, ⟨by (with_reducible repeat (first | refine blk_drewN ?_ _ | refine blk_drew ?_ | refine blk_alloc ?_ _)); refine blk_put (cs := #[.int .i64 t443, .string t444, .slice Ao8 t445.length co8, .bool t448, .string (⟨#[]⟩ : ByteArray)]) ?_ 4 _ rfl; (with_reducible repeat (first | refine blk_drewN ?_ _ | refine blk_drew ?_ | refine blk_alloc ?_ _)); refine blk_put (cs := #[.int .i64 t443, .string t444, .slice Ao8 t445.length co8, .bool false, .string (⟨#[]⟩ : ByteArray)]) ?_ 3 _ rfl; (with_reducible repeat (first | refine blk_drewN ?_ _ | refine blk_drew ?_ | refine blk_alloc ?_ _)); refine blk_put (cs := #[.int .i64 t443, .string t444, .slice none 0 0, .bool false, .string (⟨#[]⟩ : ByteArray)]) ?_ 2 _ rfl; (with_reducible repeat (first | refine blk_drewN ?_ _ | refine blk_drew ?_ | refine blk_alloc ?_ _)); refine blk_put (cs := #[.int .i64 t443, .string (⟨#[]⟩ : ByteArray), .slice none 0 0, .bool false, .string (⟨#[]⟩ : ByteArray)]) ?_ 1 _ rfl; (with_reducible repeat (first | refine blk_drewN ?_ _ | refine blk_drew ?_ | refine blk_alloc ?_ _)); refine blk_put (cs := #[.int .i64 0, .string (⟨#[]⟩ : ByteArray), .slice none 0 0, .bool false, .string (⟨#[]⟩ : ByteArray)]) ?_ 0 _ rfl; (with_reducible repeat (first | refine blk_drewN ?_ _ | refine blk_drew ?_ | refine blk_alloc ?_ _)); exact BK451.out⟩, ⟨by repeat (first | (with_reducible first | exact HB.out | apply below_alloc | apply pw_below_drewN | apply below_drew1 | refine below_set ?_ GE451.out) | exact HB.out)⟩⟩
 case round =>
  clear H'
  try clear c1
  try clear p2
  try clear hcz7_0
  try clear hcz7_1
  try clear hcz7_2
  try clear hcz7_3
  try clear hcz7_4
  try clear hfz7_0
  try clear hfz7_1
  try clear hfz7_2
  try clear hfz7_3
  try clear hfz7_4
  obtain ⟨x3_1, x5_1, x452000_1, x452001_1, x452002_1, x452003_1, x452004_1, u452002, rfl, HA, HK1, HO_3, HO_452002, BK451, HB⟩ := hrel
  cases gk with
  | zero => exact absurd HA.out (by simp [marginaliaref04_All.l0])
  | succ k1 =>
   have H := HA.out
   clear HA
   simp only [marginaliaref04_All.l0] at H
   by_cases c9 : x452000_1 = 0
   ·
    rw [if_pos c9] at H
    have c9b0 : (x452000_1 == 0) = true := beq_iff_eq.mpr c9
    have c9b1 : (x452000_1 != 0) = false := bne_eq_false_iff_eq.mpr c9
    clear c9
    obtain rfl := Option.some.inj H
    have hcz10_0 : wr.cell? ⟨gb451, 0, none⟩ = some (.int .i64 x452000_1) := (blk_cell BK451.out 0).trans rfl
    have hcz10_1 : wr.cell? ⟨gb451, 1, none⟩ = some (.string x452001_1) := (blk_cell BK451.out 1).trans rfl
    have hcz10_2 : wr.cell? ⟨gb451, 2, none⟩ = some (u452002) := (blk_cell BK451.out 2).trans rfl
    have hcz10_3 : wr.cell? ⟨gb451, 3, none⟩ = some (.bool x452003_1) := (blk_cell BK451.out 3).trans rfl
    have hcz10_4 : wr.cell? ⟨gb451, 4, none⟩ = some (.string x452004_1) := (blk_cell BK451.out 4).trans rfl
    have hfz10_0 := blk_frozen BK451.out 0
    have hfz10_1 := blk_frozen BK451.out 1
    have hfz10_2 := blk_frozen BK451.out 2
    have hfz10_3 := blk_frozen BK451.out 3
    have hfz10_4 := blk_frozen BK451.out 4
    go_wp2
    go_ret
    exact ⟨_, by first | rfl | (simp [errW_none, errW_some] <;> rfl) | (simp [*, errW_none, errW_some] <;> rfl), by (with_reducible repeat (first | apply Kd.S_alloc | apply Kd.S_drewN | apply Kd.S_drew)); exact Kd.S_mono HO_3.out (fun _ hk => trivial), by repeat (first | (with_reducible first | exact HB.out | apply below_alloc | apply pw_below_drewN | apply below_drew1 | refine below_set ?_ GE451.out) | exact HB.out)⟩
   ·
    rw [if_neg c9] at H
    have c9b0 : (x452000_1 == 0) = false := beq_eq_false_iff_ne.mpr c9
    have c9b1 : (x452000_1 != 0) = true := bne_iff_ne.mpr c9
    by_cases c11 : x3_1.length < 1954687338268
    ·
     rw [if_pos c11] at H
     have LMc11 := Aside0.mk c11
     clear c11
     obtain ⟨y452, hy452⟩ : ∃ y_ : List (S29), y_ = (x3_1 ++ [(⟨x452000_1, x452001_1, x452002_1, x452003_1, x452004_1⟩ : S29)]) := ⟨_, rfl⟩
     replace H : ((marginaliaref04_Next.f k1 a0 x5_1 0 (⟨#[]⟩ : ByteArray) false).bind fun bt455 => (marginaliaref04_All.l0 k1 a0 y452 bt455.2.2.2.2.2 bt455.1 bt455.2.1 bt455.2.2.1 bt455.2.2.2.1 bt455.2.2.2.2.1)) = some r := by first | (rw [hy452]; with_reducible exact H) | (have H2_ := (Option.bind_some _ _).symm.trans H; rw [hy452]; with_reducible exact H2_) | (have H2_ := (Option.bind_some _ _).symm.trans H; with_reducible exact H2_) | with_reducible exact H | (rw [hy452]; exact H) | exact H
     have Ny452 := Aside0.mk hy452
     clear hy452
     replace H := Option.bind_eq_some_iff.mp H
     obtain ⟨⟨t455, t456, t457, t460, t461, t462⟩, A120, H⟩ := H
     try dsimp only at H
     have A12 := Aside0.mk A120
     clear A120
     have hcz13_0 : wr.cell? ⟨gb451, 0, none⟩ = some (.int .i64 x452000_1) := (blk_cell BK451.out 0).trans rfl
     have hcz13_1 : wr.cell? ⟨gb451, 1, none⟩ = some (.string x452001_1) := (blk_cell BK451.out 1).trans rfl
     have hcz13_2 : wr.cell? ⟨gb451, 2, none⟩ = some (u452002) := (blk_cell BK451.out 2).trans rfl
     have hcz13_3 : wr.cell? ⟨gb451, 3, none⟩ = some (.bool x452003_1) := (blk_cell BK451.out 3).trans rfl
     have hcz13_4 : wr.cell? ⟨gb451, 4, none⟩ = some (.string x452004_1) := (blk_cell BK451.out 4).trans rfl
     have hfz13_0 := blk_frozen BK451.out 0
     have hfz13_1 := blk_frozen BK451.out 1
     have hfz13_2 := blk_frozen BK451.out 2
     have hfz13_3 := blk_frozen BK451.out 3
     have hfz13_4 := blk_frozen BK451.out 4
     obtain ⟨Ao15, co15, eo15⟩ := Kd.R_slice HO_452002.out
     subst eo15
     go_wp2_with (first | ((with_reducible refine gate_builtin (b := .append) (xs := #[.tmp 15, .tmp 17]) rfl ?_); at_builtin; refine Kd.S_append k29 (w0 := w) w.heap.size rfl (.tmp 15) (.tmp 17) 34 29 (.agg #[(.int .i64 0), (.string ⟨#[]⟩), (.slice none 0 0), (.bool false), (.string ⟨#[]⟩)]) 72 rfl Try.underlying34 info29 rfl (by decide) (by omega) u3 x3_1 (⟨x452000_1, x452001_1, x452002_1, x452003_1, x452004_1⟩ : S29) [.int .i64 x452000_1, .string x452001_1, .slice Ao15 x452002_1.length co15, .bool x452003_1, .string x452004_1] (fun k_ => k_ ≠ gb451) (fun k_ => some k_ = (.slice Ao15 x452002_1.length co15 : Value).ownBlock) rfl rfl ?aP (fun k_ hk_ => ((Kd.R_mono (ok' := fun k_ => ((fun k_ => k_ ≠ gb451)) k_ ∧ some k_ ≠ (u3 : Value).ownBlock) (Kd.R_types (Kd.R_apart' (HO_452002.out) (Kd.S_typed HO_3.out) (by decide)) BK451.out (by decide)) (fun k_ hk => ⟨hk.2, hk.1.2⟩))).1 k_ hk_.symm) ?aF ?aO ?aB ?aS ?aL ?_; (case aP => exact k29_mkM _ _ _ (⟨x452000_1, x452001_1, x452002_1, x452003_1, x452004_1⟩ : S29) (Kd.R_mono (Kd.R_tight rfl (Kd.R_mono (ok' := fun k_ => ((fun k_ => k_ ≠ gb451)) k_ ∧ some k_ ≠ (u3 : Value).ownBlock) (Kd.R_types (Kd.R_apart' (HO_452002.out) (Kd.S_typed HO_3.out) (by decide)) BK451.out (by decide)) (fun k_ hk => ⟨hk.2, hk.1.2⟩))) (fun _ h_ => h_))); (case aB => exact (by repeat (first | (with_reducible first | exact HB.out | apply below_alloc | apply pw_below_drewN | apply below_drew1 | refine below_set ?_ GE451.out) | exact HB.out))); (case aF => exact (fun k_ hk => Kd.freshB (g := gb451) (o := .cells #[.int .i64 x452000_1, .string x452001_1, .slice Ao15 x452002_1.length co15, .bool x452003_1, .string x452004_1] 29 (0, 0)) (by (with_reducible repeat (first | refine blk_drewN ?_ _ | refine blk_drew ?_ | refine blk_alloc ?_ _)); exact BK451.out) k_ hk)); (case aO => exact (by (with_reducible repeat (first | apply Kd.S_alloc | apply Kd.S_drewN | apply Kd.S_drew)); exact Kd.S_mono HO_3.out (fun k_ hk => ⟨hk.2, fun e_ => hk.1 e_⟩))); (case aS => exact (below_size (by repeat (first | (with_reducible first | exact HB.out | apply below_alloc | apply pw_below_drewN | apply below_drew1 | refine below_set ?_ GE451.out) | exact HB.out)))); (case aL => have := LMc11.out; omega); intro v453 w14 ho hb hg hat; rw [← Ny452.out] at ho; have n0_ := Aside0.mk (blk_grown (g := gb451) (o := .cells #[.int .i64 x452000_1, .string x452001_1, .slice Ao15 x452002_1.length co15, .bool x452003_1, .string x452004_1] 29 (0, 0)) (by (with_reducible repeat (first | refine blk_drewN ?_ _ | refine blk_drew ?_ | refine blk_alloc ?_ _)); exact BK451.out) hg (Kd.S_away HO_3.out (fun _ hk => hk.2))); have n1_ := Aside0.mk (hb); have n2_ := Aside0.mk (ho); clear BK451; clear HB; clear HO_3; clear HO_452002; have BK451 := n0_; have HB := n1_; have HO454 := n2_; clear n0_ n1_ n2_; clear ho hb hg hat))
     (with_reducible refine (marginaliaref04_Next.calls k1 a0 x5_1 0 (⟨#[]⟩ : ByteArray) false t455 t456 t457 t460 t461 t462 _ A12.out).mono ?_)
     rintro e w16 ⟨v458, rfl, ho0, hb⟩
     have n0_ := Aside0.mk (Kd.S_elder' (by (with_reducible repeat (first | apply Kd.S_alloc | apply Kd.S_drewN | apply Kd.S_drew)); exact HO454.out) (Kd.R_base ho0) hb)
     have n1_ := Aside0.mk (Kd.R_lower ho0 (below_size (by repeat (first | (with_reducible first | exact HB.out | apply below_alloc | apply pw_below_drewN | apply below_drew1 | refine below_set ?_ GE451.out) | exact HB.out))))
     have n2_ := Aside0.mk (blk_below (g := gb451) (o := .cells #[.int .i64 x452000_1, .string x452001_1, .slice Ao15 x452002_1.length co15, .bool x452003_1, .string x452004_1] 29 (0, 0)) (by (with_reducible repeat (first | refine blk_drewN ?_ _ | refine blk_drew ?_ | refine blk_alloc ?_ _)); exact BK451.out) hb)
     have n3_ := Aside0.mk (below_step (by repeat (first | (with_reducible first | exact HB.out | apply below_alloc | apply pw_below_drewN | apply below_drew1 | refine below_set ?_ GE451.out) | exact HB.out)) hb)
     clear HO454
     clear BK451
     clear HB
     have HO454 := n0_
     have HO459 := n1_
     have BK451 := n2_
     have HB := n3_
     clear n0_ n1_ n2_ n3_
     (try clear hb)
     (try clear hb2)
     (try clear hk)
     (try clear hi)
     (try clear ho0)
     have H' := Aside0.mk H
     clear H
     have hcz17_0 : w16.cell? ⟨gb451, 0, none⟩ = some (.int .i64 x452000_1) := (blk_cell BK451.out 0).trans rfl
     have hcz17_1 : w16.cell? ⟨gb451, 1, none⟩ = some (.string x452001_1) := (blk_cell BK451.out 1).trans rfl
     have hcz17_2 : w16.cell? ⟨gb451, 2, none⟩ = some (.slice Ao15 x452002_1.length co15) := (blk_cell BK451.out 2).trans rfl
     have hcz17_3 : w16.cell? ⟨gb451, 3, none⟩ = some (.bool x452003_1) := (blk_cell BK451.out 3).trans rfl
     have hcz17_4 : w16.cell? ⟨gb451, 4, none⟩ = some (.string x452004_1) := (blk_cell BK451.out 4).trans rfl
     have hfz17_0 := blk_frozen BK451.out 0
     have hfz17_1 := blk_frozen BK451.out 1
     have hfz17_2 := blk_frozen BK451.out 2
     have hfz17_3 := blk_frozen BK451.out 3
     have hfz17_4 := blk_frozen BK451.out 4
     obtain ⟨Ao18, co18, eo18⟩ := Kd.R_slice HO459.out
     subst eo18
     go_wp2
     go_roundg k1
     case measure => have := HK1.out; omega
     case rel => exact ⟨(y452), (t462), (t455), (t456), (t457), (t460), (t461), (.slice Ao18 t457.length co18), (by first | rfl | (simp; done) | (simp [*]; done)), H', ⟨by have := HK1.out; omega⟩, ⟨by (with_reducible repeat (first | apply Kd.S_alloc | apply Kd.S_drewN | apply Kd.S_drew)); exact Kd.S_mono (Kd.S_far (p := ⟨gb451, 4, none⟩) (Kd.S_far (p := ⟨gb451, 3, none⟩) (Kd.S_far (p := ⟨gb451, 2, none⟩) (Kd.S_far (p := ⟨gb451, 1, none⟩) (Kd.S_far (p := ⟨gb451, 0, none⟩) (Kd.S_mono HO454.out (fun k_ hk => (⟨hk, hk.1⟩ : _ ∧ k_ ≠ gb451))) (fun _ hk => hk.2) (.int .i64 t455)) (fun _ hk => hk.2) (.string t456)) (fun _ hk => hk.2) (.slice Ao18 t457.length co18)) (fun _ hk => hk.2) (.bool t460)) (fun _ hk => hk.2) (.string t461)) (fun _ hk => ⟨hk.1.2, hk.1.1⟩)⟩, ⟨by (with_reducible repeat (first | apply Kd.R_alloc | apply Kd.R_drewN | apply Kd.R_drew)); exact Kd.R_mono (Kd.R_far (p := ⟨gb451, 4, none⟩) (Kd.R_far (p := ⟨gb451, 3, none⟩) (Kd.R_far (p := ⟨gb451, 2, none⟩) (Kd.R_far (p := ⟨gb451, 1, none⟩) (Kd.R_far (p := ⟨gb451, 0, none⟩) (Kd.R_types HO459.out BK451.out (by decide)) (fun _ hk => hk.2) (.int .i64 t455)) (fun _ hk => hk.2) (.string t456)) (fun _ hk => hk.2) (.slice Ao18 t457.length co18)) (fun _ hk => hk.2) (.bool t460)) (fun _ hk => hk.2) (.string t461)) (fun _ hk => trivial)⟩, ⟨by (with_reducible repeat (first | refine blk_drewN ?_ _ | refine blk_drew ?_ | refine blk_alloc ?_ _)); refine blk_put (cs := #[.int .i64 t455, .string t456, .slice Ao18 t457.length co18, .bool t460, .string x452004_1]) ?_ 4 _ rfl; (with_reducible repeat (first | refine blk_drewN ?_ _ | refine blk_drew ?_ | refine blk_alloc ?_ _)); refine blk_put (cs := #[.int .i64 t455, .string t456, .slice Ao18 t457.length co18, .bool x452003_1, .string x452004_1]) ?_ 3 _ rfl; (with_reducible repeat (first | refine blk_drewN ?_ _ | refine blk_drew ?_ | refine blk_alloc ?_ _)); refine blk_put (cs := #[.int .i64 t455, .string t456, .slice Ao15 x452002_1.length co15, .bool x452003_1, .string x452004_1]) ?_ 2 _ rfl; (with_reducible repeat (first | refine blk_drewN ?_ _ | refine blk_drew ?_ | refine blk_alloc ?_ _)); refine blk_put (cs := #[.int .i64 t455, .string x452001_1, .slice Ao15 x452002_1.length co15, .bool x452003_1, .string x452004_1]) ?_ 1 _ rfl; (with_reducible repeat (first | refine blk_drewN ?_ _ | refine blk_drew ?_ | refine blk_alloc ?_ _)); refine blk_put (cs := #[.int .i64 x452000_1, .string x452001_1, .slice Ao15 x452002_1.length co15, .bool x452003_1, .string x452004_1]) ?_ 0 _ rfl; (with_reducible repeat (first | refine blk_drewN ?_ _ | refine blk_drew ?_ | refine blk_alloc ?_ _)); exact BK451.out⟩, ⟨by repeat (first | (with_reducible first | exact HB.out | apply below_alloc | apply pw_below_drewN | apply below_drew1 | refine below_set ?_ GE451.out) | exact HB.out)⟩⟩
    ·
     rw [if_neg c11] at H
     exact absurd H (by simp)
/-! ### marginalialaw04_TokenAll: function 4 -/
def marginalialaw04_TokenAll.l0 : Nat → List (S29) → List (S29) → Int → Option (Bool)
  | 0, _, _, _ => none
  | k + 1, x3, x4, x5 => if x5 < (x3.length : Int) then (if 0 ≤ x5 then (if x5 < (x4.length : Int) then ((marginaliaref04_Same.f k ((rd_T29 x3 x5).f0) ((rd_T29 x3 x5).f1) ((rd_T29 x3 x5).f2) ((rd_T29 x3 x5).f3) ((rd_T29 x3 x5).f4) ((rd_T29 x4 x5).f0) ((rd_T29 x4 x5).f1) ((rd_T29 x4 x5).f2) ((rd_T29 x4 x5).f3) ((rd_T29 x4 x5).f4)).bind fun t472 => (if t472 = true then (marginalialaw04_TokenAll.l0 k x3 x4 (wrap64 (x5 + 1))) else (some false))) else (none)) else (none)) else ((marginalialaw04_alive.f k).bind fun t473 => (some t473))
def marginalialaw04_TokenAll.f (k : Nat) (a0 : ByteArray) : Option (Bool) := if (a0.size : Int) > 200 then ((marginalialaw04_alive.f k).bind fun t463 => (some t463)) else ((token_All.f k a0).bind fun t464 => ((marginaliaref04_All.f k a0).bind fun t467 => (if (t464.length : Int) = (t467.length : Int) then (marginalialaw04_TokenAll.l0 k t464 t467 0) else (some false))))
def marginalialaw04_TokenAll.T10 : Bool × List (List Nat × List Nat) := (true, [([], []), ([], []), ([0, 1], [0, 1]), ([2], [2]), ([], []), ([], []), ([4, 5], [4, 5]), ([6], [6]), ([3, 7], [3, 7]), ([8], [8])])
def marginalialaw04_TokenAll.B10 : List Nat := [0, 0, 3, 7, 0, 0, 48, 112, 255, 511]
theorem marginalialaw04_TokenAll.tab10 : rtab .any (opsOf Try.f4 10) = marginalialaw04_TokenAll.T10 := by kernel_rfl
theorem marginalialaw04_TokenAll.bits10 : waitsOk marginalialaw04_TokenAll.T10.2 marginalialaw04_TokenAll.B10 = true := by kernel_rfl
set_option maxHeartbeats 8000000 in
set_option maxRecDepth 100000 in
theorem marginalialaw04_TokenAll.calls (k : Nat) (a0 : ByteArray) (r : Bool) (w : World) (hm : HM w) (h : marginalialaw04_TokenAll.f k a0 = some r) :
    Calls Try.prog 4 #[.string a0] w fun e w' => e = .returned (.bool r) ∧ Below w.heap.size w w' := by
 have HM0 := Aside0.mk hm
 clear hm
 have hu29 := Try.underlying29
 have HB := Aside0.mk (Below.refl w.heap.size w)
 have H : (if (a0.size : Int) > 200 then ((marginalialaw04_alive.f k).bind fun t463 => (some t463)) else ((token_All.f k a0).bind fun t464 => ((marginaliaref04_All.f k a0).bind fun t467 => (if (t464.length : Int) = (t467.length : Int) then (marginalialaw04_TokenAll.l0 k t464 t467 0) else (some false))))) = some r := h
 clear h
 by_cases c2 : (a0.size : Int) > 200
 ·
  rw [if_pos c2] at H
  have c2b0 : decide (200 < (a0.size : Int)) = true := decide_eq_true c2
  have c2b1 : decide (200 < a0.size) = true := decide_eq_true (by omega)
  clear c2
  replace H := Option.bind_eq_some_iff.mp H
  obtain ⟨t463, A30, H⟩ := H
  try dsimp only at H
  have A3 := Aside0.mk A30
  clear A30
  go_enter Try.func4, Try.ntmps4
  go_wp2_with fail
  (with_reducible refine (marginalialaw04_alive.calls k t463 _ ?side1 A3.out).mono ?_)
  (case side1 => exact HM.at_ HM0.out (by repeat (first | (with_reducible first | exact HB.out | apply below_alloc | apply pw_below_drewN | apply below_drew1) | exact HB.out)))
  rintro e w4 ⟨rfl, hb⟩
  have n0_ := Aside0.mk (below_step (by repeat (first | (with_reducible first | exact HB.out | apply below_alloc | apply pw_below_drewN | apply below_drew1) | exact HB.out)) hb)
  clear HB
  have HB := n0_
  clear n0_
  (try clear hb)
  (try clear hb2)
  (try clear hk)
  (try clear hi)
  obtain rfl := Option.some.inj H
  go_wp2
  go_ret
  exact ⟨by first | rfl | (simp [errW_none, errW_some] <;> rfl) | (simp [*, errW_none, errW_some] <;> rfl), by repeat (first | (with_reducible first | exact HB.out | apply below_alloc | apply pw_below_drewN | apply below_drew1) | exact HB.out)⟩
 ·
  rw [if_neg c2] at H
  have c2b0 : decide (200 < (a0.size : Int)) = false := decide_eq_false c2
  have c2b1 : decide (200 < a0.size) = false := decide_eq_false (by omega)
  clear c2
  replace H := Option.bind_eq_some_iff.mp H
  obtain ⟨t464, A50, H⟩ := H
  try dsimp only at H
  have A5 := Aside0.mk A50
  clear A50
  go_enter Try.func4, Try.ntmps4
  go_wp2_with fail
  (with_reducible refine (token_All.calls k a0 t464 _ ?side1 A5.out).mono ?_)
  (case side1 => exact HM.at_ HM0.out (by repeat (first | (with_reducible first | exact HB.out | apply below_alloc | apply pw_below_drewN | apply below_drew1) | exact HB.out)))
  rintro e w8 ⟨v465, rfl, ho0, hb⟩
  have n0_ := Aside0.mk (Kd.S_lower ho0 (below_size (by repeat (first | (with_reducible first | exact HB.out | apply below_alloc | apply pw_below_drewN | apply below_drew1) | exact HB.out))))
  have n1_ := Aside0.mk (below_step (by repeat (first | (with_reducible first | exact HB.out | apply below_alloc | apply pw_below_drewN | apply below_drew1) | exact HB.out)) hb)
  clear HB
  have HO466 := n0_
  have HB := n1_
  clear n0_ n1_
  (try clear hb)
  (try clear hb2)
  (try clear hk)
  (try clear hi)
  (try clear ho0)
  replace H := Option.bind_eq_some_iff.mp H
  obtain ⟨t467, A60, H⟩ := H
  try dsimp only at H
  have A6 := Aside0.mk A60
  clear A60
  go_wp2_with fail
  (with_reducible refine (marginaliaref04_All.calls k a0 t467 _ A6.out).mono ?_)
  rintro e w9 ⟨v468, rfl, ho0, hb⟩
  have n0_ := Aside0.mk (Kd.S_elder' (by (with_reducible repeat (first | apply Kd.S_alloc | apply Kd.S_drewN | apply Kd.S_drew)); exact HO466.out) (Kd.S_base ho0) hb)
  have n1_ := Aside0.mk (Kd.S_lower (Kd.S_new' ho0 (Kd.S_lt (by (with_reducible repeat (first | apply Kd.S_alloc | apply Kd.S_drewN | apply Kd.S_drew)); exact HO466.out))) (below_size (by repeat (first | (with_reducible first | exact HB.out | apply below_alloc | apply pw_below_drewN | apply below_drew1) | exact HB.out))))
  have n2_ := Aside0.mk (below_step (by repeat (first | (with_reducible first | exact HB.out | apply below_alloc | apply pw_below_drewN | apply below_drew1) | exact HB.out)) hb)
  clear HO466
  clear HB
  have HO466 := n0_
  have HO469 := n1_
  have HB := n2_
  clear n0_ n1_ n2_
  (try clear hb)
  (try clear hb2)
  (try clear hk)
  (try clear hi)
  (try clear ho0)
  by_cases c7 : (t464.length : Int) = (t467.length : Int)
  ·
   rw [if_pos c7] at H
   have c7b0 : ((t464.length : Int) == (t467.length : Int)) = true := beq_iff_eq.mpr c7
   have c7b1 : ((t464.length : Int) != (t467.length : Int)) = false := bne_eq_false_iff_eq.mpr c7
   have c7b2 : (t464.length == t467.length) = true := by first | simpa using c7 | (simp at c7 ⊢; omega)
   clear c7
   have H' := Aside0.mk H
   clear H
   obtain ⟨Ao10, co10, eo10⟩ := Kd.S_slice HO466.out
   subst eo10
   obtain ⟨Ao11, co11, eo11⟩ := Kd.S_slice HO469.out
   subst eo11
   go_wp2
   go_loopg [5] k (fun kq v5 w' => ∃ (x5_1 : Int), v5 = .int .i64 x5_1 ∧ Aside0 (marginalialaw04_TokenAll.l0 kq t464 t467 x5_1 = some r) ∧ Aside0 (kq ≤ k) ∧ Aside0 (Kd.S k29 29 w' w.heap.size (fun k_ => some k_ ≠ ((.slice Ao11 t467.length co11) : Value).ownBlock) (.slice Ao10 t464.length co10) t464) ∧ Aside0 (Kd.S k29 29 w' w.heap.size (fun k_ => some k_ ≠ ((.slice Ao10 t464.length co10) : Value).ownBlock) (.slice Ao11 t467.length co11) t467) ∧ Aside0 (Below w.heap.size w w'))
   case atStart => exact ⟨(0), (by first | rfl | (simp; done) | (simp [*]; done)), H', ⟨Nat.le_refl _⟩, ⟨by (with_reducible repeat (first | apply Kd.S_alloc | apply Kd.S_drewN | apply Kd.S_drew)); exact Kd.S_mono HO466.out (fun _ hk => hk.2)⟩, ⟨by (with_reducible repeat (first | apply Kd.S_alloc | apply Kd.S_drewN | apply Kd.S_drew)); exact Kd.S_mono HO469.out (fun _ hk => hk.2)⟩, ⟨by repeat (first | (with_reducible first | exact HB.out | apply below_alloc | apply pw_below_drewN | apply below_drew1) | exact HB.out)⟩⟩
   case round =>
    clear H'
    try clear c1
    try clear c2
    try clear c2b0
    try clear c2b1
    try clear p2
    try clear c4
    try clear c7
    try clear c7b0
    try clear c7b1
    try clear c7b2
    try clear c10
    obtain ⟨x5_1, rfl, HA, HK1, HO_3, HO_4, HB⟩ := hrel
    cases gk with
    | zero => exact absurd HA.out (by simp [marginalialaw04_TokenAll.l0])
    | succ k1 =>
     have H := HA.out
     clear HA
     simp only [marginalialaw04_TokenAll.l0] at H
     by_cases c12 : x5_1 < (t464.length : Int)
     ·
      rw [if_pos c12] at H
      have c12b0 : decide (x5_1 < (t464.length : Int)) = true := decide_eq_true c12
      clear c12
      by_cases c13 : 0 ≤ x5_1
      ·
       rw [if_pos c13] at H
       have c13b0 : decide (0 ≤ x5_1) = true := decide_eq_true c13
       clear c13
       by_cases c14 : x5_1 < (t467.length : Int)
       ·
        rw [if_pos c14] at H
        have c14b0 : decide (x5_1 < (t467.length : Int)) = true := decide_eq_true c14
        clear c14
        replace H := Option.bind_eq_some_iff.mp H
        obtain ⟨t472, A150, H⟩ := H
        try dsimp only at H
        have A15 := Aside0.mk A150
        clear A150
        by_cases c16 : t472 = true
        ·
         subst c16
         replace H := (if_pos rfl).symm.trans H
         have H' := Aside0.mk H
         clear H
         try go_wp2
         have n0_ := Aside0.mk (Kd.S_drew HO_3.out)
         have n1_ := Aside0.mk (Kd.S_drew HO_4.out)
         have n2_ := Aside0.mk (below_drew1 HB.out)
         clear HO_3
         clear HO_4
         clear HB
         have HO_3 := n0_
         have HO_4 := n1_
         have HB := n2_
         clear n0_ n1_ n2_
         have p470 : 0 ≤ (x5_1 : Int) := of_decide_eq_true (by first | (with_reducible assumption) | assumption)
         have q470 : x5_1 < (t464.length : Int) := of_decide_eq_true (by first | (with_reducible assumption) | assumption)
         obtain ⟨ad470, A470_2, c470_2, e470, hx470_0, hx470_1, hx470_2, hx470_3, hx470_4, hl470_2, hi470_2⟩ := at_T29 (Kd.S_reads' HO_3.out).2.2 x5_1 p470 q470
         cases e470
         obtain ⟨ce470, hce470, hMe470, hcc470⟩ := Kd.S_get HO_3.out z29 x5_1 p470 (by first | exact q470 | exact of_decide_eq_true (by first | (with_reducible assumption) | assumption) | (have e_ := (Kd.S_reads' HO_3.out).1; omega))
         obtain ⟨ve470_2, rfl, ge470_2⟩ := k29_openM hMe470
         have hv470_2 := hcc470 2 _ rfl
         rw [add_field _ _ 2 (by omega)] at hv470_2
         replace hv470_2 := Option.some.inj (hv470_2.symm.trans hx470_2)
         rw [hv470_2] at ge470_2
         have HL470_2 := Aside0.mk (show Kd.R k41 41 _ _ _ _ ((rd_T29 t464 x5_1).f2) from ge470_2)
         clear hv470_2 ge470_2
         clear hcc470 hce470
         have HR470_2 := Aside0.mk hi470_2
         have HC470_2 := Aside0.mk hl470_2
         clear hi470_2 hl470_2
         replace p470 := eq_true p470
         replace q470 := eq_true q470
         have p471 : 0 ≤ (x5_1 : Int) := of_decide_eq_true (by first | (with_reducible assumption) | assumption)
         have q471 : x5_1 < (t467.length : Int) := of_decide_eq_true (by first | (with_reducible assumption) | assumption)
         obtain ⟨ad471, A471_2, c471_2, e471, hx471_0, hx471_1, hx471_2, hx471_3, hx471_4, hl471_2, hi471_2⟩ := at_T29 (Kd.S_reads' HO_4.out).2.2 x5_1 p471 q471
         cases e471
         obtain ⟨ce471, hce471, hMe471, hcc471⟩ := Kd.S_get HO_4.out z29 x5_1 p471 (by first | exact q471 | exact of_decide_eq_true (by first | (with_reducible assumption) | assumption) | (have e_ := (Kd.S_reads' HO_4.out).1; omega))
         obtain ⟨ve471_2, rfl, ge471_2⟩ := k29_openM hMe471
         have hv471_2 := hcc471 2 _ rfl
         rw [add_field _ _ 2 (by omega)] at hv471_2
         replace hv471_2 := Option.some.inj (hv471_2.symm.trans hx471_2)
         rw [hv471_2] at ge471_2
         have HL471_2 := Aside0.mk (show Kd.R k41 41 _ _ _ _ ((rd_T29 t467 x5_1).f2) from ge471_2)
         clear hv471_2 ge471_2
         clear hcc471 hce471
         have HR471_2 := Aside0.mk hi471_2
         have HC471_2 := Aside0.mk hl471_2
         clear hi471_2 hl471_2
         replace p471 := eq_true p471
         replace q471 := eq_true q471
         refine start_ (n := 10) (S := fun w' => w'.cell? (ad470.add ((x5_1).toNat * 5)) = some (.int .i64 ((rd_T29 t464 x5_1).f0)) ∧ w'.cell? ⟨(ad470.add ((x5_1).toNat * 5)).block, (ad470.add ((x5_1).toNat * 5)).off + 1, none⟩ = some (.string ((rd_T29 t464 x5_1).f1)) ∧ w'.cell? ⟨(ad470.add ((x5_1).toNat * 5)).block, (ad470.add ((x5_1).toNat * 5)).off + 2, none⟩ = some (.slice A470_2 ((rd_T29 t464 x5_1).f2).length c470_2) ∧ w'.cell? ⟨(ad470.add ((x5_1).toNat * 5)).block, (ad470.add ((x5_1).toNat * 5)).off + 3, none⟩ = some (.bool ((rd_T29 t464 x5_1).f3)) ∧ w'.cell? ⟨(ad470.add ((x5_1).toNat * 5)).block, (ad470.add ((x5_1).toNat * 5)).off + 4, none⟩ = some (.string ((rd_T29 t464 x5_1).f4)) ∧ w'.cell? (ad471.add ((x5_1).toNat * 5)) = some (.int .i64 ((rd_T29 t467 x5_1).f0)) ∧ w'.cell? ⟨(ad471.add ((x5_1).toNat * 5)).block, (ad471.add ((x5_1).toNat * 5)).off + 1, none⟩ = some (.string ((rd_T29 t467 x5_1).f1)) ∧ w'.cell? ⟨(ad471.add ((x5_1).toNat * 5)).block, (ad471.add ((x5_1).toNat * 5)).off + 2, none⟩ = some (.slice A471_2 ((rd_T29 t467 x5_1).f2).length c471_2) ∧ w'.cell? ⟨(ad471.add ((x5_1).toNat * 5)).block, (ad471.add ((x5_1).toNat * 5)).off + 3, none⟩ = some (.bool ((rd_T29 t467 x5_1).f3)) ∧ w'.cell? ⟨(ad471.add ((x5_1).toNat * 5)).block, (ad471.add ((x5_1).toNat * 5)).off + 4, none⟩ = some (.string ((rd_T29 t467 x5_1).f4))) (ds := []) #[false, false, false, false, false, false, false, false, false, false] (by kernel_rfl) rfl rfl ⟨hx470_0, hx470_1, hx470_2, hx470_3, hx470_4, hx471_0, hx471_1, hx471_2, hx471_3, hx471_4⟩ (fun hHeld => ?_); refine with_tabW marginalialaw04_TokenAll.tab10 marginalialaw04_TokenAll.bits10 (fun HT_ HW_ => ?_)
         generalize wr.drew = w17 at HO_3 HO_4 HB HL470_2 HL471_2 HR470_2 HR471_2 hx470_0 hx470_1 hx470_2 hx470_3 hx470_4 hx471_0 hx471_1 hx471_2 hx471_3 hx471_4 hHeld ⊢
         refine pure_ (i := 0) (N := some 25) (v := ?_) (a' := ?_) #[true, false, false, false, false, false, false, false, false, false] rfl rfl (any_of HT_.out (by kernel_rfl)) (fun _ _ _ h => h) (Or.inl ⟨by rfl, ?_⟩) ?_ ?_
         rotate_left
         ·
          intro w'
          go_simp
          with_reducible rfl
         rotate_left
         ·
          simp only [Act.put, List.setIfInBounds_toArray, List.set_cons_zero, List.set_cons_succ, i64_w, i32_w]
          rfl
         refine pure_ (i := 1) (N := some 26) (v := ?_) (a' := ?_) #[true, true, false, false, false, false, false, false, false, false] rfl rfl (any_of HT_.out (by kernel_rfl)) (fun _ _ _ h => h) (Or.inl ⟨by rfl, ?_⟩) ?_ ?_
         rotate_left
         ·
          intro w'
          go_simp
          with_reducible rfl
         rotate_left
         ·
          simp only [Act.put, List.setIfInBounds_toArray, List.set_cons_zero, List.set_cons_succ, i64_w, i32_w]
          rfl
         refine pure_ (i := 2) (N := some 27) (v := ?_) (a' := ?_) #[true, true, true, false, false, false, false, false, false, false] rfl rfl (any_of HT_.out (by kernel_rfl)) (fun _ _ _ h => h) (Or.inl ⟨by rfl, ?_⟩) ?_ ?_
         rotate_left
         ·
          intro w'
          go_simp
          with_reducible rfl
         rotate_left
         ·
          simp only [Act.put, List.setIfInBounds_toArray, List.set_cons_zero, List.set_cons_succ, i64_w, i32_w]
          rfl
         refine pure_ (i := 4) (N := some 29) (v := ?_) (a' := ?_) #[true, true, true, false, true, false, false, false, false, false] rfl rfl (any_of HT_.out (by kernel_rfl)) (fun _ _ _ h => h) (Or.inl ⟨by rfl, ?_⟩) ?_ ?_
         rotate_left
         ·
          intro w'
          go_simp
          with_reducible rfl
         rotate_left
         ·
          simp only [Act.put, List.setIfInBounds_toArray, List.set_cons_zero, List.set_cons_succ, i64_w, i32_w]
          rfl
         refine pure_ (i := 5) (N := some 30) (v := ?_) (a' := ?_) #[true, true, true, false, true, true, false, false, false, false] rfl rfl (any_of HT_.out (by kernel_rfl)) (fun _ _ _ h => h) (Or.inl ⟨by rfl, ?_⟩) ?_ ?_
         rotate_left
         ·
          intro w'
          go_simp
          with_reducible rfl
         rotate_left
         ·
          simp only [Act.put, List.setIfInBounds_toArray, List.set_cons_zero, List.set_cons_succ, i64_w, i32_w]
          rfl
         refine pure_ (i := 6) (N := some 31) (v := ?_) (a' := ?_) #[true, true, true, false, true, true, true, false, false, false] rfl rfl (any_of HT_.out (by kernel_rfl)) (fun _ _ _ h => h) (Or.inl ⟨by rfl, ?_⟩) ?_ ?_
         rotate_left
         ·
          intro w'
          go_simp
          with_reducible rfl
         rotate_left
         ·
          simp only [Act.put, List.setIfInBounds_toArray, List.set_cons_zero, List.set_cons_succ, i64_w, i32_w]
          rfl
         refine take_ (i := 3) (N := some 28) (v := ?_) (a' := ?_) #[true, true, true, true, true, true, true, false, false, false] rfl rfl (take_ofW HT_.out HW_.out (by kernel_rfl)) (fun _ _ _ h => h) (Or.inl ⟨by rfl, ?_⟩) hHeld ?_ ?_
         rotate_left
         ·
          rintro w' ⟨s0, s1, s2, s3, s4, s5, s6, s7, s8, s9⟩
          go_simp
          with_reducible rfl
         rotate_left
         ·
          simp only [Act.put, List.setIfInBounds_toArray, List.set_cons_zero, List.set_cons_succ, i64_w, i32_w]
          rfl
         refine take_ (i := 7) (N := some 32) (v := ?_) (a' := ?_) #[true, true, true, true, true, true, true, true, false, false] rfl rfl (take_ofW HT_.out HW_.out (by kernel_rfl)) (fun _ _ _ h => h) (Or.inl ⟨by rfl, ?_⟩) hHeld ?_ ?_
         rotate_left
         ·
          rintro w' ⟨s0, s1, s2, s3, s4, s5, s6, s7, s8, s9⟩
          go_simp
          with_reducible rfl
         rotate_left
         ·
          simp only [Act.put, List.setIfInBounds_toArray, List.set_cons_zero, List.set_cons_succ, i64_w, i32_w]
          rfl
         refine one_ (i := 8) (N := some 33) #[true, true, true, true, true, true, true, true, true, false] rfl rfl (one_of HT_.out (by kernel_rfl)) (by decide) (fun K hK => ?_)
         refine goes_ Try.func13 (by kernel_rfl) rfl #[.agg #[.int .i64 ((rd_T29 t464 x5_1).f0), .string ((rd_T29 t464 x5_1).f1), .slice A470_2 ((rd_T29 t464 x5_1).f2).length c470_2, .bool ((rd_T29 t464 x5_1).f3), .string ((rd_T29 t464 x5_1).f4)], .agg #[.int .i64 ((rd_T29 t467 x5_1).f0), .string ((rd_T29 t467 x5_1).f1), .slice A471_2 ((rd_T29 t467 x5_1).f2).length c471_2, .bool ((rd_T29 t467 x5_1).f3), .string ((rd_T29 t467 x5_1).f4)]] (by rfl) rfl rfl (by (try simp only [List.map_toArray, List.map_cons, List.map_nil]); first | done | rfl | (simp only [List.length_drop, List.length_take]; rfl)) ?_
         with_reducible refine (marginaliaref04_Same.calls k1 ((rd_T29 t464 x5_1).f0) ((rd_T29 t464 x5_1).f1) _ _ ((rd_T29 t464 x5_1).f2) ((rd_T29 t464 x5_1).f3) ((rd_T29 t464 x5_1).f4) ((rd_T29 t467 x5_1).f0) ((rd_T29 t467 x5_1).f1) _ _ ((rd_T29 t467 x5_1).f2) ((rd_T29 t467 x5_1).f3) ((rd_T29 t467 x5_1).f4) true _ ?side1 ?side2 ?side3 ?side4 A15.out).mono ?_
         (case side1 => repeat (first | exact (by repeat (first | (with_reducible exact HR470_2.out) | (with_reducible refine Kd.C_alloc ?_ _) | (with_reducible refine Kd.C_drewN ?_ _) | (with_reducible refine Kd.C_drew ?_) | exact HR470_2.out)) | (with_reducible refine Kd.C_alloc ?_ _) | (with_reducible refine Kd.C_drewN ?_ _) | (with_reducible refine Kd.C_drew ?_)))
         (case side2 => exact HC470_2.out)
         (case side3 => repeat (first | exact (by repeat (first | (with_reducible exact HR471_2.out) | (with_reducible refine Kd.C_alloc ?_ _) | (with_reducible refine Kd.C_drewN ?_ _) | (with_reducible refine Kd.C_drew ?_) | exact HR471_2.out)) | (with_reducible refine Kd.C_alloc ?_ _) | (with_reducible refine Kd.C_drewN ?_ _) | (with_reducible refine Kd.C_drew ?_)))
         (case side4 => exact HC471_2.out)
         rintro e w18 ⟨rfl, hb⟩
         have HS0_ := (hb.cell (World.block_lt_of_cell? _ _ (hHeld.1))).trans (hHeld.1)
         have HS1_ := (hb.cell (World.block_lt_of_cell? _ _ (hHeld.2.1))).trans (hHeld.2.1)
         have HS2_ := (hb.cell (World.block_lt_of_cell? _ _ (hHeld.2.2.1))).trans (hHeld.2.2.1)
         have HS3_ := (hb.cell (World.block_lt_of_cell? _ _ (hHeld.2.2.2.1))).trans (hHeld.2.2.2.1)
         have HS4_ := (hb.cell (World.block_lt_of_cell? _ _ (hHeld.2.2.2.2.1))).trans (hHeld.2.2.2.2.1)
         have HS5_ := (hb.cell (World.block_lt_of_cell? _ _ (hHeld.2.2.2.2.2.1))).trans (hHeld.2.2.2.2.2.1)
         have HS6_ := (hb.cell (World.block_lt_of_cell? _ _ (hHeld.2.2.2.2.2.2.1))).trans (hHeld.2.2.2.2.2.2.1)
         have HS7_ := (hb.cell (World.block_lt_of_cell? _ _ (hHeld.2.2.2.2.2.2.2.1))).trans (hHeld.2.2.2.2.2.2.2.1)
         have HS8_ := (hb.cell (World.block_lt_of_cell? _ _ (hHeld.2.2.2.2.2.2.2.2.1))).trans (hHeld.2.2.2.2.2.2.2.2.1)
         have HS9_ := (hb.cell (World.block_lt_of_cell? _ _ (hHeld.2.2.2.2.2.2.2.2.2))).trans (hHeld.2.2.2.2.2.2.2.2.2)
         refine ⟨_, rfl, ?_⟩
         have n0_ := Aside0.mk (Kd.S_below (by (with_reducible repeat (first | apply Kd.S_alloc | apply Kd.S_drewN | apply Kd.S_drew)); exact HO_3.out) hb)
         have n1_ := Aside0.mk (Kd.S_below (by (with_reducible repeat (first | apply Kd.S_alloc | apply Kd.S_drewN | apply Kd.S_drew)); exact HO_4.out) hb)
         have n2_ := Aside0.mk (Kd.R_below (by (with_reducible repeat (first | apply Kd.R_alloc | apply Kd.R_drewN | apply Kd.R_drew)); exact HL470_2.out) hb)
         have n3_ := Aside0.mk (Kd.R_below (by (with_reducible repeat (first | apply Kd.R_alloc | apply Kd.R_drewN | apply Kd.R_drew)); exact HL471_2.out) hb)
         have n4_ := Aside0.mk (Kd.C_below (by repeat (first | (with_reducible exact HR470_2.out) | (with_reducible refine Kd.C_alloc ?_ _) | (with_reducible refine Kd.C_drewN ?_ _) | (with_reducible refine Kd.C_drew ?_) | exact HR470_2.out)) hb)
         have n5_ := Aside0.mk (Kd.C_below (by repeat (first | (with_reducible exact HR471_2.out) | (with_reducible refine Kd.C_alloc ?_ _) | (with_reducible refine Kd.C_drewN ?_ _) | (with_reducible refine Kd.C_drew ?_) | exact HR471_2.out)) hb)
         have n6_ := Aside0.mk (below_step (by repeat (first | (with_reducible first | exact HB.out | apply below_alloc | apply pw_below_drewN | apply below_drew1) | exact HB.out)) hb)
         clear HO_3
         clear HO_4
         clear HL470_2
         clear HL471_2
         clear HR470_2
         clear HR471_2
         clear HB
         have HO_3 := n0_
         have HO_4 := n1_
         have HL470_2 := n2_
         have HL471_2 := n3_
         have HR470_2 := n4_
         have HR471_2 := n5_
         have HB := n6_
         clear n0_ n1_ n2_ n3_ n4_ n5_ n6_
         (try clear hb)
         (try clear hb2)
         (try clear hk)
         (try clear hi)
         refine hK.out _ _ ⟨HS0_, HS1_, HS2_, HS3_, HS4_, HS5_, HS6_, HS7_, HS8_, HS9_⟩ (fun hHeld => ?_)
         clear hK K
         refine norm_ (a' := ?_) ?_ ?_
         rotate_left
         ·
          show Act.put _ (some 33) _ = _
          simp only [Act.put, List.setIfInBounds_toArray, List.set_cons_zero, List.set_cons_succ, i64_w, i32_w]
          rfl
         refine pure_ (i := 9) (N := some 34) (v := ?_) (a' := ?_) #[true, true, true, true, true, true, true, true, true, true] rfl rfl (any_of HT_.out (by kernel_rfl)) (fun _ _ _ h => h) (Or.inl ⟨by rfl, ?_⟩) ?_ ?_
         rotate_left
         ·
          intro w'
          go_simp
          with_reducible rfl
         rotate_left
         ·
          simp only [Act.put, List.setIfInBounds_toArray, List.set_cons_zero, List.set_cons_succ, i64_w, i32_w]
          rfl
         refine done_ (done_of HT_.out (by kernel_rfl)) ?_
         try go_wp2
         go_roundg k1
         case measure => have := HK1.out; omega
         case rel => exact ⟨(wrap64 (x5_1 + 1)), (by first | rfl | (simp; done) | (simp [*]; done)), H', ⟨by have := HK1.out; omega⟩, ⟨by (with_reducible repeat (first | apply Kd.S_alloc | apply Kd.S_drewN | apply Kd.S_drew)); exact HO_3.out⟩, ⟨by (with_reducible repeat (first | apply Kd.S_alloc | apply Kd.S_drewN | apply Kd.S_drew)); exact HO_4.out⟩, ⟨by repeat (first | (with_reducible first | exact HB.out | apply below_alloc | apply pw_below_drewN | apply below_drew1) | exact HB.out)⟩⟩
        ·
         replace c16 := Bool.eq_false_iff.mpr c16
         subst c16
         replace H := (if_neg Bool.false_ne_true).symm.trans H
         obtain rfl := Option.some.inj H
         try go_wp2
         have n0_ := Aside0.mk (Kd.S_drew HO_3.out)
         have n1_ := Aside0.mk (Kd.S_drew HO_4.out)
         have n2_ := Aside0.mk (below_drew1 HB.out)
         clear HO_3
         clear HO_4
         clear HB
         have HO_3 := n0_
         have HO_4 := n1_
         have HB := n2_
         clear n0_ n1_ n2_
         have p470 : 0 ≤ (x5_1 : Int) := of_decide_eq_true (by first | (with_reducible assumption) | assumption)
         have q470 : x5_1 < (t464.length : Int) := of_decide_eq_true (by first | (with_reducible assumption) | assumption)
         obtain ⟨ad470, A470_2, c470_2, e470, hx470_0, hx470_1, hx470_2, hx470_3, hx470_4, hl470_2, hi470_2⟩ := at_T29 (Kd.S_reads' HO_3.out).2.2 x5_1 p470 q470
         cases e470
         obtain ⟨ce470, hce470, hMe470, hcc470⟩ := Kd.S_get HO_3.out z29 x5_1 p470 (by first | exact q470 | exact of_decide_eq_true (by first | (with_reducible assumption) | assumption) | (have e_ := (Kd.S_reads' HO_3.out).1; omega))
         obtain ⟨ve470_2, rfl, ge470_2⟩ := k29_openM hMe470
         have hv470_2 := hcc470 2 _ rfl
         rw [add_field _ _ 2 (by omega)] at hv470_2
         replace hv470_2 := Option.some.inj (hv470_2.symm.trans hx470_2)
         rw [hv470_2] at ge470_2
         have HL470_2 := Aside0.mk (show Kd.R k41 41 _ _ _ _ ((rd_T29 t464 x5_1).f2) from ge470_2)
         clear hv470_2 ge470_2
         clear hcc470 hce470
         have HR470_2 := Aside0.mk hi470_2
         have HC470_2 := Aside0.mk hl470_2
         clear hi470_2 hl470_2
         replace p470 := eq_true p470
         replace q470 := eq_true q470
         have p471 : 0 ≤ (x5_1 : Int) := of_decide_eq_true (by first | (with_reducible assumption) | assumption)
         have q471 : x5_1 < (t467.length : Int) := of_decide_eq_true (by first | (with_reducible assumption) | assumption)
         obtain ⟨ad471, A471_2, c471_2, e471, hx471_0, hx471_1, hx471_2, hx471_3, hx471_4, hl471_2, hi471_2⟩ := at_T29 (Kd.S_reads' HO_4.out).2.2 x5_1 p471 q471
         cases e471
         obtain ⟨ce471, hce471, hMe471, hcc471⟩ := Kd.S_get HO_4.out z29 x5_1 p471 (by first | exact q471 | exact of_decide_eq_true (by first | (with_reducible assumption) | assumption) | (have e_ := (Kd.S_reads' HO_4.out).1; omega))
         obtain ⟨ve471_2, rfl, ge471_2⟩ := k29_openM hMe471
         have hv471_2 := hcc471 2 _ rfl
         rw [add_field _ _ 2 (by omega)] at hv471_2
         replace hv471_2 := Option.some.inj (hv471_2.symm.trans hx471_2)
         rw [hv471_2] at ge471_2
         have HL471_2 := Aside0.mk (show Kd.R k41 41 _ _ _ _ ((rd_T29 t467 x5_1).f2) from ge471_2)
         clear hv471_2 ge471_2
         clear hcc471 hce471
         have HR471_2 := Aside0.mk hi471_2
         have HC471_2 := Aside0.mk hl471_2
         clear hi471_2 hl471_2
         replace p471 := eq_true p471
         replace q471 := eq_true q471
         refine start_ (n := 10) (S := fun w' => w'.cell? (ad470.add ((x5_1).toNat * 5)) = some (.int .i64 ((rd_T29 t464 x5_1).f0)) ∧ w'.cell? ⟨(ad470.add ((x5_1).toNat * 5)).block, (ad470.add ((x5_1).toNat * 5)).off + 1, none⟩ = some (.string ((rd_T29 t464 x5_1).f1)) ∧ w'.cell? ⟨(ad470.add ((x5_1).toNat * 5)).block, (ad470.add ((x5_1).toNat * 5)).off + 2, none⟩ = some (.slice A470_2 ((rd_T29 t464 x5_1).f2).length c470_2) ∧ w'.cell? ⟨(ad470.add ((x5_1).toNat * 5)).block, (ad470.add ((x5_1).toNat * 5)).off + 3, none⟩ = some (.bool ((rd_T29 t464 x5_1).f3)) ∧ w'.cell? ⟨(ad470.add ((x5_1).toNat * 5)).block, (ad470.add ((x5_1).toNat * 5)).off + 4, none⟩ = some (.string ((rd_T29 t464 x5_1).f4)) ∧ w'.cell? (ad471.add ((x5_1).toNat * 5)) = some (.int .i64 ((rd_T29 t467 x5_1).f0)) ∧ w'.cell? ⟨(ad471.add ((x5_1).toNat * 5)).block, (ad471.add ((x5_1).toNat * 5)).off + 1, none⟩ = some (.string ((rd_T29 t467 x5_1).f1)) ∧ w'.cell? ⟨(ad471.add ((x5_1).toNat * 5)).block, (ad471.add ((x5_1).toNat * 5)).off + 2, none⟩ = some (.slice A471_2 ((rd_T29 t467 x5_1).f2).length c471_2) ∧ w'.cell? ⟨(ad471.add ((x5_1).toNat * 5)).block, (ad471.add ((x5_1).toNat * 5)).off + 3, none⟩ = some (.bool ((rd_T29 t467 x5_1).f3)) ∧ w'.cell? ⟨(ad471.add ((x5_1).toNat * 5)).block, (ad471.add ((x5_1).toNat * 5)).off + 4, none⟩ = some (.string ((rd_T29 t467 x5_1).f4))) (ds := []) #[false, false, false, false, false, false, false, false, false, false] (by kernel_rfl) rfl rfl ⟨hx470_0, hx470_1, hx470_2, hx470_3, hx470_4, hx471_0, hx471_1, hx471_2, hx471_3, hx471_4⟩ (fun hHeld => ?_); refine with_tabW marginalialaw04_TokenAll.tab10 marginalialaw04_TokenAll.bits10 (fun HT_ HW_ => ?_)
         generalize wr.drew = w19 at HO_3 HO_4 HB HL470_2 HL471_2 HR470_2 HR471_2 hx470_0 hx470_1 hx470_2 hx470_3 hx470_4 hx471_0 hx471_1 hx471_2 hx471_3 hx471_4 hHeld ⊢
         refine pure_ (i := 0) (N := some 25) (v := ?_) (a' := ?_) #[true, false, false, false, false, false, false, false, false, false] rfl rfl (any_of HT_.out (by kernel_rfl)) (fun _ _ _ h => h) (Or.inl ⟨by rfl, ?_⟩) ?_ ?_
         rotate_left
         ·
          intro w'
          go_simp
          with_reducible rfl
         rotate_left
         ·
          simp only [Act.put, List.setIfInBounds_toArray, List.set_cons_zero, List.set_cons_succ, i64_w, i32_w]
          rfl
         refine pure_ (i := 1) (N := some 26) (v := ?_) (a' := ?_) #[true, true, false, false, false, false, false, false, false, false] rfl rfl (any_of HT_.out (by kernel_rfl)) (fun _ _ _ h => h) (Or.inl ⟨by rfl, ?_⟩) ?_ ?_
         rotate_left
         ·
          intro w'
          go_simp
          with_reducible rfl
         rotate_left
         ·
          simp only [Act.put, List.setIfInBounds_toArray, List.set_cons_zero, List.set_cons_succ, i64_w, i32_w]
          rfl
         refine pure_ (i := 2) (N := some 27) (v := ?_) (a' := ?_) #[true, true, true, false, false, false, false, false, false, false] rfl rfl (any_of HT_.out (by kernel_rfl)) (fun _ _ _ h => h) (Or.inl ⟨by rfl, ?_⟩) ?_ ?_
         rotate_left
         ·
          intro w'
          go_simp
          with_reducible rfl
         rotate_left
         ·
          simp only [Act.put, List.setIfInBounds_toArray, List.set_cons_zero, List.set_cons_succ, i64_w, i32_w]
          rfl
         refine pure_ (i := 4) (N := some 29) (v := ?_) (a' := ?_) #[true, true, true, false, true, false, false, false, false, false] rfl rfl (any_of HT_.out (by kernel_rfl)) (fun _ _ _ h => h) (Or.inl ⟨by rfl, ?_⟩) ?_ ?_
         rotate_left
         ·
          intro w'
          go_simp
          with_reducible rfl
         rotate_left
         ·
          simp only [Act.put, List.setIfInBounds_toArray, List.set_cons_zero, List.set_cons_succ, i64_w, i32_w]
          rfl
         refine pure_ (i := 5) (N := some 30) (v := ?_) (a' := ?_) #[true, true, true, false, true, true, false, false, false, false] rfl rfl (any_of HT_.out (by kernel_rfl)) (fun _ _ _ h => h) (Or.inl ⟨by rfl, ?_⟩) ?_ ?_
         rotate_left
         ·
          intro w'
          go_simp
          with_reducible rfl
         rotate_left
         ·
          simp only [Act.put, List.setIfInBounds_toArray, List.set_cons_zero, List.set_cons_succ, i64_w, i32_w]
          rfl
         refine pure_ (i := 6) (N := some 31) (v := ?_) (a' := ?_) #[true, true, true, false, true, true, true, false, false, false] rfl rfl (any_of HT_.out (by kernel_rfl)) (fun _ _ _ h => h) (Or.inl ⟨by rfl, ?_⟩) ?_ ?_
         rotate_left
         ·
          intro w'
          go_simp
          with_reducible rfl
         rotate_left
         ·
          simp only [Act.put, List.setIfInBounds_toArray, List.set_cons_zero, List.set_cons_succ, i64_w, i32_w]
          rfl
         refine take_ (i := 3) (N := some 28) (v := ?_) (a' := ?_) #[true, true, true, true, true, true, true, false, false, false] rfl rfl (take_ofW HT_.out HW_.out (by kernel_rfl)) (fun _ _ _ h => h) (Or.inl ⟨by rfl, ?_⟩) hHeld ?_ ?_
         rotate_left
         ·
          rintro w' ⟨s0, s1, s2, s3, s4, s5, s6, s7, s8, s9⟩
          go_simp
          with_reducible rfl
         rotate_left
         ·
          simp only [Act.put, List.setIfInBounds_toArray, List.set_cons_zero, List.set_cons_succ, i64_w, i32_w]
          rfl
         refine take_ (i := 7) (N := some 32) (v := ?_) (a' := ?_) #[true, true, true, true, true, true, true, true, false, false] rfl rfl (take_ofW HT_.out HW_.out (by kernel_rfl)) (fun _ _ _ h => h) (Or.inl ⟨by rfl, ?_⟩) hHeld ?_ ?_
         rotate_left
         ·
          rintro w' ⟨s0, s1, s2, s3, s4, s5, s6, s7, s8, s9⟩
          go_simp
          with_reducible rfl
         rotate_left
         ·
          simp only [Act.put, List.setIfInBounds_toArray, List.set_cons_zero, List.set_cons_succ, i64_w, i32_w]
          rfl
         refine one_ (i := 8) (N := some 33) #[true, true, true, true, true, true, true, true, true, false] rfl rfl (one_of HT_.out (by kernel_rfl)) (by decide) (fun K hK => ?_)
         refine goes_ Try.func13 (by kernel_rfl) rfl #[.agg #[.int .i64 ((rd_T29 t464 x5_1).f0), .string ((rd_T29 t464 x5_1).f1), .slice A470_2 ((rd_T29 t464 x5_1).f2).length c470_2, .bool ((rd_T29 t464 x5_1).f3), .string ((rd_T29 t464 x5_1).f4)], .agg #[.int .i64 ((rd_T29 t467 x5_1).f0), .string ((rd_T29 t467 x5_1).f1), .slice A471_2 ((rd_T29 t467 x5_1).f2).length c471_2, .bool ((rd_T29 t467 x5_1).f3), .string ((rd_T29 t467 x5_1).f4)]] (by rfl) rfl rfl (by (try simp only [List.map_toArray, List.map_cons, List.map_nil]); first | done | rfl | (simp only [List.length_drop, List.length_take]; rfl)) ?_
         with_reducible refine (marginaliaref04_Same.calls k1 ((rd_T29 t464 x5_1).f0) ((rd_T29 t464 x5_1).f1) _ _ ((rd_T29 t464 x5_1).f2) ((rd_T29 t464 x5_1).f3) ((rd_T29 t464 x5_1).f4) ((rd_T29 t467 x5_1).f0) ((rd_T29 t467 x5_1).f1) _ _ ((rd_T29 t467 x5_1).f2) ((rd_T29 t467 x5_1).f3) ((rd_T29 t467 x5_1).f4) false _ ?side1 ?side2 ?side3 ?side4 A15.out).mono ?_
         (case side1 => repeat (first | exact (by repeat (first | (with_reducible exact HR470_2.out) | (with_reducible refine Kd.C_alloc ?_ _) | (with_reducible refine Kd.C_drewN ?_ _) | (with_reducible refine Kd.C_drew ?_) | exact HR470_2.out)) | (with_reducible refine Kd.C_alloc ?_ _) | (with_reducible refine Kd.C_drewN ?_ _) | (with_reducible refine Kd.C_drew ?_)))
         (case side2 => exact HC470_2.out)
         (case side3 => repeat (first | exact (by repeat (first | (with_reducible exact HR471_2.out) | (with_reducible refine Kd.C_alloc ?_ _) | (with_reducible refine Kd.C_drewN ?_ _) | (with_reducible refine Kd.C_drew ?_) | exact HR471_2.out)) | (with_reducible refine Kd.C_alloc ?_ _) | (with_reducible refine Kd.C_drewN ?_ _) | (with_reducible refine Kd.C_drew ?_)))
         (case side4 => exact HC471_2.out)
         rintro e w20 ⟨rfl, hb⟩
         have HS0_ := (hb.cell (World.block_lt_of_cell? _ _ (hHeld.1))).trans (hHeld.1)
         have HS1_ := (hb.cell (World.block_lt_of_cell? _ _ (hHeld.2.1))).trans (hHeld.2.1)
         have HS2_ := (hb.cell (World.block_lt_of_cell? _ _ (hHeld.2.2.1))).trans (hHeld.2.2.1)
         have HS3_ := (hb.cell (World.block_lt_of_cell? _ _ (hHeld.2.2.2.1))).trans (hHeld.2.2.2.1)
         have HS4_ := (hb.cell (World.block_lt_of_cell? _ _ (hHeld.2.2.2.2.1))).trans (hHeld.2.2.2.2.1)
         have HS5_ := (hb.cell (World.block_lt_of_cell? _ _ (hHeld.2.2.2.2.2.1))).trans (hHeld.2.2.2.2.2.1)
         have HS6_ := (hb.cell (World.block_lt_of_cell? _ _ (hHeld.2.2.2.2.2.2.1))).trans (hHeld.2.2.2.2.2.2.1)
         have HS7_ := (hb.cell (World.block_lt_of_cell? _ _ (hHeld.2.2.2.2.2.2.2.1))).trans (hHeld.2.2.2.2.2.2.2.1)
         have HS8_ := (hb.cell (World.block_lt_of_cell? _ _ (hHeld.2.2.2.2.2.2.2.2.1))).trans (hHeld.2.2.2.2.2.2.2.2.1)
         have HS9_ := (hb.cell (World.block_lt_of_cell? _ _ (hHeld.2.2.2.2.2.2.2.2.2))).trans (hHeld.2.2.2.2.2.2.2.2.2)
         refine ⟨_, rfl, ?_⟩
         have n0_ := Aside0.mk (Kd.S_below (by (with_reducible repeat (first | apply Kd.S_alloc | apply Kd.S_drewN | apply Kd.S_drew)); exact HO_3.out) hb)
         have n1_ := Aside0.mk (Kd.S_below (by (with_reducible repeat (first | apply Kd.S_alloc | apply Kd.S_drewN | apply Kd.S_drew)); exact HO_4.out) hb)
         have n2_ := Aside0.mk (Kd.R_below (by (with_reducible repeat (first | apply Kd.R_alloc | apply Kd.R_drewN | apply Kd.R_drew)); exact HL470_2.out) hb)
         have n3_ := Aside0.mk (Kd.R_below (by (with_reducible repeat (first | apply Kd.R_alloc | apply Kd.R_drewN | apply Kd.R_drew)); exact HL471_2.out) hb)
         have n4_ := Aside0.mk (Kd.C_below (by repeat (first | (with_reducible exact HR470_2.out) | (with_reducible refine Kd.C_alloc ?_ _) | (with_reducible refine Kd.C_drewN ?_ _) | (with_reducible refine Kd.C_drew ?_) | exact HR470_2.out)) hb)
         have n5_ := Aside0.mk (Kd.C_below (by repeat (first | (with_reducible exact HR471_2.out) | (with_reducible refine Kd.C_alloc ?_ _) | (with_reducible refine Kd.C_drewN ?_ _) | (with_reducible refine Kd.C_drew ?_) | exact HR471_2.out)) hb)
         have n6_ := Aside0.mk (below_step (by repeat (first | (with_reducible first | exact HB.out | apply below_alloc | apply pw_below_drewN | apply below_drew1) | exact HB.out)) hb)
         clear HO_3
         clear HO_4
         clear HL470_2
         clear HL471_2
         clear HR470_2
         clear HR471_2
         clear HB
         have HO_3 := n0_
         have HO_4 := n1_
         have HL470_2 := n2_
         have HL471_2 := n3_
         have HR470_2 := n4_
         have HR471_2 := n5_
         have HB := n6_
         clear n0_ n1_ n2_ n3_ n4_ n5_ n6_
         (try clear hb)
         (try clear hb2)
         (try clear hk)
         (try clear hi)
         refine hK.out _ _ ⟨HS0_, HS1_, HS2_, HS3_, HS4_, HS5_, HS6_, HS7_, HS8_, HS9_⟩ (fun hHeld => ?_)
         clear hK K
         refine norm_ (a' := ?_) ?_ ?_
         rotate_left
         ·
          show Act.put _ (some 33) _ = _
          simp only [Act.put, List.setIfInBounds_toArray, List.set_cons_zero, List.set_cons_succ, i64_w, i32_w]
          rfl
         refine pure_ (i := 9) (N := some 34) (v := ?_) (a' := ?_) #[true, true, true, true, true, true, true, true, true, true] rfl rfl (any_of HT_.out (by kernel_rfl)) (fun _ _ _ h => h) (Or.inl ⟨by rfl, ?_⟩) ?_ ?_
         rotate_left
         ·
          intro w'
          go_simp
          with_reducible rfl
         rotate_left
         ·
          simp only [Act.put, List.setIfInBounds_toArray, List.set_cons_zero, List.set_cons_succ, i64_w, i32_w]
          rfl
         refine done_ (done_of HT_.out (by kernel_rfl)) ?_
         try go_wp2
         go_ret
         exact ⟨by first | rfl | (simp [errW_none, errW_some] <;> rfl) | (simp [*, errW_none, errW_some] <;> rfl), by repeat (first | (with_reducible first | exact HB.out | apply below_alloc | apply pw_below_drewN | apply below_drew1) | exact HB.out)⟩
       ·
        rw [if_neg c14] at H
        exact absurd H (by simp)
      ·
       rw [if_neg c13] at H
       exact absurd H (by simp)
     ·
      rw [if_neg c12] at H
      have c12b0 : decide (x5_1 < (t464.length : Int)) = false := decide_eq_false c12
      clear c12
      replace H := Option.bind_eq_some_iff.mp H
      obtain ⟨t473, A210, H⟩ := H
      try dsimp only at H
      have A21 := Aside0.mk A210
      clear A210
      go_wp2_with fail
      (with_reducible refine (marginalialaw04_alive.calls k1 t473 _ ?side1 A21.out).mono ?_)
      (case side1 => exact HM.at_ HM0.out (by repeat (first | (with_reducible first | exact HB.out | apply below_alloc | apply pw_below_drewN | apply below_drew1) | exact HB.out)))
      rintro e w22 ⟨rfl, hb⟩
      have n0_ := Aside0.mk (Kd.S_below (by (with_reducible repeat (first | apply Kd.S_alloc | apply Kd.S_drewN | apply Kd.S_drew)); exact HO_3.out) hb)
      have n1_ := Aside0.mk (Kd.S_below (by (with_reducible repeat (first | apply Kd.S_alloc | apply Kd.S_drewN | apply Kd.S_drew)); exact HO_4.out) hb)
      have n2_ := Aside0.mk (below_step (by repeat (first | (with_reducible first | exact HB.out | apply below_alloc | apply pw_below_drewN | apply below_drew1) | exact HB.out)) hb)
      clear HO_3
      clear HO_4
      clear HB
      have HO_3 := n0_
      have HO_4 := n1_
      have HB := n2_
      clear n0_ n1_ n2_
      (try clear hb)
      (try clear hb2)
      (try clear hk)
      (try clear hi)
      obtain rfl := Option.some.inj H
      go_wp2
      go_ret
      exact ⟨by first | rfl | (simp [errW_none, errW_some] <;> rfl) | (simp [*, errW_none, errW_some] <;> rfl), by repeat (first | (with_reducible first | exact HB.out | apply below_alloc | apply pw_below_drewN | apply below_drew1) | exact HB.out)⟩
  ·
   rw [if_neg c7] at H
   have c7b0 : ((t464.length : Int) == (t467.length : Int)) = false := beq_eq_false_iff_ne.mpr c7
   have c7b1 : ((t464.length : Int) != (t467.length : Int)) = true := bne_iff_ne.mpr c7
   have c7b2 : (t464.length == t467.length) = false := by first | simpa using c7 | (simp at c7 ⊢; omega)
   obtain rfl := Option.some.inj H
   obtain ⟨Ao25, co25, eo25⟩ := Kd.S_slice HO466.out
   subst eo25
   obtain ⟨Ao26, co26, eo26⟩ := Kd.S_slice HO469.out
   subst eo26
   go_wp2
   go_ret
   exact ⟨by first | rfl | (simp [errW_none, errW_some] <;> rfl) | (simp [*, errW_none, errW_some] <;> rfl), by repeat (first | (with_reducible first | exact HB.out | apply below_alloc | apply pw_below_drewN | apply below_drew1) | exact HB.out)⟩
/-- THE ONE PURE STATEMENT of marginalialaw04_TokenAll: yours. -/
def marginalialaw04_TokenAll.Pure : Prop := ∀ (a0 : ByteArray), a0.size ≤ 140737488351232 → ∃ k, marginalialaw04_TokenAll.f k a0 = some true
theorem marginalialaw04_TokenAll.walk (P : marginalialaw04_TokenAll.Pure) (a0 : ByteArray) (w : World) (hm : HM w) (w0 : a0.size ≤ 140737488351232) :
    Calls Try.prog 4 #[.string a0] w fun e w' => e = .returned (.bool true) ∧ Below w.heap.size w w' := by
 obtain ⟨k, h⟩ := P a0 w0
 refine (marginalialaw04_TokenAll.calls k a0 true w hm h).mono ?_
 rintro e w' ⟨rfl, hd⟩
 exact ⟨rfl, hd⟩
end
end Go.Proofs.Ytpelfhldgnmhpaa.G
