-- laid by programs of this session's (wip/tools/myprint.py, linear.py, merge.py) over the translation, and by hand
import Derived.Test.YtpelfhldgnmhpaaGA
import Derived.Test.YtpelfhldgnmhpaaGC
namespace Go.Proofs.Ytpelfhldgnmhpaa.G
section
open Go.RowKit Go.Proofs.YtpelfhldgnmhpaaW.PrintWords Go.Proofs.YtpelfhldgnmhpaaW.PrintLast Go.Proofs.YtpelfhldgnmhpaaW.PrintMore
attribute [local go_sem] max2_int min2_int max_two min_two max_three min_three max_four min_four
set_option linter.unusedVariables false
set_option linter.unusedSimpArgs false
/-! ### marginaliaref04_tag: function 52 -/
mutual
def marginaliaref04_tag.l0 : Nat → ByteArray → Int → Int → ByteArray → List (S41) → Bool → ByteArray → Option (Int × ByteArray × (List (S41)) × Bool × ByteArray × Int × Bool)
  | 0, _, _, _, _, _, _, _ => none
  | k + 1, x0, x1, x253000, x253001, x253002, x253003, x253004 => marginaliaref04_tag.l1 k x0 x1 false x253000 x253001 x253002 x253003 x253004
def marginaliaref04_tag.j2 : Nat → ByteArray → Int → Bool → Int → ByteArray → List (S41) → Bool → ByteArray → Option (Int × ByteArray × (List (S41)) × Bool × ByteArray × Int × Bool)
  | 0, _, _, _, _, _, _, _, _ => none
  | k + 1, x0, x1, x9, x253000, x253001, x253002, x253003, x253004 => if x1 ≥ (x0.size : Int) then (some (0, (⟨#[]⟩ : ByteArray), ([] : List (S41)), false, (⟨#[]⟩ : ByteArray), 0, false)) else (if 0 ≤ x1 then (if x1 < (x0.size : Int) then (if (bt x0 x1) = 62 then (some (x253000, x253001, x253002, x9, x253004, wrap64 (x1 + 1), true)) else ((marginaliaref04_upTo.f k x0 (wrap64 (x1 + 1)) (⟨#[47, 62, 61]⟩ : ByteArray)).bind fun t254 => (if x1 ≤ t254 then (if t254 ≤ (x0.size : Int) then ((marginaliaref02_Lower.f k (x0.extract (x1 : Int).toNat (t254 : Int).toNat)).bind fun t255 => ((marginaliaref04_space.f k x0 t254).bind fun t257 => (if t257 < (x0.size : Int) then (if 0 ≤ t257 then (marginaliaref04_tag.j3 k x0 t257 ((bt x0 t257) == 61) x253000 x253001 x253002 x253003 x253004 t255 (⟨#[]⟩ : ByteArray)) else (none)) else (marginaliaref04_tag.j3 k x0 t257 false x253000 x253001 x253002 x253003 x253004 t255 (⟨#[]⟩ : ByteArray))))) else (none)) else (none)))) else (none)) else (none))
def marginaliaref04_tag.j3 : Nat → ByteArray → Int → Bool → Int → ByteArray → List (S41) → Bool → ByteArray → ByteArray → ByteArray → Option (Int × ByteArray × (List (S41)) × Bool × ByteArray × Int × Bool)
  | 0, _, _, _, _, _, _, _, _, _, _ => none
  | k + 1, x0, x1, x83, x253000, x253001, x253002, x253003, x253004, x257000, x257001 => if x83 = true then ((marginaliaref04_space.f k x0 (wrap64 (x1 + 1))).bind fun t258 => ((marginaliaref04_value.f k x0 t258).bind fun bt259 => ((marginaliaref04_Get.f k x253002 x257000).bind fun bt261 => (if bt261.2 = true then (marginaliaref04_tag.l0 k x0 bt259.2 x253000 x253001 x253002 x253003 x253004) else (if x253002.length < 4398046511104 then (marginaliaref04_tag.l0 k x0 bt259.2 x253000 x253001 (x253002 ++ [(⟨x257000, bt259.1⟩ : S41)]) x253003 x253004) else (none)))))) else ((marginaliaref04_Get.f k x253002 x257000).bind fun bt266 => (if bt266.2 = true then (marginaliaref04_tag.l0 k x0 x1 x253000 x253001 x253002 x253003 x253004) else (if x253002.length < 4398046511104 then (marginaliaref04_tag.l0 k x0 x1 x253000 x253001 (x253002 ++ [(⟨x257000, x257001⟩ : S41)]) x253003 x253004) else (none))))
def marginaliaref04_tag.l1 : Nat → ByteArray → Int → Bool → Int → ByteArray → List (S41) → Bool → ByteArray → Option (Int × ByteArray × (List (S41)) × Bool × ByteArray × Int × Bool)
  | 0, _, _, _, _, _, _, _, _ => none
  | k + 1, x0, x1, x9, x253000, x253001, x253002, x253003, x253004 => if x1 < (x0.size : Int) then (if 0 ≤ x1 then ((marginaliaref02_Space.f (bt x0 x1)).bind fun t253 => (if t253 = true then (marginaliaref04_tag.l1 k x0 (wrap64 (x1 + 1)) ((bt x0 x1) == 47) x253000 x253001 x253002 x253003 x253004) else (if (bt x0 x1) = 47 then (marginaliaref04_tag.l1 k x0 (wrap64 (x1 + 1)) ((bt x0 x1) == 47) x253000 x253001 x253002 x253003 x253004) else (marginaliaref04_tag.j2 k x0 x1 x9 x253000 x253001 x253002 x253003 x253004)))) else (none)) else (marginaliaref04_tag.j2 k x0 x1 x9 x253000 x253001 x253002 x253003 x253004)
end
def marginaliaref04_tag.f (k : Nat) (a0 : ByteArray) (a1 : Int) : Option (Int × ByteArray × (List (S41)) × Bool × ByteArray × Int × Bool) := (marginaliaref04_upTo.f k a0 a1 (⟨#[47, 62]⟩ : ByteArray)).bind fun t250 => (if 0 ≤ a1 then (if a1 ≤ t250 then (if t250 ≤ (a0.size : Int) then ((marginaliaref02_Lower.f k (a0.extract (a1 : Int).toNat (t250 : Int).toNat)).bind fun t251 => (marginaliaref04_tag.l0 k a0 t250 0 t251 ([] : List (S41)) false (⟨#[]⟩ : ByteArray))) else (none)) else (none)) else (none))
set_option maxHeartbeats 8000000 in
set_option maxRecDepth 100000 in
theorem marginaliaref04_tag.calls (k : Nat) (a0 : ByteArray) (a1 : Int) (r1 : Int) (r2 : ByteArray) (r3 : List (S41)) (r4 : Bool) (r5 : ByteArray) (r6 : Int) (r7 : Bool) (w : World) (h : marginaliaref04_tag.f k a0 a1 = some (r1, r2, r3, r4, r5, r6, r7)) :
    Calls Try.prog 52 #[.string a0, .int .i64 a1] w fun e w' => ∃ v2_ : Value, e = .returned (.tuple #[.agg #[.int .i64 r1, .string r2, v2_, .bool r4, .string r5], .int .i64 r6, .bool r7]) ∧ Kd.R k41 41 w' w.heap.size (fun _ => True) v2_ r3 ∧ Below w.heap.size w w' := by
 have hu29 := Try.underlying29
 have hu41 := Try.underlying41
 have HB := Aside0.mk (Below.refl w.heap.size w)
 have H : ((marginaliaref04_upTo.f k a0 a1 (⟨#[47, 62]⟩ : ByteArray)).bind fun t250 => (if 0 ≤ a1 then (if a1 ≤ t250 then (if t250 ≤ (a0.size : Int) then ((marginaliaref02_Lower.f k (a0.extract (a1 : Int).toNat (t250 : Int).toNat)).bind fun t251 => (marginaliaref04_tag.l0 k a0 t250 0 t251 ([] : List (S41)) false (⟨#[]⟩ : ByteArray))) else (none)) else (none)) else (none))) = some (r1, r2, r3, r4, r5, r6, r7) := h
 clear h
 replace H := Option.bind_eq_some_iff.mp H
 obtain ⟨t250, A30, H⟩ := H
 try dsimp only at H
 have A3 := Aside0.mk A30
 clear A30
 go_enter Try.func52, Try.ntmps52
 go_wp2_with (first | ((with_reducible refine gate_dst (N := 4) rfl ?_); refine box_event ?hg (N := 4) ?hd (cs := #[.int .i64 0, .string (⟨#[]⟩ : ByteArray), .slice none 0 0, .bool false, .string (⟨#[]⟩ : ByteArray)]) (t := 29) ?hr ?_; (case hd => rfl); (case hg => rfl); (case hr => first | (go_simp; done) | (go_simp; rfl)); intro gb249 hg w8 hbox hb; have n0_ := Aside0.mk (below_step (by repeat (first | (with_reducible first | exact HB.out | apply below_alloc | apply pw_below_drewN | apply below_drew1) | exact HB.out)) hb); have n1_ := Aside0.mk (hbox); have n2_ := Aside0.mk ((by rw [hg]; exact (below_size (by repeat (first | (with_reducible first | exact HB.out | apply below_alloc | apply pw_below_drewN | apply below_drew1) | exact HB.out))) : w.heap.size ≤ gb249)); have n3_ := Aside0.mk ((by rw [hg]; exact (below_size (by repeat (first | (with_reducible first | exact HB.out | apply below_alloc | apply pw_below_drewN | apply below_drew1) | exact HB.out))) : w.heap.size ≤ gb249)); clear HB; have HB := n0_; have BK249 := n1_; have GW249 := n2_; have GE249 := n3_; clear n0_ n1_ n2_ n3_; clear hb hbox hg))
 (with_reducible refine (marginaliaref04_upTo.calls k a0 a1 (⟨#[47, 62]⟩ : ByteArray) t250 _ A3.out).mono ?_)
 rintro e w' ⟨rfl, ⟨nd, rfl⟩⟩
 (try (rw [drewN_self w8]; generalize hq_ : World.drewN w8 _ = w8; have n0_ : Aside0 (w8.heap[gb249]? = some (.cells #[.int .i64 0, .string (⟨#[]⟩ : ByteArray), .slice none 0 0, .bool false, .string (⟨#[]⟩ : ByteArray)] 29 (0, 0))) := ⟨by rw [← hq_]; exact (by (with_reducible repeat (first | refine blk_drewN ?_ _ | refine blk_drew ?_ | refine blk_alloc ?_ _)); exact BK249.out)⟩; have n1_ : Aside0 (Below w.heap.size w w8) := ⟨by rw [← hq_]; exact (by repeat (first | (with_reducible first | exact HB.out | apply below_alloc | apply pw_below_drewN | apply below_drew1 | refine below_set ?_ GE249.out) | exact HB.out))⟩; clear BK249 HB hq_; have BK249 := n0_; have HB := n1_; clear n0_ n1_))
 by_cases c4 : 0 ≤ a1
 ·
  rw [if_pos c4] at H
  have c4b0 := eq_true c4
  have c4b1 : decide (0 ≤ a1) = true := decide_eq_true c4
  clear c4
  by_cases c5 : a1 ≤ t250
  ·
   rw [if_pos c5] at H
   have c5b0 := eq_true c5
   have c5b1 : decide (a1 ≤ t250) = true := decide_eq_true c5
   clear c5
   by_cases c6 : t250 ≤ (a0.size : Int)
   ·
    rw [if_pos c6] at H
    have c6b0 := eq_true c6
    have c6b1 : decide (t250 ≤ (a0.size : Int)) = true := decide_eq_true c6
    clear c6
    replace H := Option.bind_eq_some_iff.mp H
    obtain ⟨t251, A70, H⟩ := H
    try dsimp only at H
    have A7 := Aside0.mk A70
    clear A70
    go_wp2_with fail
    (with_reducible refine (marginaliaref02_Lower.calls k (a0.extract (a1 : Int).toNat (t250 : Int).toNat) t251 _ A7.out).mono ?_)
    rintro e w9 ⟨rfl, hb⟩
    have n0_ := Aside0.mk (blk_below (g := gb249) (o := .cells #[.int .i64 0, .string (⟨#[]⟩ : ByteArray), .slice none 0 0, .bool false, .string (⟨#[]⟩ : ByteArray)] 29 (0, 0)) (by (with_reducible repeat (first | refine blk_drewN ?_ _ | refine blk_drew ?_ | refine blk_alloc ?_ _)); exact BK249.out) hb)
    have n1_ := Aside0.mk (below_step (by repeat (first | (with_reducible first | exact HB.out | apply below_alloc | apply pw_below_drewN | apply below_drew1 | refine below_set ?_ GE249.out) | exact HB.out)) hb)
    clear BK249
    clear HB
    have BK249 := n0_
    have HB := n1_
    clear n0_ n1_
    (try clear hb)
    (try clear hb2)
    (try clear hk)
    (try clear hi)
    have H' := Aside0.mk H
    clear H
    go_wp2_with (first | ((with_reducible refine gate_dst (N := 8) rfl ?_); refine box_event ?hg (N := 8) ?hd (cs := #[.int .i64 0, .string (⟨#[]⟩ : ByteArray), .slice none 0 0, .bool false, .string (⟨#[]⟩ : ByteArray)]) (t := 29) ?hr ?_; (case hd => rfl); (case hg => rfl); (case hr => first | (go_simp; done) | (go_simp; rfl)); intro gb252 hg w10 hbox hb; have n0_ := Aside0.mk (blk_below (g := gb249) (o := .cells #[.int .i64 0, .string (⟨#[]⟩ : ByteArray), .slice none 0 0, .bool false, .string (⟨#[]⟩ : ByteArray)] 29 (0, 0)) (by (with_reducible repeat (first | refine blk_drewN ?_ _ | refine blk_drew ?_ | refine blk_alloc ?_ _)); exact BK249.out) hb); have n1_ := Aside0.mk (below_step (by repeat (first | (with_reducible first | exact HB.out | apply below_alloc | apply pw_below_drewN | apply below_drew1 | refine below_set ?_ GE249.out) | exact HB.out)) hb); have n2_ := Aside0.mk (hbox); have n3_ := Aside0.mk ((by rw [hg]; exact (below_size (by repeat (first | (with_reducible first | exact HB.out | apply below_alloc | apply pw_below_drewN | apply below_drew1 | refine below_set ?_ GE249.out) | exact HB.out))) : w.heap.size ≤ gb252)); have n4_ := Aside0.mk ((by rw [hg]; exact (below_size (by repeat (first | (with_reducible first | exact HB.out | apply below_alloc | apply pw_below_drewN | apply below_drew1 | refine below_set ?_ GE249.out) | exact HB.out))) : w.heap.size ≤ gb252)); have n5_ := Aside0.mk ((by rw [hg]; exact Nat.ne_of_lt (blk_lt (g := gb249) (o := .cells #[.int .i64 0, .string (⟨#[]⟩ : ByteArray), .slice none 0 0, .bool false, .string (⟨#[]⟩ : ByteArray)] 29 (0, 0)) (by (with_reducible repeat (first | refine blk_drewN ?_ _ | refine blk_drew ?_ | refine blk_alloc ?_ _)); exact BK249.out)) : gb249 ≠ gb252)); have n6_ := Aside0.mk ((by rw [hg]; exact Nat.ne_of_gt (blk_lt (g := gb249) (o := .cells #[.int .i64 0, .string (⟨#[]⟩ : ByteArray), .slice none 0 0, .bool false, .string (⟨#[]⟩ : ByteArray)] 29 (0, 0)) (by (with_reducible repeat (first | refine blk_drewN ?_ _ | refine blk_drew ?_ | refine blk_alloc ?_ _)); exact BK249.out)) : gb252 ≠ gb249)); clear BK249; clear HB; have BK249 := n0_; have HB := n1_; have BK252 := n2_; have GW252 := n3_; have GE252 := n4_; have NB249_252 := n5_; have NB252_249 := n6_; clear n0_ n1_ n2_ n3_ n4_ n5_ n6_; clear hb hbox hg; have hnb11 := NB252_249.out; have hnc11 := NB249_252.out; have hcz12_0 : w10.cell? ⟨gb252, 0, none⟩ = some (.int .i64 0) := (blk_cell BK252.out 0).trans rfl; have hcz12_1 : w10.cell? ⟨gb252, 1, none⟩ = some (.string (⟨#[]⟩ : ByteArray)) := (blk_cell BK252.out 1).trans rfl; have hcz12_2 : w10.cell? ⟨gb252, 2, none⟩ = some (.slice none 0 0) := (blk_cell BK252.out 2).trans rfl; have hcz12_3 : w10.cell? ⟨gb252, 3, none⟩ = some (.bool false) := (blk_cell BK252.out 3).trans rfl; have hcz12_4 : w10.cell? ⟨gb252, 4, none⟩ = some (.string (⟨#[]⟩ : ByteArray)) := (blk_cell BK252.out 4).trans rfl; have hfz12_0 := blk_frozen BK252.out 0; have hfz12_1 := blk_frozen BK252.out 1; have hfz12_2 := blk_frozen BK252.out 2; have hfz12_3 := blk_frozen BK252.out 3; have hfz12_4 := blk_frozen BK252.out 4))
    go_loopg [1] k (fun kq v1 w' => ∃ (x1_1 : Int) (x250000_1 : Int) (x250001_1 : ByteArray) (x250003_1 : Bool) (x250004_1 : ByteArray) (x253002_1 : List (S41)) (x253003_1 : Bool) (u253002 : Value), v1 = .int .i64 x1_1 ∧ Aside0 (marginaliaref04_tag.l0 kq a0 x1_1 0 t251 x253002_1 x253003_1 (⟨#[]⟩ : ByteArray) = some (r1, r2, r3, r4, r5, r6, r7)) ∧ Aside0 (kq ≤ k) ∧ Aside0 (Kd.R k41 41 w' w.heap.size (fun _ => True) u253002 x253002_1) ∧ Aside0 (w'.heap[gb249]? = some (.cells #[.int .i64 x250000_1, .string x250001_1, (.slice none 0 0), .bool x250003_1, .string x250004_1] 29 (0, 0))) ∧ Aside0 (w'.heap[gb252]? = some (.cells #[.int .i64 0, .string t251, u253002, .bool x253003_1, .string (⟨#[]⟩ : ByteArray)] 29 (0, 0))) ∧ Aside0 (Below w.heap.size w w'))
    case atStart => exact ⟨(t250), (0), ((⟨#[]⟩ : ByteArray)), (false), ((⟨#[]⟩ : ByteArray)), (([] : List (S41))), (false), (.slice none 0 0), (by first | rfl | (simp; done) | (simp [*]; done)), H', ⟨Nat.le_refl _⟩, ⟨by first | exact Kd.R_nil _ _ _ _ _ | exact Kd.N_nil _ _ _ _ _ | exact Kd.V_nil _ _ _ _ _ | exact Kd.Q_nil _ _ _ _ _ | exact Kd.S_nil _ _ _ _ _⟩, ⟨by (with_reducible repeat (first | refine blk_drewN ?_ _ | refine blk_drew ?_ | refine blk_alloc ?_ _)); refine blk_far ?_ NB249_252.out _; (with_reducible repeat (first | refine blk_drewN ?_ _ | refine blk_drew ?_ | refine blk_alloc ?_ _)); refine blk_far ?_ NB249_252.out _; (with_reducible repeat (first | refine blk_drewN ?_ _ | refine blk_drew ?_ | refine blk_alloc ?_ _)); refine blk_far ?_ NB249_252.out _; (with_reducible repeat (first | refine blk_drewN ?_ _ | refine blk_drew ?_ | refine blk_alloc ?_ _)); refine blk_far ?_ NB249_252.out _; (with_reducible repeat (first | refine blk_drewN ?_ _ | refine blk_drew ?_ | refine blk_alloc ?_ _)); refine blk_far ?_ NB249_252.out _; (with_reducible repeat (first | refine blk_drewN ?_ _ | refine blk_drew ?_ | refine blk_alloc ?_ _)); exact BK249.out⟩, ⟨by (with_reducible repeat (first | refine blk_drewN ?_ _ | refine blk_drew ?_ | refine blk_alloc ?_ _)); refine blk_put (cs := #[.int .i64 0, .string t251, .slice none 0 0, .bool false, .string (⟨#[]⟩ : ByteArray)]) ?_ 4 _ rfl; (with_reducible repeat (first | refine blk_drewN ?_ _ | refine blk_drew ?_ | refine blk_alloc ?_ _)); refine blk_put (cs := #[.int .i64 0, .string t251, .slice none 0 0, .bool false, .string (⟨#[]⟩ : ByteArray)]) ?_ 3 _ rfl; (with_reducible repeat (first | refine blk_drewN ?_ _ | refine blk_drew ?_ | refine blk_alloc ?_ _)); refine blk_put (cs := #[.int .i64 0, .string t251, .slice none 0 0, .bool false, .string (⟨#[]⟩ : ByteArray)]) ?_ 2 _ rfl; (with_reducible repeat (first | refine blk_drewN ?_ _ | refine blk_drew ?_ | refine blk_alloc ?_ _)); refine blk_put (cs := #[.int .i64 0, .string (⟨#[]⟩ : ByteArray), .slice none 0 0, .bool false, .string (⟨#[]⟩ : ByteArray)]) ?_ 1 _ rfl; (with_reducible repeat (first | refine blk_drewN ?_ _ | refine blk_drew ?_ | refine blk_alloc ?_ _)); refine blk_put (cs := #[.int .i64 0, .string (⟨#[]⟩ : ByteArray), .slice none 0 0, .bool false, .string (⟨#[]⟩ : ByteArray)]) ?_ 0 _ rfl; (with_reducible repeat (first | refine blk_drewN ?_ _ | refine blk_drew ?_ | refine blk_alloc ?_ _)); exact BK252.out⟩, ⟨by repeat (first | (with_reducible first | exact HB.out | apply below_alloc | apply pw_below_drewN | apply below_drew1 | refine below_set ?_ GE249.out | refine below_set ?_ GE252.out) | exact HB.out)⟩⟩
    case round =>
     clear H'
     try clear c1
     try clear p2
     try clear c4
     try clear c4b0
     try clear c4b1
     try clear c5
     try clear c5b0
     try clear c5b1
     try clear c6
     try clear c6b0
     try clear c6b1
     try clear c11
     try clear hcz12_0
     try clear hcz12_1
     try clear hcz12_2
     try clear hcz12_3
     try clear hcz12_4
     try clear hfz12_0
     try clear hfz12_1
     try clear hfz12_2
     try clear hfz12_3
     try clear hfz12_4
     obtain ⟨x1_1, x250000_1, x250001_1, x250003_1, x250004_1, x253002_1, x253003_1, u253002, rfl, HA, HK1, HO_253002, BK249, BK252, HB⟩ := hrel
     cases gk with
     | zero => exact absurd HA.out (by simp [marginaliaref04_tag.l0])
     | succ k1 =>
      have H := HA.out
      clear HA
      simp only [marginaliaref04_tag.l0] at H
      have HC13 := Aside0.mk H
      clear H
      go_upto_block 2 with (fail)
      go_cut [1, 9] (fun v1 v9 wc => ∃ (kq : Nat) (x1_12 : Int) (x9_12 : Bool), v1 = .int .i64 x1_12 ∧ v9 = .bool x9_12 ∧ Aside0 (marginaliaref04_tag.j2 kq a0 x1_12 x9_12 0 t251 x253002_1 x253003_1 (⟨#[]⟩ : ByteArray) = some (r1, r2, r3, r4, r5, r6, r7)) ∧ Aside0 (kq ≤ k1) ∧ Aside0 (Kd.R k41 41 wc w.heap.size (fun _ => True) u253002 x253002_1) ∧ Aside0 (wc.heap[gb249]? = some (.cells #[.int .i64 x250000_1, .string x250001_1, (.slice none 0 0), .bool x250003_1, .string x250004_1] 29 (0, 0))) ∧ Aside0 (wc.heap[gb252]? = some (.cells #[.int .i64 0, .string t251, u253002, .bool x253003_1, .string (⟨#[]⟩ : ByteArray)] 29 (0, 0))) ∧ Aside0 (Below w.heap.size w wc))
      case first =>
       have H := HC13.out
       clear HC13
       have H' := Aside0.mk H
       clear H
       go_wp2
       go_loopg [1, 9] k1 (fun kq v1 v9 w' => ∃ (x1_2 : Int) (x9_2 : Bool), v1 = .int .i64 x1_2 ∧ v9 = .bool x9_2 ∧ Aside0 (marginaliaref04_tag.l1 kq a0 x1_2 x9_2 0 t251 x253002_1 x253003_1 (⟨#[]⟩ : ByteArray) = some (r1, r2, r3, r4, r5, r6, r7)) ∧ Aside0 (kq ≤ k1) ∧ Aside0 (Kd.R k41 41 w' w.heap.size (fun _ => True) u253002 x253002_1) ∧ Aside0 (w'.heap[gb249]? = some (.cells #[.int .i64 x250000_1, .string x250001_1, (.slice none 0 0), .bool x250003_1, .string x250004_1] 29 (0, 0))) ∧ Aside0 (w'.heap[gb252]? = some (.cells #[.int .i64 0, .string t251, u253002, .bool x253003_1, .string (⟨#[]⟩ : ByteArray)] 29 (0, 0))) ∧ Aside0 (Below w.heap.size w w'))
       case atStart => exact ⟨(x1_1), (false), (by first | rfl | (simp; done) | (simp [*]; done)), (by first | rfl | (simp; done) | (simp [*]; done)), H', ⟨Nat.le_refl _⟩, ⟨by (with_reducible repeat (first | apply Kd.R_alloc | apply Kd.R_drewN | apply Kd.R_drew)); exact HO_253002.out⟩, ⟨by (with_reducible repeat (first | refine blk_drewN ?_ _ | refine blk_drew ?_ | refine blk_alloc ?_ _)); exact BK249.out⟩, ⟨by (with_reducible repeat (first | refine blk_drewN ?_ _ | refine blk_drew ?_ | refine blk_alloc ?_ _)); exact BK252.out⟩, ⟨by repeat (first | (with_reducible first | exact HB.out | apply below_alloc | apply pw_below_drewN | apply below_drew1 | refine below_set ?_ GE249.out | refine below_set ?_ GE252.out) | exact HB.out)⟩⟩
       case round =>
        clear H'
        try clear c1
        try clear p2
        try clear c4
        try clear c4b0
        try clear c4b1
        try clear c5
        try clear c5b0
        try clear c5b1
        try clear c6
        try clear c6b0
        try clear c6b1
        try clear c11
        try clear hcz12_0
        try clear hcz12_1
        try clear hcz12_2
        try clear hcz12_3
        try clear hcz12_4
        try clear hfz12_0
        try clear hfz12_1
        try clear hfz12_2
        try clear hfz12_3
        try clear hfz12_4
        try clear p2
        obtain ⟨x1_2, x9_2, rfl, rfl, HA, HK2, HO_253002, BK249, BK252, HB⟩ := hrel
        cases gk with
        | zero => exact absurd HA.out (by simp [marginaliaref04_tag.l1])
        | succ k2 =>
         have H := HA.out
         clear HA
         simp only [marginaliaref04_tag.l1] at H
         by_cases c14 : x1_2 < (a0.size : Int)
         ·
          rw [if_pos c14] at H
          have c14b0 : decide (x1_2 < (a0.size : Int)) = true := decide_eq_true c14
          clear c14
          (first | rw [c14b0] | (simp only [i64_w, i32_w]; rw [c14b0]) | skip)
          by_cases c15 : 0 ≤ x1_2
          ·
           rw [if_pos c15] at H
           have c15b0 : decide (0 ≤ x1_2) = true := decide_eq_true c15
           clear c15
           replace H := Option.bind_eq_some_iff.mp H
           obtain ⟨t253, A170, H⟩ := H
           try dsimp only at H
           have A17 := Aside0.mk A170
           clear A170
           have p16 : 0 ≤ (x1_2 : Int) := of_decide_eq_true (by first | (with_reducible assumption) | assumption)
           have q16 : x1_2 < (a0.size : Int) := of_decide_eq_true (by first | (with_reducible assumption) | assumption)
           have hx16 := bt_at a0 x1_2
           replace p16 := eq_true p16
           replace q16 := eq_true q16
           go_wp2_with fail
           (with_reducible refine (marginaliaref02_Space.calls (bt a0 x1_2) t253 _ A17.out).mono ?_)
           rintro e w' ⟨rfl, ⟨nd, rfl⟩⟩
           by_cases c18 : t253 = true
           ·
            subst c18
            replace H := (if_pos rfl).symm.trans H
            have H' := Aside0.mk H
            clear H
            have p19 : 0 ≤ (x1_2 : Int) := of_decide_eq_true (by first | (with_reducible assumption) | assumption)
            have q19 : x1_2 < (a0.size : Int) := of_decide_eq_true (by first | (with_reducible assumption) | assumption)
            have hx19 := bt_at a0 x1_2
            replace p19 := eq_true p19
            replace q19 := eq_true q19
            go_wp2
            go_roundg k2
            case measure => have := HK1.out; have := HK2.out; omega
            case rel => exact ⟨(wrap64 (x1_2 + 1)), (((bt a0 x1_2) == 47)), (by first | rfl | (simp; done) | (simp [*]; done)), (by first | rfl | (simp; done) | (simp [*]; done)), H', ⟨by have := HK1.out; have := HK2.out; omega⟩, ⟨by (with_reducible repeat (first | apply Kd.R_alloc | apply Kd.R_drewN | apply Kd.R_drew)); exact HO_253002.out⟩, ⟨by (with_reducible repeat (first | refine blk_drewN ?_ _ | refine blk_drew ?_ | refine blk_alloc ?_ _)); exact BK249.out⟩, ⟨by (with_reducible repeat (first | refine blk_drewN ?_ _ | refine blk_drew ?_ | refine blk_alloc ?_ _)); exact BK252.out⟩, ⟨by repeat (first | (with_reducible first | exact HB.out | apply below_alloc | apply pw_below_drewN | apply below_drew1 | refine below_set ?_ GE249.out | refine below_set ?_ GE252.out) | exact HB.out)⟩⟩
           ·
            replace c18 := Bool.eq_false_iff.mpr c18
            subst c18
            replace H := (if_neg Bool.false_ne_true).symm.trans H
            by_cases c21 : (bt a0 x1_2) = 47
            ·
             rw [if_pos c21] at H
             have c21b0 : ((bt a0 x1_2) == 47) = true := beq_iff_eq.mpr c21
             have c21b1 : ((bt a0 x1_2) != 47) = false := bne_eq_false_iff_eq.mpr c21
             clear c21
             have H' := Aside0.mk H
             clear H
             have p20 : 0 ≤ (x1_2 : Int) := of_decide_eq_true (by first | (with_reducible assumption) | assumption)
             have q20 : x1_2 < (a0.size : Int) := of_decide_eq_true (by first | (with_reducible assumption) | assumption)
             have hx20 := bt_at a0 x1_2
             replace p20 := eq_true p20
             replace q20 := eq_true q20
             have p22 : 0 ≤ (x1_2 : Int) := of_decide_eq_true (by first | (with_reducible assumption) | assumption)
             have q22 : x1_2 < (a0.size : Int) := of_decide_eq_true (by first | (with_reducible assumption) | assumption)
             have hx22 := bt_at a0 x1_2
             replace p22 := eq_true p22
             replace q22 := eq_true q22
             go_wp2
             go_roundg k2
             case measure => have := HK1.out; have := HK2.out; omega
             case rel => exact ⟨(wrap64 (x1_2 + 1)), (((bt a0 x1_2) == 47)), (by first | rfl | (simp; done) | (simp [*]; done)), (by first | rfl | (simp; done) | (simp [*]; done)), H', ⟨by have := HK1.out; have := HK2.out; omega⟩, ⟨by (with_reducible repeat (first | apply Kd.R_alloc | apply Kd.R_drewN | apply Kd.R_drew)); exact HO_253002.out⟩, ⟨by (with_reducible repeat (first | refine blk_drewN ?_ _ | refine blk_drew ?_ | refine blk_alloc ?_ _)); exact BK249.out⟩, ⟨by (with_reducible repeat (first | refine blk_drewN ?_ _ | refine blk_drew ?_ | refine blk_alloc ?_ _)); exact BK252.out⟩, ⟨by repeat (first | (with_reducible first | exact HB.out | apply below_alloc | apply pw_below_drewN | apply below_drew1 | refine below_set ?_ GE249.out | refine below_set ?_ GE252.out) | exact HB.out)⟩⟩
            ·
             rw [if_neg c21] at H
             have c21b0 : ((bt a0 x1_2) == 47) = false := beq_eq_false_iff_ne.mpr c21
             have c21b1 : ((bt a0 x1_2) != 47) = true := bne_iff_ne.mpr c21
             have H' := Aside0.mk H
             clear H
             have p20 : 0 ≤ (x1_2 : Int) := of_decide_eq_true (by first | (with_reducible assumption) | assumption)
             have q20 : x1_2 < (a0.size : Int) := of_decide_eq_true (by first | (with_reducible assumption) | assumption)
             have hx20 := bt_at a0 x1_2
             replace p20 := eq_true p20
             replace q20 := eq_true q20
             go_wp2
             go_meet
             case rel => exact ⟨_, (x1_2), (x9_2), (by first | rfl | (simp; done) | (simp [*]; done)), (by first | rfl | (simp; done) | (simp [*]; done)), H', ⟨by have := HK1.out; have := HK2.out; first | omega | exact Nat.le_refl _⟩, ⟨by (with_reducible repeat (first | apply Kd.R_alloc | apply Kd.R_drewN | apply Kd.R_drew)); exact HO_253002.out⟩, ⟨by (with_reducible repeat (first | refine blk_drewN ?_ _ | refine blk_drew ?_ | refine blk_alloc ?_ _)); exact BK249.out⟩, ⟨by (with_reducible repeat (first | refine blk_drewN ?_ _ | refine blk_drew ?_ | refine blk_alloc ?_ _)); exact BK252.out⟩, ⟨by repeat (first | (with_reducible first | exact HB.out | apply below_alloc | apply pw_below_drewN | apply below_drew1 | refine below_set ?_ GE249.out | refine below_set ?_ GE252.out) | exact HB.out)⟩⟩
          ·
           rw [if_neg c15] at H
           exact absurd H (by simp)
         ·
          rw [if_neg c14] at H
          have c14b0 : decide (x1_2 < (a0.size : Int)) = false := decide_eq_false c14
          clear c14
          (first | rw [c14b0] | (simp only [i64_w, i32_w]; rw [c14b0]) | skip)
          have H' := Aside0.mk H
          clear H
          go_wp2
          go_meet
          case rel => exact ⟨_, (x1_2), (x9_2), (by first | rfl | (simp; done) | (simp [*]; done)), (by first | rfl | (simp; done) | (simp [*]; done)), H', ⟨by have := HK1.out; have := HK2.out; first | omega | exact Nat.le_refl _⟩, ⟨by (with_reducible repeat (first | apply Kd.R_alloc | apply Kd.R_drewN | apply Kd.R_drew)); exact HO_253002.out⟩, ⟨by (with_reducible repeat (first | refine blk_drewN ?_ _ | refine blk_drew ?_ | refine blk_alloc ?_ _)); exact BK249.out⟩, ⟨by (with_reducible repeat (first | refine blk_drewN ?_ _ | refine blk_drew ?_ | refine blk_alloc ?_ _)); exact BK252.out⟩, ⟨by repeat (first | (with_reducible first | exact HB.out | apply below_alloc | apply pw_below_drewN | apply below_drew1 | refine below_set ?_ GE249.out | refine below_set ?_ GE252.out) | exact HB.out)⟩⟩
      case rest =>
       clear HC13
       try clear c1
       try clear p1
       try clear q1
       try clear hx1
       try clear c2
       try clear p2
       try clear q2
       try clear hx2
       try clear c4
       try clear c4b0
       try clear c4b1
       try clear c5
       try clear c5b0
       try clear c5b1
       try clear c6
       try clear c6b0
       try clear c6b1
       try clear p6
       try clear c11
       try clear c14
       try clear c14b0
       try clear c15
       try clear c15b0
       try clear p16
       try clear q16
       try clear hx16
       try clear c18
       try clear p19
       try clear q19
       try clear hx19
       try clear p20
       try clear q20
       try clear hx20
       try clear c21
       try clear c21b0
       try clear c21b1
       try clear p22
       try clear q22
       try clear hx22
       try clear hcz12_0
       try clear hcz12_1
       try clear hcz12_2
       try clear hcz12_3
       try clear hcz12_4
       try clear hfz12_0
       try clear hfz12_1
       try clear hfz12_2
       try clear hfz12_3
       try clear hfz12_4
       try clear p16
       try clear p19
       try clear p2
       try clear p20
       try clear p22
       try clear q16
       try clear q19
       try clear q20
       try clear q22
       obtain ⟨kq, x1_12, x9_12, rfl, rfl, HA, HJ12, HO_253002, BK249, BK252, HB⟩ := hcut
       cases kq with
       | zero => exact absurd HA.out (by simp [marginaliaref04_tag.j2])
       | succ kj12 =>
        have H := HA.out
        clear HA
        simp only [marginaliaref04_tag.j2] at H
        by_cases c23 : x1_12 ≥ (a0.size : Int)
        ·
         rw [if_pos c23] at H
         have c23b0 : decide ((a0.size : Int) ≤ x1_12) = true := decide_eq_true c23
         clear c23
         simp only [Option.some.injEq, Prod.mk.injEq] at H
         obtain ⟨rfl, rfl, rfl, rfl, rfl, rfl, rfl⟩ := H
         have hnb24 := NB249_252.out
         have hnc24 := NB252_249.out
         have hcz25_0 : wc.cell? ⟨gb249, 0, none⟩ = some (.int .i64 x250000_1) := (blk_cell BK249.out 0).trans rfl
         have hcz25_1 : wc.cell? ⟨gb249, 1, none⟩ = some (.string x250001_1) := (blk_cell BK249.out 1).trans rfl
         have hcz25_2 : wc.cell? ⟨gb249, 2, none⟩ = some (.slice none 0 0) := (blk_cell BK249.out 2).trans rfl
         have hcz25_3 : wc.cell? ⟨gb249, 3, none⟩ = some (.bool x250003_1) := (blk_cell BK249.out 3).trans rfl
         have hcz25_4 : wc.cell? ⟨gb249, 4, none⟩ = some (.string x250004_1) := (blk_cell BK249.out 4).trans rfl
         have hfz25_0 := blk_frozen BK249.out 0
         have hfz25_1 := blk_frozen BK249.out 1
         have hfz25_2 := blk_frozen BK249.out 2
         have hfz25_3 := blk_frozen BK249.out 3
         have hfz25_4 := blk_frozen BK249.out 4
         go_wp2
         refine bodyPost_ret (results_ctt rfl _ _ gb249 29 #[.int .i64 0, .string (⟨#[]⟩ : ByteArray), .slice none 0 0, .bool false, .string (⟨#[]⟩ : ByteArray)] (0, 0) _ rfl (by (with_reducible repeat (first | refine blk_drewN ?_ _ | refine blk_drew ?_ | refine blk_alloc ?_ _)); refine blk_put (cs := #[.int .i64 0, .string (⟨#[]⟩ : ByteArray), .slice none 0 0, .bool false, .string x250004_1]) ?_ 4 _ rfl; (with_reducible repeat (first | refine blk_drewN ?_ _ | refine blk_drew ?_ | refine blk_alloc ?_ _)); refine blk_put (cs := #[.int .i64 0, .string (⟨#[]⟩ : ByteArray), .slice none 0 0, .bool x250003_1, .string x250004_1]) ?_ 3 _ rfl; (with_reducible repeat (first | refine blk_drewN ?_ _ | refine blk_drew ?_ | refine blk_alloc ?_ _)); refine blk_put (cs := #[.int .i64 0, .string (⟨#[]⟩ : ByteArray), .slice none 0 0, .bool x250003_1, .string x250004_1]) ?_ 2 _ rfl; (with_reducible repeat (first | refine blk_drewN ?_ _ | refine blk_drew ?_ | refine blk_alloc ?_ _)); refine blk_put (cs := #[.int .i64 0, .string x250001_1, .slice none 0 0, .bool x250003_1, .string x250004_1]) ?_ 1 _ rfl; (with_reducible repeat (first | refine blk_drewN ?_ _ | refine blk_drew ?_ | refine blk_alloc ?_ _)); refine blk_put (cs := #[.int .i64 x250000_1, .string x250001_1, .slice none 0 0, .bool x250003_1, .string x250004_1]) ?_ 0 _ rfl; (with_reducible repeat (first | refine blk_drewN ?_ _ | refine blk_drew ?_ | refine blk_alloc ?_ _)); exact BK249.out) Try.underlying29 rfl (by kernel_rfl)) rfl ?_
         exact ⟨_, by first | rfl | (simp [errW_none, errW_some] <;> rfl) | (simp [*, errW_none, errW_some] <;> rfl), by first | exact Kd.R_nil _ _ _ _ _ | exact Kd.N_nil _ _ _ _ _ | exact Kd.V_nil _ _ _ _ _ | exact Kd.Q_nil _ _ _ _ _ | exact Kd.S_nil _ _ _ _ _, by repeat (first | (with_reducible first | exact HB.out | apply below_alloc | apply pw_below_drewN | apply below_drew1 | refine below_set ?_ GE249.out | refine below_set ?_ GE252.out) | exact HB.out)⟩
        ·
         rw [if_neg c23] at H
         have c23b0 : decide ((a0.size : Int) ≤ x1_12) = false := decide_eq_false c23
         clear c23
         by_cases c26 : 0 ≤ x1_12
         ·
          rw [if_pos c26] at H
          have c26b0 : decide (0 ≤ x1_12) = true := decide_eq_true c26
          clear c26
          by_cases c27 : x1_12 < (a0.size : Int)
          ·
           rw [if_pos c27] at H
           have c27b0 : decide (x1_12 < (a0.size : Int)) = true := decide_eq_true c27
           clear c27
           by_cases c29 : (bt a0 x1_12) = 62
           ·
            rw [if_pos c29] at H
            have c29b0 : ((bt a0 x1_12) == 62) = true := beq_iff_eq.mpr c29
            have c29b1 : ((bt a0 x1_12) != 62) = false := bne_eq_false_iff_eq.mpr c29
            clear c29
            simp only [Option.some.injEq, Prod.mk.injEq] at H
            obtain ⟨rfl, rfl, rfl, rfl, rfl, rfl, rfl⟩ := H
            have p28 : 0 ≤ (x1_12 : Int) := of_decide_eq_true (by first | (with_reducible assumption) | assumption)
            have q28 : x1_12 < (a0.size : Int) := of_decide_eq_true (by first | (with_reducible assumption) | assumption)
            have hx28 := bt_at a0 x1_12
            replace p28 := eq_true p28
            replace q28 := eq_true q28
            have hnb30 := NB252_249.out
            have hnc30 := NB249_252.out
            have hcz31_0 : wc.cell? ⟨gb252, 0, none⟩ = some (.int .i64 0) := (blk_cell BK252.out 0).trans rfl
            have hcz31_1 : wc.cell? ⟨gb252, 1, none⟩ = some (.string t251) := (blk_cell BK252.out 1).trans rfl
            have hcz31_2 : wc.cell? ⟨gb252, 2, none⟩ = some (u253002) := (blk_cell BK252.out 2).trans rfl
            have hcz31_3 : wc.cell? ⟨gb252, 3, none⟩ = some (.bool x253003_1) := (blk_cell BK252.out 3).trans rfl
            have hcz31_4 : wc.cell? ⟨gb252, 4, none⟩ = some (.string (⟨#[]⟩ : ByteArray)) := (blk_cell BK252.out 4).trans rfl
            have hfz31_0 := blk_frozen BK252.out 0
            have hfz31_1 := blk_frozen BK252.out 1
            have hfz31_2 := blk_frozen BK252.out 2
            have hfz31_3 := blk_frozen BK252.out 3
            have hfz31_4 := blk_frozen BK252.out 4
            have hcz32_0 : wc.cell? ⟨gb249, 0, none⟩ = some (.int .i64 x250000_1) := (blk_cell BK249.out 0).trans rfl
            have hcz32_1 : wc.cell? ⟨gb249, 1, none⟩ = some (.string x250001_1) := (blk_cell BK249.out 1).trans rfl
            have hcz32_2 : wc.cell? ⟨gb249, 2, none⟩ = some (.slice none 0 0) := (blk_cell BK249.out 2).trans rfl
            have hcz32_3 : wc.cell? ⟨gb249, 3, none⟩ = some (.bool x250003_1) := (blk_cell BK249.out 3).trans rfl
            have hcz32_4 : wc.cell? ⟨gb249, 4, none⟩ = some (.string x250004_1) := (blk_cell BK249.out 4).trans rfl
            have hfz32_0 := blk_frozen BK249.out 0
            have hfz32_1 := blk_frozen BK249.out 1
            have hfz32_2 := blk_frozen BK249.out 2
            have hfz32_3 := blk_frozen BK249.out 3
            have hfz32_4 := blk_frozen BK249.out 4
            obtain ⟨Ao33, co33, eo33⟩ := Kd.R_slice HO_253002.out
            subst eo33
            go_wp2
            refine bodyPost_ret (results_ctt rfl _ _ gb249 29 #[.int .i64 0, .string t251, .slice Ao33 x253002_1.length co33, .bool x9_12, .string (⟨#[]⟩ : ByteArray)] (0, 0) _ rfl (by (with_reducible repeat (first | refine blk_drewN ?_ _ | refine blk_drew ?_ | refine blk_alloc ?_ _)); refine blk_put (cs := #[.int .i64 0, .string t251, .slice Ao33 x253002_1.length co33, .bool x9_12, .string x250004_1]) ?_ 4 _ rfl; (with_reducible repeat (first | refine blk_drewN ?_ _ | refine blk_drew ?_ | refine blk_alloc ?_ _)); refine blk_put (cs := #[.int .i64 0, .string t251, .slice Ao33 x253002_1.length co33, .bool x250003_1, .string x250004_1]) ?_ 3 _ rfl; (with_reducible repeat (first | refine blk_drewN ?_ _ | refine blk_drew ?_ | refine blk_alloc ?_ _)); refine blk_put (cs := #[.int .i64 0, .string t251, .slice none 0 0, .bool x250003_1, .string x250004_1]) ?_ 2 _ rfl; (with_reducible repeat (first | refine blk_drewN ?_ _ | refine blk_drew ?_ | refine blk_alloc ?_ _)); refine blk_put (cs := #[.int .i64 0, .string x250001_1, .slice none 0 0, .bool x250003_1, .string x250004_1]) ?_ 1 _ rfl; (with_reducible repeat (first | refine blk_drewN ?_ _ | refine blk_drew ?_ | refine blk_alloc ?_ _)); refine blk_put (cs := #[.int .i64 x250000_1, .string x250001_1, .slice none 0 0, .bool x250003_1, .string x250004_1]) ?_ 0 _ rfl; (with_reducible repeat (first | refine blk_drewN ?_ _ | refine blk_drew ?_ | refine blk_alloc ?_ _)); refine blk_far ?_ NB249_252.out _; (with_reducible repeat (first | refine blk_drewN ?_ _ | refine blk_drew ?_ | refine blk_alloc ?_ _)); exact BK249.out) Try.underlying29 rfl (by kernel_rfl)) rfl ?_
            exact ⟨_, by first | rfl | (simp [errW_none, errW_some] <;> rfl) | (simp [*, errW_none, errW_some] <;> rfl), by (with_reducible repeat (first | apply Kd.R_alloc | apply Kd.R_drewN | apply Kd.R_drew)); exact Kd.R_mono (Kd.R_far (p := ⟨gb249, 4, none⟩) (Kd.R_far (p := ⟨gb249, 3, none⟩) (Kd.R_far (p := ⟨gb249, 2, none⟩) (Kd.R_far (p := ⟨gb249, 1, none⟩) (Kd.R_far (p := ⟨gb249, 0, none⟩) (Kd.R_far (p := ⟨gb252, 3, none⟩) (Kd.R_types (Kd.R_types HO_253002.out BK252.out (by decide)) BK249.out (by decide)) (fun _ hk => hk.1.2) (.bool x9_12)) (fun _ hk => hk.2) (.int .i64 0)) (fun _ hk => hk.2) (.string t251)) (fun _ hk => hk.2) (.slice Ao33 x253002_1.length co33)) (fun _ hk => hk.2) (.bool x9_12)) (fun _ hk => hk.2) (.string (⟨#[]⟩ : ByteArray))) (fun _ hk => trivial), by repeat (first | (with_reducible first | exact HB.out | apply below_alloc | apply pw_below_drewN | apply below_drew1 | refine below_set ?_ GE249.out | refine below_set ?_ GE252.out) | exact HB.out)⟩
           ·
            rw [if_neg c29] at H
            have c29b0 : ((bt a0 x1_12) == 62) = false := beq_eq_false_iff_ne.mpr c29
            have c29b1 : ((bt a0 x1_12) != 62) = true := bne_iff_ne.mpr c29
            replace H := Option.bind_eq_some_iff.mp H
            obtain ⟨t254, A340, H⟩ := H
            try dsimp only at H
            have A34 := Aside0.mk A340
            clear A340
            have p28 : 0 ≤ (x1_12 : Int) := of_decide_eq_true (by first | (with_reducible assumption) | assumption)
            have q28 : x1_12 < (a0.size : Int) := of_decide_eq_true (by first | (with_reducible assumption) | assumption)
            have hx28 := bt_at a0 x1_12
            replace p28 := eq_true p28
            replace q28 := eq_true q28
            go_wp2_with fail
            (with_reducible refine (marginaliaref04_upTo.calls kj12 a0 (wrap64 (x1_12 + 1)) (⟨#[47, 62, 61]⟩ : ByteArray) t254 _ A34.out).mono ?_)
            rintro e w' ⟨rfl, ⟨nd, rfl⟩⟩
            (try (rw [drewN_self wc]; generalize hq_ : World.drewN wc _ = wc; have n0_ : Aside0 (Kd.R k41 41 wc w.heap.size (fun _ => True) u253002 x253002_1) := ⟨by rw [← hq_]; exact (by (with_reducible repeat (first | apply Kd.R_alloc | apply Kd.R_drewN | apply Kd.R_drew)); exact HO_253002.out)⟩; have n1_ : Aside0 (wc.heap[gb249]? = some (.cells #[.int .i64 x250000_1, .string x250001_1, .slice none 0 0, .bool x250003_1, .string x250004_1] 29 (0, 0))) := ⟨by rw [← hq_]; exact (by (with_reducible repeat (first | refine blk_drewN ?_ _ | refine blk_drew ?_ | refine blk_alloc ?_ _)); exact BK249.out)⟩; have n2_ : Aside0 (wc.heap[gb252]? = some (.cells #[.int .i64 0, .string t251, u253002, .bool x253003_1, .string (⟨#[]⟩ : ByteArray)] 29 (0, 0))) := ⟨by rw [← hq_]; exact (by (with_reducible repeat (first | refine blk_drewN ?_ _ | refine blk_drew ?_ | refine blk_alloc ?_ _)); exact BK252.out)⟩; have n3_ : Aside0 (Below w.heap.size w wc) := ⟨by rw [← hq_]; exact (by repeat (first | (with_reducible first | exact HB.out | apply below_alloc | apply pw_below_drewN | apply below_drew1 | refine below_set ?_ GE249.out | refine below_set ?_ GE252.out) | exact HB.out))⟩; clear HO_253002 BK249 BK252 HB hq_; have HO_253002 := n0_; have BK249 := n1_; have BK252 := n2_; have HB := n3_; clear n0_ n1_ n2_ n3_))
            have c35b0 := eq_true (of_decide_eq_true (by first | (with_reducible assumption) | assumption) : 0 ≤ x1_12)
            by_cases c36 : x1_12 ≤ t254
            ·
             rw [if_pos c36] at H
             have c36b0 := eq_true c36
             have c36b1 : decide (x1_12 ≤ t254) = true := decide_eq_true c36
             clear c36
             by_cases c37 : t254 ≤ (a0.size : Int)
             ·
              rw [if_pos c37] at H
              have c37b0 := eq_true c37
              have c37b1 : decide (t254 ≤ (a0.size : Int)) = true := decide_eq_true c37
              clear c37
              replace H := Option.bind_eq_some_iff.mp H
              obtain ⟨t255, A380, H⟩ := H
              try dsimp only at H
              have A38 := Aside0.mk A380
              clear A380
              go_wp2_with fail
              (with_reducible refine (marginaliaref02_Lower.calls kj12 (a0.extract (x1_12 : Int).toNat (t254 : Int).toNat) t255 _ A38.out).mono ?_)
              rintro e w41 ⟨rfl, hb⟩
              have n0_ := Aside0.mk (Kd.R_below (by (with_reducible repeat (first | apply Kd.R_alloc | apply Kd.R_drewN | apply Kd.R_drew)); exact HO_253002.out) hb)
              have n1_ := Aside0.mk (blk_below (g := gb249) (o := .cells #[.int .i64 x250000_1, .string x250001_1, .slice none 0 0, .bool x250003_1, .string x250004_1] 29 (0, 0)) (by (with_reducible repeat (first | refine blk_drewN ?_ _ | refine blk_drew ?_ | refine blk_alloc ?_ _)); exact BK249.out) hb)
              have n2_ := Aside0.mk (blk_below (g := gb252) (o := .cells #[.int .i64 0, .string t251, u253002, .bool x253003_1, .string (⟨#[]⟩ : ByteArray)] 29 (0, 0)) (by (with_reducible repeat (first | refine blk_drewN ?_ _ | refine blk_drew ?_ | refine blk_alloc ?_ _)); exact BK252.out) hb)
              have n3_ := Aside0.mk (below_step (by repeat (first | (with_reducible first | exact HB.out | apply below_alloc | apply pw_below_drewN | apply below_drew1 | refine below_set ?_ GE249.out | refine below_set ?_ GE252.out) | exact HB.out)) hb)
              clear HO_253002
              clear BK249
              clear BK252
              clear HB
              have HO_253002 := n0_
              have BK249 := n1_
              have BK252 := n2_
              have HB := n3_
              clear n0_ n1_ n2_ n3_
              (try clear hb)
              (try clear hb2)
              (try clear hk)
              (try clear hi)
              replace H := Option.bind_eq_some_iff.mp H
              obtain ⟨t257, A390, H⟩ := H
              try dsimp only at H
              have A39 := Aside0.mk A390
              clear A390
              go_wp2_with (first | ((with_reducible refine gate_dst (N := 10) rfl ?_); refine box_event ?hg (N := 10) ?hd (cs := #[.string (⟨#[]⟩ : ByteArray), .string (⟨#[]⟩ : ByteArray)]) (t := 41) ?hr ?_; (case hd => rfl); (case hg => rfl); (case hr => first | (go_simp; done) | (go_simp; rfl)); intro gb256 hg w42 hbox hb; have n0_ := Aside0.mk (Kd.R_below (Kd.R_elderB (by (with_reducible repeat (first | apply Kd.R_alloc | apply Kd.R_drewN | apply Kd.R_drew)); exact HO_253002.out) gb256 (Nat.le_of_eq hg.symm)) hb); have n1_ := Aside0.mk (blk_below (g := gb249) (o := .cells #[.int .i64 x250000_1, .string x250001_1, .slice none 0 0, .bool x250003_1, .string x250004_1] 29 (0, 0)) (by (with_reducible repeat (first | refine blk_drewN ?_ _ | refine blk_drew ?_ | refine blk_alloc ?_ _)); exact BK249.out) hb); have n2_ := Aside0.mk (blk_below (g := gb252) (o := .cells #[.int .i64 0, .string t251, u253002, .bool x253003_1, .string (⟨#[]⟩ : ByteArray)] 29 (0, 0)) (by (with_reducible repeat (first | refine blk_drewN ?_ _ | refine blk_drew ?_ | refine blk_alloc ?_ _)); exact BK252.out) hb); have n3_ := Aside0.mk (below_step (by repeat (first | (with_reducible first | exact HB.out | apply below_alloc | apply pw_below_drewN | apply below_drew1 | refine below_set ?_ GE249.out | refine below_set ?_ GE252.out) | exact HB.out)) hb); have n4_ := Aside0.mk (hbox); have n5_ := Aside0.mk ((by rw [hg]; exact (below_size (by repeat (first | (with_reducible first | exact HB.out | apply below_alloc | apply pw_below_drewN | apply below_drew1 | refine below_set ?_ GE249.out | refine below_set ?_ GE252.out) | exact HB.out))) : w.heap.size ≤ gb256)); have n6_ := Aside0.mk ((by rw [hg]; exact (below_size (by repeat (first | (with_reducible first | exact HB.out | apply below_alloc | apply pw_below_drewN | apply below_drew1 | refine below_set ?_ GE249.out | refine below_set ?_ GE252.out) | exact HB.out))) : w.heap.size ≤ gb256)); have n7_ := Aside0.mk ((by rw [hg]; exact Nat.ne_of_lt (blk_lt (g := gb249) (o := .cells #[.int .i64 x250000_1, .string x250001_1, .slice none 0 0, .bool x250003_1, .string x250004_1] 29 (0, 0)) (by (with_reducible repeat (first | refine blk_drewN ?_ _ | refine blk_drew ?_ | refine blk_alloc ?_ _)); exact BK249.out)) : gb249 ≠ gb256)); have n8_ := Aside0.mk ((by rw [hg]; exact Nat.ne_of_gt (blk_lt (g := gb249) (o := .cells #[.int .i64 x250000_1, .string x250001_1, .slice none 0 0, .bool x250003_1, .string x250004_1] 29 (0, 0)) (by (with_reducible repeat (first | refine blk_drewN ?_ _ | refine blk_drew ?_ | refine blk_alloc ?_ _)); exact BK249.out)) : gb256 ≠ gb249)); have n9_ := Aside0.mk ((by rw [hg]; exact Nat.ne_of_lt (blk_lt (g := gb252) (o := .cells #[.int .i64 0, .string t251, u253002, .bool x253003_1, .string (⟨#[]⟩ : ByteArray)] 29 (0, 0)) (by (with_reducible repeat (first | refine blk_drewN ?_ _ | refine blk_drew ?_ | refine blk_alloc ?_ _)); exact BK252.out)) : gb252 ≠ gb256)); have n10_ := Aside0.mk ((by rw [hg]; exact Nat.ne_of_gt (blk_lt (g := gb252) (o := .cells #[.int .i64 0, .string t251, u253002, .bool x253003_1, .string (⟨#[]⟩ : ByteArray)] 29 (0, 0)) (by (with_reducible repeat (first | refine blk_drewN ?_ _ | refine blk_drew ?_ | refine blk_alloc ?_ _)); exact BK252.out)) : gb256 ≠ gb252)); clear HO_253002; clear BK249; clear BK252; clear HB; have HO_253002 := n0_; have BK249 := n1_; have BK252 := n2_; have HB := n3_; have BK256 := n4_; have GW256 := n5_; have GE256 := n6_; have NB249_256 := n7_; have NB256_249 := n8_; have NB252_256 := n9_; have NB256_252 := n10_; clear n0_ n1_ n2_ n3_ n4_ n5_ n6_ n7_ n8_ n9_ n10_; clear hb hbox hg; have hnb43 := NB256_249.out; have hnc43 := NB249_256.out; have hnb44 := NB256_252.out; have hnc44 := NB252_256.out; have hcz45_0 : w42.cell? ⟨gb256, 0, none⟩ = some (.string (⟨#[]⟩ : ByteArray)) := (blk_cell BK256.out 0).trans rfl; have hcz45_1 : w42.cell? ⟨gb256, 1, none⟩ = some (.string (⟨#[]⟩ : ByteArray)) := (blk_cell BK256.out 1).trans rfl; have hfz45_0 := blk_frozen BK256.out 0; have hfz45_1 := blk_frozen BK256.out 1))
              (with_reducible refine (marginaliaref04_space.calls kj12 a0 t254 t257 _ A39.out).mono ?_)
              rintro e w' ⟨rfl, ⟨nd, rfl⟩⟩
              have HC40 := Aside0.mk H
              clear H
              go_upto_region 16 with fail
              (try simp only [Act.put, List.setIfInBounds_toArray, List.set_cons_zero, List.set_cons_succ])
              go_cut [83] (fun v83 wc => ∃ (kq : Nat) (x83_39 : Bool), v83 = .bool x83_39 ∧ Aside0 (marginaliaref04_tag.j3 kq a0 t257 x83_39 0 t251 x253002_1 x253003_1 (⟨#[]⟩ : ByteArray) t255 (⟨#[]⟩ : ByteArray) = some (r1, r2, r3, r4, r5, r6, r7)) ∧ Aside0 (kq ≤ kj12) ∧ Aside0 (Kd.R k41 41 wc w.heap.size (fun k_ => k_ ≠ gb256) u253002 x253002_1) ∧ Aside0 (wc.heap[gb249]? = some (.cells #[.int .i64 x250000_1, .string x250001_1, (.slice none 0 0), .bool x250003_1, .string x250004_1] 29 (0, 0))) ∧ Aside0 (wc.heap[gb252]? = some (.cells #[.int .i64 0, .string t251, u253002, .bool x253003_1, .string (⟨#[]⟩ : ByteArray)] 29 (0, 0))) ∧ Aside0 (wc.heap[gb256]? = some (.cells #[.string t255, .string (⟨#[]⟩ : ByteArray)] 41 (0, 0))) ∧ Aside0 (Below w.heap.size w wc))
              case first =>
               have H := HC40.out
               clear HC40
               by_cases c46 : t257 < (a0.size : Int)
               ·
                rw [if_pos c46] at H
                have c46b0 : decide (t257 < (a0.size : Int)) = true := decide_eq_true c46
                clear c46
                (first | rw [c46b0] | (simp only [i64_w, i32_w]; rw [c46b0]) | skip)
                by_cases c47 : 0 ≤ t257
                ·
                 rw [if_pos c47] at H
                 have c47b0 : decide (0 ≤ t257) = true := decide_eq_true c47
                 clear c47
                 have H' := Aside0.mk H
                 clear H
                 have p48 : 0 ≤ (t257 : Int) := of_decide_eq_true (by first | (with_reducible assumption) | assumption)
                 have q48 : t257 < (a0.size : Int) := of_decide_eq_true (by first | (with_reducible assumption) | assumption)
                 have hx48 := bt_at a0 t257
                 replace p48 := eq_true p48
                 replace q48 := eq_true q48
                 go_wp2
                 go_meet
                 case rel => exact ⟨_, (((bt a0 t257) == 61)), (by first | rfl | (simp; done) | (simp [*]; done)), H', ⟨by have := HK1.out; have := HJ12.out; first | omega | exact Nat.le_refl _⟩, ⟨by (with_reducible repeat (first | apply Kd.R_alloc | apply Kd.R_drewN | apply Kd.R_drew)); exact Kd.R_mono (Kd.R_far (p := ⟨gb256, 1, none⟩) (Kd.R_far (p := ⟨gb256, 0, none⟩) (Kd.R_mono HO_253002.out (fun k_ hk => (⟨hk, hk.2⟩ : _ ∧ k_ ≠ gb256))) (fun _ hk => hk.2) (.string t255)) (fun _ hk => hk.2) (.string (⟨#[]⟩ : ByteArray))) (fun _ hk => hk.1.2)⟩, ⟨by (with_reducible repeat (first | refine blk_drewN ?_ _ | refine blk_drew ?_ | refine blk_alloc ?_ _)); refine blk_far ?_ NB249_256.out _; (with_reducible repeat (first | refine blk_drewN ?_ _ | refine blk_drew ?_ | refine blk_alloc ?_ _)); refine blk_far ?_ NB249_256.out _; (with_reducible repeat (first | refine blk_drewN ?_ _ | refine blk_drew ?_ | refine blk_alloc ?_ _)); exact BK249.out⟩, ⟨by (with_reducible repeat (first | refine blk_drewN ?_ _ | refine blk_drew ?_ | refine blk_alloc ?_ _)); refine blk_far ?_ NB252_256.out _; (with_reducible repeat (first | refine blk_drewN ?_ _ | refine blk_drew ?_ | refine blk_alloc ?_ _)); refine blk_far ?_ NB252_256.out _; (with_reducible repeat (first | refine blk_drewN ?_ _ | refine blk_drew ?_ | refine blk_alloc ?_ _)); exact BK252.out⟩, ⟨by (with_reducible repeat (first | refine blk_drewN ?_ _ | refine blk_drew ?_ | refine blk_alloc ?_ _)); refine blk_put (cs := #[.string t255, .string (⟨#[]⟩ : ByteArray)]) ?_ 1 _ rfl; (with_reducible repeat (first | refine blk_drewN ?_ _ | refine blk_drew ?_ | refine blk_alloc ?_ _)); refine blk_put (cs := #[.string (⟨#[]⟩ : ByteArray), .string (⟨#[]⟩ : ByteArray)]) ?_ 0 _ rfl; (with_reducible repeat (first | refine blk_drewN ?_ _ | refine blk_drew ?_ | refine blk_alloc ?_ _)); exact BK256.out⟩, ⟨by repeat (first | (with_reducible first | exact HB.out | apply below_alloc | apply pw_below_drewN | apply below_drew1 | refine below_set ?_ GE249.out | refine below_set ?_ GE252.out | refine below_set ?_ GE256.out) | exact HB.out)⟩⟩
                ·
                 rw [if_neg c47] at H
                 exact absurd H (by simp)
               ·
                rw [if_neg c46] at H
                have c46b0 : decide (t257 < (a0.size : Int)) = false := decide_eq_false c46
                clear c46
                (first | rw [c46b0] | (simp only [i64_w, i32_w]; rw [c46b0]) | skip)
                have H' := Aside0.mk H
                clear H
                go_wp2
                go_meet
                case rel => exact ⟨_, (false), (by first | rfl | (simp; done) | (simp [*]; done)), H', ⟨by have := HK1.out; have := HJ12.out; first | omega | exact Nat.le_refl _⟩, ⟨by (with_reducible repeat (first | apply Kd.R_alloc | apply Kd.R_drewN | apply Kd.R_drew)); exact Kd.R_mono (Kd.R_far (p := ⟨gb256, 1, none⟩) (Kd.R_far (p := ⟨gb256, 0, none⟩) (Kd.R_mono HO_253002.out (fun k_ hk => (⟨hk, hk.2⟩ : _ ∧ k_ ≠ gb256))) (fun _ hk => hk.2) (.string t255)) (fun _ hk => hk.2) (.string (⟨#[]⟩ : ByteArray))) (fun _ hk => hk.1.2)⟩, ⟨by (with_reducible repeat (first | refine blk_drewN ?_ _ | refine blk_drew ?_ | refine blk_alloc ?_ _)); refine blk_far ?_ NB249_256.out _; (with_reducible repeat (first | refine blk_drewN ?_ _ | refine blk_drew ?_ | refine blk_alloc ?_ _)); refine blk_far ?_ NB249_256.out _; (with_reducible repeat (first | refine blk_drewN ?_ _ | refine blk_drew ?_ | refine blk_alloc ?_ _)); exact BK249.out⟩, ⟨by (with_reducible repeat (first | refine blk_drewN ?_ _ | refine blk_drew ?_ | refine blk_alloc ?_ _)); refine blk_far ?_ NB252_256.out _; (with_reducible repeat (first | refine blk_drewN ?_ _ | refine blk_drew ?_ | refine blk_alloc ?_ _)); refine blk_far ?_ NB252_256.out _; (with_reducible repeat (first | refine blk_drewN ?_ _ | refine blk_drew ?_ | refine blk_alloc ?_ _)); exact BK252.out⟩, ⟨by (with_reducible repeat (first | refine blk_drewN ?_ _ | refine blk_drew ?_ | refine blk_alloc ?_ _)); refine blk_put (cs := #[.string t255, .string (⟨#[]⟩ : ByteArray)]) ?_ 1 _ rfl; (with_reducible repeat (first | refine blk_drewN ?_ _ | refine blk_drew ?_ | refine blk_alloc ?_ _)); refine blk_put (cs := #[.string (⟨#[]⟩ : ByteArray), .string (⟨#[]⟩ : ByteArray)]) ?_ 0 _ rfl; (with_reducible repeat (first | refine blk_drewN ?_ _ | refine blk_drew ?_ | refine blk_alloc ?_ _)); exact BK256.out⟩, ⟨by repeat (first | (with_reducible first | exact HB.out | apply below_alloc | apply pw_below_drewN | apply below_drew1 | refine below_set ?_ GE249.out | refine below_set ?_ GE252.out | refine below_set ?_ GE256.out) | exact HB.out)⟩⟩
              case rest =>
               clear HC40
               try clear c1
               try clear p1
               try clear q1
               try clear hx1
               try clear c2
               try clear p2
               try clear q2
               try clear hx2
               try clear c3
               try clear c4
               try clear c4b0
               try clear c4b1
               try clear p4
               try clear q4
               try clear hx4
               try clear c5
               try clear c5b0
               try clear c5b1
               try clear c6
               try clear c6b0
               try clear c6b1
               try clear p6
               try clear c7
               try clear c11
               try clear c14
               try clear c14b0
               try clear c15
               try clear c15b0
               try clear p16
               try clear q16
               try clear hx16
               try clear c18
               try clear p19
               try clear q19
               try clear hx19
               try clear p20
               try clear q20
               try clear hx20
               try clear c21
               try clear c21b0
               try clear c21b1
               try clear p22
               try clear q22
               try clear hx22
               try clear c23
               try clear c23b0
               try clear c24
               try clear c26
               try clear c26b0
               try clear c27
               try clear c27b0
               try clear p28
               try clear q28
               try clear hx28
               try clear c29
               try clear c29b0
               try clear c29b1
               try clear c30
               try clear c35
               try clear c35b0
               try clear c36
               try clear c36b0
               try clear c36b1
               try clear c37
               try clear c37b0
               try clear c37b1
               try clear c43
               try clear c44
               try clear c46
               try clear c46b0
               try clear c47
               try clear c47b0
               try clear p48
               try clear q48
               try clear hx48
               try clear hcz12_0
               try clear hcz12_1
               try clear hcz12_2
               try clear hcz12_3
               try clear hcz12_4
               try clear hcz25_0
               try clear hcz25_1
               try clear hcz25_2
               try clear hcz25_3
               try clear hcz25_4
               try clear hcz31_0
               try clear hcz31_1
               try clear hcz31_2
               try clear hcz31_3
               try clear hcz31_4
               try clear hcz32_0
               try clear hcz32_1
               try clear hcz32_2
               try clear hcz32_3
               try clear hcz32_4
               try clear hcz45_0
               try clear hcz45_1
               try clear hfz12_0
               try clear hfz12_1
               try clear hfz12_2
               try clear hfz12_3
               try clear hfz12_4
               try clear hfz25_0
               try clear hfz25_1
               try clear hfz25_2
               try clear hfz25_3
               try clear hfz25_4
               try clear hfz31_0
               try clear hfz31_1
               try clear hfz31_2
               try clear hfz31_3
               try clear hfz31_4
               try clear hfz32_0
               try clear hfz32_1
               try clear hfz32_2
               try clear hfz32_3
               try clear hfz32_4
               try clear hfz45_0
               try clear hfz45_1
               try clear p1
               try clear p16
               try clear p19
               try clear p2
               try clear p20
               try clear p22
               try clear p28
               try clear p48
               try clear p6
               try clear q1
               try clear q16
               try clear q19
               try clear q2
               try clear q20
               try clear q22
               try clear q28
               try clear q48
               obtain ⟨kq, x83_39, rfl, HA, HJ39, HO_253002, BK249, BK252, BK256, HB⟩ := hcut
               cases kq with
               | zero => exact absurd HA.out (by simp [marginaliaref04_tag.j3])
               | succ kj39 =>
                have H := HA.out
                clear HA
                simp only [marginaliaref04_tag.j3] at H
                by_cases c49 : x83_39 = true
                ·
                 subst c49
                 replace H := (if_pos rfl).symm.trans H
                 replace H := Option.bind_eq_some_iff.mp H
                 obtain ⟨t258, A500, H⟩ := H
                 try dsimp only at H
                 have A50 := Aside0.mk A500
                 clear A500
                 go_wp2_with fail
                 (with_reducible refine (marginaliaref04_space.calls kj39 a0 (wrap64 (t257 + 1)) t258 _ A50.out).mono ?_)
                 rintro e w' ⟨rfl, ⟨nd, rfl⟩⟩
                 (try (rw [drewN_self wc]; generalize hq_ : World.drewN wc _ = wc; have n0_ : Aside0 (Kd.R k41 41 wc w.heap.size (fun k_ => k_ ≠ gb256) u253002 x253002_1) := ⟨by rw [← hq_]; exact (by (with_reducible repeat (first | apply Kd.R_alloc | apply Kd.R_drewN | apply Kd.R_drew)); exact HO_253002.out)⟩; have n1_ : Aside0 (wc.heap[gb249]? = some (.cells #[.int .i64 x250000_1, .string x250001_1, .slice none 0 0, .bool x250003_1, .string x250004_1] 29 (0, 0))) := ⟨by rw [← hq_]; exact (by (with_reducible repeat (first | refine blk_drewN ?_ _ | refine blk_drew ?_ | refine blk_alloc ?_ _)); exact BK249.out)⟩; have n2_ : Aside0 (wc.heap[gb252]? = some (.cells #[.int .i64 0, .string t251, u253002, .bool x253003_1, .string (⟨#[]⟩ : ByteArray)] 29 (0, 0))) := ⟨by rw [← hq_]; exact (by (with_reducible repeat (first | refine blk_drewN ?_ _ | refine blk_drew ?_ | refine blk_alloc ?_ _)); exact BK252.out)⟩; have n3_ : Aside0 (wc.heap[gb256]? = some (.cells #[.string t255, .string (⟨#[]⟩ : ByteArray)] 41 (0, 0))) := ⟨by rw [← hq_]; exact (by (with_reducible repeat (first | refine blk_drewN ?_ _ | refine blk_drew ?_ | refine blk_alloc ?_ _)); exact BK256.out)⟩; have n4_ : Aside0 (Below w.heap.size w wc) := ⟨by rw [← hq_]; exact (by repeat (first | (with_reducible first | exact HB.out | apply below_alloc | apply pw_below_drewN | apply below_drew1 | refine below_set ?_ GE249.out | refine below_set ?_ GE252.out | refine below_set ?_ GE256.out) | exact HB.out))⟩; clear HO_253002 BK249 BK252 BK256 HB hq_; have HO_253002 := n0_; have BK249 := n1_; have BK252 := n2_; have BK256 := n3_; have HB := n4_; clear n0_ n1_ n2_ n3_ n4_))
                 replace H := Option.bind_eq_some_iff.mp H
                 obtain ⟨⟨t259, t260⟩, A510, H⟩ := H
                 try dsimp only at H
                 have A51 := Aside0.mk A510
                 clear A510
                 go_wp2_with fail
                 (with_reducible refine (marginaliaref04_value.calls kj39 a0 t258 t259 t260 _ A51.out).mono ?_)
                 rintro e w54 ⟨rfl, hb⟩
                 have n0_ := Aside0.mk (Kd.R_below (by (with_reducible repeat (first | apply Kd.R_alloc | apply Kd.R_drewN | apply Kd.R_drew)); exact HO_253002.out) hb)
                 have n1_ := Aside0.mk (blk_below (g := gb249) (o := .cells #[.int .i64 x250000_1, .string x250001_1, .slice none 0 0, .bool x250003_1, .string x250004_1] 29 (0, 0)) (by (with_reducible repeat (first | refine blk_drewN ?_ _ | refine blk_drew ?_ | refine blk_alloc ?_ _)); exact BK249.out) hb)
                 have n2_ := Aside0.mk (blk_below (g := gb252) (o := .cells #[.int .i64 0, .string t251, u253002, .bool x253003_1, .string (⟨#[]⟩ : ByteArray)] 29 (0, 0)) (by (with_reducible repeat (first | refine blk_drewN ?_ _ | refine blk_drew ?_ | refine blk_alloc ?_ _)); exact BK252.out) hb)
                 have n3_ := Aside0.mk (blk_below (g := gb256) (o := .cells #[.string t255, .string (⟨#[]⟩ : ByteArray)] 41 (0, 0)) (by (with_reducible repeat (first | refine blk_drewN ?_ _ | refine blk_drew ?_ | refine blk_alloc ?_ _)); exact BK256.out) hb)
                 have n4_ := Aside0.mk (below_step (by repeat (first | (with_reducible first | exact HB.out | apply below_alloc | apply pw_below_drewN | apply below_drew1 | refine below_set ?_ GE249.out | refine below_set ?_ GE252.out | refine below_set ?_ GE256.out) | exact HB.out)) hb)
                 clear HO_253002
                 clear BK249
                 clear BK252
                 clear BK256
                 clear HB
                 have HO_253002 := n0_
                 have BK249 := n1_
                 have BK252 := n2_
                 have BK256 := n3_
                 have HB := n4_
                 clear n0_ n1_ n2_ n3_ n4_
                 (try clear hb)
                 (try clear hb2)
                 (try clear hk)
                 (try clear hi)
                 replace H := Option.bind_eq_some_iff.mp H
                 obtain ⟨⟨t261, t262⟩, A520, H⟩ := H
                 try dsimp only at H
                 have A52 := Aside0.mk A520
                 clear A520
                 have hnb55 := NB256_249.out
                 have hnc55 := NB249_256.out
                 have hnb56 := NB256_252.out
                 have hnc56 := NB252_256.out
                 have hcz57_0 : w54.cell? ⟨gb256, 0, none⟩ = some (.string t255) := (blk_cell BK256.out 0).trans rfl
                 have hcz57_1 : w54.cell? ⟨gb256, 1, none⟩ = some (.string (⟨#[]⟩ : ByteArray)) := (blk_cell BK256.out 1).trans rfl
                 have hfz57_0 := blk_frozen BK256.out 0
                 have hfz57_1 := blk_frozen BK256.out 1
                 have hnb58 := NB252_249.out
                 have hnc58 := NB249_252.out
                 have hcz59_0 : w54.cell? ⟨gb252, 0, none⟩ = some (.int .i64 0) := (blk_cell BK252.out 0).trans rfl
                 have hcz59_1 : w54.cell? ⟨gb252, 1, none⟩ = some (.string t251) := (blk_cell BK252.out 1).trans rfl
                 have hcz59_2 : w54.cell? ⟨gb252, 2, none⟩ = some (u253002) := (blk_cell BK252.out 2).trans rfl
                 have hcz59_3 : w54.cell? ⟨gb252, 3, none⟩ = some (.bool x253003_1) := (blk_cell BK252.out 3).trans rfl
                 have hcz59_4 : w54.cell? ⟨gb252, 4, none⟩ = some (.string (⟨#[]⟩ : ByteArray)) := (blk_cell BK252.out 4).trans rfl
                 have hfz59_0 := blk_frozen BK252.out 0
                 have hfz59_1 := blk_frozen BK252.out 1
                 have hfz59_2 := blk_frozen BK252.out 2
                 have hfz59_3 := blk_frozen BK252.out 3
                 have hfz59_4 := blk_frozen BK252.out 4
                 obtain ⟨Ao60, co60, eo60⟩ := Kd.R_slice HO_253002.out
                 subst eo60
                 go_wp2_with fail
                 (with_reducible refine (marginaliaref04_Get.calls kj39 _ _ x253002_1 t255 t261 t262 _ ?side1 ?side2 A52.out).mono ?_)
                 (case side1 => refine (Kd.R_reads' (e := 41) (base := w.heap.size) (ok := fun k_ => k_ ≠ gb256) (n := x253002_1.length) (c := co60) ?_).2.2; exact (by (with_reducible repeat (first | apply Kd.R_alloc | apply Kd.R_drewN | apply Kd.R_drew)); exact (Kd.R_mono (Kd.R_far (p := ⟨gb256, 1, none⟩) (Kd.R_mono HO_253002.out (fun k_ hk => (⟨hk, hk⟩ : _ ∧ k_ ≠ gb256))) (fun _ hk => hk.2) (.string t259)) (fun _ h_ => h_.1))))
                 (case side2 => exact (Kd.R_reads' HO_253002.out).2.1)
                 rintro e w' ⟨rfl, ⟨nd, rfl⟩⟩
                 by_cases c53 : t262 = true
                 ·
                  subst c53
                  replace H := (if_pos rfl).symm.trans H
                  have H' := Aside0.mk H
                  clear H
                  go_wp2
                  go_roundg kj39
                  case measure => have := HK1.out; have := HJ12.out; have := HJ39.out; omega
                  case rel => exact ⟨(t260), (x250000_1), (x250001_1), (x250003_1), (x250004_1), (x253002_1), (x253003_1), (.slice Ao60 x253002_1.length co60), (by first | rfl | (simp; done) | (simp [*]; done)), H', ⟨by have := HK1.out; have := HJ12.out; have := HJ39.out; omega⟩, ⟨by (with_reducible repeat (first | apply Kd.R_alloc | apply Kd.R_drewN | apply Kd.R_drew)); exact Kd.R_mono (Kd.R_far (p := ⟨gb256, 1, none⟩) (Kd.R_mono HO_253002.out (fun k_ hk => (⟨hk, hk⟩ : _ ∧ k_ ≠ gb256))) (fun _ hk => hk.2) (.string t259)) (fun _ hk => trivial)⟩, ⟨by (with_reducible repeat (first | refine blk_drewN ?_ _ | refine blk_drew ?_ | refine blk_alloc ?_ _)); refine blk_far ?_ NB249_256.out _; (with_reducible repeat (first | refine blk_drewN ?_ _ | refine blk_drew ?_ | refine blk_alloc ?_ _)); exact BK249.out⟩, ⟨by (with_reducible repeat (first | refine blk_drewN ?_ _ | refine blk_drew ?_ | refine blk_alloc ?_ _)); refine blk_far ?_ NB252_256.out _; (with_reducible repeat (first | refine blk_drewN ?_ _ | refine blk_drew ?_ | refine blk_alloc ?_ _)); exact BK252.out⟩, ⟨by repeat (first | (with_reducible first | exact HB.out | apply below_alloc | apply pw_below_drewN | apply below_drew1 | refine below_set ?_ GE249.out | refine below_set ?_ GE252.out | refine below_set ?_ GE256.out) | exact HB.out)⟩⟩
                 ·
                  replace c53 := Bool.eq_false_iff.mpr c53
                  subst c53
                  replace H := (if_neg Bool.false_ne_true).symm.trans H
                  by_cases c61 : x253002_1.length < 4398046511104
                  ·
                   rw [if_pos c61] at H
                   have LMc61 := Aside0.mk c61
                   clear c61
                   obtain ⟨y263, hy263⟩ : ∃ y_ : List (S41), y_ = (x253002_1 ++ [(⟨t255, t259⟩ : S41)]) := ⟨_, rfl⟩
                   replace H : (marginaliaref04_tag.l0 kj39 a0 t260 0 t251 y263 x253003_1 (⟨#[]⟩ : ByteArray)) = some (r1, r2, r3, r4, r5, r6, r7) := by first | (rw [hy263]; with_reducible exact H) | (have H2_ := (Option.bind_some _ _).symm.trans H; rw [hy263]; with_reducible exact H2_) | (have H2_ := (Option.bind_some _ _).symm.trans H; with_reducible exact H2_) | with_reducible exact H | (rw [hy263]; exact H) | exact H
                   have Ny263 := Aside0.mk hy263
                   clear hy263
                   have H' := Aside0.mk H
                   clear H
                   go_wp2_with (first | ((with_reducible refine gate_builtin (b := .append) (xs := #[.tmp 107, .tmp 109]) rfl ?_); at_builtin; refine Kd.R_append k41 (w0 := w) w.heap.size rfl (.tmp 107) (.tmp 109) 27 41 (.agg #[(.string ⟨#[]⟩), (.string ⟨#[]⟩)]) 32 rfl Try.underlying27 info41 rfl (by decide) (by omega) (.slice Ao60 x253002_1.length co60) x253002_1 (⟨t255, t259⟩ : S41) [.string t255, .string t259] (fun k_ => k_ ≠ gb256) (fun _ => False) rfl (by first | (go_simp; done) | (go_simp; rfl)) ?aP (fun _ hk => hk.elim) ?aF ?aO ?aB ?aS ?aL ?_; (case aP => exact k41_mkM _ _ _ (⟨t255, t259⟩ : S41)); (case aB => exact (by repeat (first | (with_reducible first | exact HB.out | apply below_alloc | apply pw_below_drewN | apply below_drew1 | refine below_set ?_ GE249.out | refine below_set ?_ GE252.out | refine below_set ?_ GE256.out) | exact HB.out))); (case aF => exact (fun k_ hk => Kd.freshB (g := gb256) (o := .cells #[.string t255, .string t259] 41 (0, 0)) (by (with_reducible repeat (first | refine blk_drewN ?_ _ | refine blk_drew ?_ | refine blk_alloc ?_ _)); refine blk_put (cs := #[.string t255, .string (⟨#[]⟩ : ByteArray)]) ?_ 1 _ rfl; (with_reducible repeat (first | refine blk_drewN ?_ _ | refine blk_drew ?_ | refine blk_alloc ?_ _)); exact BK256.out) k_ hk)); (case aO => exact (by (with_reducible repeat (first | apply Kd.R_alloc | apply Kd.R_drewN | apply Kd.R_drew)); exact Kd.R_mono (Kd.R_far (p := ⟨gb256, 1, none⟩) (Kd.R_mono HO_253002.out (fun k_ hk => (⟨hk, hk⟩ : _ ∧ k_ ≠ gb256))) (fun _ hk => hk.2) (.string t259)) (fun _ hk => hk.1))); (case aS => exact (below_size (by repeat (first | (with_reducible first | exact HB.out | apply below_alloc | apply pw_below_drewN | apply below_drew1 | refine below_set ?_ GE249.out | refine below_set ?_ GE252.out | refine below_set ?_ GE256.out) | exact HB.out)))); (case aL => have := LMc61.out; omega); intro v264 w69 ho hb hg hat; rw [← Ny263.out] at ho; have n0_ := Aside0.mk (blk_grown (g := gb249) (o := .cells #[.int .i64 x250000_1, .string x250001_1, .slice none 0 0, .bool x250003_1, .string x250004_1] 29 (0, 0)) (by (with_reducible repeat (first | refine blk_drewN ?_ _ | refine blk_drew ?_ | refine blk_alloc ?_ _)); refine blk_far ?_ NB249_256.out _; (with_reducible repeat (first | refine blk_drewN ?_ _ | refine blk_drew ?_ | refine blk_alloc ?_ _)); exact BK249.out) hg (Kd.R_ne HO_253002.out BK249.out (by decide))); have n1_ := Aside0.mk (blk_grown (g := gb252) (o := .cells #[.int .i64 0, .string t251, .slice Ao60 x253002_1.length co60, .bool x253003_1, .string (⟨#[]⟩ : ByteArray)] 29 (0, 0)) (by (with_reducible repeat (first | refine blk_drewN ?_ _ | refine blk_drew ?_ | refine blk_alloc ?_ _)); refine blk_far ?_ NB252_256.out _; (with_reducible repeat (first | refine blk_drewN ?_ _ | refine blk_drew ?_ | refine blk_alloc ?_ _)); exact BK252.out) hg (Kd.R_ne HO_253002.out BK252.out (by decide))); have n2_ := Aside0.mk (blk_grown (g := gb256) (o := .cells #[.string t255, .string t259] 41 (0, 0)) (by (with_reducible repeat (first | refine blk_drewN ?_ _ | refine blk_drew ?_ | refine blk_alloc ?_ _)); refine blk_put (cs := #[.string t255, .string (⟨#[]⟩ : ByteArray)]) ?_ 1 _ rfl; (with_reducible repeat (first | refine blk_drewN ?_ _ | refine blk_drew ?_ | refine blk_alloc ?_ _)); exact BK256.out) hg (Kd.R_away HO_253002.out (fun _ hk => hk))); have n3_ := Aside0.mk (hb); have n4_ := Aside0.mk (ho); clear BK249; clear BK252; clear BK256; clear HB; clear HO_253002; have BK249 := n0_; have BK252 := n1_; have BK256 := n2_; have HB := n3_; have HO265 := n4_; clear n0_ n1_ n2_ n3_ n4_; clear ho hb hg hat; obtain ⟨Ao70, co70, eo70⟩ := Kd.R_slice HO265.out; subst eo70; have hcz71_0 : w69.cell? ⟨gb252, 0, none⟩ = some (.int .i64 0) := (blk_cell BK252.out 0).trans rfl; have hcz71_1 : w69.cell? ⟨gb252, 1, none⟩ = some (.string t251) := (blk_cell BK252.out 1).trans rfl; have hcz71_2 : w69.cell? ⟨gb252, 2, none⟩ = some (.slice Ao60 x253002_1.length co60) := (blk_cell BK252.out 2).trans rfl; have hcz71_3 : w69.cell? ⟨gb252, 3, none⟩ = some (.bool x253003_1) := (blk_cell BK252.out 3).trans rfl; have hcz71_4 : w69.cell? ⟨gb252, 4, none⟩ = some (.string (⟨#[]⟩ : ByteArray)) := (blk_cell BK252.out 4).trans rfl; have hfz71_0 := blk_frozen BK252.out 0; have hfz71_1 := blk_frozen BK252.out 1; have hfz71_2 := blk_frozen BK252.out 2; have hfz71_3 := blk_frozen BK252.out 3; have hfz71_4 := blk_frozen BK252.out 4))
                   go_roundg kj39
                   case measure => have := HK1.out; have := HJ12.out; have := HJ39.out; omega
                   case rel => exact ⟨(t260), (x250000_1), (x250001_1), (x250003_1), (x250004_1), (y263), (x253003_1), (.slice Ao70 y263.length co70), (by first | rfl | (simp; done) | (simp [*]; done)), H', ⟨by have := HK1.out; have := HJ12.out; have := HJ39.out; omega⟩, ⟨by (with_reducible repeat (first | apply Kd.R_alloc | apply Kd.R_drewN | apply Kd.R_drew)); exact Kd.R_mono (Kd.R_far (p := ⟨gb252, 2, none⟩) (Kd.R_types HO265.out BK252.out (by decide)) (fun _ hk => hk.2) (.slice Ao70 y263.length co70)) (fun _ hk => trivial)⟩, ⟨by (with_reducible repeat (first | refine blk_drewN ?_ _ | refine blk_drew ?_ | refine blk_alloc ?_ _)); refine blk_far ?_ NB249_252.out _; (with_reducible repeat (first | refine blk_drewN ?_ _ | refine blk_drew ?_ | refine blk_alloc ?_ _)); exact BK249.out⟩, ⟨by (with_reducible repeat (first | refine blk_drewN ?_ _ | refine blk_drew ?_ | refine blk_alloc ?_ _)); refine blk_put (cs := #[.int .i64 0, .string t251, .slice Ao60 x253002_1.length co60, .bool x253003_1, .string (⟨#[]⟩ : ByteArray)]) ?_ 2 _ rfl; (with_reducible repeat (first | refine blk_drewN ?_ _ | refine blk_drew ?_ | refine blk_alloc ?_ _)); exact BK252.out⟩, ⟨by repeat (first | (with_reducible first | exact HB.out | apply below_alloc | apply pw_below_drewN | apply below_drew1 | refine below_set ?_ GE249.out | refine below_set ?_ GE252.out | refine below_set ?_ GE256.out) | exact HB.out)⟩⟩
                  ·
                   rw [if_neg c61] at H
                   exact absurd H (by simp)
                ·
                 replace c49 := Bool.eq_false_iff.mpr c49
                 subst c49
                 replace H := (if_neg Bool.false_ne_true).symm.trans H
                 replace H := Option.bind_eq_some_iff.mp H
                 obtain ⟨⟨t266, t267⟩, A720, H⟩ := H
                 try dsimp only at H
                 have A72 := Aside0.mk A720
                 clear A720
                 have hnb81 := NB252_249.out
                 have hnc81 := NB249_252.out
                 have hnb82 := NB252_256.out
                 have hnc82 := NB256_252.out
                 have hcz83_0 : wc.cell? ⟨gb252, 0, none⟩ = some (.int .i64 0) := (blk_cell BK252.out 0).trans rfl
                 have hcz83_1 : wc.cell? ⟨gb252, 1, none⟩ = some (.string t251) := (blk_cell BK252.out 1).trans rfl
                 have hcz83_2 : wc.cell? ⟨gb252, 2, none⟩ = some (u253002) := (blk_cell BK252.out 2).trans rfl
                 have hcz83_3 : wc.cell? ⟨gb252, 3, none⟩ = some (.bool x253003_1) := (blk_cell BK252.out 3).trans rfl
                 have hcz83_4 : wc.cell? ⟨gb252, 4, none⟩ = some (.string (⟨#[]⟩ : ByteArray)) := (blk_cell BK252.out 4).trans rfl
                 have hfz83_0 := blk_frozen BK252.out 0
                 have hfz83_1 := blk_frozen BK252.out 1
                 have hfz83_2 := blk_frozen BK252.out 2
                 have hfz83_3 := blk_frozen BK252.out 3
                 have hfz83_4 := blk_frozen BK252.out 4
                 have hnb84 := NB256_249.out
                 have hnc84 := NB249_256.out
                 have hcz85_0 : wc.cell? ⟨gb256, 0, none⟩ = some (.string t255) := (blk_cell BK256.out 0).trans rfl
                 have hcz85_1 : wc.cell? ⟨gb256, 1, none⟩ = some (.string (⟨#[]⟩ : ByteArray)) := (blk_cell BK256.out 1).trans rfl
                 have hfz85_0 := blk_frozen BK256.out 0
                 have hfz85_1 := blk_frozen BK256.out 1
                 obtain ⟨Ao86, co86, eo86⟩ := Kd.R_slice HO_253002.out
                 subst eo86
                 go_wp2_with fail
                 (with_reducible refine (marginaliaref04_Get.calls kj39 _ _ x253002_1 t255 t266 t267 _ ?side1 ?side2 A72.out).mono ?_)
                 (case side1 => repeat (first | exact (Kd.R_reads' HO_253002.out).2.2 | (with_reducible refine Kd.C_alloc ?_ _) | (with_reducible refine Kd.C_drewN ?_ _) | (with_reducible refine Kd.C_drew ?_)))
                 (case side2 => exact (Kd.R_reads' HO_253002.out).2.1)
                 rintro e w' ⟨rfl, ⟨nd, rfl⟩⟩
                 (try (rw [drewN_self wc]; generalize hq_ : World.drewN wc _ = wc; have n0_ : Aside0 (Kd.R k41 41 wc w.heap.size (fun k_ => k_ ≠ gb256) (.slice Ao86 x253002_1.length co86) x253002_1) := ⟨by rw [← hq_]; exact (by (with_reducible repeat (first | apply Kd.R_alloc | apply Kd.R_drewN | apply Kd.R_drew)); exact HO_253002.out)⟩; have n1_ : Aside0 (wc.heap[gb249]? = some (.cells #[.int .i64 x250000_1, .string x250001_1, .slice none 0 0, .bool x250003_1, .string x250004_1] 29 (0, 0))) := ⟨by rw [← hq_]; exact (by (with_reducible repeat (first | refine blk_drewN ?_ _ | refine blk_drew ?_ | refine blk_alloc ?_ _)); exact BK249.out)⟩; have n2_ : Aside0 (wc.heap[gb252]? = some (.cells #[.int .i64 0, .string t251, .slice Ao86 x253002_1.length co86, .bool x253003_1, .string (⟨#[]⟩ : ByteArray)] 29 (0, 0))) := ⟨by rw [← hq_]; exact (by (with_reducible repeat (first | refine blk_drewN ?_ _ | refine blk_drew ?_ | refine blk_alloc ?_ _)); exact BK252.out)⟩; have n3_ : Aside0 (wc.heap[gb256]? = some (.cells #[.string t255, .string (⟨#[]⟩ : ByteArray)] 41 (0, 0))) := ⟨by rw [← hq_]; exact (by (with_reducible repeat (first | refine blk_drewN ?_ _ | refine blk_drew ?_ | refine blk_alloc ?_ _)); exact BK256.out)⟩; have n4_ : Aside0 (Below w.heap.size w wc) := ⟨by rw [← hq_]; exact (by repeat (first | (with_reducible first | exact HB.out | apply below_alloc | apply pw_below_drewN | apply below_drew1 | refine below_set ?_ GE249.out | refine below_set ?_ GE252.out | refine below_set ?_ GE256.out) | exact HB.out))⟩; clear HO_253002 BK249 BK252 BK256 HB hq_; have HO_253002 := n0_; have BK249 := n1_; have BK252 := n2_; have BK256 := n3_; have HB := n4_; clear n0_ n1_ n2_ n3_ n4_; have hczq83_0 : wc.cell? ⟨gb252, 0, none⟩ = some (.int .i64 0) := (blk_cell BK252.out 0).trans rfl; have hczq83_1 : wc.cell? ⟨gb252, 1, none⟩ = some (.string t251) := (blk_cell BK252.out 1).trans rfl; have hczq83_2 : wc.cell? ⟨gb252, 2, none⟩ = some (u253002) := (blk_cell BK252.out 2).trans rfl; have hczq83_3 : wc.cell? ⟨gb252, 3, none⟩ = some (.bool x253003_1) := (blk_cell BK252.out 3).trans rfl; have hczq83_4 : wc.cell? ⟨gb252, 4, none⟩ = some (.string (⟨#[]⟩ : ByteArray)) := (blk_cell BK252.out 4).trans rfl; have hfzq83_0 := blk_frozen BK252.out 0; have hfzq83_1 := blk_frozen BK252.out 1; have hfzq83_2 := blk_frozen BK252.out 2; have hfzq83_3 := blk_frozen BK252.out 3; have hfzq83_4 := blk_frozen BK252.out 4; have hczq85_0 : wc.cell? ⟨gb256, 0, none⟩ = some (.string t255) := (blk_cell BK256.out 0).trans rfl; have hczq85_1 : wc.cell? ⟨gb256, 1, none⟩ = some (.string (⟨#[]⟩ : ByteArray)) := (blk_cell BK256.out 1).trans rfl; have hfzq85_0 := blk_frozen BK256.out 0; have hfzq85_1 := blk_frozen BK256.out 1))
                 by_cases c73 : t267 = true
                 ·
                  subst c73
                  replace H := (if_pos rfl).symm.trans H
                  have H' := Aside0.mk H
                  clear H
                  go_wp2
                  go_roundg kj39
                  case measure => have := HK1.out; have := HJ12.out; have := HJ39.out; omega
                  case rel => exact ⟨(t257), (x250000_1), (x250001_1), (x250003_1), (x250004_1), (x253002_1), (x253003_1), (.slice Ao86 x253002_1.length co86), (by first | rfl | (simp; done) | (simp [*]; done)), H', ⟨by have := HK1.out; have := HJ12.out; have := HJ39.out; omega⟩, ⟨by (with_reducible repeat (first | apply Kd.R_alloc | apply Kd.R_drewN | apply Kd.R_drew)); exact Kd.R_mono HO_253002.out (fun _ hk => trivial)⟩, ⟨by (with_reducible repeat (first | refine blk_drewN ?_ _ | refine blk_drew ?_ | refine blk_alloc ?_ _)); exact BK249.out⟩, ⟨by (with_reducible repeat (first | refine blk_drewN ?_ _ | refine blk_drew ?_ | refine blk_alloc ?_ _)); exact BK252.out⟩, ⟨by repeat (first | (with_reducible first | exact HB.out | apply below_alloc | apply pw_below_drewN | apply below_drew1 | refine below_set ?_ GE249.out | refine below_set ?_ GE252.out | refine below_set ?_ GE256.out) | exact HB.out)⟩⟩
                 ·
                  replace c73 := Bool.eq_false_iff.mpr c73
                  subst c73
                  replace H := (if_neg Bool.false_ne_true).symm.trans H
                  by_cases c80 : x253002_1.length < 4398046511104
                  ·
                   rw [if_pos c80] at H
                   have LMc80 := Aside0.mk c80
                   clear c80
                   obtain ⟨y268, hy268⟩ : ∃ y_ : List (S41), y_ = (x253002_1 ++ [(⟨t255, (⟨#[]⟩ : ByteArray)⟩ : S41)]) := ⟨_, rfl⟩
                   replace H : (marginaliaref04_tag.l0 kj39 a0 t257 0 t251 y268 x253003_1 (⟨#[]⟩ : ByteArray)) = some (r1, r2, r3, r4, r5, r6, r7) := by first | (rw [hy268]; with_reducible exact H) | (have H2_ := (Option.bind_some _ _).symm.trans H; rw [hy268]; with_reducible exact H2_) | (have H2_ := (Option.bind_some _ _).symm.trans H; with_reducible exact H2_) | with_reducible exact H | (rw [hy268]; exact H) | exact H
                   have Ny268 := Aside0.mk hy268
                   clear hy268
                   have H' := Aside0.mk H
                   clear H
                   go_wp2_with (first | ((with_reducible refine gate_builtin (b := .append) (xs := #[.tmp 107, .tmp 109]) rfl ?_); at_builtin; refine Kd.R_append k41 (w0 := w) w.heap.size rfl (.tmp 107) (.tmp 109) 27 41 (.agg #[(.string ⟨#[]⟩), (.string ⟨#[]⟩)]) 32 rfl Try.underlying27 info41 rfl (by decide) (by omega) (.slice Ao86 x253002_1.length co86) x253002_1 (⟨t255, (⟨#[]⟩ : ByteArray)⟩ : S41) [.string t255, .string (⟨#[]⟩ : ByteArray)] (fun k_ => k_ ≠ gb256) (fun _ => False) rfl rfl ?aP (fun _ hk => hk.elim) ?aF ?aO ?aB ?aS ?aL ?_; (case aP => exact k41_mkM _ _ _ (⟨t255, (⟨#[]⟩ : ByteArray)⟩ : S41)); (case aB => exact (by repeat (first | (with_reducible first | exact HB.out | apply below_alloc | apply pw_below_drewN | apply below_drew1 | refine below_set ?_ GE249.out | refine below_set ?_ GE252.out | refine below_set ?_ GE256.out) | exact HB.out))); (case aF => exact (fun k_ hk => Kd.freshB (g := gb256) (o := .cells #[.string t255, .string (⟨#[]⟩ : ByteArray)] 41 (0, 0)) (by (with_reducible repeat (first | refine blk_drewN ?_ _ | refine blk_drew ?_ | refine blk_alloc ?_ _)); exact BK256.out) k_ hk)); (case aO => exact (by (with_reducible repeat (first | apply Kd.R_alloc | apply Kd.R_drewN | apply Kd.R_drew)); exact HO_253002.out)); (case aS => exact (below_size (by repeat (first | (with_reducible first | exact HB.out | apply below_alloc | apply pw_below_drewN | apply below_drew1 | refine below_set ?_ GE249.out | refine below_set ?_ GE252.out | refine below_set ?_ GE256.out) | exact HB.out)))); (case aL => have := LMc80.out; omega); intro v269 w87 ho hb hg hat; rw [← Ny268.out] at ho; have n0_ := Aside0.mk (blk_grown (g := gb249) (o := .cells #[.int .i64 x250000_1, .string x250001_1, .slice none 0 0, .bool x250003_1, .string x250004_1] 29 (0, 0)) (by (with_reducible repeat (first | refine blk_drewN ?_ _ | refine blk_drew ?_ | refine blk_alloc ?_ _)); exact BK249.out) hg (Kd.R_ne HO_253002.out BK249.out (by decide))); have n1_ := Aside0.mk (blk_grown (g := gb252) (o := .cells #[.int .i64 0, .string t251, .slice Ao86 x253002_1.length co86, .bool x253003_1, .string (⟨#[]⟩ : ByteArray)] 29 (0, 0)) (by (with_reducible repeat (first | refine blk_drewN ?_ _ | refine blk_drew ?_ | refine blk_alloc ?_ _)); exact BK252.out) hg (Kd.R_ne HO_253002.out BK252.out (by decide))); have n2_ := Aside0.mk (blk_grown (g := gb256) (o := .cells #[.string t255, .string (⟨#[]⟩ : ByteArray)] 41 (0, 0)) (by (with_reducible repeat (first | refine blk_drewN ?_ _ | refine blk_drew ?_ | refine blk_alloc ?_ _)); exact BK256.out) hg (Kd.R_away HO_253002.out (fun _ hk => hk))); have n3_ := Aside0.mk (hb); have n4_ := Aside0.mk (ho); clear BK249; clear BK252; clear BK256; clear HB; clear HO_253002; have BK249 := n0_; have BK252 := n1_; have BK256 := n2_; have HB := n3_; have HO270 := n4_; clear n0_ n1_ n2_ n3_ n4_; clear ho hb hg hat; obtain ⟨Ao88, co88, eo88⟩ := Kd.R_slice HO270.out; subst eo88; have hcz89_0 : w87.cell? ⟨gb252, 0, none⟩ = some (.int .i64 0) := (blk_cell BK252.out 0).trans rfl; have hcz89_1 : w87.cell? ⟨gb252, 1, none⟩ = some (.string t251) := (blk_cell BK252.out 1).trans rfl; have hcz89_2 : w87.cell? ⟨gb252, 2, none⟩ = some (.slice Ao86 x253002_1.length co86) := (blk_cell BK252.out 2).trans rfl; have hcz89_3 : w87.cell? ⟨gb252, 3, none⟩ = some (.bool x253003_1) := (blk_cell BK252.out 3).trans rfl; have hcz89_4 : w87.cell? ⟨gb252, 4, none⟩ = some (.string (⟨#[]⟩ : ByteArray)) := (blk_cell BK252.out 4).trans rfl; have hfz89_0 := blk_frozen BK252.out 0; have hfz89_1 := blk_frozen BK252.out 1; have hfz89_2 := blk_frozen BK252.out 2; have hfz89_3 := blk_frozen BK252.out 3; have hfz89_4 := blk_frozen BK252.out 4))
                   go_roundg kj39
                   case measure => have := HK1.out; have := HJ12.out; have := HJ39.out; omega
                   case rel => exact ⟨(t257), (x250000_1), (x250001_1), (x250003_1), (x250004_1), (y268), (x253003_1), (.slice Ao88 y268.length co88), (by first | rfl | (simp; done) | (simp [*]; done)), H', ⟨by have := HK1.out; have := HJ12.out; have := HJ39.out; omega⟩, ⟨by (with_reducible repeat (first | apply Kd.R_alloc | apply Kd.R_drewN | apply Kd.R_drew)); exact Kd.R_mono (Kd.R_far (p := ⟨gb252, 2, none⟩) (Kd.R_types HO270.out BK252.out (by decide)) (fun _ hk => hk.2) (.slice Ao88 y268.length co88)) (fun _ hk => trivial)⟩, ⟨by (with_reducible repeat (first | refine blk_drewN ?_ _ | refine blk_drew ?_ | refine blk_alloc ?_ _)); refine blk_far ?_ NB249_252.out _; (with_reducible repeat (first | refine blk_drewN ?_ _ | refine blk_drew ?_ | refine blk_alloc ?_ _)); exact BK249.out⟩, ⟨by (with_reducible repeat (first | refine blk_drewN ?_ _ | refine blk_drew ?_ | refine blk_alloc ?_ _)); refine blk_put (cs := #[.int .i64 0, .string t251, .slice Ao86 x253002_1.length co86, .bool x253003_1, .string (⟨#[]⟩ : ByteArray)]) ?_ 2 _ rfl; (with_reducible repeat (first | refine blk_drewN ?_ _ | refine blk_drew ?_ | refine blk_alloc ?_ _)); exact BK252.out⟩, ⟨by repeat (first | (with_reducible first | exact HB.out | apply below_alloc | apply pw_below_drewN | apply below_drew1 | refine below_set ?_ GE249.out | refine below_set ?_ GE252.out | refine below_set ?_ GE256.out) | exact HB.out)⟩⟩
                  ·
                   rw [if_neg c80] at H
                   exact absurd H (by simp)
             ·
              rw [if_neg c37] at H
              exact absurd H (by simp)
            ·
             rw [if_neg c36] at H
             exact absurd H (by simp)
          ·
           rw [if_neg c27] at H
           exact absurd H (by simp)
         ·
          rw [if_neg c26] at H
          exact absurd H (by simp)
   ·
    rw [if_neg c6] at H
    exact absurd H (by simp)
  ·
   rw [if_neg c5] at H
   exact absurd H (by simp)
 ·
  rw [if_neg c4] at H
  exact absurd H (by simp)
/-! ### marginaliaref04_ended: function 26 -/
def marginaliaref04_ended.f (k : Nat) (a0 : ByteArray) (a1 : Int) (a2 : Int) : Option (Int × ByteArray × (List (S41)) × Bool × ByteArray × Int) := (marginaliaref04_tag.f k a0 a1).bind fun bt272 => (if bt272.2.2.2.2.2.2 = true then (if a2 = 3 then (some (a2, bt272.2.1, ([] : List (S41)), false, (⟨#[]⟩ : ByteArray), bt272.2.2.2.2.2.1)) else (some (a2, bt272.2.1, bt272.2.2.1, bt272.2.2.2.1, bt272.2.2.2.2.1, bt272.2.2.2.2.2.1))) else (some (0, (⟨#[]⟩ : ByteArray), ([] : List (S41)), false, (⟨#[]⟩ : ByteArray), (a0.size : Int))))
set_option maxHeartbeats 1000000 in
set_option maxRecDepth 100000 in
theorem ended_stop (k : Nat) (a0 : ByteArray) (a1 : Int) (t0 : Int) (t1 : ByteArray) (t2 : List S41) (t3 : Bool) (t4 : ByteArray) (t5 : Int) (w : World) (h : marginaliaref04_tag.f k a0 a1 = some (t0, t1, t2, t3, t4, t5, true)) :
    Calls Try.prog 26 #[.string a0, .int .i64 a1, .int .i64 3] w fun e w' => ∃ v2_ : Value, e = .returned (.tuple #[.agg #[.int .i64 3, .string t1, v2_, .bool false, .string (⟨#[]⟩ : ByteArray)], .int .i64 t5]) ∧ Kd.R k41 41 w' w.heap.size (fun _ => True) v2_ [] ∧ Below w.heap.size w w' := by
 have A := Aside0.mk h
 have HT0 := Aside0.mk (TB.new w 0 ⟨#[]⟩ (.slice none 0 0) false ⟨#[]⟩)
 clear h
 go_enter Try.func26, Try.ntmps26
 go_wp2_with fail
 refine (marginaliaref04_tag.calls k a0 a1 _ _ _ _ _ _ true _ A.out).mono ?_
 rintro e w8 ⟨v275, rfl, ho0, hb⟩
 obtain ⟨A1, cp, rfl, _⟩ := Kd.R_reads ho0
 have hB8 := Aside0.mk (((Below.refl _ w).alloc (Nat.le_refl _) (.cells #[.int .i64 0, .string ⟨#[]⟩, .slice none 0 0, .bool false, .string ⟨#[]⟩] 29)).trans (hb.mono (by show w.heap.size ≤ (w.heap.push _).size; rw [Array.size_push]; exact Nat.le_succ _)))
 have HT1 := Aside0.mk (HT0.out.keep hb)
 have hlt := Aside0.mk HT1.out.lt
 have hne : Aside0 (w.heap.size ≠ w8.heap.size) := ⟨by have := hlt.out; omega⟩
 have HT2 : Aside0 (TB (w8.alloc (.cells #[.int .i64 3, .string t1, .slice none 0 0, .bool false, .string ⟨#[]⟩] 29)) w.heap.size 0 ⟨#[]⟩ (.slice none 0 0) false ⟨#[]⟩) := ⟨HT1.out.keep ((Below.refl _ _).alloc (Nat.le_refl _) _)⟩
 have z0 := HT2.out.cell 0
 have z1 := HT2.out.cell 1
 have z2 := HT2.out.cell 2
 have z3 := HT2.out.cell 3
 have z4 := HT2.out.cell 4
 have u0 := HT2.out.free 0
 have u1 := HT2.out.free 1
 have u2 := HT2.out.free 2
 have u3 := HT2.out.free 3
 have u4 := HT2.out.free 4
 simp only [List.getElem?_toArray, List.getElem?_cons_zero, List.getElem?_cons_succ] at z0 z1 z2 z3 z4
 clear ho0 hb HT0
 go_wp2
 have hZ := put5_tb HT2.out 3 t1 (.slice none 0 0) false ⟨#[]⟩
 have z0 := hZ.cell 0
 have z1 := hZ.cell 1
 have z2 := hZ.cell 2
 have z3 := hZ.cell 3
 have z4 := hZ.cell 4
 have hF : Below w.heap.size w (put5 (w8.alloc (.cells #[.int .i64 3, .string t1, .slice none 0 0, .bool false, .string ⟨#[]⟩] 29)) w.heap.size 3 t1 (.slice none 0 0) false ⟨#[]⟩) := Fr.to_below (hB8.out.alloc hB8.out.size _) (put5_fr (G := fun k => k = w.heap.size) (Fr.refl _ _) w.heap.size _ _ _ _ _ (Or.inl rfl)) (hB8.out.alloc hB8.out.size _).size (fun i hi => by subst hi; exact Nat.le_refl _)
 unfold put5 at z0 z1 z2 z3 z4
 exact bodyPost_ret (v := .tuple #[.agg #[.int .i64 3, .string t1, .slice none 0 0, .bool false, .string ⟨#[]⟩], .int .i64 t5]) (by simp [results, Try.results26, go_sem, z0, z1, z2, z3, z4]) rfl
   ⟨.slice none 0 0, rfl, Kd.R_nil _ _ _ _ _, hF⟩
set_option maxHeartbeats 8000000 in
set_option maxRecDepth 100000 in
theorem marginaliaref04_ended.calls (k : Nat) (a0 : ByteArray) (a1 : Int) (a2 : Int) (r1 : Int) (r2 : ByteArray) (r3 : List (S41)) (r4 : Bool) (r5 : ByteArray) (r6 : Int) (w : World) (h : marginaliaref04_ended.f k a0 a1 a2 = some (r1, r2, r3, r4, r5, r6)) :
    Calls Try.prog 26 #[.string a0, .int .i64 a1, .int .i64 a2] w fun e w' => ∃ v2_ : Value, e = .returned (.tuple #[.agg #[.int .i64 r1, .string r2, v2_, .bool r4, .string r5], .int .i64 r6]) ∧ Kd.R k41 41 w' w.heap.size (fun _ => True) v2_ r3 ∧ Below w.heap.size w w' := by
 have hu29 := Try.underlying29
 have HB := Aside0.mk (Below.refl w.heap.size w)
 have H : ((marginaliaref04_tag.f k a0 a1).bind fun bt272 => (if bt272.2.2.2.2.2.2 = true then (if a2 = 3 then (some (a2, bt272.2.1, ([] : List (S41)), false, (⟨#[]⟩ : ByteArray), bt272.2.2.2.2.2.1)) else (some (a2, bt272.2.1, bt272.2.2.1, bt272.2.2.2.1, bt272.2.2.2.2.1, bt272.2.2.2.2.2.1))) else (some (0, (⟨#[]⟩ : ByteArray), ([] : List (S41)), false, (⟨#[]⟩ : ByteArray), (a0.size : Int))))) = some (r1, r2, r3, r4, r5, r6) := h
 clear h
 replace H := Option.bind_eq_some_iff.mp H
 obtain ⟨⟨t272, t273, t274, t277, t278, t279, t280⟩, A40, H⟩ := H
 replace H : (if t280 = true then (if a2 = 3 then (some (a2, t273, ([] : List (S41)), false, (⟨#[]⟩ : ByteArray), t279)) else (some (a2, t273, t274, t277, t278, t279))) else (some (0, (⟨#[]⟩ : ByteArray), ([] : List (S41)), false, (⟨#[]⟩ : ByteArray), (a0.size : Int)))) = some (r1, r2, r3, r4, r5, r6) := H
 have A4 := Aside0.mk A40
 clear A40
 by_cases c5 : t280 = true
 ·
  subst c5
  have H1 : (if a2 = 3 then (some (a2, t273, ([] : List (S41)), false, (⟨#[]⟩ : ByteArray), t279)) else (some (a2, t273, t274, t277, t278, t279))) = some (r1, r2, r3, r4, r5, r6) := by rw [if_pos rfl] at H; exact H
  clear H
  have H := H1
  clear H1
  by_cases c6 : a2 = 3
  ·
   rw [if_pos c6] at H
   subst c6
   simp only [Option.some.injEq, Prod.mk.injEq] at H
   obtain ⟨rfl, rfl, rfl, rfl, rfl, rfl⟩ := H
   exact ended_stop k a0 a1 _ _ _ _ _ _ w A4.out
  ·
   rw [if_neg c6] at H
   have c6b0 : (a2 == 3) = false := beq_eq_false_iff_ne.mpr c6
   have c6b1 : (a2 != 3) = true := bne_iff_ne.mpr c6
   simp only [Option.some.injEq, Prod.mk.injEq] at H
   obtain ⟨rfl, rfl, rfl, rfl, rfl, rfl⟩ := H
   go_enter Try.func26, Try.ntmps26
   go_wp2_with (first | ((with_reducible refine gate_dst (N := 6) rfl ?_); refine box_event ?hg (N := 6) ?hd (cs := #[.int .i64 0, .string (⟨#[]⟩ : ByteArray), .slice none 0 0, .bool false, .string (⟨#[]⟩ : ByteArray)]) (t := 29) ?hr ?_; (case hd => rfl); (case hg => rfl); (case hr => first | (go_simp; done) | (go_simp; rfl)); intro gb271 hg w14 hbox hb; have n0_ := Aside0.mk (below_step (by repeat (first | (with_reducible first | exact HB.out | apply below_alloc | apply pw_below_drewN | apply below_drew1) | exact HB.out)) hb); have n1_ := Aside0.mk (hbox); have n2_ := Aside0.mk ((by rw [hg]; exact (below_size (by repeat (first | (with_reducible first | exact HB.out | apply below_alloc | apply pw_below_drewN | apply below_drew1) | exact HB.out))) : w.heap.size ≤ gb271)); have n3_ := Aside0.mk ((by rw [hg]; exact (below_size (by repeat (first | (with_reducible first | exact HB.out | apply below_alloc | apply pw_below_drewN | apply below_drew1) | exact HB.out))) : w.heap.size ≤ gb271)); clear HB; have HB := n0_; have BK271 := n1_; have GW271 := n2_; have GE271 := n3_; clear n0_ n1_ n2_ n3_; clear hb hbox hg) | ((with_reducible refine gate_callee (f := 52) rfl ?_); refine goesL_ (some 14) rfl rfl Try.func52 (by kernel_rfl) rfl #[.string a0, .int .i64 a1] rfl (by (try simp only [List.map_toArray, List.map_cons, List.map_nil]); first | done | rfl | (simp only [List.length_drop, List.length_take]; rfl)) ?_; (with_reducible refine (marginaliaref04_tag.calls k a0 a1 t272 t273 t274 t277 t278 t279 true _ A4.out).mono ?_); rintro e w15 ⟨v275, rfl, ho0, hb⟩; refine ⟨_, rfl, ?_⟩; have n0_ := Aside0.mk (Kd.R_lower ho0 (below_size (by repeat (first | (with_reducible first | exact HB.out | apply below_alloc | apply pw_below_drewN | apply below_drew1 | refine below_set ?_ GE271.out) | exact HB.out)))); have n1_ := Aside0.mk (blk_below (g := gb271) (o := .cells #[.int .i64 0, .string (⟨#[]⟩ : ByteArray), .slice none 0 0, .bool false, .string (⟨#[]⟩ : ByteArray)] 29 (0, 0)) (by (with_reducible repeat (first | refine blk_drewN ?_ _ | refine blk_drew ?_ | refine blk_alloc ?_ _)); exact BK271.out) hb); have n2_ := Aside0.mk (below_step (by repeat (first | (with_reducible first | exact HB.out | apply below_alloc | apply pw_below_drewN | apply below_drew1 | refine below_set ?_ GE271.out) | exact HB.out)) hb); clear BK271; clear HB; have HO276 := n0_; have BK271 := n1_; have HB := n2_; clear n0_ n1_ n2_; (try clear hb); (try clear hb2); (try clear hk); (try clear hi); (try clear ho0)) | ((with_reducible refine gate_dst (N := 8) rfl ?_); refine box_event ?hg (N := 8) ?hd (cs := #[.int .i64 0, .string (⟨#[]⟩ : ByteArray), .slice none 0 0, .bool false, .string (⟨#[]⟩ : ByteArray)]) (t := 29) ?hr ?_; (case hd => rfl); (case hg => rfl); (case hr => first | (go_simp; done) | (go_simp; rfl)); intro gb281 hg w16 hbox hb; have n0_ := Aside0.mk (Kd.R_below (by (with_reducible repeat (first | apply Kd.R_alloc | apply Kd.R_drewN | apply Kd.R_drew)); exact HO276.out) hb); have n1_ := Aside0.mk (blk_below (g := gb271) (o := .cells #[.int .i64 0, .string (⟨#[]⟩ : ByteArray), .slice none 0 0, .bool false, .string (⟨#[]⟩ : ByteArray)] 29 (0, 0)) (by (with_reducible repeat (first | refine blk_drewN ?_ _ | refine blk_drew ?_ | refine blk_alloc ?_ _)); exact BK271.out) hb); have n2_ := Aside0.mk (below_step (by repeat (first | (with_reducible first | exact HB.out | apply below_alloc | apply pw_below_drewN | apply below_drew1 | refine below_set ?_ GE271.out) | exact HB.out)) hb); have n3_ := Aside0.mk (hbox); have n4_ := Aside0.mk ((by rw [hg]; exact (below_size (by repeat (first | (with_reducible first | exact HB.out | apply below_alloc | apply pw_below_drewN | apply below_drew1 | refine below_set ?_ GE271.out) | exact HB.out))) : w.heap.size ≤ gb281)); have n5_ := Aside0.mk ((by rw [hg]; exact (below_size (by repeat (first | (with_reducible first | exact HB.out | apply below_alloc | apply pw_below_drewN | apply below_drew1 | refine below_set ?_ GE271.out) | exact HB.out))) : w.heap.size ≤ gb281)); have n6_ := Aside0.mk ((by rw [hg]; exact Nat.ne_of_lt (blk_lt (g := gb271) (o := .cells #[.int .i64 0, .string (⟨#[]⟩ : ByteArray), .slice none 0 0, .bool false, .string (⟨#[]⟩ : ByteArray)] 29 (0, 0)) (by (with_reducible repeat (first | refine blk_drewN ?_ _ | refine blk_drew ?_ | refine blk_alloc ?_ _)); exact BK271.out)) : gb271 ≠ gb281)); have n7_ := Aside0.mk ((by rw [hg]; exact Nat.ne_of_gt (blk_lt (g := gb271) (o := .cells #[.int .i64 0, .string (⟨#[]⟩ : ByteArray), .slice none 0 0, .bool false, .string (⟨#[]⟩ : ByteArray)] 29 (0, 0)) (by (with_reducible repeat (first | refine blk_drewN ?_ _ | refine blk_drew ?_ | refine blk_alloc ?_ _)); exact BK271.out)) : gb281 ≠ gb271)); clear HO276; clear BK271; clear HB; have HO276 := n0_; have BK271 := n1_; have HB := n2_; have BK281 := n3_; have GW281 := n4_; have GE281 := n5_; have NB271_281 := n6_; have NB281_271 := n7_; clear n0_ n1_ n2_ n3_ n4_ n5_ n6_ n7_; clear hb hbox hg; have hnb17 := NB281_271.out; have hnc17 := NB271_281.out; have hcz18_0 : w16.cell? ⟨gb281, 0, none⟩ = some (.int .i64 0) := (blk_cell BK281.out 0).trans rfl; have hcz18_1 : w16.cell? ⟨gb281, 1, none⟩ = some (.string (⟨#[]⟩ : ByteArray)) := (blk_cell BK281.out 1).trans rfl; have hcz18_2 : w16.cell? ⟨gb281, 2, none⟩ = some (.slice none 0 0) := (blk_cell BK281.out 2).trans rfl; have hcz18_3 : w16.cell? ⟨gb281, 3, none⟩ = some (.bool false) := (blk_cell BK281.out 3).trans rfl; have hcz18_4 : w16.cell? ⟨gb281, 4, none⟩ = some (.string (⟨#[]⟩ : ByteArray)) := (blk_cell BK281.out 4).trans rfl; have hfz18_0 := blk_frozen BK281.out 0; have hfz18_1 := blk_frozen BK281.out 1; have hfz18_2 := blk_frozen BK281.out 2; have hfz18_3 := blk_frozen BK281.out 3; have hfz18_4 := blk_frozen BK281.out 4; obtain ⟨Ao19, co19, eo19⟩ := Kd.R_slice HO276.out; subst eo19; have hcz20_0 : w16.cell? ⟨gb271, 0, none⟩ = some (.int .i64 0) := (blk_cell BK271.out 0).trans rfl; have hcz20_1 : w16.cell? ⟨gb271, 1, none⟩ = some (.string (⟨#[]⟩ : ByteArray)) := (blk_cell BK271.out 1).trans rfl; have hcz20_2 : w16.cell? ⟨gb271, 2, none⟩ = some (.slice none 0 0) := (blk_cell BK271.out 2).trans rfl; have hcz20_3 : w16.cell? ⟨gb271, 3, none⟩ = some (.bool false) := (blk_cell BK271.out 3).trans rfl; have hcz20_4 : w16.cell? ⟨gb271, 4, none⟩ = some (.string (⟨#[]⟩ : ByteArray)) := (blk_cell BK271.out 4).trans rfl; have hfz20_0 := blk_frozen BK271.out 0; have hfz20_1 := blk_frozen BK271.out 1; have hfz20_2 := blk_frozen BK271.out 2; have hfz20_3 := blk_frozen BK271.out 3; have hfz20_4 := blk_frozen BK271.out 4))
   refine bodyPost_ret (results_ct rfl _ _ gb271 29 #[.int .i64 a2, .string t273, .slice Ao19 t274.length co19, .bool t277, .string t278] (0, 0) _ rfl (by (with_reducible repeat (first | refine blk_drewN ?_ _ | refine blk_drew ?_ | refine blk_alloc ?_ _)); refine blk_put (cs := #[.int .i64 a2, .string t273, .slice Ao19 t274.length co19, .bool t277, .string (⟨#[]⟩ : ByteArray)]) ?_ 4 _ rfl; (with_reducible repeat (first | refine blk_drewN ?_ _ | refine blk_drew ?_ | refine blk_alloc ?_ _)); refine blk_put (cs := #[.int .i64 a2, .string t273, .slice Ao19 t274.length co19, .bool false, .string (⟨#[]⟩ : ByteArray)]) ?_ 3 _ rfl; (with_reducible repeat (first | refine blk_drewN ?_ _ | refine blk_drew ?_ | refine blk_alloc ?_ _)); refine blk_put (cs := #[.int .i64 a2, .string t273, .slice none 0 0, .bool false, .string (⟨#[]⟩ : ByteArray)]) ?_ 2 _ rfl; (with_reducible repeat (first | refine blk_drewN ?_ _ | refine blk_drew ?_ | refine blk_alloc ?_ _)); refine blk_put (cs := #[.int .i64 a2, .string (⟨#[]⟩ : ByteArray), .slice none 0 0, .bool false, .string (⟨#[]⟩ : ByteArray)]) ?_ 1 _ rfl; (with_reducible repeat (first | refine blk_drewN ?_ _ | refine blk_drew ?_ | refine blk_alloc ?_ _)); refine blk_put (cs := #[.int .i64 0, .string (⟨#[]⟩ : ByteArray), .slice none 0 0, .bool false, .string (⟨#[]⟩ : ByteArray)]) ?_ 0 _ rfl; (with_reducible repeat (first | refine blk_drewN ?_ _ | refine blk_drew ?_ | refine blk_alloc ?_ _)); refine blk_far ?_ NB271_281.out _; (with_reducible repeat (first | refine blk_drewN ?_ _ | refine blk_drew ?_ | refine blk_alloc ?_ _)); refine blk_far ?_ NB271_281.out _; (with_reducible repeat (first | refine blk_drewN ?_ _ | refine blk_drew ?_ | refine blk_alloc ?_ _)); refine blk_far ?_ NB271_281.out _; (with_reducible repeat (first | refine blk_drewN ?_ _ | refine blk_drew ?_ | refine blk_alloc ?_ _)); refine blk_far ?_ NB271_281.out _; (with_reducible repeat (first | refine blk_drewN ?_ _ | refine blk_drew ?_ | refine blk_alloc ?_ _)); refine blk_far ?_ NB271_281.out _; (with_reducible repeat (first | refine blk_drewN ?_ _ | refine blk_drew ?_ | refine blk_alloc ?_ _)); refine blk_far ?_ NB271_281.out _; (with_reducible repeat (first | refine blk_drewN ?_ _ | refine blk_drew ?_ | refine blk_alloc ?_ _)); exact BK271.out) Try.underlying29 rfl (by kernel_rfl)) rfl ?_
   exact ⟨_, by first | rfl | (simp [errW_none, errW_some] <;> rfl) | (simp [*, errW_none, errW_some] <;> rfl), by (with_reducible repeat (first | apply Kd.R_alloc | apply Kd.R_drewN | apply Kd.R_drew)); exact Kd.R_mono (Kd.R_far (p := ⟨gb271, 4, none⟩) (Kd.R_far (p := ⟨gb271, 3, none⟩) (Kd.R_far (p := ⟨gb271, 2, none⟩) (Kd.R_far (p := ⟨gb271, 1, none⟩) (Kd.R_far (p := ⟨gb271, 0, none⟩) (Kd.R_far (p := ⟨gb281, 0, none⟩) (Kd.R_far (p := ⟨gb281, 4, none⟩) (Kd.R_far (p := ⟨gb281, 3, none⟩) (Kd.R_far (p := ⟨gb281, 2, none⟩) (Kd.R_far (p := ⟨gb281, 1, none⟩) (Kd.R_far (p := ⟨gb281, 0, none⟩) (Kd.R_types (Kd.R_types HO276.out BK281.out (by decide)) BK271.out (by decide)) (fun _ hk => hk.1.2) (.int .i64 t272)) (fun _ hk => hk.1.2) (.string t273)) (fun _ hk => hk.1.2) (.slice Ao19 t274.length co19)) (fun _ hk => hk.1.2) (.bool t277)) (fun _ hk => hk.1.2) (.string t278)) (fun _ hk => hk.1.2) (.int .i64 a2)) (fun _ hk => hk.2) (.int .i64 a2)) (fun _ hk => hk.2) (.string t273)) (fun _ hk => hk.2) (.slice Ao19 t274.length co19)) (fun _ hk => hk.2) (.bool t277)) (fun _ hk => hk.2) (.string t278)) (fun _ hk => trivial), by repeat (first | (with_reducible first | exact HB.out | apply below_alloc | apply pw_below_drewN | apply below_drew1 | refine below_set ?_ GE271.out | refine below_set ?_ GE281.out) | exact HB.out)⟩
 ·
  replace c5 := Bool.eq_false_iff.mpr c5
  subst c5
  have H1 : (some (0, (⟨#[]⟩ : ByteArray), ([] : List (S41)), false, (⟨#[]⟩ : ByteArray), (a0.size : Int))) = some (r1, r2, r3, r4, r5, r6) := by rw [if_neg (show ¬ (false = true) by decide)] at H; exact H
  clear H
  have H := H1
  clear H1
  simp only [Option.some.injEq, Prod.mk.injEq] at H
  obtain ⟨rfl, rfl, rfl, rfl, rfl, rfl⟩ := H
  go_enter Try.func26, Try.ntmps26
  go_wp2_with (first | ((with_reducible refine gate_dst (N := 6) rfl ?_); refine box_event ?hg (N := 6) ?hd (cs := #[.int .i64 0, .string (⟨#[]⟩ : ByteArray), .slice none 0 0, .bool false, .string (⟨#[]⟩ : ByteArray)]) (t := 29) ?hr ?_; (case hd => rfl); (case hg => rfl); (case hr => first | (go_simp; done) | (go_simp; rfl)); intro gb271 hg w21 hbox hb; have n0_ := Aside0.mk (below_step (by repeat (first | (with_reducible first | exact HB.out | apply below_alloc | apply pw_below_drewN | apply below_drew1) | exact HB.out)) hb); have n1_ := Aside0.mk (hbox); have n2_ := Aside0.mk ((by rw [hg]; exact (below_size (by repeat (first | (with_reducible first | exact HB.out | apply below_alloc | apply pw_below_drewN | apply below_drew1) | exact HB.out))) : w.heap.size ≤ gb271)); have n3_ := Aside0.mk ((by rw [hg]; exact (below_size (by repeat (first | (with_reducible first | exact HB.out | apply below_alloc | apply pw_below_drewN | apply below_drew1) | exact HB.out))) : w.heap.size ≤ gb271)); clear HB; have HB := n0_; have BK271 := n1_; have GW271 := n2_; have GE271 := n3_; clear n0_ n1_ n2_ n3_; clear hb hbox hg) | ((with_reducible refine gate_callee (f := 52) rfl ?_); refine goesL_ (some 14) rfl rfl Try.func52 (by kernel_rfl) rfl #[.string a0, .int .i64 a1] rfl (by (try simp only [List.map_toArray, List.map_cons, List.map_nil]); first | done | rfl | (simp only [List.length_drop, List.length_take]; rfl)) ?_; (with_reducible refine (marginaliaref04_tag.calls k a0 a1 t272 t273 t274 t277 t278 t279 false _ A4.out).mono ?_); rintro e w22 ⟨v275, rfl, ho0, hb⟩; refine ⟨_, rfl, ?_⟩; have n0_ := Aside0.mk (Kd.R_lower ho0 (below_size (by repeat (first | (with_reducible first | exact HB.out | apply below_alloc | apply pw_below_drewN | apply below_drew1 | refine below_set ?_ GE271.out) | exact HB.out)))); have n1_ := Aside0.mk (blk_below (g := gb271) (o := .cells #[.int .i64 0, .string (⟨#[]⟩ : ByteArray), .slice none 0 0, .bool false, .string (⟨#[]⟩ : ByteArray)] 29 (0, 0)) (by (with_reducible repeat (first | refine blk_drewN ?_ _ | refine blk_drew ?_ | refine blk_alloc ?_ _)); exact BK271.out) hb); have n2_ := Aside0.mk (below_step (by repeat (first | (with_reducible first | exact HB.out | apply below_alloc | apply pw_below_drewN | apply below_drew1 | refine below_set ?_ GE271.out) | exact HB.out)) hb); clear BK271; clear HB; have HO276 := n0_; have BK271 := n1_; have HB := n2_; clear n0_ n1_ n2_; (try clear hb); (try clear hb2); (try clear hk); (try clear hi); (try clear ho0)) | ((with_reducible refine gate_dst (N := 8) rfl ?_); refine box_event ?hg (N := 8) ?hd (cs := #[.int .i64 0, .string (⟨#[]⟩ : ByteArray), .slice none 0 0, .bool false, .string (⟨#[]⟩ : ByteArray)]) (t := 29) ?hr ?_; (case hd => rfl); (case hg => rfl); (case hr => first | (go_simp; done) | (go_simp; rfl)); intro gb281 hg w23 hbox hb; have n0_ := Aside0.mk (Kd.R_below (by (with_reducible repeat (first | apply Kd.R_alloc | apply Kd.R_drewN | apply Kd.R_drew)); exact HO276.out) hb); have n1_ := Aside0.mk (blk_below (g := gb271) (o := .cells #[.int .i64 0, .string (⟨#[]⟩ : ByteArray), .slice none 0 0, .bool false, .string (⟨#[]⟩ : ByteArray)] 29 (0, 0)) (by (with_reducible repeat (first | refine blk_drewN ?_ _ | refine blk_drew ?_ | refine blk_alloc ?_ _)); exact BK271.out) hb); have n2_ := Aside0.mk (below_step (by repeat (first | (with_reducible first | exact HB.out | apply below_alloc | apply pw_below_drewN | apply below_drew1 | refine below_set ?_ GE271.out) | exact HB.out)) hb); have n3_ := Aside0.mk (hbox); have n4_ := Aside0.mk ((by rw [hg]; exact (below_size (by repeat (first | (with_reducible first | exact HB.out | apply below_alloc | apply pw_below_drewN | apply below_drew1 | refine below_set ?_ GE271.out) | exact HB.out))) : w.heap.size ≤ gb281)); have n5_ := Aside0.mk ((by rw [hg]; exact (below_size (by repeat (first | (with_reducible first | exact HB.out | apply below_alloc | apply pw_below_drewN | apply below_drew1 | refine below_set ?_ GE271.out) | exact HB.out))) : w.heap.size ≤ gb281)); have n6_ := Aside0.mk ((by rw [hg]; exact Nat.ne_of_lt (blk_lt (g := gb271) (o := .cells #[.int .i64 0, .string (⟨#[]⟩ : ByteArray), .slice none 0 0, .bool false, .string (⟨#[]⟩ : ByteArray)] 29 (0, 0)) (by (with_reducible repeat (first | refine blk_drewN ?_ _ | refine blk_drew ?_ | refine blk_alloc ?_ _)); exact BK271.out)) : gb271 ≠ gb281)); have n7_ := Aside0.mk ((by rw [hg]; exact Nat.ne_of_gt (blk_lt (g := gb271) (o := .cells #[.int .i64 0, .string (⟨#[]⟩ : ByteArray), .slice none 0 0, .bool false, .string (⟨#[]⟩ : ByteArray)] 29 (0, 0)) (by (with_reducible repeat (first | refine blk_drewN ?_ _ | refine blk_drew ?_ | refine blk_alloc ?_ _)); exact BK271.out)) : gb281 ≠ gb271)); clear HO276; clear BK271; clear HB; have HO276 := n0_; have BK271 := n1_; have HB := n2_; have BK281 := n3_; have GW281 := n4_; have GE281 := n5_; have NB271_281 := n6_; have NB281_271 := n7_; clear n0_ n1_ n2_ n3_ n4_ n5_ n6_ n7_; clear hb hbox hg; have hnb24 := NB281_271.out; have hnc24 := NB271_281.out; have hcz25_0 : w23.cell? ⟨gb281, 0, none⟩ = some (.int .i64 0) := (blk_cell BK281.out 0).trans rfl; have hcz25_1 : w23.cell? ⟨gb281, 1, none⟩ = some (.string (⟨#[]⟩ : ByteArray)) := (blk_cell BK281.out 1).trans rfl; have hcz25_2 : w23.cell? ⟨gb281, 2, none⟩ = some (.slice none 0 0) := (blk_cell BK281.out 2).trans rfl; have hcz25_3 : w23.cell? ⟨gb281, 3, none⟩ = some (.bool false) := (blk_cell BK281.out 3).trans rfl; have hcz25_4 : w23.cell? ⟨gb281, 4, none⟩ = some (.string (⟨#[]⟩ : ByteArray)) := (blk_cell BK281.out 4).trans rfl; have hfz25_0 := blk_frozen BK281.out 0; have hfz25_1 := blk_frozen BK281.out 1; have hfz25_2 := blk_frozen BK281.out 2; have hfz25_3 := blk_frozen BK281.out 3; have hfz25_4 := blk_frozen BK281.out 4; obtain ⟨Ao26, co26, eo26⟩ := Kd.R_slice HO276.out; subst eo26; have hcz27_0 : w23.cell? ⟨gb271, 0, none⟩ = some (.int .i64 0) := (blk_cell BK271.out 0).trans rfl; have hcz27_1 : w23.cell? ⟨gb271, 1, none⟩ = some (.string (⟨#[]⟩ : ByteArray)) := (blk_cell BK271.out 1).trans rfl; have hcz27_2 : w23.cell? ⟨gb271, 2, none⟩ = some (.slice none 0 0) := (blk_cell BK271.out 2).trans rfl; have hcz27_3 : w23.cell? ⟨gb271, 3, none⟩ = some (.bool false) := (blk_cell BK271.out 3).trans rfl; have hcz27_4 : w23.cell? ⟨gb271, 4, none⟩ = some (.string (⟨#[]⟩ : ByteArray)) := (blk_cell BK271.out 4).trans rfl; have hfz27_0 := blk_frozen BK271.out 0; have hfz27_1 := blk_frozen BK271.out 1; have hfz27_2 := blk_frozen BK271.out 2; have hfz27_3 := blk_frozen BK271.out 3; have hfz27_4 := blk_frozen BK271.out 4))
  refine bodyPost_ret (results_ct rfl _ _ gb271 29 #[.int .i64 0, .string (⟨#[]⟩ : ByteArray), .slice none 0 0, .bool false, .string (⟨#[]⟩ : ByteArray)] (0, 0) _ rfl (by (with_reducible repeat (first | refine blk_drewN ?_ _ | refine blk_drew ?_ | refine blk_alloc ?_ _)); refine blk_put (cs := #[.int .i64 0, .string (⟨#[]⟩ : ByteArray), .slice none 0 0, .bool false, .string (⟨#[]⟩ : ByteArray)]) ?_ 4 _ rfl; (with_reducible repeat (first | refine blk_drewN ?_ _ | refine blk_drew ?_ | refine blk_alloc ?_ _)); refine blk_put (cs := #[.int .i64 0, .string (⟨#[]⟩ : ByteArray), .slice none 0 0, .bool false, .string (⟨#[]⟩ : ByteArray)]) ?_ 3 _ rfl; (with_reducible repeat (first | refine blk_drewN ?_ _ | refine blk_drew ?_ | refine blk_alloc ?_ _)); refine blk_put (cs := #[.int .i64 0, .string (⟨#[]⟩ : ByteArray), .slice none 0 0, .bool false, .string (⟨#[]⟩ : ByteArray)]) ?_ 2 _ rfl; (with_reducible repeat (first | refine blk_drewN ?_ _ | refine blk_drew ?_ | refine blk_alloc ?_ _)); refine blk_put (cs := #[.int .i64 0, .string (⟨#[]⟩ : ByteArray), .slice none 0 0, .bool false, .string (⟨#[]⟩ : ByteArray)]) ?_ 1 _ rfl; (with_reducible repeat (first | refine blk_drewN ?_ _ | refine blk_drew ?_ | refine blk_alloc ?_ _)); refine blk_put (cs := #[.int .i64 0, .string (⟨#[]⟩ : ByteArray), .slice none 0 0, .bool false, .string (⟨#[]⟩ : ByteArray)]) ?_ 0 _ rfl; (with_reducible repeat (first | refine blk_drewN ?_ _ | refine blk_drew ?_ | refine blk_alloc ?_ _)); refine blk_far ?_ NB271_281.out _; (with_reducible repeat (first | refine blk_drewN ?_ _ | refine blk_drew ?_ | refine blk_alloc ?_ _)); refine blk_far ?_ NB271_281.out _; (with_reducible repeat (first | refine blk_drewN ?_ _ | refine blk_drew ?_ | refine blk_alloc ?_ _)); refine blk_far ?_ NB271_281.out _; (with_reducible repeat (first | refine blk_drewN ?_ _ | refine blk_drew ?_ | refine blk_alloc ?_ _)); refine blk_far ?_ NB271_281.out _; (with_reducible repeat (first | refine blk_drewN ?_ _ | refine blk_drew ?_ | refine blk_alloc ?_ _)); refine blk_far ?_ NB271_281.out _; (with_reducible repeat (first | refine blk_drewN ?_ _ | refine blk_drew ?_ | refine blk_alloc ?_ _)); exact BK271.out) Try.underlying29 rfl (by kernel_rfl)) rfl ?_
  exact ⟨_, by first | rfl | (simp [errW_none, errW_some] <;> rfl) | (simp [*, errW_none, errW_some] <;> rfl), by first | exact Kd.R_nil _ _ _ _ _ | exact Kd.N_nil _ _ _ _ _ | exact Kd.V_nil _ _ _ _ _ | exact Kd.Q_nil _ _ _ _ _ | exact Kd.S_nil _ _ _ _ _, by repeat (first | (with_reducible first | exact HB.out | apply below_alloc | apply pw_below_drewN | apply below_drew1 | refine below_set ?_ GE271.out | refine below_set ?_ GE281.out) | exact HB.out)⟩
/-! ### marginaliaref04_begins: function 43 -/
def marginaliaref04_begins.f (a0 : ByteArray) (a1 : Int) : Option (Bool) := (marginaliaref04_here.f a0 a1 (⟨#[60]⟩ : ByteArray)).bind fun t282 => (if t282 = true then (if (wrap64 (a1 + 1)) ≥ (a0.size : Int) then (some false) else (if 0 ≤ (wrap64 (a1 + 1)) then (if (wrap64 (a1 + 1)) < (a0.size : Int) then ((marginaliaref02_Letter.f (bt a0 (wrap64 (a1 + 1)))).bind fun t283 => (if t283 = true then (some true) else (if (bt a0 (wrap64 (a1 + 1))) = 33 then (some true) else (if (bt a0 (wrap64 (a1 + 1))) = 63 then (some true) else (if (bt a0 (wrap64 (a1 + 1))) = 47 then (some (decide ((wrap64 (a1 + 2)) < (a0.size : Int)))) else (some false)))))) else (none)) else (none))) else (some false))
set_option maxHeartbeats 8000000 in
set_option maxRecDepth 100000 in
theorem marginaliaref04_begins.calls (a0 : ByteArray) (a1 : Int) (r : Bool) (w : World) (h : marginaliaref04_begins.f a0 a1 = some r) :
    Calls Try.prog 43 #[.string a0, .int .i64 a1] w fun e w' => e = .returned (.bool r) ∧ Drawn0 w w' := by
 have H : ((marginaliaref04_here.f a0 a1 (⟨#[60]⟩ : ByteArray)).bind fun t282 => (if t282 = true then (if (wrap64 (a1 + 1)) ≥ (a0.size : Int) then (some false) else (if 0 ≤ (wrap64 (a1 + 1)) then (if (wrap64 (a1 + 1)) < (a0.size : Int) then ((marginaliaref02_Letter.f (bt a0 (wrap64 (a1 + 1)))).bind fun t283 => (if t283 = true then (some true) else (if (bt a0 (wrap64 (a1 + 1))) = 33 then (some true) else (if (bt a0 (wrap64 (a1 + 1))) = 63 then (some true) else (if (bt a0 (wrap64 (a1 + 1))) = 47 then (some (decide ((wrap64 (a1 + 2)) < (a0.size : Int)))) else (some false)))))) else (none)) else (none))) else (some false))) = some r := h
 clear h
 replace H := Option.bind_eq_some_iff.mp H
 obtain ⟨t282, A30, H⟩ := H
 try dsimp only at H
 have A3 := Aside0.mk A30
 clear A30
 go_enter Try.func43, Try.ntmps43
 go_wp2_with fail
 (with_reducible refine (marginaliaref04_here.calls a0 a1 (⟨#[60]⟩ : ByteArray) t282 _ A3.out).mono ?_)
 rintro e w' ⟨rfl, ⟨nd, rfl⟩⟩
 by_cases c4 : t282 = true
 ·
  subst c4
  replace H := (if_pos rfl).symm.trans H
  by_cases c5 : (wrap64 (a1 + 1)) ≥ (a0.size : Int)
  ·
   rw [if_pos c5] at H
   have c5b0 : decide ((a0.size : Int) ≤ (wrap64 (a1 + 1))) = true := decide_eq_true c5
   clear c5
   obtain rfl := Option.some.inj H
   go_wp2
   go_ret
   exact ⟨by first | rfl | (simp; done) | (simp [*]; done), by repeat (first | exact Drawn0.refl _ | apply Drawn0.step)⟩
  ·
   rw [if_neg c5] at H
   have c5b0 : decide ((a0.size : Int) ≤ (wrap64 (a1 + 1))) = false := decide_eq_false c5
   clear c5
   obtain ⟨ji6, hji6⟩ : ∃ j_ : Int, (wrap64 (a1 + 1)) = j_ := ⟨_, rfl⟩
   replace H : (if 0 ≤ (ji6) then (if (ji6) < (a0.size : Int) then ((marginaliaref02_Letter.f (bt a0 (ji6))).bind fun t283 => (if t283 = true then (some true) else (if (bt a0 (ji6)) = 33 then (some true) else (if (bt a0 (ji6)) = 63 then (some true) else (if (bt a0 (ji6)) = 47 then (some (decide ((wrap64 (a1 + 2)) < (a0.size : Int)))) else (some false)))))) else (none)) else (none)) = some r := by first | (rw [hji6] at H; exact H) | (simp only [hji6] at H ⊢; exact H)
   (try rw [hji6] at c5b0)
   (try rw [hji6] at A3)
   have hji6w : (IntKind.i64.wrap (a1 + 1)) = ji6 := (i64_w _).trans hji6
   by_cases c7 : 0 ≤ (ji6)
   ·
    rw [if_pos c7] at H
    have c7b0 : decide (0 ≤ (ji6)) = true := decide_eq_true c7
    clear c7
    by_cases c8 : (ji6) < (a0.size : Int)
    ·
     rw [if_pos c8] at H
     have c8b0 : decide ((ji6) < (a0.size : Int)) = true := decide_eq_true c8
     clear c8
     replace H := Option.bind_eq_some_iff.mp H
     obtain ⟨t283, A100, H⟩ := H
     try dsimp only at H
     have A10 := Aside0.mk A100
     clear A100
     have p9 : 0 ≤ ((ji6) : Int) := of_decide_eq_true (by first | (with_reducible assumption) | assumption)
     have q9 : (ji6) < (a0.size : Int) := of_decide_eq_true (by first | (with_reducible assumption) | assumption)
     have hx9 := bt_at a0 (ji6)
     replace p9 := eq_true p9
     replace q9 := eq_true q9
     go_wp2_with fail
     (with_reducible refine (marginaliaref02_Letter.calls (bt a0 (ji6)) t283 _ A10.out).mono ?_)
     rintro e w' ⟨rfl, ⟨nd, rfl⟩⟩
     by_cases c11 : t283 = true
     ·
      subst c11
      replace H := (if_pos rfl).symm.trans H
      obtain rfl := Option.some.inj H
      go_wp2
      go_ret
      exact ⟨by first | rfl | (simp; done) | (simp only [← hji6] <;> (first | rfl | simp)) | (simp [*]; done), by repeat (first | exact Drawn0.refl _ | apply Drawn0.step)⟩
     ·
      replace c11 := Bool.eq_false_iff.mpr c11
      subst c11
      replace H := (if_neg Bool.false_ne_true).symm.trans H
      by_cases c12 : (bt a0 (ji6)) = 33
      ·
       rw [if_pos c12] at H
       have c12b0 : ((bt a0 (ji6)) == 33) = true := beq_iff_eq.mpr c12
       have c12b1 : ((bt a0 (ji6)) != 33) = false := bne_eq_false_iff_eq.mpr c12
       clear c12
       obtain rfl := Option.some.inj H
       go_wp2
       go_ret
       exact ⟨by first | rfl | (simp; done) | (simp only [← hji6] <;> (first | rfl | simp)) | (simp [*]; done), by repeat (first | exact Drawn0.refl _ | apply Drawn0.step)⟩
      ·
       rw [if_neg c12] at H
       have c12b0 : ((bt a0 (ji6)) == 33) = false := beq_eq_false_iff_ne.mpr c12
       have c12b1 : ((bt a0 (ji6)) != 33) = true := bne_iff_ne.mpr c12
       by_cases c13 : (bt a0 (ji6)) = 63
       ·
        rw [if_pos c13] at H
        have c13b0 : ((bt a0 (ji6)) == 63) = true := beq_iff_eq.mpr c13
        have c13b1 : ((bt a0 (ji6)) != 63) = false := bne_eq_false_iff_eq.mpr c13
        clear c13
        obtain rfl := Option.some.inj H
        go_wp2
        go_ret
        exact ⟨by first | rfl | (simp; done) | (simp only [← hji6] <;> (first | rfl | simp)) | (simp [*]; done), by repeat (first | exact Drawn0.refl _ | apply Drawn0.step)⟩
       ·
        rw [if_neg c13] at H
        have c13b0 : ((bt a0 (ji6)) == 63) = false := beq_eq_false_iff_ne.mpr c13
        have c13b1 : ((bt a0 (ji6)) != 63) = true := bne_iff_ne.mpr c13
        by_cases c14 : (bt a0 (ji6)) = 47
        ·
         rw [if_pos c14] at H
         have c14b0 : ((bt a0 (ji6)) == 47) = true := beq_iff_eq.mpr c14
         have c14b1 : ((bt a0 (ji6)) != 47) = false := bne_eq_false_iff_eq.mpr c14
         clear c14
         obtain rfl := Option.some.inj H
         go_wp2
         go_ret
         exact ⟨by first | rfl | (simp; done) | (simp only [← hji6] <;> (first | rfl | simp)) | (simp [*]; done), by repeat (first | exact Drawn0.refl _ | apply Drawn0.step)⟩
        ·
         rw [if_neg c14] at H
         have c14b0 : ((bt a0 (ji6)) == 47) = false := beq_eq_false_iff_ne.mpr c14
         have c14b1 : ((bt a0 (ji6)) != 47) = true := bne_iff_ne.mpr c14
         obtain rfl := Option.some.inj H
         go_wp2
         go_ret
         exact ⟨by first | rfl | (simp; done) | (simp only [← hji6] <;> (first | rfl | simp)) | (simp [*]; done), by repeat (first | exact Drawn0.refl _ | apply Drawn0.step)⟩
    ·
     rw [if_neg c8] at H
     exact absurd H (by simp)
   ·
    rw [if_neg c7] at H
    exact absurd H (by simp)
 ·
  replace c4 := Bool.eq_false_iff.mpr c4
  subst c4
  replace H := (if_neg Bool.false_ne_true).symm.trans H
  obtain rfl := Option.some.inj H
  go_wp2
  go_ret
  exact ⟨by first | rfl | (simp; done) | (simp [*]; done), by repeat (first | exact Drawn0.refl _ | apply Drawn0.step)⟩
/-! ### marginaliaref04_text: function 44 -/
def marginaliaref04_text.l0 : Nat → ByteArray → Int → Int → Option (Int × ByteArray × (List (S41)) × Bool × ByteArray × Int)
  | 0, _, _, _ => none
  | k + 1, x0, x1, x6 => if x6 < (x0.size : Int) then ((marginaliaref04_begins.f x0 x6).bind fun t285 => (if t285 = true then (if 0 ≤ x1 then (if x1 ≤ x6 then (if x6 ≤ (x0.size : Int) then ((marginaliaref03_Decode.f k (x0.extract (x1 : Int).toNat (x6 : Int).toNat) false).bind fun t286 => (some (1, (⟨#[]⟩ : ByteArray), ([] : List (S41)), false, t286, x6))) else (none)) else (none)) else (none)) else (marginaliaref04_text.l0 k x0 x1 (wrap64 (x6 + 1))))) else (if 0 ≤ x1 then (if x1 ≤ x6 then (if x6 ≤ (x0.size : Int) then ((marginaliaref03_Decode.f k (x0.extract (x1 : Int).toNat (x6 : Int).toNat) false).bind fun t287 => (some (1, (⟨#[]⟩ : ByteArray), ([] : List (S41)), false, t287, x6))) else (none)) else (none)) else (none))
def marginaliaref04_text.f (k : Nat) (a0 : ByteArray) (a1 : Int) : Option (Int × ByteArray × (List (S41)) × Bool × ByteArray × Int) := marginaliaref04_text.l0 k a0 a1 a1
set_option maxHeartbeats 8000000 in
set_option maxRecDepth 100000 in
theorem marginaliaref04_text.calls (k : Nat) (a0 : ByteArray) (a1 : Int) (r1 : Int) (r2 : ByteArray) (r3 : List (S41)) (r4 : Bool) (r5 : ByteArray) (r6 : Int) (w : World) (h : marginaliaref04_text.f k a0 a1 = some (r1, r2, r3, r4, r5, r6)) :
    Calls Try.prog 44 #[.string a0, .int .i64 a1] w fun e w' => ∃ v2_ : Value, e = .returned (.tuple #[.agg #[.int .i64 r1, .string r2, v2_, .bool r4, .string r5], .int .i64 r6]) ∧ Kd.R k41 41 w' w.heap.size (fun _ => True) v2_ r3 ∧ Below w.heap.size w w' := by
 have hu29 := Try.underlying29
 have HB := Aside0.mk (Below.refl w.heap.size w)
 have H : (marginaliaref04_text.l0 k a0 a1 a1) = some (r1, r2, r3, r4, r5, r6) := h
 clear h
 have H' := Aside0.mk H
 clear H
 go_enter Try.func44, Try.ntmps44
 go_wp2_with (first | ((with_reducible refine gate_dst (N := 4) rfl ?_); refine box_event ?hg (N := 4) ?hd (cs := #[.int .i64 0, .string (⟨#[]⟩ : ByteArray), .slice none 0 0, .bool false, .string (⟨#[]⟩ : ByteArray)]) (t := 29) ?hr ?_; (case hd => rfl); (case hg => rfl); (case hr => first | (go_simp; done) | (go_simp; rfl)); intro gb284 hg w3 hbox hb; have n0_ := Aside0.mk (below_step (by repeat (first | (with_reducible first | exact HB.out | apply below_alloc | apply pw_below_drewN | apply below_drew1) | exact HB.out)) hb); have n1_ := Aside0.mk (hbox); have n2_ := Aside0.mk ((by rw [hg]; exact (below_size (by repeat (first | (with_reducible first | exact HB.out | apply below_alloc | apply pw_below_drewN | apply below_drew1) | exact HB.out))) : w.heap.size ≤ gb284)); have n3_ := Aside0.mk ((by rw [hg]; exact (below_size (by repeat (first | (with_reducible first | exact HB.out | apply below_alloc | apply pw_below_drewN | apply below_drew1) | exact HB.out))) : w.heap.size ≤ gb284)); clear HB; have HB := n0_; have BK284 := n1_; have GW284 := n2_; have GE284 := n3_; clear n0_ n1_ n2_ n3_; clear hb hbox hg))
 go_loopg [6] k (fun kq v6 w' => ∃ (x6_1 : Int), v6 = .int .i64 x6_1 ∧ Aside0 (marginaliaref04_text.l0 kq a0 a1 x6_1 = some (r1, r2, r3, r4, r5, r6)) ∧ Aside0 (kq ≤ k) ∧ Aside0 (w'.heap[gb284]? = some (.cells #[.int .i64 0, .string (⟨#[]⟩ : ByteArray), (.slice none 0 0), .bool false, .string (⟨#[]⟩ : ByteArray)] 29 (0, 0))) ∧ Aside0 (Below w.heap.size w w'))
 case atStart => exact ⟨(a1), (by first | rfl | (simp; done) | (simp [*]; done)), H', ⟨Nat.le_refl _⟩, ⟨by (with_reducible repeat (first | refine blk_drewN ?_ _ | refine blk_drew ?_ | refine blk_alloc ?_ _)); exact BK284.out⟩, ⟨by repeat (first | (with_reducible first | exact HB.out | apply below_alloc | apply pw_below_drewN | apply below_drew1 | refine below_set ?_ GE284.out) | exact HB.out)⟩⟩
 case round =>
  clear H'
  try clear p2
  obtain ⟨x6_1, rfl, HA, HK1, BK284, HB⟩ := hrel
  cases gk with
  | zero => exact absurd HA.out (by simp [marginaliaref04_text.l0])
  | succ k1 =>
   have H := HA.out
   clear HA
   simp only [marginaliaref04_text.l0] at H
   by_cases c4 : x6_1 < (a0.size : Int)
   ·
    rw [if_pos c4] at H
    have c4b0 : decide (x6_1 < (a0.size : Int)) = true := decide_eq_true c4
    clear c4
    replace H := Option.bind_eq_some_iff.mp H
    obtain ⟨t285, A50, H⟩ := H
    try dsimp only at H
    have A5 := Aside0.mk A50
    clear A50
    go_wp2_with fail
    (with_reducible refine (marginaliaref04_begins.calls a0 x6_1 t285 _ A5.out).mono ?_)
    rintro e w' ⟨rfl, ⟨nd, rfl⟩⟩
    (try (rw [drewN_self wr]; generalize hq_ : World.drewN wr _ = wr; have n0_ : Aside0 (wr.heap[gb284]? = some (.cells #[.int .i64 0, .string (⟨#[]⟩ : ByteArray), .slice none 0 0, .bool false, .string (⟨#[]⟩ : ByteArray)] 29 (0, 0))) := ⟨by rw [← hq_]; exact (by (with_reducible repeat (first | refine blk_drewN ?_ _ | refine blk_drew ?_ | refine blk_alloc ?_ _)); exact BK284.out)⟩; have n1_ : Aside0 (Below w.heap.size w wr) := ⟨by rw [← hq_]; exact (by repeat (first | (with_reducible first | exact HB.out | apply below_alloc | apply pw_below_drewN | apply below_drew1 | refine below_set ?_ GE284.out) | exact HB.out))⟩; clear BK284 HB hq_; have BK284 := n0_; have HB := n1_; clear n0_ n1_))
    by_cases c6 : t285 = true
    ·
     subst c6
     replace H := (if_pos rfl).symm.trans H
     by_cases c7 : 0 ≤ a1
     ·
      rw [if_pos c7] at H
      have c7b0 := eq_true c7
      have c7b1 : decide (0 ≤ a1) = true := decide_eq_true c7
      clear c7
      by_cases c8 : a1 ≤ x6_1
      ·
       rw [if_pos c8] at H
       have c8b0 := eq_true c8
       have c8b1 : decide (a1 ≤ x6_1) = true := decide_eq_true c8
       clear c8
       by_cases c9 : x6_1 ≤ (a0.size : Int)
       ·
        rw [if_pos c9] at H
        have c9b0 := eq_true c9
        have c9b1 : decide (x6_1 ≤ (a0.size : Int)) = true := decide_eq_true c9
        clear c9
        replace H := Option.bind_eq_some_iff.mp H
        obtain ⟨t286, A100, H⟩ := H
        try dsimp only at H
        have A10 := Aside0.mk A100
        clear A100
        go_wp2_with fail
        (with_reducible refine (marginaliaref03_Decode.calls k1 (a0.extract (a1 : Int).toNat (x6_1 : Int).toNat) false t286 _ A10.out).mono ?_)
        rintro e w11 ⟨rfl, hb⟩
        have n0_ := Aside0.mk (blk_below (g := gb284) (o := .cells #[.int .i64 0, .string (⟨#[]⟩ : ByteArray), .slice none 0 0, .bool false, .string (⟨#[]⟩ : ByteArray)] 29 (0, 0)) (by (with_reducible repeat (first | refine blk_drewN ?_ _ | refine blk_drew ?_ | refine blk_alloc ?_ _)); exact BK284.out) hb)
        have n1_ := Aside0.mk (below_step (by repeat (first | (with_reducible first | exact HB.out | apply below_alloc | apply pw_below_drewN | apply below_drew1 | refine below_set ?_ GE284.out) | exact HB.out)) hb)
        clear BK284
        clear HB
        have BK284 := n0_
        have HB := n1_
        clear n0_ n1_
        (try clear hb)
        (try clear hb2)
        (try clear hk)
        (try clear hi)
        simp only [Option.some.injEq, Prod.mk.injEq] at H
        obtain ⟨rfl, rfl, rfl, rfl, rfl, rfl⟩ := H
        have hcz12_0 : w11.cell? ⟨gb284, 0, none⟩ = some (.int .i64 0) := (blk_cell BK284.out 0).trans rfl
        have hcz12_1 : w11.cell? ⟨gb284, 1, none⟩ = some (.string (⟨#[]⟩ : ByteArray)) := (blk_cell BK284.out 1).trans rfl
        have hcz12_2 : w11.cell? ⟨gb284, 2, none⟩ = some (.slice none 0 0) := (blk_cell BK284.out 2).trans rfl
        have hcz12_3 : w11.cell? ⟨gb284, 3, none⟩ = some (.bool false) := (blk_cell BK284.out 3).trans rfl
        have hcz12_4 : w11.cell? ⟨gb284, 4, none⟩ = some (.string (⟨#[]⟩ : ByteArray)) := (blk_cell BK284.out 4).trans rfl
        have hfz12_0 := blk_frozen BK284.out 0
        have hfz12_1 := blk_frozen BK284.out 1
        have hfz12_2 := blk_frozen BK284.out 2
        have hfz12_3 := blk_frozen BK284.out 3
        have hfz12_4 := blk_frozen BK284.out 4
        go_wp2
        refine bodyPost_ret (results_ct rfl _ _ gb284 29 #[.int .i64 1, .string (⟨#[]⟩ : ByteArray), .slice none 0 0, .bool false, .string t286] (0, 0) _ rfl (by (with_reducible repeat (first | refine blk_drewN ?_ _ | refine blk_drew ?_ | refine blk_alloc ?_ _)); refine blk_put (cs := #[.int .i64 1, .string (⟨#[]⟩ : ByteArray), .slice none 0 0, .bool false, .string (⟨#[]⟩ : ByteArray)]) ?_ 4 _ rfl; (with_reducible repeat (first | refine blk_drewN ?_ _ | refine blk_drew ?_ | refine blk_alloc ?_ _)); refine blk_put (cs := #[.int .i64 1, .string (⟨#[]⟩ : ByteArray), .slice none 0 0, .bool false, .string (⟨#[]⟩ : ByteArray)]) ?_ 3 _ rfl; (with_reducible repeat (first | refine blk_drewN ?_ _ | refine blk_drew ?_ | refine blk_alloc ?_ _)); refine blk_put (cs := #[.int .i64 1, .string (⟨#[]⟩ : ByteArray), .slice none 0 0, .bool false, .string (⟨#[]⟩ : ByteArray)]) ?_ 2 _ rfl; (with_reducible repeat (first | refine blk_drewN ?_ _ | refine blk_drew ?_ | refine blk_alloc ?_ _)); refine blk_put (cs := #[.int .i64 1, .string (⟨#[]⟩ : ByteArray), .slice none 0 0, .bool false, .string (⟨#[]⟩ : ByteArray)]) ?_ 1 _ rfl; (with_reducible repeat (first | refine blk_drewN ?_ _ | refine blk_drew ?_ | refine blk_alloc ?_ _)); refine blk_put (cs := #[.int .i64 0, .string (⟨#[]⟩ : ByteArray), .slice none 0 0, .bool false, .string (⟨#[]⟩ : ByteArray)]) ?_ 0 _ rfl; (with_reducible repeat (first | refine blk_drewN ?_ _ | refine blk_drew ?_ | refine blk_alloc ?_ _)); exact BK284.out) Try.underlying29 rfl (by kernel_rfl)) rfl ?_
        exact ⟨_, by first | rfl | (simp [errW_none, errW_some] <;> rfl) | (simp [*, errW_none, errW_some] <;> rfl), by first | exact Kd.R_nil _ _ _ _ _ | exact Kd.N_nil _ _ _ _ _ | exact Kd.V_nil _ _ _ _ _ | exact Kd.Q_nil _ _ _ _ _ | exact Kd.S_nil _ _ _ _ _, by repeat (first | (with_reducible first | exact HB.out | apply below_alloc | apply pw_below_drewN | apply below_drew1 | refine below_set ?_ GE284.out) | exact HB.out)⟩
       ·
        rw [if_neg c9] at H
        exact absurd H (by simp)
      ·
       rw [if_neg c8] at H
       exact absurd H (by simp)
     ·
      rw [if_neg c7] at H
      exact absurd H (by simp)
    ·
     replace c6 := Bool.eq_false_iff.mpr c6
     subst c6
     replace H := (if_neg Bool.false_ne_true).symm.trans H
     have H' := Aside0.mk H
     clear H
     go_wp2
     go_roundg k1
     case measure => have := HK1.out; omega
     case rel => exact ⟨(wrap64 (x6_1 + 1)), (by first | rfl | (simp; done) | (simp [*]; done)), H', ⟨by have := HK1.out; omega⟩, ⟨by (with_reducible repeat (first | refine blk_drewN ?_ _ | refine blk_drew ?_ | refine blk_alloc ?_ _)); exact BK284.out⟩, ⟨by repeat (first | (with_reducible first | exact HB.out | apply below_alloc | apply pw_below_drewN | apply below_drew1 | refine below_set ?_ GE284.out) | exact HB.out)⟩⟩
   ·
    rw [if_neg c4] at H
    have c4b0 : decide (x6_1 < (a0.size : Int)) = false := decide_eq_false c4
    clear c4
    by_cases c13 : 0 ≤ a1
    ·
     rw [if_pos c13] at H
     have c13b0 := eq_true c13
     have c13b1 : decide (0 ≤ a1) = true := decide_eq_true c13
     clear c13
     by_cases c14 : a1 ≤ x6_1
     ·
      rw [if_pos c14] at H
      have c14b0 := eq_true c14
      have c14b1 : decide (a1 ≤ x6_1) = true := decide_eq_true c14
      clear c14
      by_cases c15 : x6_1 ≤ (a0.size : Int)
      ·
       rw [if_pos c15] at H
       have c15b0 := eq_true c15
       have c15b1 : decide (x6_1 ≤ (a0.size : Int)) = true := decide_eq_true c15
       clear c15
       replace H := Option.bind_eq_some_iff.mp H
       obtain ⟨t287, A160, H⟩ := H
       try dsimp only at H
       have A16 := Aside0.mk A160
       clear A160
       go_wp2_with fail
       (with_reducible refine (marginaliaref03_Decode.calls k1 (a0.extract (a1 : Int).toNat (x6_1 : Int).toNat) false t287 _ A16.out).mono ?_)
       rintro e w17 ⟨rfl, hb⟩
       have n0_ := Aside0.mk (blk_below (g := gb284) (o := .cells #[.int .i64 0, .string (⟨#[]⟩ : ByteArray), .slice none 0 0, .bool false, .string (⟨#[]⟩ : ByteArray)] 29 (0, 0)) (by (with_reducible repeat (first | refine blk_drewN ?_ _ | refine blk_drew ?_ | refine blk_alloc ?_ _)); exact BK284.out) hb)
       have n1_ := Aside0.mk (below_step (by repeat (first | (with_reducible first | exact HB.out | apply below_alloc | apply pw_below_drewN | apply below_drew1 | refine below_set ?_ GE284.out) | exact HB.out)) hb)
       clear BK284
       clear HB
       have BK284 := n0_
       have HB := n1_
       clear n0_ n1_
       (try clear hb)
       (try clear hb2)
       (try clear hk)
       (try clear hi)
       simp only [Option.some.injEq, Prod.mk.injEq] at H
       obtain ⟨rfl, rfl, rfl, rfl, rfl, rfl⟩ := H
       have hcz18_0 : w17.cell? ⟨gb284, 0, none⟩ = some (.int .i64 0) := (blk_cell BK284.out 0).trans rfl
       have hcz18_1 : w17.cell? ⟨gb284, 1, none⟩ = some (.string (⟨#[]⟩ : ByteArray)) := (blk_cell BK284.out 1).trans rfl
       have hcz18_2 : w17.cell? ⟨gb284, 2, none⟩ = some (.slice none 0 0) := (blk_cell BK284.out 2).trans rfl
       have hcz18_3 : w17.cell? ⟨gb284, 3, none⟩ = some (.bool false) := (blk_cell BK284.out 3).trans rfl
       have hcz18_4 : w17.cell? ⟨gb284, 4, none⟩ = some (.string (⟨#[]⟩ : ByteArray)) := (blk_cell BK284.out 4).trans rfl
       have hfz18_0 := blk_frozen BK284.out 0
       have hfz18_1 := blk_frozen BK284.out 1
       have hfz18_2 := blk_frozen BK284.out 2
       have hfz18_3 := blk_frozen BK284.out 3
       have hfz18_4 := blk_frozen BK284.out 4
       go_wp2
       refine bodyPost_ret (results_ct rfl _ _ gb284 29 #[.int .i64 1, .string (⟨#[]⟩ : ByteArray), .slice none 0 0, .bool false, .string t287] (0, 0) _ rfl (by (with_reducible repeat (first | refine blk_drewN ?_ _ | refine blk_drew ?_ | refine blk_alloc ?_ _)); refine blk_put (cs := #[.int .i64 1, .string (⟨#[]⟩ : ByteArray), .slice none 0 0, .bool false, .string (⟨#[]⟩ : ByteArray)]) ?_ 4 _ rfl; (with_reducible repeat (first | refine blk_drewN ?_ _ | refine blk_drew ?_ | refine blk_alloc ?_ _)); refine blk_put (cs := #[.int .i64 1, .string (⟨#[]⟩ : ByteArray), .slice none 0 0, .bool false, .string (⟨#[]⟩ : ByteArray)]) ?_ 3 _ rfl; (with_reducible repeat (first | refine blk_drewN ?_ _ | refine blk_drew ?_ | refine blk_alloc ?_ _)); refine blk_put (cs := #[.int .i64 1, .string (⟨#[]⟩ : ByteArray), .slice none 0 0, .bool false, .string (⟨#[]⟩ : ByteArray)]) ?_ 2 _ rfl; (with_reducible repeat (first | refine blk_drewN ?_ _ | refine blk_drew ?_ | refine blk_alloc ?_ _)); refine blk_put (cs := #[.int .i64 1, .string (⟨#[]⟩ : ByteArray), .slice none 0 0, .bool false, .string (⟨#[]⟩ : ByteArray)]) ?_ 1 _ rfl; (with_reducible repeat (first | refine blk_drewN ?_ _ | refine blk_drew ?_ | refine blk_alloc ?_ _)); refine blk_put (cs := #[.int .i64 0, .string (⟨#[]⟩ : ByteArray), .slice none 0 0, .bool false, .string (⟨#[]⟩ : ByteArray)]) ?_ 0 _ rfl; (with_reducible repeat (first | refine blk_drewN ?_ _ | refine blk_drew ?_ | refine blk_alloc ?_ _)); exact BK284.out) Try.underlying29 rfl (by kernel_rfl)) rfl ?_
       exact ⟨_, by first | rfl | (simp [errW_none, errW_some] <;> rfl) | (simp [*, errW_none, errW_some] <;> rfl), by first | exact Kd.R_nil _ _ _ _ _ | exact Kd.N_nil _ _ _ _ _ | exact Kd.V_nil _ _ _ _ _ | exact Kd.Q_nil _ _ _ _ _ | exact Kd.S_nil _ _ _ _ _, by repeat (first | (with_reducible first | exact HB.out | apply below_alloc | apply pw_below_drewN | apply below_drew1 | refine below_set ?_ GE284.out) | exact HB.out)⟩
      ·
       rw [if_neg c15] at H
       exact absurd H (by simp)
     ·
      rw [if_neg c14] at H
      exact absurd H (by simp)
    ·
     rw [if_neg c13] at H
     exact absurd H (by simp)
/-! ### marginaliaref04_other: function 47 -/
def marginaliaref04_other.f (k : Nat) (a0 : ByteArray) (a1 : Int) : Option (Int × ByteArray × (List (S41)) × Bool × ByteArray × Int) := (marginaliaref04_find.f k a0 a1 (⟨#[62]⟩ : ByteArray)).bind fun t289 => (if 0 ≤ a1 then (if a1 ≤ t289 then (if t289 ≤ (a0.size : Int) then (some (4, (⟨#[]⟩ : ByteArray), ([] : List (S41)), false, a0.extract (a1 : Int).toNat (t289 : Int).toNat, mn (wrap64 (t289 + 1)) (a0.size : Int))) else (none)) else (none)) else (none))
set_option maxHeartbeats 8000000 in
set_option maxRecDepth 100000 in
theorem marginaliaref04_other.calls (k : Nat) (a0 : ByteArray) (a1 : Int) (r1 : Int) (r2 : ByteArray) (r3 : List (S41)) (r4 : Bool) (r5 : ByteArray) (r6 : Int) (w : World) (h : marginaliaref04_other.f k a0 a1 = some (r1, r2, r3, r4, r5, r6)) :
    Calls Try.prog 47 #[.string a0, .int .i64 a1] w fun e w' => ∃ v2_ : Value, e = .returned (.tuple #[.agg #[.int .i64 r1, .string r2, v2_, .bool r4, .string r5], .int .i64 r6]) ∧ Kd.R k41 41 w' w.heap.size (fun _ => True) v2_ r3 ∧ Below w.heap.size w w' := by
 have hu29 := Try.underlying29
 have HB := Aside0.mk (Below.refl w.heap.size w)
 have H : ((marginaliaref04_find.f k a0 a1 (⟨#[62]⟩ : ByteArray)).bind fun t289 => (if 0 ≤ a1 then (if a1 ≤ t289 then (if t289 ≤ (a0.size : Int) then (some (4, (⟨#[]⟩ : ByteArray), ([] : List (S41)), false, a0.extract (a1 : Int).toNat (t289 : Int).toNat, mn (wrap64 (t289 + 1)) (a0.size : Int))) else (none)) else (none)) else (none))) = some (r1, r2, r3, r4, r5, r6) := h
 clear h
 replace H := Option.bind_eq_some_iff.mp H
 obtain ⟨t289, A30, H⟩ := H
 try dsimp only at H
 have A3 := Aside0.mk A30
 clear A30
 go_enter Try.func47, Try.ntmps47
 go_wp2_with (first | ((with_reducible refine gate_dst (N := 4) rfl ?_); refine box_event ?hg (N := 4) ?hd (cs := #[.int .i64 0, .string (⟨#[]⟩ : ByteArray), .slice none 0 0, .bool false, .string (⟨#[]⟩ : ByteArray)]) (t := 29) ?hr ?_; (case hd => rfl); (case hg => rfl); (case hr => first | (go_simp; done) | (go_simp; rfl)); intro gb288 hg w8 hbox hb; have n0_ := Aside0.mk (below_step (by repeat (first | (with_reducible first | exact HB.out | apply below_alloc | apply pw_below_drewN | apply below_drew1) | exact HB.out)) hb); have n1_ := Aside0.mk (hbox); have n2_ := Aside0.mk ((by rw [hg]; exact (below_size (by repeat (first | (with_reducible first | exact HB.out | apply below_alloc | apply pw_below_drewN | apply below_drew1) | exact HB.out))) : w.heap.size ≤ gb288)); have n3_ := Aside0.mk ((by rw [hg]; exact (below_size (by repeat (first | (with_reducible first | exact HB.out | apply below_alloc | apply pw_below_drewN | apply below_drew1) | exact HB.out))) : w.heap.size ≤ gb288)); clear HB; have HB := n0_; have BK288 := n1_; have GW288 := n2_; have GE288 := n3_; clear n0_ n1_ n2_ n3_; clear hb hbox hg))
 (with_reducible refine (marginaliaref04_find.calls k a0 a1 (⟨#[62]⟩ : ByteArray) t289 _ A3.out).mono ?_)
 rintro e w' ⟨rfl, ⟨nd, rfl⟩⟩
 (try (rw [drewN_self w8]; generalize hq_ : World.drewN w8 _ = w8; have n0_ : Aside0 (w8.heap[gb288]? = some (.cells #[.int .i64 0, .string (⟨#[]⟩ : ByteArray), .slice none 0 0, .bool false, .string (⟨#[]⟩ : ByteArray)] 29 (0, 0))) := ⟨by rw [← hq_]; exact (by (with_reducible repeat (first | refine blk_drewN ?_ _ | refine blk_drew ?_ | refine blk_alloc ?_ _)); exact BK288.out)⟩; have n1_ : Aside0 (Below w.heap.size w w8) := ⟨by rw [← hq_]; exact (by repeat (first | (with_reducible first | exact HB.out | apply below_alloc | apply pw_below_drewN | apply below_drew1 | refine below_set ?_ GE288.out) | exact HB.out))⟩; clear BK288 HB hq_; have BK288 := n0_; have HB := n1_; clear n0_ n1_))
 by_cases c4 : 0 ≤ a1
 ·
  rw [if_pos c4] at H
  have c4b0 := eq_true c4
  have c4b1 : decide (0 ≤ a1) = true := decide_eq_true c4
  clear c4
  by_cases c5 : a1 ≤ t289
  ·
   rw [if_pos c5] at H
   have c5b0 := eq_true c5
   have c5b1 : decide (a1 ≤ t289) = true := decide_eq_true c5
   clear c5
   by_cases c6 : t289 ≤ (a0.size : Int)
   ·
    rw [if_pos c6] at H
    have c6b0 := eq_true c6
    have c6b1 : decide (t289 ≤ (a0.size : Int)) = true := decide_eq_true c6
    clear c6
    obtain ⟨ji7, hji7⟩ : ∃ j_ : Int, (mn (wrap64 (t289 + 1)) (a0.size : Int)) = j_ := ⟨_, rfl⟩
    replace H : (some (4, (⟨#[]⟩ : ByteArray), ([] : List (S41)), false, a0.extract (a1 : Int).toNat (t289 : Int).toNat, ji7)) = some (r1, r2, r3, r4, r5, r6) := by first | (rw [hji7] at H; exact H) | (simp only [hji7] at H ⊢; exact H)
    (try rw [hji7] at A3)
    have hji7_ : (if (a0.size : Int) < (wrap64 (t289 + 1)) then (a0.size : Int) else (wrap64 (t289 + 1))) = ji7 := hji7
    simp only [Option.some.injEq, Prod.mk.injEq] at H
    obtain ⟨rfl, rfl, rfl, rfl, rfl, rfl⟩ := H
    have hcz9_0 : w8.cell? ⟨gb288, 0, none⟩ = some (.int .i64 0) := (blk_cell BK288.out 0).trans rfl
    have hcz9_1 : w8.cell? ⟨gb288, 1, none⟩ = some (.string (⟨#[]⟩ : ByteArray)) := (blk_cell BK288.out 1).trans rfl
    have hcz9_2 : w8.cell? ⟨gb288, 2, none⟩ = some (.slice none 0 0) := (blk_cell BK288.out 2).trans rfl
    have hcz9_3 : w8.cell? ⟨gb288, 3, none⟩ = some (.bool false) := (blk_cell BK288.out 3).trans rfl
    have hcz9_4 : w8.cell? ⟨gb288, 4, none⟩ = some (.string (⟨#[]⟩ : ByteArray)) := (blk_cell BK288.out 4).trans rfl
    have hfz9_0 := blk_frozen BK288.out 0
    have hfz9_1 := blk_frozen BK288.out 1
    have hfz9_2 := blk_frozen BK288.out 2
    have hfz9_3 := blk_frozen BK288.out 3
    have hfz9_4 := blk_frozen BK288.out 4
    go_wp2
    refine bodyPost_ret (results_ct rfl _ _ gb288 29 #[.int .i64 4, .string (⟨#[]⟩ : ByteArray), .slice none 0 0, .bool false, .string (a0.extract (a1 : Int).toNat (t289 : Int).toNat)] (0, 0) _ rfl (by (with_reducible repeat (first | refine blk_drewN ?_ _ | refine blk_drew ?_ | refine blk_alloc ?_ _)); refine blk_put (cs := #[.int .i64 4, .string (⟨#[]⟩ : ByteArray), .slice none 0 0, .bool false, .string (⟨#[]⟩ : ByteArray)]) ?_ 4 _ rfl; (with_reducible repeat (first | refine blk_drewN ?_ _ | refine blk_drew ?_ | refine blk_alloc ?_ _)); refine blk_put (cs := #[.int .i64 4, .string (⟨#[]⟩ : ByteArray), .slice none 0 0, .bool false, .string (⟨#[]⟩ : ByteArray)]) ?_ 3 _ rfl; (with_reducible repeat (first | refine blk_drewN ?_ _ | refine blk_drew ?_ | refine blk_alloc ?_ _)); refine blk_put (cs := #[.int .i64 4, .string (⟨#[]⟩ : ByteArray), .slice none 0 0, .bool false, .string (⟨#[]⟩ : ByteArray)]) ?_ 2 _ rfl; (with_reducible repeat (first | refine blk_drewN ?_ _ | refine blk_drew ?_ | refine blk_alloc ?_ _)); refine blk_put (cs := #[.int .i64 4, .string (⟨#[]⟩ : ByteArray), .slice none 0 0, .bool false, .string (⟨#[]⟩ : ByteArray)]) ?_ 1 _ rfl; (with_reducible repeat (first | refine blk_drewN ?_ _ | refine blk_drew ?_ | refine blk_alloc ?_ _)); refine blk_put (cs := #[.int .i64 0, .string (⟨#[]⟩ : ByteArray), .slice none 0 0, .bool false, .string (⟨#[]⟩ : ByteArray)]) ?_ 0 _ rfl; (with_reducible repeat (first | refine blk_drewN ?_ _ | refine blk_drew ?_ | refine blk_alloc ?_ _)); exact BK288.out) Try.underlying29 rfl (by kernel_rfl)) rfl ?_
    exact ⟨_, by first | rfl | (simp [errW_none, errW_some] <;> rfl) | (simp only [← hji7]; first | rfl | (simp [errW_none, errW_some] <;> rfl)) | (simp [*, errW_none, errW_some] <;> rfl), by first | exact Kd.R_nil _ _ _ _ _ | exact Kd.N_nil _ _ _ _ _ | exact Kd.V_nil _ _ _ _ _ | exact Kd.Q_nil _ _ _ _ _ | exact Kd.S_nil _ _ _ _ _, by repeat (first | (with_reducible first | exact HB.out | apply below_alloc | apply pw_below_drewN | apply below_drew1 | refine below_set ?_ GE288.out) | exact HB.out)⟩
   ·
    rw [if_neg c6] at H
    exact absurd H (by simp)
  ·
   rw [if_neg c5] at H
   exact absurd H (by simp)
 ·
  rw [if_neg c4] at H
  exact absurd H (by simp)
/-! ### marginaliaref04_comment: function 48 -/
mutual
def marginaliaref04_comment.l0 : Nat → ByteArray → Int → Int → Option (Int × ByteArray × (List (S41)) × Bool × ByteArray × Int)
  | 0, _, _, _ => none
  | k + 1, x0, x1, x6 => if x6 < (x0.size : Int) then ((marginaliaref04_here.f x0 x6 (⟨#[45, 45, 62]⟩ : ByteArray)).bind fun t293 => (if t293 = true then (if 0 ≤ x1 then (if x1 ≤ x6 then (if x6 ≤ (x0.size : Int) then (some (4, (⟨#[]⟩ : ByteArray), ([] : List (S41)), false, x0.extract (x1 : Int).toNat (x6 : Int).toNat, wrap64 (x6 + 3))) else (none)) else (none)) else (none)) else ((marginaliaref04_here.f x0 x6 (⟨#[45, 45, 33, 62]⟩ : ByteArray)).bind fun t294 => (if t294 = true then (if 0 ≤ x1 then (if x1 ≤ x6 then (if x6 ≤ (x0.size : Int) then (some (4, (⟨#[]⟩ : ByteArray), ([] : List (S41)), false, x0.extract (x1 : Int).toNat (x6 : Int).toNat, wrap64 (x6 + 4))) else (none)) else (none)) else (none)) else (marginaliaref04_comment.l0 k x0 x1 (wrap64 (x6 + 1))))))) else (if 0 ≤ x1 then (if x1 ≤ (x0.size : Int) then (marginaliaref04_comment.l1 k x0 (x0.extract (x1 : Int).toNat x0.size) (([(⟨#[45, 45, 33]⟩ : ByteArray), (⟨#[45, 45]⟩ : ByteArray), (⟨#[45]⟩ : ByteArray)] : List ByteArray)) 0) else (none)) else (none))
def marginaliaref04_comment.l1 : Nat → ByteArray → ByteArray → List ByteArray → Int → Option (Int × ByteArray × (List (S41)) × Bool × ByteArray × Int)
  | 0, _, _, _, _ => none
  | k + 1, x0, x7, x8, x9 => if x9 < (x8.length : Int) then (if 0 ≤ x9 then ((marginaliaref04_here.f x7 (wrap64 ((x7.size : Int) - ((rdOf ByteArray.empty x8 x9).size : Int))) (rdOf ByteArray.empty x8 x9)).bind fun t300 => (if t300 = true then (if 0 ≤ (wrap64 ((x7.size : Int) - ((rdOf ByteArray.empty x8 x9).size : Int))) then (if (wrap64 ((x7.size : Int) - ((rdOf ByteArray.empty x8 x9).size : Int))) ≤ (x7.size : Int) then (some (4, (⟨#[]⟩ : ByteArray), ([] : List (S41)), false, x7.extract 0 ((wrap64 ((x7.size : Int) - ((rdOf ByteArray.empty x8 x9).size : Int))) : Int).toNat, (x0.size : Int))) else (none)) else (none)) else (marginaliaref04_comment.l1 k x0 x7 x8 (wrap64 (x9 + 1))))) else (none)) else (some (4, (⟨#[]⟩ : ByteArray), ([] : List (S41)), false, x7, (x0.size : Int)))
end
def marginaliaref04_comment.f (k : Nat) (a0 : ByteArray) (a1 : Int) : Option (Int × ByteArray × (List (S41)) × Bool × ByteArray × Int) := (marginaliaref04_here.f a0 a1 (⟨#[62]⟩ : ByteArray)).bind fun t291 => (if t291 = true then (some (4, (⟨#[]⟩ : ByteArray), ([] : List (S41)), false, (⟨#[]⟩ : ByteArray), wrap64 (a1 + 1))) else ((marginaliaref04_here.f a0 a1 (⟨#[45, 62]⟩ : ByteArray)).bind fun t292 => (if t292 = true then (some (4, (⟨#[]⟩ : ByteArray), ([] : List (S41)), false, (⟨#[]⟩ : ByteArray), wrap64 (a1 + 2))) else (marginaliaref04_comment.l0 k a0 a1 a1))))
-- BY HAND: marginaliaref04_comment
section
variable {w w0 : World} {B : Nat} {k k0 : Int} {nm nm0 : ByteArray} {v v0 : Value} {c c0 : Bool} {tx tx0 : ByteArray}
/-- All that a walk asks about a token's block. -/
theorem TB.all (h : TB w B k nm v c tx) : w.cell? ⟨B, 0, none⟩ = some (.int .i64 k) ∧ w.cell? ⟨B, 1, none⟩ = some (.string nm) ∧ w.cell? ⟨B, 2, none⟩ = some v ∧ w.cell? ⟨B, 3, none⟩ = some (.bool c) ∧ w.cell? ⟨B, 4, none⟩ = some (.string tx) ∧ w.frozen? ⟨B, 0, none⟩ = false ∧ w.frozen? ⟨B, 1, none⟩ = false ∧ w.frozen? ⟨B, 2, none⟩ = false ∧ w.frozen? ⟨B, 3, none⟩ = false ∧ w.frozen? ⟨B, 4, none⟩ = false :=
  ⟨h.cell 0, h.cell 1, h.cell 2, h.cell 3, h.cell 4, h.free 0, h.free 1, h.free 2, h.free 3, h.free 4⟩
theorem TB.put (h : TB w B k0 nm0 v0 c0 tx0) (k : Int) (nm : ByteArray) (v : Value) (c : Bool) (tx : ByteArray) :
    (∀ j, (((((w.setCell ⟨B, 0, none⟩ (.int .i64 k)).setCell ⟨B, 1, none⟩ (.string nm)).setCell ⟨B, 2, none⟩ v).setCell ⟨B, 3, none⟩ (.bool c)).setCell ⟨B, 4, none⟩ (.string tx)).cell? ⟨B, j, none⟩ = #[Value.int .i64 k, .string nm, v, .bool c, .string tx][j]?) := fun j => (put5_tb h k nm v c tx).cell j
theorem put5_bel {W : World} (h : Below W.heap.size W w) (k : Int) (nm : ByteArray) (v : Value) (c : Bool) (tx : ByteArray) : Below W.heap.size W (put5 w W.heap.size k nm v c tx) :=
  Fr.to_below h (put5_fr (G := fun k => k = W.heap.size) (Fr.refl _ _) W.heap.size _ _ _ _ _ (Or.inl rfl)) h.size (fun i hi => by subst hi; exact Nat.le_refl _)
end
/-- A token and a place that are handed back. -/
def TokI (w : World) (r1 : Int) (r2 : ByteArray) (r3 : List S41) (r4 : Bool) (r5 : ByteArray) (r6 : Int) (e : Ending) (w' : World) : Prop :=
  ∃ v2_ : Value, e = .returned (.tuple #[.agg #[.int .i64 r1, .string r2, v2_, .bool r4, .string r5], .int .i64 r6]) ∧ Kd.R k41 41 w' w.heap.size (fun _ => True) v2_ r3 ∧ Below w.heap.size w w'
theorem TB.zero (w : World) : TB (w.alloc (.cells #[.int .i64 0, .string ⟨#[]⟩, .slice none 0 0, .bool false, .string ⟨#[]⟩] 29)) w.heap.size 0 ⟨#[]⟩ (.slice none 0 0) false ⟨#[]⟩ := TB.new w 0 ⟨#[]⟩ (.slice none 0 0) false ⟨#[]⟩
theorem Below.zero (w : World) : Below w.heap.size w (w.alloc (.cells #[.int .i64 0, .string ⟨#[]⟩, .slice none 0 0, .bool false, .string ⟨#[]⟩] 29)) := (Below.refl _ w).alloc (Nat.le_refl _) _
set_option maxHeartbeats 4000000 in
set_option maxRecDepth 100000 in
theorem marginaliaref04_comment.calls (k : Nat) (a0 : ByteArray) (a1 : Int) (r1 : Int) (r2 : ByteArray) (r3 : List S41) (r4 : Bool) (r5 : ByteArray) (r6 : Int) (w : World) (h : marginaliaref04_comment.f k a0 a1 = some (r1, r2, r3, r4, r5, r6)) :
    Calls Try.prog 48 #[.string a0, .int .i64 a1] w fun e w' => ∃ v2_ : Value, e = .returned (.tuple #[.agg #[.int .i64 r1, .string r2, v2_, .bool r4, .string r5], .int .i64 r6]) ∧ Kd.R k41 41 w' w.heap.size (fun _ => True) v2_ r3 ∧ Below w.heap.size w w' := by
 have HT := Aside0.mk (TB.zero w)
 have HB := Aside0.mk (Below.zero w)
 unfold marginaliaref04_comment.f at h
 replace h := Option.bind_eq_some_iff.mp h
 obtain ⟨t1, hx, h⟩ := h
 have HX := Aside0.mk hx
 clear hx
 have H := Aside0.mk h
 clear h
 go_enter Try.func48, Try.ntmps48
 have h := H.out
 clear H
 have H := Aside0.mk h
 clear h
 go_wp2_with fail
 refine (marginaliaref04_here.calls a0 a1 _ t1 _ HX.out).mono ?_
 rintro e w1 ⟨rfl, hd⟩
 have hb := hd.below
 clear hd
 replace HT := Aside0.mk (HT.out.keep hb)
 replace HB := Aside0.mk (below_step HB.out hb)
 clear hb HX
 have h := H.out
 clear H
 cases t1 with
 | true =>
  replace h := (if_pos rfl).symm.trans h
  simp only [Option.some.injEq, Prod.mk.injEq] at h
  obtain ⟨rfl, rfl, rfl, rfl, rfl, rfl⟩ := h
  obtain ⟨t0, t1, t2, t3, t4, u0, u1, u2, u3, u4⟩ := HT.out.all
  go_wp2
  exact bodyPost_ret (v := .tuple #[.agg #[.int .i64 4, .string ⟨#[]⟩, (.slice none 0 0), .bool false, .string ⟨#[]⟩], .int .i64 (wrap64 (a1 + 1))]) (by simp [results, Try.results48, go_sem, HT.out.put 4 ⟨#[]⟩ (.slice none 0 0) false ⟨#[]⟩]) rfl
   ⟨(.slice none 0 0), rfl, Kd.R_nil _ _ _ _ _, put5_bel HB.out _ _ _ _ _⟩
 | false =>
  replace h := (if_neg Bool.false_ne_true).symm.trans h
  replace h := Option.bind_eq_some_iff.mp h
  obtain ⟨t2, hx, h⟩ := h
  have HX := Aside0.mk hx
  clear hx
  have H := Aside0.mk h
  clear h
  go_wp2_with fail
  refine (marginaliaref04_here.calls a0 a1 _ t2 _ HX.out).mono ?_
  rintro e w1 ⟨rfl, hd⟩
  have hb := hd.below
  clear hd
  replace HT := Aside0.mk (HT.out.keep hb)
  replace HB := Aside0.mk (below_step HB.out hb)
  clear hb HX
  have h := H.out
  clear H
  cases t2 with
  | true =>
   replace h := (if_pos rfl).symm.trans h
   simp only [Option.some.injEq, Prod.mk.injEq] at h
   obtain ⟨rfl, rfl, rfl, rfl, rfl, rfl⟩ := h
   obtain ⟨t0, t1, t2, t3, t4, u0, u1, u2, u3, u4⟩ := HT.out.all
   go_wp2
   exact bodyPost_ret (v := .tuple #[.agg #[.int .i64 4, .string ⟨#[]⟩, (.slice none 0 0), .bool false, .string ⟨#[]⟩], .int .i64 (wrap64 (a1 + 2))]) (by simp [results, Try.results48, go_sem, HT.out.put 4 ⟨#[]⟩ (.slice none 0 0) false ⟨#[]⟩]) rfl
    ⟨(.slice none 0 0), rfl, Kd.R_nil _ _ _ _ _, put5_bel HB.out _ _ _ _ _⟩
  | false =>
   replace h := (if_neg Bool.false_ne_true).symm.trans h
   have H := Aside0.mk h
   clear h
   go_wp2_with fail
   go_loopg [6] k (fun kq v6 wc => ∃ x : Int, v6 = .int .i64 x ∧ Aside0 (marginaliaref04_comment.l0 kq a0 a1 x = some (r1, r2, r3, r4, r5, r6)) ∧ Aside0 (TB wc w.heap.size 0 ⟨#[]⟩ (.slice none 0 0) false ⟨#[]⟩) ∧ Aside0 (Below w.heap.size w wc))
   case atStart => exact ⟨a1, rfl, H, HT, HB⟩
   case round =>
    clear H HT HB
    obtain ⟨x, rfl, HA, HT, HB⟩ := hrel
    cases gk with
    | zero => exact absurd HA.out (by simp [marginaliaref04_comment.l0])
    | succ k1 =>
     have h := HA.out
     clear HA
     rw [marginaliaref04_comment.l0] at h
     by_cases c1 : x < (a0.size : Int)
     ·
      replace h := (if_pos c1).symm.trans h
      have d1 : decide (x < (a0.size : Int)) = true := decide_eq_true c1
      replace h := Option.bind_eq_some_iff.mp h
      obtain ⟨t3, hx, h⟩ := h
      have HX := Aside0.mk hx
      clear hx
      have H := Aside0.mk h
      clear h
      go_wp2_with fail
      refine (marginaliaref04_here.calls a0 x _ t3 _ HX.out).mono ?_
      rintro e w1 ⟨rfl, hd⟩
      have hb := hd.below
      clear hd
      replace HT := Aside0.mk (HT.out.keep hb)
      replace HB := Aside0.mk (below_step HB.out hb)
      clear hb HX
      have h := H.out
      clear H
      cases t3 with
      | true =>
       replace h := (if_pos rfl).symm.trans h
       by_cases e0 : 0 ≤ a1
       case neg => exact absurd ((if_neg e0).symm.trans h) (by simp)
       replace h := (if_pos e0).symm.trans h
       by_cases e1 : a1 ≤ x
       case neg => exact absurd ((if_neg e1).symm.trans h) (by simp)
       replace h := (if_pos e1).symm.trans h
       by_cases e2 : x ≤ (a0.size : Int)
       case neg => exact absurd ((if_neg e2).symm.trans h) (by simp)
       replace h := (if_pos e2).symm.trans h
       simp only [Option.some.injEq, Prod.mk.injEq] at h
       obtain ⟨rfl, rfl, rfl, rfl, rfl, rfl⟩ := h
       obtain ⟨t0, t1, t2, t3, t4, u0, u1, u2, u3, u4⟩ := HT.out.all
       go_wp2
       exact bodyPost_ret (v := .tuple #[.agg #[.int .i64 4, .string ⟨#[]⟩, (.slice none 0 0), .bool false, .string (a0.extract a1.toNat x.toNat)], .int .i64 (wrap64 (x + 3))]) (by simp [results, Try.results48, go_sem, HT.out.put 4 ⟨#[]⟩ (.slice none 0 0) false (a0.extract a1.toNat x.toNat)]) rfl
        ⟨(.slice none 0 0), rfl, Kd.R_nil _ _ _ _ _, put5_bel HB.out _ _ _ _ _⟩
      | false =>
       replace h := (if_neg Bool.false_ne_true).symm.trans h
       replace h := Option.bind_eq_some_iff.mp h
       obtain ⟨t4, hx, h⟩ := h
       have HX := Aside0.mk hx
       clear hx
       have H := Aside0.mk h
       clear h
       go_wp2_with fail
       refine (marginaliaref04_here.calls a0 x _ t4 _ HX.out).mono ?_
       rintro e w1 ⟨rfl, hd⟩
       have hb := hd.below
       clear hd
       replace HT := Aside0.mk (HT.out.keep hb)
       replace HB := Aside0.mk (below_step HB.out hb)
       clear hb HX
       have h := H.out
       clear H
       cases t4 with
       | true =>
        replace h := (if_pos rfl).symm.trans h
        by_cases e0 : 0 ≤ a1
        case neg => exact absurd ((if_neg e0).symm.trans h) (by simp)
        replace h := (if_pos e0).symm.trans h
        by_cases e1 : a1 ≤ x
        case neg => exact absurd ((if_neg e1).symm.trans h) (by simp)
        replace h := (if_pos e1).symm.trans h
        by_cases e2 : x ≤ (a0.size : Int)
        case neg => exact absurd ((if_neg e2).symm.trans h) (by simp)
        replace h := (if_pos e2).symm.trans h
        simp only [Option.some.injEq, Prod.mk.injEq] at h
        obtain ⟨rfl, rfl, rfl, rfl, rfl, rfl⟩ := h
        obtain ⟨t0, t1, t2, t3, t4, u0, u1, u2, u3, u4⟩ := HT.out.all
        go_wp2
        exact bodyPost_ret (v := .tuple #[.agg #[.int .i64 4, .string ⟨#[]⟩, (.slice none 0 0), .bool false, .string (a0.extract a1.toNat x.toNat)], .int .i64 (wrap64 (x + 4))]) (by simp [results, Try.results48, go_sem, HT.out.put 4 ⟨#[]⟩ (.slice none 0 0) false (a0.extract a1.toNat x.toNat)]) rfl
         ⟨(.slice none 0 0), rfl, Kd.R_nil _ _ _ _ _, put5_bel HB.out _ _ _ _ _⟩
       | false =>
        replace h := (if_neg Bool.false_ne_true).symm.trans h
        have H := Aside0.mk h
        clear h
        go_wp2
        go_roundg k1
        case measure => exact Nat.lt_succ_self k1
        case rel => exact ⟨wrap64 (x + 1), rfl, H, HT, HB⟩
     ·
      replace h := (if_neg c1).symm.trans h
      have d1 : decide (x < (a0.size : Int)) = false := decide_eq_false c1
      by_cases e0 : 0 ≤ a1
      case neg => exact absurd ((if_neg e0).symm.trans h) (by simp)
      replace h := (if_pos e0).symm.trans h
      by_cases e1 : a1 ≤ (a0.size : Int)
      case neg => exact absurd ((if_neg e1).symm.trans h) (by simp)
      replace h := (if_pos e1).symm.trans h
      obtain ⟨s, hs⟩ : ∃ s, a0.extract a1.toNat a0.size = s := ⟨_, rfl⟩
      rw [hs] at h
      obtain ⟨L, hL⟩ : ∃ y : List ByteArray, y = ([(⟨#[45, 45, 33]⟩ : ByteArray), (⟨#[45, 45]⟩ : ByteArray), (⟨#[45]⟩ : ByteArray)] : List ByteArray) := ⟨_, rfl⟩
      rw [← hL] at h
      have NL := Aside0.mk hL
      have H := Aside0.mk h
      clear h hL
      go_wp2_with (first | ((with_reducible refine gate_dst (N := 52) rfl ?_); refine Kd.R_lit Kd.string _ 9 ?hg (N := 52) ?hd (xs := ([(⟨#[45, 45, 33]⟩ : ByteArray), (⟨#[45, 45]⟩ : ByteArray), (⟨#[45]⟩ : ByteArray)] : List ByteArray)) (inner := [.string (⟨#[45, 45, 33]⟩ : ByteArray), .string (⟨#[45, 45]⟩ : ByteArray), .string (⟨#[45]⟩ : ByteArray)]) (ok := fun _ => True) (okp := fun _ => True) ?hr ?hp (fun _ hk => hk) trivial (Below.refl _ _) (Nat.le_refl _) (by simp) ?_; (case hd => rfl); (case hg => rfl); (case hr => first | (go_simp; done) | (go_simp; rfl)); (case hp => exact (Reps.one (show Kd.M Kd.string _ _ _ (⟨#[45, 45, 33]⟩ : ByteArray) [.string (⟨#[45, 45, 33]⟩ : ByteArray)] from rfl) (Reps.one (show Kd.M Kd.string _ _ _ (⟨#[45, 45]⟩ : ByteArray) [.string (⟨#[45, 45]⟩ : ByteArray)] from rfl) (Reps.one (show Kd.M Kd.string _ _ _ (⟨#[45]⟩ : ByteArray) [.string (⟨#[45]⟩ : ByteArray)] from rfl) (Reps.none _ _))))); intro vl w3 ho hb hg_ hnew_; clear hg_ hnew_; (rw [← NL.out] at ho); have HO := Aside0.mk (Kd.R_lower ho HB.out.size); replace HT := Aside0.mk (HT.out.keep hb); replace HB := Aside0.mk (below_step HB.out hb); obtain ⟨A, cp, rfl, _⟩ := Kd.R_reads ho; clear hb ho NL))
      go_loopg [9] k1 (fun kq v9 wc => ∃ y : Int, v9 = .int .i64 y ∧ Aside0 (marginaliaref04_comment.l1 kq a0 s L y = some (r1, r2, r3, r4, r5, r6)) ∧ Aside0 (Kd.R Kd.string 9 wc w.heap.size (fun _ => True) (.slice A L.length cp) L) ∧ Aside0 (TB wc w.heap.size 0 ⟨#[]⟩ (.slice none 0 0) false ⟨#[]⟩) ∧ Aside0 (Below w.heap.size w wc))
      case atStart => exact ⟨0, rfl, H, HO, HT, HB⟩
      case round =>
       clear H HT HB HO
       obtain ⟨y, rfl, HA, HO, HT, HB⟩ := hrel
       cases gk with
       | zero => exact absurd HA.out (by simp [marginaliaref04_comment.l1])
       | succ k2 =>
        have h := HA.out
        clear HA
        rw [marginaliaref04_comment.l1] at h
        by_cases c2 : y < (L.length : Int)
        ·
         replace h := (if_pos c2).symm.trans h
         have d2 : decide (y < (L.length : Int)) = true := decide_eq_true c2
         by_cases e0 : 0 ≤ y
         case neg => exact absurd ((if_neg e0).symm.trans h) (by simp)
         replace h := (if_pos e0).symm.trans h
         replace h := Option.bind_eq_some_iff.mp h
         obtain ⟨t5, hx, h⟩ := h
         have HX := Aside0.mk hx
         clear hx
         obtain ⟨n, hn⟩ : ∃ n, wrap64 ((s.size : Int) - ((rdOf ByteArray.empty L y).size : Int)) = n := ⟨_, rfl⟩
         rw [hn] at h HX
         have hnw : IntKind.i64.wrap ((s.size : Int) - ((rdOf ByteArray.empty L y).size : Int)) = n := (i64_w _).trans hn
         clear hn
         obtain ⟨ad1, f1, hx1⟩ := Kd.at_string (Kd.R_reads' HO.out).2.2 y e0 c2
         cases f1
         have p1 := eq_true e0
         have q1 := eq_true c2
         have H := Aside0.mk h
         clear h
         go_wp2_with fail
         go_quiet (first | (go_at_call 45; refine calls_of_args (args' := #[.string s, .int .i64 n, .string (rdOf ByteArray.empty L y)]) (by first | rfl | simp) ?_; (with_reducible refine (marginaliaref04_here.calls s n (rdOf ByteArray.empty L y) t5 _ HX.out).mono ?_); rintro e w' ⟨rfl, ⟨nd, rfl⟩⟩; (try first | exact ⟨rfl, _, World.drewN_drewN _ _ _⟩ | exact ⟨rfl, _, Eq.trans (World.drewN_drewN _ _ _) (congrArg (World.drewN _) (Nat.add_assoc _ _ _))⟩)))
         have h := H.out
         clear H
         cases t5 with
         | true =>
          replace h := (if_pos rfl).symm.trans h
          by_cases e1 : 0 ≤ n
          case neg => exact absurd ((if_neg e1).symm.trans h) (by simp)
          replace h := (if_pos e1).symm.trans h
          by_cases e2 : n ≤ (s.size : Int)
          case neg => exact absurd ((if_neg e2).symm.trans h) (by simp)
          replace h := (if_pos e2).symm.trans h
          simp only [Option.some.injEq, Prod.mk.injEq] at h
          obtain ⟨rfl, rfl, rfl, rfl, rfl, rfl⟩ := h
          obtain ⟨t0, t1, t2, t3, t4, u0, u1, u2, u3, u4⟩ := HT.out.all
          go_wp2
          exact bodyPost_ret (v := .tuple #[.agg #[.int .i64 4, .string ⟨#[]⟩, (.slice none 0 0), .bool false, .string (s.extract 0 n.toNat)], .int .i64 (a0.size : Int)]) (by simp [results, Try.results48, go_sem, (HT.out.drN nq).put 4 ⟨#[]⟩ (.slice none 0 0) false (s.extract 0 n.toNat)]) rfl
           ⟨(.slice none 0 0), rfl, Kd.R_nil _ _ _ _ _, put5_bel (Below.drN HB.out nq) _ _ _ _ _⟩
         | false =>
          replace h := (if_neg Bool.false_ne_true).symm.trans h
          have H := Aside0.mk h
          clear h
          go_wp2
          go_roundg k2
          case measure => exact Nat.lt_succ_self k2
          case rel => exact ⟨wrap64 (y + 1), rfl, H, ⟨Kd.R_drewN HO.out nq⟩, ⟨HT.out.drN nq⟩, ⟨Below.drN HB.out nq⟩⟩
        ·
         replace h := (if_neg c2).symm.trans h
         have d2 : decide (y < (L.length : Int)) = false := decide_eq_false c2
         simp only [Option.some.injEq, Prod.mk.injEq] at h
         obtain ⟨rfl, rfl, rfl, rfl, rfl, rfl⟩ := h
         obtain ⟨t0, t1, t2, t3, t4, u0, u1, u2, u3, u4⟩ := HT.out.all
         go_wp2
         exact bodyPost_ret (v := .tuple #[.agg #[.int .i64 4, .string ⟨#[]⟩, (.slice none 0 0), .bool false, .string s], .int .i64 (a0.size : Int)]) (by simp [results, Try.results48, go_sem, HT.out.put 4 ⟨#[]⟩ (.slice none 0 0) false s]) rfl
          ⟨(.slice none 0 0), rfl, Kd.R_nil _ _ _ _ _, put5_bel HB.out _ _ _ _ _⟩
/-! ### marginaliaref04_cdata: function 49 -/
def marginaliaref04_cdata.f (k : Nat) (a0 : ByteArray) (a1 : Int) : Option (Int × ByteArray × (List (S41)) × Bool × ByteArray × Int) := (marginaliaref04_find.f k a0 a1 (⟨#[93, 93, 62]⟩ : ByteArray)).bind fun t303 => (if 0 ≤ a1 then (if a1 ≤ t303 then (if t303 ≤ (a0.size : Int) then (some (1, (⟨#[]⟩ : ByteArray), ([] : List (S41)), false, a0.extract (a1 : Int).toNat (t303 : Int).toNat, mn (wrap64 (t303 + 3)) (a0.size : Int))) else (none)) else (none)) else (none))
set_option maxHeartbeats 8000000 in
set_option maxRecDepth 100000 in
theorem marginaliaref04_cdata.calls (k : Nat) (a0 : ByteArray) (a1 : Int) (r1 : Int) (r2 : ByteArray) (r3 : List (S41)) (r4 : Bool) (r5 : ByteArray) (r6 : Int) (w : World) (h : marginaliaref04_cdata.f k a0 a1 = some (r1, r2, r3, r4, r5, r6)) :
    Calls Try.prog 49 #[.string a0, .int .i64 a1] w fun e w' => ∃ v2_ : Value, e = .returned (.tuple #[.agg #[.int .i64 r1, .string r2, v2_, .bool r4, .string r5], .int .i64 r6]) ∧ Kd.R k41 41 w' w.heap.size (fun _ => True) v2_ r3 ∧ Below w.heap.size w w' := by
 have hu29 := Try.underlying29
 have HB := Aside0.mk (Below.refl w.heap.size w)
 have H : ((marginaliaref04_find.f k a0 a1 (⟨#[93, 93, 62]⟩ : ByteArray)).bind fun t303 => (if 0 ≤ a1 then (if a1 ≤ t303 then (if t303 ≤ (a0.size : Int) then (some (1, (⟨#[]⟩ : ByteArray), ([] : List (S41)), false, a0.extract (a1 : Int).toNat (t303 : Int).toNat, mn (wrap64 (t303 + 3)) (a0.size : Int))) else (none)) else (none)) else (none))) = some (r1, r2, r3, r4, r5, r6) := h
 clear h
 replace H := Option.bind_eq_some_iff.mp H
 obtain ⟨t303, A30, H⟩ := H
 try dsimp only at H
 have A3 := Aside0.mk A30
 clear A30
 go_enter Try.func49, Try.ntmps49
 go_wp2_with (first | ((with_reducible refine gate_dst (N := 4) rfl ?_); refine box_event ?hg (N := 4) ?hd (cs := #[.int .i64 0, .string (⟨#[]⟩ : ByteArray), .slice none 0 0, .bool false, .string (⟨#[]⟩ : ByteArray)]) (t := 29) ?hr ?_; (case hd => rfl); (case hg => rfl); (case hr => first | (go_simp; done) | (go_simp; rfl)); intro gb302 hg w8 hbox hb; have n0_ := Aside0.mk (below_step (by repeat (first | (with_reducible first | exact HB.out | apply below_alloc | apply pw_below_drewN | apply below_drew1) | exact HB.out)) hb); have n1_ := Aside0.mk (hbox); have n2_ := Aside0.mk ((by rw [hg]; exact (below_size (by repeat (first | (with_reducible first | exact HB.out | apply below_alloc | apply pw_below_drewN | apply below_drew1) | exact HB.out))) : w.heap.size ≤ gb302)); have n3_ := Aside0.mk ((by rw [hg]; exact (below_size (by repeat (first | (with_reducible first | exact HB.out | apply below_alloc | apply pw_below_drewN | apply below_drew1) | exact HB.out))) : w.heap.size ≤ gb302)); clear HB; have HB := n0_; have BK302 := n1_; have GW302 := n2_; have GE302 := n3_; clear n0_ n1_ n2_ n3_; clear hb hbox hg))
 (with_reducible refine (marginaliaref04_find.calls k a0 a1 (⟨#[93, 93, 62]⟩ : ByteArray) t303 _ A3.out).mono ?_)
 rintro e w' ⟨rfl, ⟨nd, rfl⟩⟩
 (try (rw [drewN_self w8]; generalize hq_ : World.drewN w8 _ = w8; have n0_ : Aside0 (w8.heap[gb302]? = some (.cells #[.int .i64 0, .string (⟨#[]⟩ : ByteArray), .slice none 0 0, .bool false, .string (⟨#[]⟩ : ByteArray)] 29 (0, 0))) := ⟨by rw [← hq_]; exact (by (with_reducible repeat (first | refine blk_drewN ?_ _ | refine blk_drew ?_ | refine blk_alloc ?_ _)); exact BK302.out)⟩; have n1_ : Aside0 (Below w.heap.size w w8) := ⟨by rw [← hq_]; exact (by repeat (first | (with_reducible first | exact HB.out | apply below_alloc | apply pw_below_drewN | apply below_drew1 | refine below_set ?_ GE302.out) | exact HB.out))⟩; clear BK302 HB hq_; have BK302 := n0_; have HB := n1_; clear n0_ n1_))
 by_cases c4 : 0 ≤ a1
 ·
  rw [if_pos c4] at H
  have c4b0 := eq_true c4
  have c4b1 : decide (0 ≤ a1) = true := decide_eq_true c4
  clear c4
  by_cases c5 : a1 ≤ t303
  ·
   rw [if_pos c5] at H
   have c5b0 := eq_true c5
   have c5b1 : decide (a1 ≤ t303) = true := decide_eq_true c5
   clear c5
   by_cases c6 : t303 ≤ (a0.size : Int)
   ·
    rw [if_pos c6] at H
    have c6b0 := eq_true c6
    have c6b1 : decide (t303 ≤ (a0.size : Int)) = true := decide_eq_true c6
    clear c6
    obtain ⟨ji7, hji7⟩ : ∃ j_ : Int, (mn (wrap64 (t303 + 3)) (a0.size : Int)) = j_ := ⟨_, rfl⟩
    replace H : (some (1, (⟨#[]⟩ : ByteArray), ([] : List (S41)), false, a0.extract (a1 : Int).toNat (t303 : Int).toNat, ji7)) = some (r1, r2, r3, r4, r5, r6) := by first | (rw [hji7] at H; exact H) | (simp only [hji7] at H ⊢; exact H)
    (try rw [hji7] at A3)
    have hji7_ : (if (a0.size : Int) < (wrap64 (t303 + 3)) then (a0.size : Int) else (wrap64 (t303 + 3))) = ji7 := hji7
    simp only [Option.some.injEq, Prod.mk.injEq] at H
    obtain ⟨rfl, rfl, rfl, rfl, rfl, rfl⟩ := H
    have hcz9_0 : w8.cell? ⟨gb302, 0, none⟩ = some (.int .i64 0) := (blk_cell BK302.out 0).trans rfl
    have hcz9_1 : w8.cell? ⟨gb302, 1, none⟩ = some (.string (⟨#[]⟩ : ByteArray)) := (blk_cell BK302.out 1).trans rfl
    have hcz9_2 : w8.cell? ⟨gb302, 2, none⟩ = some (.slice none 0 0) := (blk_cell BK302.out 2).trans rfl
    have hcz9_3 : w8.cell? ⟨gb302, 3, none⟩ = some (.bool false) := (blk_cell BK302.out 3).trans rfl
    have hcz9_4 : w8.cell? ⟨gb302, 4, none⟩ = some (.string (⟨#[]⟩ : ByteArray)) := (blk_cell BK302.out 4).trans rfl
    have hfz9_0 := blk_frozen BK302.out 0
    have hfz9_1 := blk_frozen BK302.out 1
    have hfz9_2 := blk_frozen BK302.out 2
    have hfz9_3 := blk_frozen BK302.out 3
    have hfz9_4 := blk_frozen BK302.out 4
    go_wp2
    refine bodyPost_ret (results_ct rfl _ _ gb302 29 #[.int .i64 1, .string (⟨#[]⟩ : ByteArray), .slice none 0 0, .bool false, .string (a0.extract (a1 : Int).toNat (t303 : Int).toNat)] (0, 0) _ rfl (by (with_reducible repeat (first | refine blk_drewN ?_ _ | refine blk_drew ?_ | refine blk_alloc ?_ _)); refine blk_put (cs := #[.int .i64 1, .string (⟨#[]⟩ : ByteArray), .slice none 0 0, .bool false, .string (⟨#[]⟩ : ByteArray)]) ?_ 4 _ rfl; (with_reducible repeat (first | refine blk_drewN ?_ _ | refine blk_drew ?_ | refine blk_alloc ?_ _)); refine blk_put (cs := #[.int .i64 1, .string (⟨#[]⟩ : ByteArray), .slice none 0 0, .bool false, .string (⟨#[]⟩ : ByteArray)]) ?_ 3 _ rfl; (with_reducible repeat (first | refine blk_drewN ?_ _ | refine blk_drew ?_ | refine blk_alloc ?_ _)); refine blk_put (cs := #[.int .i64 1, .string (⟨#[]⟩ : ByteArray), .slice none 0 0, .bool false, .string (⟨#[]⟩ : ByteArray)]) ?_ 2 _ rfl; (with_reducible repeat (first | refine blk_drewN ?_ _ | refine blk_drew ?_ | refine blk_alloc ?_ _)); refine blk_put (cs := #[.int .i64 1, .string (⟨#[]⟩ : ByteArray), .slice none 0 0, .bool false, .string (⟨#[]⟩ : ByteArray)]) ?_ 1 _ rfl; (with_reducible repeat (first | refine blk_drewN ?_ _ | refine blk_drew ?_ | refine blk_alloc ?_ _)); refine blk_put (cs := #[.int .i64 0, .string (⟨#[]⟩ : ByteArray), .slice none 0 0, .bool false, .string (⟨#[]⟩ : ByteArray)]) ?_ 0 _ rfl; (with_reducible repeat (first | refine blk_drewN ?_ _ | refine blk_drew ?_ | refine blk_alloc ?_ _)); exact BK302.out) Try.underlying29 rfl (by kernel_rfl)) rfl ?_
    exact ⟨_, by first | rfl | (simp [errW_none, errW_some] <;> rfl) | (simp only [← hji7]; first | rfl | (simp [errW_none, errW_some] <;> rfl)) | (simp [*, errW_none, errW_some] <;> rfl), by first | exact Kd.R_nil _ _ _ _ _ | exact Kd.N_nil _ _ _ _ _ | exact Kd.V_nil _ _ _ _ _ | exact Kd.Q_nil _ _ _ _ _ | exact Kd.S_nil _ _ _ _ _, by repeat (first | (with_reducible first | exact HB.out | apply below_alloc | apply pw_below_drewN | apply below_drew1 | refine below_set ?_ GE302.out) | exact HB.out)⟩
   ·
    rw [if_neg c6] at H
    exact absurd H (by simp)
  ·
   rw [if_neg c5] at H
   exact absurd H (by simp)
 ·
  rw [if_neg c4] at H
  exact absurd H (by simp)
/-! ### marginaliaref04_data: function 24 -/
mutual
def marginaliaref04_data.l0 : Nat → ByteArray → Int → Bool → Option (Int × ByteArray × (List (S41)) × Bool × ByteArray × Int)
  | 0, _, _, _ => none
  | k + 1, x0, x1, x2 => if x1 < (x0.size : Int) then ((marginaliaref04_begins.f x0 x1).bind fun t305 => (if t305 = true then ((marginaliaref04_here.f x0 x1 (⟨#[60, 47, 62]⟩ : ByteArray)).bind fun t306 => (if t306 = true then (marginaliaref04_data.l0 k x0 (wrap64 (x1 + 3)) x2) else ((marginaliaref04_here.f x0 x1 (⟨#[60, 47]⟩ : ByteArray)).bind fun t307 => (if t307 = true then (if 0 ≤ (wrap64 (x1 + 2)) then (if (wrap64 (x1 + 2)) < (x0.size : Int) then ((marginaliaref02_Letter.f (bt x0 (wrap64 (x1 + 2)))).bind fun t308 => (if t308 = true then ((marginaliaref04_ended.f k x0 (wrap64 (x1 + 2)) 3).bind fun bt309 => (some (bt309.1, bt309.2.1, bt309.2.2.1, bt309.2.2.2.1, bt309.2.2.2.2.1, bt309.2.2.2.2.2))) else ((marginaliaref04_other.f k x0 (wrap64 (x1 + 2))).bind fun bt317 => (some (bt317.1, bt317.2.1, bt317.2.2.1, bt317.2.2.2.1, bt317.2.2.2.2.1, bt317.2.2.2.2.2))))) else (none)) else (none)) else ((marginaliaref04_here.f x0 x1 (⟨#[60, 33, 45, 45]⟩ : ByteArray)).bind fun t325 => (if t325 = true then ((marginaliaref04_comment.f k x0 (wrap64 (x1 + 4))).bind fun bt326 => (some (bt326.1, bt326.2.1, bt326.2.2.1, bt326.2.2.2.1, bt326.2.2.2.2.1, bt326.2.2.2.2.2))) else (if x2 = true then ((marginaliaref04_here.f x0 x1 (⟨#[60, 33, 91, 67, 68, 65, 84, 65, 91]⟩ : ByteArray)).bind fun t334 => (marginaliaref04_data.j1 k x0 x1 x2 t334)) else (marginaliaref04_data.j1 k x0 x1 x2 false)))))))) else ((marginaliaref04_text.f k x0 x1).bind fun bt380 => (some (bt380.1, bt380.2.1, bt380.2.2.1, bt380.2.2.2.1, bt380.2.2.2.2.1, bt380.2.2.2.2.2))))) else (some (0, (⟨#[]⟩ : ByteArray), ([] : List (S41)), false, (⟨#[]⟩ : ByteArray), (x0.size : Int)))
def marginaliaref04_data.j1 : Nat → ByteArray → Int → Bool → Bool → Option (Int × ByteArray × (List (S41)) × Bool × ByteArray × Int)
  | 0, _, _, _, _ => none
  | k + 1, x0, x1, x2, x63 => if x63 = true then ((marginaliaref04_cdata.f k x0 (wrap64 (x1 + 9))).bind fun bt335 => (if bt335.2.2.2.2.1.toList = ([] : List UInt8) then (marginaliaref04_data.l0 k x0 bt335.2.2.2.2.2 x2) else (some (bt335.1, bt335.2.1, bt335.2.2.1, bt335.2.2.2.1, bt335.2.2.2.2.1, bt335.2.2.2.2.2)))) else ((marginaliaref04_here.f x0 x1 (⟨#[60, 33]⟩ : ByteArray)).bind fun t344 => (if t344 = true then (if (wrap64 (x1 + 9)) ≤ (x0.size : Int) then (if 0 ≤ (wrap64 (x1 + 2)) then (if (wrap64 (x1 + 2)) ≤ (wrap64 (x1 + 9)) then ((marginaliaref02_Lower.f k (x0.extract ((wrap64 (x1 + 2)) : Int).toNat ((wrap64 (x1 + 9)) : Int).toNat)).bind fun t345 => (marginaliaref04_data.j2 k x0 x1 (t345.toList == ([100, 111, 99, 116, 121, 112, 101] : List UInt8)))) else (none)) else (none)) else (marginaliaref04_data.j2 k x0 x1 false)) else ((marginaliaref04_here.f x0 x1 (⟨#[60, 63]⟩ : ByteArray)).bind fun t363 => (if t363 = true then ((marginaliaref04_other.f k x0 (wrap64 (x1 + 1))).bind fun bt364 => (some (bt364.1, bt364.2.1, bt364.2.2.1, bt364.2.2.2.1, bt364.2.2.2.2.1, bt364.2.2.2.2.2))) else ((marginaliaref04_ended.f k x0 (wrap64 (x1 + 1)) 2).bind fun bt372 => (some (bt372.1, bt372.2.1, bt372.2.2.1, bt372.2.2.2.1, bt372.2.2.2.2.1, bt372.2.2.2.2.2)))))))
def marginaliaref04_data.j2 : Nat → ByteArray → Int → Bool → Option (Int × ByteArray × (List (S41)) × Bool × ByteArray × Int)
  | 0, _, _, _ => none
  | k + 1, x0, x1, x101 => if x101 = true then ((marginaliaref04_other.f k x0 (wrap64 (x1 + 9))).bind fun bt346 => (some (5, (⟨#[]⟩ : ByteArray), ([] : List (S41)), false, (⟨#[]⟩ : ByteArray), bt346.2.2.2.2.2))) else ((marginaliaref04_other.f k x0 (wrap64 (x1 + 2))).bind fun bt355 => (some (bt355.1, bt355.2.1, bt355.2.2.1, bt355.2.2.2.1, bt355.2.2.2.2.1, bt355.2.2.2.2.2)))
end
def marginaliaref04_data.f (k : Nat) (a0 : ByteArray) (a1 : Int) (a2 : Bool) : Option (Int × ByteArray × (List (S41)) × Bool × ByteArray × Int) := marginaliaref04_data.l0 k a0 a1 a2
-- BY HAND: marginaliaref04_data
set_option maxHeartbeats 4000000 in
set_option maxRecDepth 100000 in
theorem marginaliaref04_data.calls (k : Nat) (a0 : ByteArray) (a1 : Int) (a2 : Bool) (r1 : Int) (r2 : ByteArray) (r3 : List S41) (r4 : Bool) (r5 : ByteArray) (r6 : Int) (w : World) (h : marginaliaref04_data.f k a0 a1 a2 = some (r1, r2, r3, r4, r5, r6)) :
    Calls Try.prog 24 #[.string a0, .int .i64 a1, .bool a2] w fun e w' => ∃ v2_ : Value, e = .returned (.tuple #[.agg #[.int .i64 r1, .string r2, v2_, .bool r4, .string r5], .int .i64 r6]) ∧ Kd.R k41 41 w' w.heap.size (fun _ => True) v2_ r3 ∧ Below w.heap.size w w' := by
 have H0 := Aside0.mk (show marginaliaref04_data.l0 k a0 a1 a2 = some (r1, r2, r3, r4, r5, r6) from h)
 have HT0 := Aside0.mk (TB.zero w)
 have HB0 := Aside0.mk (Below.zero w)
 clear h
 go_enter Try.func24, Try.ntmps24
 go_wp2
 go_loopg [1] k (fun kq v1 wr => ∃ (x : Int) (y0 : Int) (y1 : ByteArray) (y2 : Bool) (y3 : ByteArray), v1 = .int .i64 x ∧ Aside0 (marginaliaref04_data.l0 kq a0 x a2 = some (r1, r2, r3, r4, r5, r6)) ∧ Aside0 (kq ≤ k) ∧ Aside0 (TB wr w.heap.size y0 y1 (.slice none 0 0) y2 y3) ∧ Aside0 (Below w.heap.size w wr))
 case atStart => exact ⟨a1, 0, _, false, _, rfl, H0, ⟨Nat.le_refl _⟩, HT0, HB0⟩
 case round =>
  clear H0 HT0 HB0
  obtain ⟨x, y0, y1, y2, y3, rfl, HA, HK, HT, HB⟩ := hrel
  cases gk with
  | zero => exact absurd HA.out (by simp [marginaliaref04_data.l0])
  | succ k1 =>
   have h := HA.out
   clear HA
   rw [marginaliaref04_data.l0] at h
   by_cases c1 : x < (a0.size : Int)
   ·
    replace h := (if_pos c1).symm.trans h
    have d1 : decide (x < (a0.size : Int)) = true := decide_eq_true c1
    replace h := Option.bind_eq_some_iff.mp h
    obtain ⟨t1, hx, h⟩ := h
    have HX := Aside0.mk hx
    clear hx
    have H := Aside0.mk h
    clear h
    go_wp2_with fail
    refine (marginaliaref04_begins.calls a0 x t1 _ HX.out).mono ?_
    rintro e w1 ⟨rfl, hd⟩
    have hb := hd.below
    clear hd
    replace HT := Aside0.mk (HT.out.keep hb)
    replace HB := Aside0.mk (below_step HB.out hb)
    clear hb HX
    have h := H.out
    clear H
    cases t1 with
    | false =>
     replace h := (if_neg Bool.false_ne_true).symm.trans h
     replace h := Option.bind_eq_some_iff.mp h
     obtain ⟨⟨q1, q2, q3, q4, q5, q6⟩, hx, h⟩ := h
     have HX := Aside0.mk hx
     clear hx
     simp only [Option.some.injEq, Prod.mk.injEq] at h
     obtain ⟨rfl, rfl, rfl, rfl, rfl, rfl⟩ := h
     go_wp2_with fail
     refine (marginaliaref04_text.calls k1 a0 x _ _ _ _ _ _ _ HX.out).mono ?_
     rintro e w2 ⟨v, rfl, hO, hb⟩
     obtain ⟨A, cp, rfl, _⟩ := Kd.R_reads hO
     have HO := Aside0.mk (Kd.R_lower hO HB.out.size)
     replace HT := Aside0.mk (HT.out.keep hb)
     replace HB := Aside0.mk (below_step HB.out hb)
     clear hO hb HX
     obtain ⟨t0, t1, t2, t3, t4, u0, u1, u2, u3, u4⟩ := HT.out.all
     go_wp2
     exact bodyPost_ret (v := .tuple #[.agg #[.int .i64 q1, .string q2, (.slice A q3.length cp), .bool q4, .string q5], .int .i64 q6]) (by simp [results, Try.results24, go_sem, HT.out.put q1 q2 (.slice A q3.length cp) q4 q5]) rfl
      ⟨(.slice A q3.length cp), rfl, Kd.R_put5 HO.out HT.out _ _ _ _ _, put5_bel HB.out _ _ _ _ _⟩
    | true =>
     replace h := (if_pos rfl).symm.trans h
     replace h := Option.bind_eq_some_iff.mp h
     obtain ⟨t2, hx, h⟩ := h
     have HX := Aside0.mk hx
     clear hx
     have H := Aside0.mk h
     clear h
     go_wp2_with fail
     refine (marginaliaref04_here.calls a0 x _ t2 _ HX.out).mono ?_
     rintro e w1 ⟨rfl, hd⟩
     have hb := hd.below
     clear hd
     replace HT := Aside0.mk (HT.out.keep hb)
     replace HB := Aside0.mk (below_step HB.out hb)
     clear hb HX
     have h := H.out
     clear H
     cases t2 with
     | true =>
      replace h := (if_pos rfl).symm.trans h
      have H := Aside0.mk h
      clear h
      go_wp2
      go_roundg k1
      case measure => exact Nat.lt_succ_self k1
      case rel => exact ⟨wrap64 (x + 3), y0, y1, y2, y3, rfl, H, ⟨by have := HK.out; omega⟩, HT, HB⟩
     | false =>
      replace h := (if_neg Bool.false_ne_true).symm.trans h
      replace h := Option.bind_eq_some_iff.mp h
      obtain ⟨t3, hx, h⟩ := h
      have HX := Aside0.mk hx
      clear hx
      have H := Aside0.mk h
      clear h
      go_wp2_with fail
      refine (marginaliaref04_here.calls a0 x _ t3 _ HX.out).mono ?_
      rintro e w1 ⟨rfl, hd⟩
      have hb := hd.below
      clear hd
      replace HT := Aside0.mk (HT.out.keep hb)
      replace HB := Aside0.mk (below_step HB.out hb)
      clear hb HX
      have h := H.out
      clear H
      cases t3 with
      | true =>
       replace h := (if_pos rfl).symm.trans h
       obtain ⟨m, hm⟩ : ∃ m, wrap64 (x + 2) = m := ⟨_, rfl⟩
       rw [hm] at h
       have hmw : IntKind.i64.wrap (x + 2) = m := (i64_w _).trans hm
       clear hm
       by_cases c2 : 0 ≤ m
       case neg => exact absurd ((if_neg c2).symm.trans h) (by simp)
       replace h := (if_pos c2).symm.trans h
       by_cases c3 : m < (a0.size : Int)
       case neg => exact absurd ((if_neg c3).symm.trans h) (by simp)
       replace h := (if_pos c3).symm.trans h
       have hidx : m.toNat < a0.size := by omega
       obtain ⟨c, hc⟩ : ∃ c, a0[m.toNat]'hidx = c := ⟨_, rfl⟩
       have hcb : bt a0 m = (c.toNat : Int) := by rw [← hc]; unfold bt; rw [dif_pos hidx]
       rw [hcb] at h
       clear hcb
       replace h := Option.bind_eq_some_iff.mp h
       obtain ⟨t4, hx, h⟩ := h
       have HX := Aside0.mk hx
       clear hx
       have H := Aside0.mk h
       clear h
       go_wp2_with fail
       refine (marginaliaref02_Letter.calls _ t4 _ HX.out).mono ?_
       rintro e w1 ⟨rfl, hd⟩
       have hb := hd.below
       clear hd
       replace HT := Aside0.mk (HT.out.keep hb)
       replace HB := Aside0.mk (below_step HB.out hb)
       clear hb HX
       have h := H.out
       clear H
       cases t4 with
       | true =>
        replace h := (if_pos rfl).symm.trans h
        replace h := Option.bind_eq_some_iff.mp h
        obtain ⟨⟨q1, q2, q3, q4, q5, q6⟩, hx, h⟩ := h
        have HX := Aside0.mk hx
        clear hx
        simp only [Option.some.injEq, Prod.mk.injEq] at h
        obtain ⟨rfl, rfl, rfl, rfl, rfl, rfl⟩ := h
        go_wp2_with fail
        refine (marginaliaref04_ended.calls k1 a0 m 3 _ _ _ _ _ _ _ HX.out).mono ?_
        rintro e w2 ⟨v, rfl, hO, hb⟩
        obtain ⟨A, cp, rfl, _⟩ := Kd.R_reads hO
        have HO := Aside0.mk (Kd.R_lower hO HB.out.size)
        replace HT := Aside0.mk (HT.out.keep hb)
        replace HB := Aside0.mk (below_step HB.out hb)
        clear hO hb HX
        obtain ⟨t0, t1, t2, t3, t4, u0, u1, u2, u3, u4⟩ := HT.out.all
        go_wp2
        exact bodyPost_ret (v := .tuple #[.agg #[.int .i64 q1, .string q2, (.slice A q3.length cp), .bool q4, .string q5], .int .i64 q6]) (by simp [results, Try.results24, go_sem, HT.out.put q1 q2 (.slice A q3.length cp) q4 q5]) rfl
         ⟨(.slice A q3.length cp), rfl, Kd.R_put5 HO.out HT.out _ _ _ _ _, put5_bel HB.out _ _ _ _ _⟩
       | false =>
        replace h := (if_neg Bool.false_ne_true).symm.trans h
        replace h := Option.bind_eq_some_iff.mp h
        obtain ⟨⟨q1, q2, q3, q4, q5, q6⟩, hx, h⟩ := h
        have HX := Aside0.mk hx
        clear hx
        simp only [Option.some.injEq, Prod.mk.injEq] at h
        obtain ⟨rfl, rfl, rfl, rfl, rfl, rfl⟩ := h
        go_wp2_with fail
        refine (marginaliaref04_other.calls k1 a0 m _ _ _ _ _ _ _ HX.out).mono ?_
        rintro e w2 ⟨v, rfl, hO, hb⟩
        obtain ⟨A, cp, rfl, _⟩ := Kd.R_reads hO
        have HO := Aside0.mk (Kd.R_lower hO HB.out.size)
        replace HT := Aside0.mk (HT.out.keep hb)
        replace HB := Aside0.mk (below_step HB.out hb)
        clear hO hb HX
        obtain ⟨t0, t1, t2, t3, t4, u0, u1, u2, u3, u4⟩ := HT.out.all
        go_wp2
        exact bodyPost_ret (v := .tuple #[.agg #[.int .i64 q1, .string q2, (.slice A q3.length cp), .bool q4, .string q5], .int .i64 q6]) (by simp [results, Try.results24, go_sem, HT.out.put q1 q2 (.slice A q3.length cp) q4 q5]) rfl
         ⟨(.slice A q3.length cp), rfl, Kd.R_put5 HO.out HT.out _ _ _ _ _, put5_bel HB.out _ _ _ _ _⟩
      | false =>
       replace h := (if_neg Bool.false_ne_true).symm.trans h
       replace h := Option.bind_eq_some_iff.mp h
       obtain ⟨t5, hx, h⟩ := h
       have HX := Aside0.mk hx
       clear hx
       have H := Aside0.mk h
       clear h
       go_wp2_with fail
       refine (marginaliaref04_here.calls a0 x _ t5 _ HX.out).mono ?_
       rintro e w1 ⟨rfl, hd⟩
       have hb := hd.below
       clear hd
       replace HT := Aside0.mk (HT.out.keep hb)
       replace HB := Aside0.mk (below_step HB.out hb)
       clear hb HX
       have h := H.out
       clear H
       cases t5 with
       | true =>
        replace h := (if_pos rfl).symm.trans h
        replace h := Option.bind_eq_some_iff.mp h
        obtain ⟨⟨q1, q2, q3, q4, q5, q6⟩, hx, h⟩ := h
        have HX := Aside0.mk hx
        clear hx
        simp only [Option.some.injEq, Prod.mk.injEq] at h
        obtain ⟨rfl, rfl, rfl, rfl, rfl, rfl⟩ := h
        go_wp2_with fail
        refine (marginaliaref04_comment.calls k1 a0 (wrap64 (x + 4)) _ _ _ _ _ _ _ HX.out).mono ?_
        rintro e w2 ⟨v, rfl, hO, hb⟩
        obtain ⟨A, cp, rfl, _⟩ := Kd.R_reads hO
        have HO := Aside0.mk (Kd.R_lower hO HB.out.size)
        replace HT := Aside0.mk (HT.out.keep hb)
        replace HB := Aside0.mk (below_step HB.out hb)
        clear hO hb HX
        obtain ⟨t0, t1, t2, t3, t4, u0, u1, u2, u3, u4⟩ := HT.out.all
        go_wp2
        exact bodyPost_ret (v := .tuple #[.agg #[.int .i64 q1, .string q2, (.slice A q3.length cp), .bool q4, .string q5], .int .i64 q6]) (by simp [results, Try.results24, go_sem, HT.out.put q1 q2 (.slice A q3.length cp) q4 q5]) rfl
         ⟨(.slice A q3.length cp), rfl, Kd.R_put5 HO.out HT.out _ _ _ _ _, put5_bel HB.out _ _ _ _ _⟩
       | false =>
        replace h := (if_neg Bool.false_ne_true).symm.trans h
        have H := Aside0.mk h
        clear h
        go_upto_region 12 with fail
        go_cut [63] (fun v63 wc => ∃ b : Bool, v63 = .bool b ∧ Aside0 (marginaliaref04_data.j1 k1 a0 x a2 b = some (r1, r2, r3, r4, r5, r6)) ∧ Aside0 (TB wc w.heap.size y0 y1 (.slice none 0 0) y2 y3) ∧ Aside0 (Below w.heap.size w wc))
        case first =>
         cases a2 with
         | false =>
          have h := H.out
          clear H
          replace h := (if_neg Bool.false_ne_true).symm.trans h
          have H2 := Aside0.mk h
          clear h
          go_wp2_with fail
          go_meet
          exact ⟨false, rfl, H2, HT, HB⟩
         | true =>
          have h := H.out
          clear H
          replace h := (if_pos rfl).symm.trans h
          replace h := Option.bind_eq_some_iff.mp h
          obtain ⟨b, hx, h⟩ := h
          have HX := Aside0.mk hx
          clear hx
          have H := Aside0.mk h
          clear h
          go_wp2_with fail
          refine (marginaliaref04_here.calls a0 x _ b _ HX.out).mono ?_
          rintro e w1 ⟨rfl, hd⟩
          have hb := hd.below
          clear hd
          replace HT := Aside0.mk (HT.out.keep hb)
          replace HB := Aside0.mk (below_step HB.out hb)
          clear hb HX
          have h := H.out
          clear H
          have H2 := Aside0.mk h
          clear h
          go_wp2_with fail
          go_meet
          exact ⟨b, rfl, H2, HT, HB⟩
        case rest =>
         clear HT HB H
         obtain ⟨b, rfl, HJ, HT, HB⟩ := hcut
         have h := HJ.out
         clear HJ
         rcases k1 with _ | k2
         ·
          exact absurd h (by simp [marginaliaref04_data.j1])
         rw [marginaliaref04_data.j1] at h
         cases b with
         | true =>
          replace h := (if_pos rfl).symm.trans h
          replace h := Option.bind_eq_some_iff.mp h
          obtain ⟨⟨q1, q2, q3, q4, q5, q6⟩, hx, h⟩ := h
          have HX := Aside0.mk hx
          clear hx
          dsimp only at h
          have H := Aside0.mk h
          clear h
          go_wp2_with fail
          refine (marginaliaref04_cdata.calls k2 a0 (wrap64 (x + 9)) _ _ _ _ _ _ _ HX.out).mono ?_
          rintro e w2 ⟨v, rfl, hO, hb⟩
          obtain ⟨A, cp, rfl, _⟩ := Kd.R_reads hO
          have HO := Aside0.mk (Kd.R_lower hO HB.out.size)
          replace HT := Aside0.mk (HT.out.keep hb)
          replace HB := Aside0.mk (below_step HB.out hb)
          clear hO hb HX
          have h := H.out
          clear H
          have ha : Below w2.heap.size w2 (w2.alloc (.cells #[.int .i64 q1, .string q2, .slice A q3.length cp, .bool q4, .string q5] 29)) := (Below.refl _ _).alloc (Nat.le_refl _) _
          replace HO := Aside0.mk (Kd.R_below HO.out ha)
          replace HT := Aside0.mk (HT.out.keep ha)
          replace HB := Aside0.mk (below_step HB.out ha)
          clear ha
          by_cases c4 : q5.toList = ([] : List UInt8)
          ·
           replace h := (if_pos c4).symm.trans h
           have j1 : (q5.toList == []) = true := beq_iff_eq.mpr c4
           have j2 : (q5.toList != []) = false := bne_eq_false_iff_eq.mpr c4
           have j3 : q5.toList.isEmpty = true := by rw [c4]; rfl
           have H := Aside0.mk h
           clear h c4
           obtain ⟨t0, t1, t2, t3, t4, u0, u1, u2, u3, u4⟩ := HT.out.all
           go_wp2
           go_roundg k2
           case measure => omega
           case rel => exact ⟨q6, _, _, _, _, rfl, H, ⟨by have := HK.out; omega⟩, HT, HB⟩
          ·
           replace h := (if_neg c4).symm.trans h
           simp only [Option.some.injEq, Prod.mk.injEq] at h
           obtain ⟨rfl, rfl, rfl, rfl, rfl, rfl⟩ := h
           have j1 : (q5.toList == []) = false := beq_eq_false_iff_ne.mpr c4
           have j2 : (q5.toList != []) = true := bne_iff_ne.mpr c4
           have j3 : q5.toList.isEmpty = false := by cases hq : q5.toList with | nil => exact absurd hq c4 | cons a b => rfl
           clear c4
           obtain ⟨t0, t1, t2, t3, t4, u0, u1, u2, u3, u4⟩ := HT.out.all
           go_wp2
           exact bodyPost_ret (v := .tuple #[.agg #[.int .i64 q1, .string q2, (.slice A q3.length cp), .bool q4, .string q5], .int .i64 q6]) (by simp [results, Try.results24, go_sem, HT.out.put q1 q2 (.slice A q3.length cp) q4 q5]) rfl
            ⟨(.slice A q3.length cp), rfl, Kd.R_put5 HO.out HT.out _ _ _ _ _, put5_bel HB.out _ _ _ _ _⟩
         | false =>
          replace h := (if_neg Bool.false_ne_true).symm.trans h
          replace h := Option.bind_eq_some_iff.mp h
          obtain ⟨t6, hx, h⟩ := h
          have HX := Aside0.mk hx
          clear hx
          have H := Aside0.mk h
          clear h
          go_wp2_with fail
          refine (marginaliaref04_here.calls a0 x _ t6 _ HX.out).mono ?_
          rintro e w1 ⟨rfl, hd⟩
          have hb := hd.below
          clear hd
          replace HT := Aside0.mk (HT.out.keep hb)
          replace HB := Aside0.mk (below_step HB.out hb)
          clear hb HX
          have h := H.out
          clear H
          cases t6 with
          | true =>
           replace h := (if_pos rfl).symm.trans h
           have H := Aside0.mk h
           clear h
           go_upto_region 18 with fail
           go_cut [101] (fun v101 wc => ∃ b : Bool, v101 = .bool b ∧ Aside0 (marginaliaref04_data.j2 k2 a0 x b = some (r1, r2, r3, r4, r5, r6)) ∧ Aside0 (TB wc w.heap.size y0 y1 (.slice none 0 0) y2 y3) ∧ Aside0 (Below w.heap.size w wc))
           case first =>
            have h := H.out
            clear H
            obtain ⟨m, hm⟩ : ∃ m, wrap64 (x + 9) = m := ⟨_, rfl⟩
            obtain ⟨n, hn⟩ : ∃ n, wrap64 (x + 2) = n := ⟨_, rfl⟩
            rw [hm, hn] at h
            have hmw : IntKind.i64.wrap (x + 9) = m := (i64_w _).trans hm
            have hnw : IntKind.i64.wrap (x + 2) = n := (i64_w _).trans hn
            clear hm hn
            by_cases c4 : m ≤ (a0.size : Int)
            ·
             replace h := (if_pos c4).symm.trans h
             by_cases c5 : 0 ≤ n
             case neg => exact absurd ((if_neg c5).symm.trans h) (by simp)
             replace h := (if_pos c5).symm.trans h
             by_cases c6 : n ≤ m
             case neg => exact absurd ((if_neg c6).symm.trans h) (by simp)
             replace h := (if_pos c6).symm.trans h
             have d4 : decide (m ≤ (a0.size : Int)) = true := decide_eq_true c4
             replace h := Option.bind_eq_some_iff.mp h
             obtain ⟨s7, hx, h⟩ := h
             have HX := Aside0.mk hx
             clear hx
             have H := Aside0.mk h
             clear h
             go_wp2_with fail
             refine (marginaliaref02_Lower.calls k2 _ s7 _ HX.out).mono ?_
             rintro e w1 ⟨rfl, hb⟩
             replace HT := Aside0.mk (HT.out.keep hb)
             replace HB := Aside0.mk (below_step HB.out hb)
             clear hb HX
             have h := H.out
             clear H
             obtain ⟨b, hb⟩ : ∃ b, (s7.toList == ([100, 111, 99, 116, 121, 112, 101] : List UInt8)) = b := ⟨_, rfl⟩
             rw [hb] at h
             have H2 := Aside0.mk h
             clear h
             go_wp2_with fail
             go_meet
             exact ⟨b, rfl, H2, HT, HB⟩
            ·
             replace h := (if_neg c4).symm.trans h
             have d4 : decide (m ≤ (a0.size : Int)) = false := decide_eq_false c4
             have H2 := Aside0.mk h
             clear h
             go_wp2_with fail
             go_meet
             exact ⟨false, rfl, H2, HT, HB⟩
           case rest =>
            clear HT HB H
            obtain ⟨b, rfl, HJ, HT, HB⟩ := hcut
            have h := HJ.out
            clear HJ
            rcases k2 with _ | k3
            ·
             exact absurd h (by simp [marginaliaref04_data.j2])
            rw [marginaliaref04_data.j2] at h
            cases b with
            | true =>
             replace h := (if_pos rfl).symm.trans h
             replace h := Option.bind_eq_some_iff.mp h
             obtain ⟨⟨q1, q2, q3, q4, q5, q6⟩, hx, h⟩ := h
             have HX := Aside0.mk hx
             clear hx
             simp only [Option.some.injEq, Prod.mk.injEq] at h
             obtain ⟨rfl, rfl, rfl, rfl, rfl, rfl⟩ := h
             go_wp2_with fail
             refine (marginaliaref04_other.calls k3 a0 (wrap64 (x + 9)) _ _ _ _ _ _ _ HX.out).mono ?_
             rintro e w2 ⟨v, rfl, hO, hb⟩
             obtain ⟨A, cp, rfl, _⟩ := Kd.R_reads hO
             replace HT := Aside0.mk (HT.out.keep hb)
             replace HB := Aside0.mk (below_step HB.out hb)
             clear hO hb HX
             have ha : Below w2.heap.size w2 (w2.alloc (.cells #[.int .i64 q1, .string q2, .slice A q3.length cp, .bool q4, .string q5] 29)) := (Below.refl _ _).alloc (Nat.le_refl _) _
             replace HT := Aside0.mk (HT.out.keep ha)
             replace HB := Aside0.mk (below_step HB.out ha)
             clear ha
             obtain ⟨t0, t1, t2, t3, t4, u0, u1, u2, u3, u4⟩ := HT.out.all
             go_wp2
             exact bodyPost_ret (v := .tuple #[.agg #[.int .i64 5, .string ⟨#[]⟩, (.slice none 0 0), .bool false, .string ⟨#[]⟩], .int .i64 q6]) (by simp [results, Try.results24, go_sem, HT.out.put 5 ⟨#[]⟩ (.slice none 0 0) false ⟨#[]⟩]) rfl
              ⟨(.slice none 0 0), rfl, Kd.R_nil _ _ _ _ _, put5_bel HB.out _ _ _ _ _⟩
            | false =>
             replace h := (if_neg Bool.false_ne_true).symm.trans h
             replace h := Option.bind_eq_some_iff.mp h
             obtain ⟨⟨q1, q2, q3, q4, q5, q6⟩, hx, h⟩ := h
             have HX := Aside0.mk hx
             clear hx
             simp only [Option.some.injEq, Prod.mk.injEq] at h
             obtain ⟨rfl, rfl, rfl, rfl, rfl, rfl⟩ := h
             go_wp2_with fail
             refine (marginaliaref04_other.calls k3 a0 (wrap64 (x + 2)) _ _ _ _ _ _ _ HX.out).mono ?_
             rintro e w2 ⟨v, rfl, hO, hb⟩
             obtain ⟨A, cp, rfl, _⟩ := Kd.R_reads hO
             have HO := Aside0.mk (Kd.R_lower hO HB.out.size)
             replace HT := Aside0.mk (HT.out.keep hb)
             replace HB := Aside0.mk (below_step HB.out hb)
             clear hO hb HX
             obtain ⟨t0, t1, t2, t3, t4, u0, u1, u2, u3, u4⟩ := HT.out.all
             go_wp2
             exact bodyPost_ret (v := .tuple #[.agg #[.int .i64 q1, .string q2, (.slice A q3.length cp), .bool q4, .string q5], .int .i64 q6]) (by simp [results, Try.results24, go_sem, HT.out.put q1 q2 (.slice A q3.length cp) q4 q5]) rfl
              ⟨(.slice A q3.length cp), rfl, Kd.R_put5 HO.out HT.out _ _ _ _ _, put5_bel HB.out _ _ _ _ _⟩
           | false =>
            replace h := (if_neg Bool.false_ne_true).symm.trans h
            replace h := Option.bind_eq_some_iff.mp h
            obtain ⟨t7, hx, h⟩ := h
            have HX := Aside0.mk hx
            clear hx
            have H := Aside0.mk h
            clear h
            go_wp2_with fail
            refine (marginaliaref04_here.calls a0 x _ t7 _ HX.out).mono ?_
            rintro e w1 ⟨rfl, hd⟩
            have hb := hd.below
            clear hd
            replace HT := Aside0.mk (HT.out.keep hb)
            replace HB := Aside0.mk (below_step HB.out hb)
            clear hb HX
            have h := H.out
            clear H
            cases t7 with
            | true =>
             replace h := (if_pos rfl).symm.trans h
             replace h := Option.bind_eq_some_iff.mp h
             obtain ⟨⟨q1, q2, q3, q4, q5, q6⟩, hx, h⟩ := h
             have HX := Aside0.mk hx
             clear hx
             simp only [Option.some.injEq, Prod.mk.injEq] at h
             obtain ⟨rfl, rfl, rfl, rfl, rfl, rfl⟩ := h
             go_wp2_with fail
             refine (marginaliaref04_other.calls k2 a0 (wrap64 (x + 1)) _ _ _ _ _ _ _ HX.out).mono ?_
             rintro e w2 ⟨v, rfl, hO, hb⟩
             obtain ⟨A, cp, rfl, _⟩ := Kd.R_reads hO
             have HO := Aside0.mk (Kd.R_lower hO HB.out.size)
             replace HT := Aside0.mk (HT.out.keep hb)
             replace HB := Aside0.mk (below_step HB.out hb)
             clear hO hb HX
             obtain ⟨t0, t1, t2, t3, t4, u0, u1, u2, u3, u4⟩ := HT.out.all
             go_wp2
             exact bodyPost_ret (v := .tuple #[.agg #[.int .i64 q1, .string q2, (.slice A q3.length cp), .bool q4, .string q5], .int .i64 q6]) (by simp [results, Try.results24, go_sem, HT.out.put q1 q2 (.slice A q3.length cp) q4 q5]) rfl
              ⟨(.slice A q3.length cp), rfl, Kd.R_put5 HO.out HT.out _ _ _ _ _, put5_bel HB.out _ _ _ _ _⟩
            | false =>
             replace h := (if_neg Bool.false_ne_true).symm.trans h
             replace h := Option.bind_eq_some_iff.mp h
             obtain ⟨⟨q1, q2, q3, q4, q5, q6⟩, hx, h⟩ := h
             have HX := Aside0.mk hx
             clear hx
             simp only [Option.some.injEq, Prod.mk.injEq] at h
             obtain ⟨rfl, rfl, rfl, rfl, rfl, rfl⟩ := h
             go_wp2_with fail
             refine (marginaliaref04_ended.calls k2 a0 (wrap64 (x + 1)) 2 _ _ _ _ _ _ _ HX.out).mono ?_
             rintro e w2 ⟨v, rfl, hO, hb⟩
             obtain ⟨A, cp, rfl, _⟩ := Kd.R_reads hO
             have HO := Aside0.mk (Kd.R_lower hO HB.out.size)
             replace HT := Aside0.mk (HT.out.keep hb)
             replace HB := Aside0.mk (below_step HB.out hb)
             clear hO hb HX
             obtain ⟨t0, t1, t2, t3, t4, u0, u1, u2, u3, u4⟩ := HT.out.all
             go_wp2
             exact bodyPost_ret (v := .tuple #[.agg #[.int .i64 q1, .string q2, (.slice A q3.length cp), .bool q4, .string q5], .int .i64 q6]) (by simp [results, Try.results24, go_sem, HT.out.put q1 q2 (.slice A q3.length cp) q4 q5]) rfl
              ⟨(.slice A q3.length cp), rfl, Kd.R_put5 HO.out HT.out _ _ _ _ _, put5_bel HB.out _ _ _ _ _⟩
   ·
    replace h := (if_neg c1).symm.trans h
    have d1 : decide (x < (a0.size : Int)) = false := decide_eq_false c1
    simp only [Option.some.injEq, Prod.mk.injEq] at h
    obtain ⟨rfl, rfl, rfl, rfl, rfl, rfl⟩ := h
    obtain ⟨t0, t1, t2, t3, t4, u0, u1, u2, u3, u4⟩ := HT.out.all
    go_wp2
    exact bodyPost_ret (v := .tuple #[.agg #[.int .i64 0, .string ⟨#[]⟩, (.slice none 0 0), .bool false, .string ⟨#[]⟩], .int .i64 (a0.size : Int)]) (by simp [results, Try.results24, go_sem, HT.out.put 0 ⟨#[]⟩ (.slice none 0 0) false ⟨#[]⟩]) rfl
     ⟨(.slice none 0 0), rfl, Kd.R_nil _ _ _ _ _, put5_bel HB.out _ _ _ _ _⟩
end
end Go.Proofs.Ytpelfhldgnmhpaa.G
namespace Go.Proofs.Ytpelfhldgnmhpaa.G
section
open Go.RowKit Go.Proofs.YtpelfhldgnmhpaaW.PrintWords Go.Proofs.YtpelfhldgnmhpaaW.PrintLast Go.Proofs.YtpelfhldgnmhpaaW.PrintMore
attribute [local go_sem] max2_int min2_int max_two min_two max_three min_three max_four min_four
set_option linter.unusedVariables false
set_option linter.unusedSimpArgs false
attribute [local go_sem high] eqA41
/-! ### marginaliaref04_stop: function 25 -/
def marginaliaref04_stop.f (k : Nat) (a0 : ByteArray) (a1 : Int) (a2 : ByteArray) : Option (Bool) := (marginaliaref04_here.f a0 a1 (⟨#[60, 47]⟩ : ByteArray)).bind fun t388 => (if t388 = true then (if (wrap64 ((wrap64 (a1 + 2)) + (a2.size : Int))) ≥ (a0.size : Int) then (some false) else (if 0 ≤ (wrap64 (a1 + 2)) then (if (wrap64 (a1 + 2)) ≤ (wrap64 ((wrap64 (a1 + 2)) + (a2.size : Int))) then (if (wrap64 ((wrap64 (a1 + 2)) + (a2.size : Int))) ≤ (a0.size : Int) then ((marginaliaref02_Lower.f k (a0.extract ((wrap64 (a1 + 2)) : Int).toNat ((wrap64 ((wrap64 (a1 + 2)) + (a2.size : Int))) : Int).toNat)).bind fun t389 => ((marginaliaref02_Lower.f k a2).bind fun t390 => (if t389.toList = t390.toList then (if 0 ≤ (wrap64 ((wrap64 (a1 + 2)) + (a2.size : Int))) then (if (wrap64 ((wrap64 (a1 + 2)) + (a2.size : Int))) < (a0.size : Int) then ((marginaliaref02_Space.f (bt a0 (wrap64 ((wrap64 (a1 + 2)) + (a2.size : Int))))).bind fun t391 => (if t391 = true then (some true) else (if (bt a0 (wrap64 ((wrap64 (a1 + 2)) + (a2.size : Int)))) = 47 then (some true) else (some ((bt a0 (wrap64 ((wrap64 (a1 + 2)) + (a2.size : Int)))) == 62))))) else (none)) else (none)) else (some false)))) else (none)) else (none)) else (none))) else (some false))
-- BY HAND: stop
set_option maxHeartbeats 2000000 in
set_option maxRecDepth 100000 in
theorem marginaliaref04_stop.calls (k : Nat) (a0 : ByteArray) (a1 : Int) (a2 : ByteArray) (r : Bool) (w : World) (h : marginaliaref04_stop.f k a0 a1 a2 = some r) :
    Calls Try.prog 25 #[.string a0, .int .i64 a1, .string a2] w fun e w' => e = .returned (.bool r) ∧ Below w.heap.size w w' := by
 unfold marginaliaref04_stop.f at h
 obtain ⟨m, hm⟩ : ∃ m, wrap64 (a1 + 2) = m := ⟨_, rfl⟩
 rw [hm] at h
 obtain ⟨n, hn⟩ : ∃ n, wrap64 (m + (a2.size : Int)) = n := ⟨_, rfl⟩
 rw [hn] at h
 have hmw : IntKind.i64.wrap (a1 + 2) = m := (i64_w _).trans hm
 have hnw : IntKind.i64.wrap (m + (a2.size : Int)) = n := (i64_w _).trans hn
 clear hm hn
 obtain ⟨t0, hA, h⟩ := Option.bind_eq_some_iff.mp h
 have H := Aside0.mk h
 clear h
 go_enter Try.func25, Try.ntmps25
 go_wp2_with fail
 refine (marginaliaref04_here.calls a0 a1 (⟨#[60, 47]⟩ : ByteArray) t0 _ hA).mono ?_
 rintro e w1 ⟨rfl, n1, rfl⟩
 clear hA
 cases t0 with
 | false =>
  have h := H.out
  rw [if_neg (by decide)] at h
  obtain rfl := Option.some.inj h
  clear h H
  go_wp2
  go_ret
  exact ⟨rfl, Below.drN (Below.refl _ _) _⟩
 | true =>
  have h := H.out
  rw [if_pos rfl] at h
  clear H
  by_cases c1 : n ≥ (a0.size : Int)
  ·
   rw [if_pos c1] at h
   obtain rfl := Option.some.inj h
   have g1 : decide ((a0.size : Int) ≤ n) = true := decide_eq_true c1
   clear h
   go_wp2
   go_ret
   exact ⟨rfl, Below.drN (Below.refl _ _) _⟩
  ·
   rw [if_neg c1] at h
   have g1 : decide ((a0.size : Int) ≤ n) = false := decide_eq_false c1
   have k1 : n < (a0.size : Int) := by omega
   by_cases c2 : 0 ≤ m
   case neg => rw [if_neg c2] at h; cases h
   rw [if_pos c2] at h
   by_cases c3 : m ≤ n
   case neg => rw [if_neg c3] at h; cases h
   rw [if_pos c3] at h
   have k2 : n ≤ (a0.size : Int) := by omega
   have k3 : 0 ≤ n := by omega
   rw [if_pos k2] at h
   obtain ⟨x, hx, h⟩ := Option.bind_eq_some_iff.mp h
   obtain ⟨y, hy, h⟩ := Option.bind_eq_some_iff.mp h
   have HX := Aside0.mk hx
   have HY := Aside0.mk hy
   have H := Aside0.mk h
   have hidx : n.toNat < a0.size := by omega
   clear h hx hy
   go_wp2_with fail
   refine (marginaliaref02_Lower.calls k _ x _ HX.out).mono ?_
   rintro e w2 ⟨rfl, hb⟩
   have HB2 := Aside0.mk (show Below w.heap.size w w2 from (show Below w.heap.size w (w.drewN n1) from Below.drN (Below.refl _ _) _).trans hb)
   clear hb
   go_wp2_with fail
   refine (marginaliaref02_Lower.calls k _ y _ HY.out).mono ?_
   rintro e w3 ⟨rfl, hb⟩
   have HB3 := Aside0.mk (HB2.out.trans (hb.mono HB2.out.size))
   clear hb HB2
   have h := H.out
   by_cases c4 : x.toList = y.toList
   ·
    rw [if_pos c4, if_pos k3, if_pos k1] at h
    have j1 : (x.toList == y.toList) = true := beq_iff_eq.mpr c4
    have j2 : (x.toList != y.toList) = false := bne_eq_false_iff_eq.mpr c4
    obtain ⟨c, hc⟩ : ∃ c, a0[n.toNat]'hidx = c := ⟨_, rfl⟩
    have hcb : bt a0 n = (c.toNat : Int) := by rw [← hc]; unfold bt; rw [dif_pos hidx]
    rw [hcb] at h
    obtain ⟨b, hB, h⟩ := Option.bind_eq_some_iff.mp h
    have HS := Aside0.mk hB
    have H2 := Aside0.mk h
    clear h H hB hcb c4
    go_wp2_with fail
    refine (marginaliaref02_Space.calls _ b _ HS.out).mono ?_
    rintro e w4 ⟨rfl, n4, rfl⟩
    have h := H2.out
    obtain ⟨ci, hci⟩ : ∃ i : Int, (c.toNat : Int) = i := ⟨_, rfl⟩
    rw [hci] at h
    clear H2 HS
    have fin : Below w.heap.size w (w3.drewN n4) := Below.drN HB3.out _
    have FIN := Aside0.mk fin
    clear fin
    cases b with
    | true =>
     rw [if_pos rfl] at h
     obtain rfl := Option.some.inj h
     clear h
     go_wp2
     go_ret
     exact ⟨rfl, FIN.out⟩
    | false =>
     rw [if_neg (by decide)] at h
     by_cases c5 : ci = 47
     ·
      rw [if_pos c5] at h
      obtain rfl := Option.some.inj h
      have q1 : (ci == 47) = true := beq_iff_eq.mpr c5
      clear h c5
      go_wp2
      go_ret
      exact ⟨rfl, FIN.out⟩
     ·
      rw [if_neg c5] at h
      have q1 : (ci == 47) = false := beq_eq_false_iff_ne.mpr c5
      obtain ⟨b2, hb2⟩ : ∃ b2, (ci == 62) = b2 := ⟨_, rfl⟩
      rw [hb2] at h
      obtain rfl := Option.some.inj h
      clear h c5
      go_wp2
      go_ret
      exact ⟨rfl, FIN.out⟩
   ·
    rw [if_neg c4] at h
    obtain rfl := Option.some.inj h
    have j1 : (x.toList == y.toList) = false := beq_eq_false_iff_ne.mpr c4
    have j2 : (x.toList != y.toList) = true := bne_iff_ne.mpr c4
    clear h H c4
    go_wp2
    go_ret
    exact ⟨rfl, HB3.out⟩
/-! ### marginaliaref04_Next: function 12 -/
mutual
def marginaliaref04_Next.j0 : Nat → ByteArray → Int → Int → ByteArray → Bool → Bool → Option (Int × ByteArray × (List (S41)) × Bool × ByteArray × Int)
  | 0, _, _, _, _, _, _ => none
  | k + 1, x0, x1, x2, x3, x4, x21 => if x21 = true then (some (0, (⟨#[]⟩ : ByteArray), ([] : List (S41)), false, (⟨#[]⟩ : ByteArray), (x0.size : Int))) else (if x2 = 3 then (if 0 ≤ x1 then (if x1 ≤ (x0.size : Int) then (some (1, (⟨#[]⟩ : ByteArray), ([] : List (S41)), false, x0.extract (x1 : Int).toNat x0.size, (x0.size : Int))) else (none)) else (none)) else (if x2 = 2 then (marginaliaref04_Next.j1 k x0 x1 x2 x3 x4 false) else (marginaliaref04_Next.j1 k x0 x1 x2 x3 x4 (x2 != 1))))
def marginaliaref04_Next.j1 : Nat → ByteArray → Int → Int → ByteArray → Bool → Bool → Option (Int × ByteArray × (List (S41)) × Bool × ByteArray × Int)
  | 0, _, _, _, _, _, _ => none
  | k + 1, x0, x1, x2, x3, x4, x38 => if x38 = true then ((marginaliaref04_data.f k x0 x1 x4).bind fun bt393 => (some (bt393.1, bt393.2.1, bt393.2.2.1, bt393.2.2.2.1, bt393.2.2.2.2.1, bt393.2.2.2.2.2))) else ((marginaliaref04_stop.f k x0 x1 x3).bind fun t401 => (if t401 = true then ((marginaliaref04_ended.f k x0 (wrap64 (x1 + 2)) 3).bind fun bt402 => (some (bt402.1, bt402.2.1, bt402.2.2.1, bt402.2.2.2.1, bt402.2.2.2.2.1, bt402.2.2.2.2.2))) else (marginaliaref04_Next.l0 k x0 x1 x2 x3 x1)))
def marginaliaref04_Next.l0 : Nat → ByteArray → Int → Int → ByteArray → Int → Option (Int × ByteArray × (List (S41)) × Bool × ByteArray × Int)
  | 0, _, _, _, _, _ => none
  | k + 1, x0, x1, x2, x3, x12 => if x12 < (x0.size : Int) then ((marginaliaref04_stop.f k x0 x12 x3).bind fun t410 => (if t410 = true then (if 0 ≤ x1 then (if x1 ≤ x12 then (if x12 ≤ (x0.size : Int) then (if x2 = 1 then ((marginaliaref03_Decode.f k (x0.extract (x1 : Int).toNat (x12 : Int).toNat) false).bind fun t411 => (some (1, (⟨#[]⟩ : ByteArray), ([] : List (S41)), false, t411, x12))) else (some (1, (⟨#[]⟩ : ByteArray), ([] : List (S41)), false, x0.extract (x1 : Int).toNat (x12 : Int).toNat, x12))) else (none)) else (none)) else (none)) else (marginaliaref04_Next.l0 k x0 x1 x2 x3 (wrap64 (x12 + 1))))) else (if 0 ≤ x1 then (if x1 ≤ x12 then (if x12 ≤ (x0.size : Int) then (if x2 = 1 then ((marginaliaref03_Decode.f k (x0.extract (x1 : Int).toNat (x12 : Int).toNat) false).bind fun t412 => (some (1, (⟨#[]⟩ : ByteArray), ([] : List (S41)), false, t412, x12))) else (some (1, (⟨#[]⟩ : ByteArray), ([] : List (S41)), false, x0.extract (x1 : Int).toNat (x12 : Int).toNat, x12))) else (none)) else (none)) else (none))
end
def marginaliaref04_Next.f (k : Nat) (a0 : ByteArray) (a1 : Int) (a2 : Int) (a3 : ByteArray) (a4 : Bool) : Option (Int × ByteArray × (List (S41)) × Bool × ByteArray × Int) := if a1 < 0 then (marginaliaref04_Next.j0 k a0 a1 a2 a3 a4 true) else (marginaliaref04_Next.j0 k a0 a1 a2 a3 a4 (decide (a1 ≥ (a0.size : Int))))
-- BY HAND: marginaliaref04_Next
set_option maxHeartbeats 4000000 in
set_option maxRecDepth 100000 in
theorem marginaliaref04_Next.calls (k : Nat) (a0 : ByteArray) (a1 : Int) (a2 : Int) (a3 : ByteArray) (a4 : Bool) (r1 : Int) (r2 : ByteArray) (r3 : List S41) (r4 : Bool) (r5 : ByteArray) (r6 : Int) (w : World) (h : marginaliaref04_Next.f k a0 a1 a2 a3 a4 = some (r1, r2, r3, r4, r5, r6)) :
    Calls Try.prog 12 #[.string a0, .int .i64 a1, .int .i64 a2, .string a3, .bool a4] w fun e w' => ∃ v2_ : Value, e = .returned (.tuple #[.agg #[.int .i64 r1, .string r2, v2_, .bool r4, .string r5], .int .i64 r6]) ∧ Kd.R k41 41 w' w.heap.size (fun _ => True) v2_ r3 ∧ Below w.heap.size w w' := by
 have H := Aside0.mk h
 have HT := Aside0.mk (TB.zero w)
 have HB := Aside0.mk (Below.zero w)
 clear h
 go_enter Try.func12, Try.ntmps12
 go_upto_region 1 with fail
 go_cut [21] (fun v21 wc => ∃ b : Bool, v21 = .bool b ∧ Aside0 (marginaliaref04_Next.j0 k a0 a1 a2 a3 a4 b = some (r1, r2, r3, r4, r5, r6)) ∧ Aside0 (TB wc w.heap.size 0 ⟨#[]⟩ (.slice none 0 0) false ⟨#[]⟩) ∧ Aside0 (Below w.heap.size w wc))
 case first =>
  have h := H.out
  unfold marginaliaref04_Next.f at h
  clear H
  by_cases c1 : a1 < 0
  ·
   replace h := (if_pos c1).symm.trans h
   have d1 : decide (a1 < 0) = true := decide_eq_true c1
   have H2 := Aside0.mk h
   clear h
   go_wp2_with fail
   go_meet
   exact ⟨true, rfl, H2, HT, HB⟩
  ·
   replace h := (if_neg c1).symm.trans h
   have d1 : decide (a1 < 0) = false := decide_eq_false c1
   have H2 := Aside0.mk h
   clear h
   go_wp2_with fail
   go_meet
   exact ⟨_, rfl, H2, HT, HB⟩
 case rest =>
  clear HT HB H
  obtain ⟨b, rfl, HJ, HT, HB⟩ := hcut
  have h := HJ.out
  clear HJ
  rcases k with _ | k1
  ·
   exact absurd h (by simp [marginaliaref04_Next.j0])
  rw [marginaliaref04_Next.j0] at h
  cases b with
  | true =>
   replace h := (if_pos rfl).symm.trans h
   simp only [Option.some.injEq, Prod.mk.injEq] at h
   obtain ⟨rfl, rfl, rfl, rfl, rfl, rfl⟩ := h
   obtain ⟨t0, t1, t2, t3, t4, u0, u1, u2, u3, u4⟩ := HT.out.all
   go_wp2
   exact bodyPost_ret (v := .tuple #[.agg #[.int .i64 0, .string ⟨#[]⟩, (.slice none 0 0), .bool false, .string ⟨#[]⟩], .int .i64 (a0.size : Int)]) (by simp [results, Try.results12, go_sem, HT.out.put 0 ⟨#[]⟩ (.slice none 0 0) false ⟨#[]⟩]) rfl
    ⟨(.slice none 0 0), rfl, Kd.R_nil _ _ _ _ _, put5_bel HB.out _ _ _ _ _⟩
  | false =>
   replace h := (if_neg Bool.false_ne_true).symm.trans h
   by_cases c3 : a2 = 3
   ·
    replace h := (if_pos c3).symm.trans h
    have d3 : (a2 == 3) = true := beq_iff_eq.mpr c3
    have d3b : (a2 != 3) = false := bne_eq_false_iff_eq.mpr c3
    clear c3
    by_cases c4 : 0 ≤ a1
    case neg => exact absurd ((if_neg c4).symm.trans h) (by simp)
    replace h := (if_pos c4).symm.trans h
    by_cases c5 : a1 ≤ (a0.size : Int)
    case neg => exact absurd ((if_neg c5).symm.trans h) (by simp)
    replace h := (if_pos c5).symm.trans h
    simp only [Option.some.injEq, Prod.mk.injEq] at h
    obtain ⟨rfl, rfl, rfl, rfl, rfl, rfl⟩ := h
    obtain ⟨t0, t1, t2, t3, t4, u0, u1, u2, u3, u4⟩ := HT.out.all
    go_wp2
    exact bodyPost_ret (v := .tuple #[.agg #[.int .i64 1, .string ⟨#[]⟩, (.slice none 0 0), .bool false, .string (a0.extract a1.toNat a0.size)], .int .i64 (a0.size : Int)]) (by simp [results, Try.results12, go_sem, HT.out.put 1 ⟨#[]⟩ (.slice none 0 0) false (a0.extract a1.toNat a0.size)]) rfl
     ⟨(.slice none 0 0), rfl, Kd.R_nil _ _ _ _ _, put5_bel HB.out _ _ _ _ _⟩
   ·
    replace h := (if_neg c3).symm.trans h
    have d3 : (a2 == 3) = false := beq_eq_false_iff_ne.mpr c3
    have d3b : (a2 != 3) = true := bne_iff_ne.mpr c3
    clear c3
    have H := Aside0.mk h
    clear h
    go_upto_region 5 with fail
    go_cut [38] (fun v38 wc => ∃ b : Bool, v38 = .bool b ∧ Aside0 (marginaliaref04_Next.j1 k1 a0 a1 a2 a3 a4 b = some (r1, r2, r3, r4, r5, r6)) ∧ Aside0 (TB wc w.heap.size 0 ⟨#[]⟩ (.slice none 0 0) false ⟨#[]⟩) ∧ Aside0 (Below w.heap.size w wc))
    case first =>
     have h := H.out
     clear H
     by_cases c1 : a2 = 2
     ·
      replace h := (if_pos c1).symm.trans h
      have d1 : (a2 == 2) = true := beq_iff_eq.mpr c1
      have d1b : (a2 != 2) = false := bne_eq_false_iff_eq.mpr c1
      have H2 := Aside0.mk h
      clear h
      go_wp2_with fail
      go_meet
      exact ⟨false, rfl, H2, HT, HB⟩
     ·
      replace h := (if_neg c1).symm.trans h
      have d1 : (a2 == 2) = false := beq_eq_false_iff_ne.mpr c1
      have d1b : (a2 != 2) = true := bne_iff_ne.mpr c1
      have H2 := Aside0.mk h
      clear h
      go_wp2_with fail
      go_meet
      exact ⟨_, rfl, H2, HT, HB⟩
    case rest =>
     clear HT HB H
     obtain ⟨b, rfl, HJ, HT, HB⟩ := hcut
     have h := HJ.out
     clear HJ
     rcases k1 with _ | k2
     ·
      exact absurd h (by simp [marginaliaref04_Next.j1])
     rw [marginaliaref04_Next.j1] at h
     cases b with
     | true =>
      replace h := (if_pos rfl).symm.trans h
      replace h := Option.bind_eq_some_iff.mp h
      obtain ⟨⟨q1, q2, q3, q4, q5, q6⟩, hx, h⟩ := h
      have HX := Aside0.mk hx
      clear hx
      simp only [Option.some.injEq, Prod.mk.injEq] at h
      obtain ⟨rfl, rfl, rfl, rfl, rfl, rfl⟩ := h
      go_wp2_with fail
      refine (marginaliaref04_data.calls k2 a0 a1 a4 _ _ _ _ _ _ _ HX.out).mono ?_
      rintro e w2 ⟨v, rfl, hO, hb⟩
      obtain ⟨A, cp, rfl, _⟩ := Kd.R_reads hO
      have HO := Aside0.mk (Kd.R_lower hO HB.out.size)
      replace HT := Aside0.mk (HT.out.keep hb)
      replace HB := Aside0.mk (below_step HB.out hb)
      clear hO hb HX
      obtain ⟨t0, t1, t2, t3, t4, u0, u1, u2, u3, u4⟩ := HT.out.all
      go_wp2
      exact bodyPost_ret (v := .tuple #[.agg #[.int .i64 q1, .string q2, (.slice A q3.length cp), .bool q4, .string q5], .int .i64 q6]) (by simp [results, Try.results12, go_sem, HT.out.put q1 q2 (.slice A q3.length cp) q4 q5]) rfl
       ⟨(.slice A q3.length cp), rfl, Kd.R_put5 HO.out HT.out _ _ _ _ _, put5_bel HB.out _ _ _ _ _⟩
     | false =>
      replace h := (if_neg Bool.false_ne_true).symm.trans h
      replace h := Option.bind_eq_some_iff.mp h
      obtain ⟨t1, hx, h⟩ := h
      have HX := Aside0.mk hx
      clear hx
      have H := Aside0.mk h
      clear h
      go_wp2_with fail
      refine (marginaliaref04_stop.calls k2 a0 a1 a3 t1 _ HX.out).mono ?_
      rintro e w1 ⟨rfl, hb⟩
      replace HT := Aside0.mk (HT.out.keep hb)
      replace HB := Aside0.mk (below_step HB.out hb)
      clear hb HX
      have h := H.out
      clear H
      cases t1 with
      | true =>
       replace h := (if_pos rfl).symm.trans h
       replace h := Option.bind_eq_some_iff.mp h
       obtain ⟨⟨q1, q2, q3, q4, q5, q6⟩, hx, h⟩ := h
       have HX := Aside0.mk hx
       clear hx
       simp only [Option.some.injEq, Prod.mk.injEq] at h
       obtain ⟨rfl, rfl, rfl, rfl, rfl, rfl⟩ := h
       go_wp2_with fail
       refine (marginaliaref04_ended.calls k2 a0 (wrap64 (a1 + 2)) 3 _ _ _ _ _ _ _ HX.out).mono ?_
       rintro e w2 ⟨v, rfl, hO, hb⟩
       obtain ⟨A, cp, rfl, _⟩ := Kd.R_reads hO
       have HO := Aside0.mk (Kd.R_lower hO HB.out.size)
       replace HT := Aside0.mk (HT.out.keep hb)
       replace HB := Aside0.mk (below_step HB.out hb)
       clear hO hb HX
       obtain ⟨t0, t1, t2, t3, t4, u0, u1, u2, u3, u4⟩ := HT.out.all
       go_wp2
       exact bodyPost_ret (v := .tuple #[.agg #[.int .i64 q1, .string q2, (.slice A q3.length cp), .bool q4, .string q5], .int .i64 q6]) (by simp [results, Try.results12, go_sem, HT.out.put q1 q2 (.slice A q3.length cp) q4 q5]) rfl
        ⟨(.slice A q3.length cp), rfl, Kd.R_put5 HO.out HT.out _ _ _ _ _, put5_bel HB.out _ _ _ _ _⟩
      | false =>
       replace h := (if_neg Bool.false_ne_true).symm.trans h
       have H := Aside0.mk h
       clear h
       go_wp2_with fail
       go_loopg [12] k2 (fun kq v12 wc => ∃ x : Int, v12 = .int .i64 x ∧ Aside0 (marginaliaref04_Next.l0 kq a0 a1 a2 a3 x = some (r1, r2, r3, r4, r5, r6)) ∧ Aside0 (TB wc w.heap.size 0 ⟨#[]⟩ (.slice none 0 0) false ⟨#[]⟩) ∧ Aside0 (Below w.heap.size w wc))
       case atStart => exact ⟨a1, rfl, H, HT, HB⟩
       case round =>
        clear H HT HB
        obtain ⟨x, rfl, HA, HT, HB⟩ := hrel
        cases gk with
        | zero => exact absurd HA.out (by simp [marginaliaref04_Next.l0])
        | succ k3 =>
         have h := HA.out
         clear HA
         rw [marginaliaref04_Next.l0] at h
         by_cases c6 : x < (a0.size : Int)
         ·
          replace h := (if_pos c6).symm.trans h
          have d6 : decide (x < (a0.size : Int)) = true := decide_eq_true c6
          replace h := Option.bind_eq_some_iff.mp h
          obtain ⟨t2, hx, h⟩ := h
          have HX := Aside0.mk hx
          clear hx
          have H := Aside0.mk h
          clear h
          go_wp2_with fail
          refine (marginaliaref04_stop.calls k3 a0 x a3 t2 _ HX.out).mono ?_
          rintro e w1 ⟨rfl, hb⟩
          replace HT := Aside0.mk (HT.out.keep hb)
          replace HB := Aside0.mk (below_step HB.out hb)
          clear hb HX
          have h := H.out
          clear H
          cases t2 with
          | false =>
           replace h := (if_neg Bool.false_ne_true).symm.trans h
           have H := Aside0.mk h
           clear h
           go_wp2
           go_roundg k3
           case measure => exact Nat.lt_succ_self k3
           case rel => exact ⟨wrap64 (x + 1), rfl, H, HT, HB⟩
          | true =>
           replace h := (if_pos rfl).symm.trans h
           by_cases c7 : 0 ≤ a1
           case neg => exact absurd ((if_neg c7).symm.trans h) (by simp)
           replace h := (if_pos c7).symm.trans h
           by_cases c8 : a1 ≤ x
           case neg => exact absurd ((if_neg c8).symm.trans h) (by simp)
           replace h := (if_pos c8).symm.trans h
           by_cases c9 : x ≤ (a0.size : Int)
           case neg => exact absurd ((if_neg c9).symm.trans h) (by simp)
           replace h := (if_pos c9).symm.trans h
           by_cases c10 : a2 = 1
           ·
            replace h := (if_pos c10).symm.trans h
            have e1 : (a2 == 1) = true := beq_iff_eq.mpr c10
            have e2 : (a2 != 1) = false := bne_eq_false_iff_eq.mpr c10
            replace h := Option.bind_eq_some_iff.mp h
            obtain ⟨tx, hx, h⟩ := h
            have HX := Aside0.mk hx
            clear hx
            simp only [Option.some.injEq, Prod.mk.injEq] at h
            obtain ⟨rfl, rfl, rfl, rfl, rfl, rfl⟩ := h
            go_wp2_with fail
            refine (marginaliaref03_Decode.calls _ _ false tx _ HX.out).mono ?_
            rintro e w1 ⟨rfl, hb⟩
            replace HT := Aside0.mk (HT.out.keep hb)
            replace HB := Aside0.mk (below_step HB.out hb)
            clear hb HX
            obtain ⟨t0, t1, t2, t3, t4, u0, u1, u2, u3, u4⟩ := HT.out.all
            go_wp2
            exact bodyPost_ret (v := .tuple #[.agg #[.int .i64 1, .string ⟨#[]⟩, (.slice none 0 0), .bool false, .string tx], .int .i64 x]) (by simp [results, Try.results12, go_sem, HT.out.put 1 ⟨#[]⟩ (.slice none 0 0) false tx]) rfl
             ⟨(.slice none 0 0), rfl, Kd.R_nil _ _ _ _ _, put5_bel HB.out _ _ _ _ _⟩
           ·
            replace h := (if_neg c10).symm.trans h
            have e1 : (a2 == 1) = false := beq_eq_false_iff_ne.mpr c10
            have e2 : (a2 != 1) = true := bne_iff_ne.mpr c10
            simp only [Option.some.injEq, Prod.mk.injEq] at h
            obtain ⟨rfl, rfl, rfl, rfl, rfl, rfl⟩ := h
            obtain ⟨t0, t1, t2, t3, t4, u0, u1, u2, u3, u4⟩ := HT.out.all
            go_wp2
            exact bodyPost_ret (v := .tuple #[.agg #[.int .i64 1, .string ⟨#[]⟩, (.slice none 0 0), .bool false, .string (a0.extract a1.toNat x.toNat)], .int .i64 x]) (by simp [results, Try.results12, go_sem, HT.out.put 1 ⟨#[]⟩ (.slice none 0 0) false (a0.extract a1.toNat x.toNat)]) rfl
             ⟨(.slice none 0 0), rfl, Kd.R_nil _ _ _ _ _, put5_bel HB.out _ _ _ _ _⟩
         ·
          replace h := (if_neg c6).symm.trans h
          have d6 : decide (x < (a0.size : Int)) = false := decide_eq_false c6
          by_cases c7 : 0 ≤ a1
          case neg => exact absurd ((if_neg c7).symm.trans h) (by simp)
          replace h := (if_pos c7).symm.trans h
          by_cases c8 : a1 ≤ x
          case neg => exact absurd ((if_neg c8).symm.trans h) (by simp)
          replace h := (if_pos c8).symm.trans h
          by_cases c9 : x ≤ (a0.size : Int)
          case neg => exact absurd ((if_neg c9).symm.trans h) (by simp)
          replace h := (if_pos c9).symm.trans h
          by_cases c10 : a2 = 1
          ·
           replace h := (if_pos c10).symm.trans h
           have e1 : (a2 == 1) = true := beq_iff_eq.mpr c10
           have e2 : (a2 != 1) = false := bne_eq_false_iff_eq.mpr c10
           replace h := Option.bind_eq_some_iff.mp h
           obtain ⟨tx, hx, h⟩ := h
           have HX := Aside0.mk hx
           clear hx
           simp only [Option.some.injEq, Prod.mk.injEq] at h
           obtain ⟨rfl, rfl, rfl, rfl, rfl, rfl⟩ := h
           go_wp2_with fail
           refine (marginaliaref03_Decode.calls _ _ false tx _ HX.out).mono ?_
           rintro e w1 ⟨rfl, hb⟩
           replace HT := Aside0.mk (HT.out.keep hb)
           replace HB := Aside0.mk (below_step HB.out hb)
           clear hb HX
           obtain ⟨t0, t1, t2, t3, t4, u0, u1, u2, u3, u4⟩ := HT.out.all
           go_wp2
           exact bodyPost_ret (v := .tuple #[.agg #[.int .i64 1, .string ⟨#[]⟩, (.slice none 0 0), .bool false, .string tx], .int .i64 x]) (by simp [results, Try.results12, go_sem, HT.out.put 1 ⟨#[]⟩ (.slice none 0 0) false tx]) rfl
            ⟨(.slice none 0 0), rfl, Kd.R_nil _ _ _ _ _, put5_bel HB.out _ _ _ _ _⟩
          ·
           replace h := (if_neg c10).symm.trans h
           have e1 : (a2 == 1) = false := beq_eq_false_iff_ne.mpr c10
           have e2 : (a2 != 1) = true := bne_iff_ne.mpr c10
           simp only [Option.some.injEq, Prod.mk.injEq] at h
           obtain ⟨rfl, rfl, rfl, rfl, rfl, rfl⟩ := h
           obtain ⟨t0, t1, t2, t3, t4, u0, u1, u2, u3, u4⟩ := HT.out.all
           go_wp2
           exact bodyPost_ret (v := .tuple #[.agg #[.int .i64 1, .string ⟨#[]⟩, (.slice none 0 0), .bool false, .string (a0.extract a1.toNat x.toNat)], .int .i64 x]) (by simp [results, Try.results12, go_sem, HT.out.put 1 ⟨#[]⟩ (.slice none 0 0) false (a0.extract a1.toNat x.toNat)]) rfl
            ⟨(.slice none 0 0), rfl, Kd.R_nil _ _ _ _ _, put5_bel HB.out _ _ _ _ _⟩
/-! ### marginaliaref04_Attrs: function 28 -/
def marginaliaref04_Attrs.l0 : Nat → List (S41) → List (S41) → Int → Option (Bool)
  | 0, _, _, _ => none
  | k + 1, x0, x1, x5 => if x5 < (x0.length : Int) then (if 0 ≤ x5 then (if x5 < (x1.length : Int) then (if (!((((rd_T41 x0 x5).f0).toList) == (((rd_T41 x1 x5).f0).toList)) || (!((((rd_T41 x0 x5).f1).toList) == (((rd_T41 x1 x5).f1).toList)))) = true then (some false) else (marginaliaref04_Attrs.l0 k x0 x1 (wrap64 (x5 + 1)))) else (none)) else (none)) else (some true)
def marginaliaref04_Attrs.f (k : Nat) (l0 : List (S41)) (l1 : List (S41)) : Option (Bool) := if (l0.length : Int) = (l1.length : Int) then (marginaliaref04_Attrs.l0 k l0 l1 0) else (some false)
set_option maxHeartbeats 8000000 in
set_option maxRecDepth 100000 in
theorem marginaliaref04_Attrs.calls (k : Nat) (A0 : Option Addr) (c0 : Nat) (l0 : List (S41)) (A1 : Option Addr) (c1 : Nat) (l1 : List (S41)) (r : Bool) (w : World) (hr0 : Kd.C k41 w A0 l0.length l0) (hc0 : l0.length ≤ c0) (hr1 : Kd.C k41 w A1 l1.length l1) (hc1 : l1.length ≤ c1) (h : marginaliaref04_Attrs.f k l0 l1 = some r) :
    Calls Try.prog 28 #[.slice A0 l0.length c0, .slice A1 l1.length c1] w fun e w' => e = .returned (.bool r) ∧ Drawn0 w w' := by
 have hu41 := Try.underlying41
 have HR0 := Aside0.mk hr0
 have HC0 := Aside0.mk hc0
 clear hr0 hc0
 have HR1 := Aside0.mk hr1
 have HC1 := Aside0.mk hc1
 clear hr1 hc1
 have H : (if (l0.length : Int) = (l1.length : Int) then (marginaliaref04_Attrs.l0 k l0 l1 0) else (some false)) = some r := h
 clear h
 by_cases c3 : (l0.length : Int) = (l1.length : Int)
 ·
  rw [if_pos c3] at H
  have c3b0 : ((l0.length : Int) == (l1.length : Int)) = true := beq_iff_eq.mpr c3
  have c3b1 : ((l0.length : Int) != (l1.length : Int)) = false := bne_eq_false_iff_eq.mpr c3
  have c3b2 : (l0.length == l1.length) = true := by first | simpa using c3 | (simp at c3 ⊢; omega)
  clear c3
  have H' := Aside0.mk H
  clear H
  go_enter Try.func28, Try.ntmps28
  go_wp2
  repeat (go_quiet (fail); try go_wp2)
  go_loopg [5] k (fun kq v5 w' => ∃ (x5_1 : Int), v5 = .int .i64 x5_1 ∧ Aside0 (marginaliaref04_Attrs.l0 kq l0 l1 x5_1 = some r) ∧ Aside0 (kq ≤ k) ∧ Drawn0 w w')
  case atStart => exact ⟨(0), (by first | rfl | (simp; done) | (simp [*]; done)), H', ⟨Nat.le_refl _⟩, by repeat (first | exact Drawn0.refl _ | apply Drawn0.step)⟩
  case round =>
   clear H'
   try clear c1
   try clear c2
   try clear p2
   try clear c3
   try clear c3b0
   try clear c3b1
   try clear c3b2
   obtain ⟨x5_1, rfl, HA, HK1, ⟨m1, rfl⟩⟩ := hrel
   cases gk with
   | zero => exact absurd HA.out (by simp [marginaliaref04_Attrs.l0])
   | succ k1 =>
    have H := HA.out
    clear HA
    simp only [marginaliaref04_Attrs.l0] at H
    by_cases c4 : x5_1 < (l0.length : Int)
    ·
     rw [if_pos c4] at H
     have c4b0 : decide (x5_1 < (l0.length : Int)) = true := decide_eq_true c4
     clear c4
     by_cases c5 : 0 ≤ x5_1
     ·
      rw [if_pos c5] at H
      have c5b0 : decide (0 ≤ x5_1) = true := decide_eq_true c5
      clear c5
      by_cases c6 : x5_1 < (l1.length : Int)
      ·
       rw [if_pos c6] at H
       have c6b0 : decide (x5_1 < (l1.length : Int)) = true := decide_eq_true c6
       clear c6
       by_cases c7 : (!((((rd_T41 l0 x5_1).f0).toList) == (((rd_T41 l1 x5_1).f0).toList)) || (!((((rd_T41 l0 x5_1).f1).toList) == (((rd_T41 l1 x5_1).f1).toList)))) = true
       ·
        rw [if_pos c7] at H
        have c7b0 : (!((((rd_T41 l0 x5_1).f0).toList) == (((rd_T41 l1 x5_1).f0).toList)) || (!((((rd_T41 l0 x5_1).f1).toList) == (((rd_T41 l1 x5_1).f1).toList)))) = true := c7
        clear c7
        obtain rfl := Option.some.inj H
        have p413 : 0 ≤ (x5_1 : Int) := of_decide_eq_true (by first | (with_reducible assumption) | assumption)
        have q413 : x5_1 < (l0.length : Int) := of_decide_eq_true (by first | (with_reducible assumption) | assumption)
        obtain ⟨ad413, e413, hx413_0, hx413_1⟩ := at_T41 HR0.out x5_1 p413 q413
        cases e413
        replace p413 := eq_true p413
        replace q413 := eq_true q413
        have p414 : 0 ≤ (x5_1 : Int) := of_decide_eq_true (by first | (with_reducible assumption) | assumption)
        have q414 : x5_1 < (l1.length : Int) := of_decide_eq_true (by first | (with_reducible assumption) | assumption)
        obtain ⟨ad414, e414, hx414_0, hx414_1⟩ := at_T41 HR1.out x5_1 p414 q414
        cases e414
        replace p414 := eq_true p414
        replace q414 := eq_true q414
        go_wp2
        repeat (go_quiet (fail); try go_wp2)
        go_ret
        exact ⟨by first | rfl | (simp; done) | (simp [*]; done), by repeat (first | exact Drawn0.refl _ | apply Drawn0.step)⟩
       ·
        rw [if_neg c7] at H
        have c7b0 : (!((((rd_T41 l0 x5_1).f0).toList) == (((rd_T41 l1 x5_1).f0).toList)) || (!((((rd_T41 l0 x5_1).f1).toList) == (((rd_T41 l1 x5_1).f1).toList)))) = false := by simpa using c7
        clear c7
        have H' := Aside0.mk H
        clear H
        have p413 : 0 ≤ (x5_1 : Int) := of_decide_eq_true (by first | (with_reducible assumption) | assumption)
        have q413 : x5_1 < (l0.length : Int) := of_decide_eq_true (by first | (with_reducible assumption) | assumption)
        obtain ⟨ad413, e413, hx413_0, hx413_1⟩ := at_T41 HR0.out x5_1 p413 q413
        cases e413
        replace p413 := eq_true p413
        replace q413 := eq_true q413
        have p414 : 0 ≤ (x5_1 : Int) := of_decide_eq_true (by first | (with_reducible assumption) | assumption)
        have q414 : x5_1 < (l1.length : Int) := of_decide_eq_true (by first | (with_reducible assumption) | assumption)
        obtain ⟨ad414, e414, hx414_0, hx414_1⟩ := at_T41 HR1.out x5_1 p414 q414
        cases e414
        replace p414 := eq_true p414
        replace q414 := eq_true q414
        go_wp2
        repeat (go_quiet (fail); try go_wp2)
        go_roundg k1
        case measure => have := HK1.out; omega
        case rel => exact ⟨(wrap64 (x5_1 + 1)), (by first | rfl | (simp; done) | (simp [*]; done)), H', ⟨by have := HK1.out; omega⟩, by repeat (first | exact Drawn0.refl _ | apply Drawn0.step)⟩
      ·
       rw [if_neg c6] at H
       exact absurd H (by simp)
     ·
      rw [if_neg c5] at H
      exact absurd H (by simp)
    ·
     rw [if_neg c4] at H
     have c4b0 : decide (x5_1 < (l0.length : Int)) = false := decide_eq_false c4
     clear c4
     obtain rfl := Option.some.inj H
     go_wp2
     repeat (go_quiet (fail); try go_wp2)
     go_ret
     exact ⟨by first | rfl | (simp; done) | (simp [*]; done), by repeat (first | exact Drawn0.refl _ | apply Drawn0.step)⟩
 ·
  rw [if_neg c3] at H
  have c3b0 : ((l0.length : Int) == (l1.length : Int)) = false := beq_eq_false_iff_ne.mpr c3
  have c3b1 : ((l0.length : Int) != (l1.length : Int)) = true := bne_iff_ne.mpr c3
  have c3b2 : (l0.length == l1.length) = false := by first | simpa using c3 | (simp at c3 ⊢; omega)
  obtain rfl := Option.some.inj H
  go_enter Try.func28, Try.ntmps28
  go_wp2
  repeat (go_quiet (fail); try go_wp2)
  go_ret
  exact ⟨by first | rfl | (simp; done) | (simp [*]; done), by repeat (first | exact Drawn0.refl _ | apply Drawn0.step)⟩
end
end Go.Proofs.Ytpelfhldgnmhpaa.G
