-- laid by programs of this session's (wip/tools/myprint.py, linear.py, merge.py) over the translation, and by hand
import Derived.Test.YtpelfhldgnmhpaaGA
import Derived.Test.YtpelfhldgnmhpaaGB
namespace Go.Proofs.Ytpelfhldgnmhpaa.G
section
open Go.RowKit Go.Proofs.YtpelfhldgnmhpaaW.PrintWords Go.Proofs.YtpelfhldgnmhpaaW.PrintLast Go.Proofs.YtpelfhldgnmhpaaW.PrintMore
attribute [local go_sem] max2_int min2_int max_two min_two max_three min_three max_four min_four
set_option linter.unusedVariables false
set_option linter.unusedSimpArgs false
/-! ### token_All: function 14 -/
def token_All.l0 : Nat → ByteArray → List (S29) → Int → Option ((List (S29)))
  | 0, _, _, _ => none
  | k + 1, x0, x3, x4 => (token_Next.f k x0 x4 0 (⟨#[]⟩ : ByteArray) false).bind fun bt160 => (if bt160.1 = 0 then (some x3) else (if x3.length < 1954687338268 then (token_All.l0 k x0 (x3 ++ [(⟨bt160.1, bt160.2.1, bt160.2.2.1, bt160.2.2.2.1, bt160.2.2.2.2.1⟩ : S29)]) bt160.2.2.2.2.2) else (none)))
def token_All.f (k : Nat) (a0 : ByteArray) : Option ((List (S29))) := token_All.l0 k a0 ([] : List (S29)) 0
theorem token_All.mono_l : ∀ k, (∀ y0 y1 y2, LeO (token_All.l0 k y0 y1 y2) (token_All.l0 (k + 1) y0 y1 y2))
  | 0 => fun _ _ _ r h => by simp [token_All.l0] at h
  | k + 1 => by
    have ih0 := token_All.mono_l k
    · intro y0 y1 y2
      unfold token_All.l0
      repeat' first
      | (with_reducible exact ih0 _ _ _)
      | (with_reducible exact token_Next.mono _ _ _ _ _ _)
      | (with_reducible exact LeO.refl _)
      | (with_reducible exact LeO.none _)
      | (with_reducible refine LeO.ite ?_ ?_)
      | (with_reducible refine LeO.bind ?_ (fun _ => ?_))
      | exact ih0 _ _ _
      | exact token_Next.mono _ _ _ _ _ _
      | exact LeO.none _
      | refine LeO.ite ?_ ?_
      | refine LeO.bind ?_ (fun _ => ?_)
theorem token_All.mono : ∀ a0 k, LeO (token_All.f k a0) (token_All.f (k + 1) a0) := by
 intro a0 k
 have ih0 := token_All.mono_l k
 unfold token_All.f
 repeat' first
     | (with_reducible exact ih0 _ _ _)
     | (with_reducible exact token_Next.mono _ _ _ _ _ _)
     | (with_reducible exact LeO.refl _)
     | (with_reducible exact LeO.none _)
     | (with_reducible refine LeO.ite ?_ ?_)
     | (with_reducible refine LeO.bind ?_ (fun _ => ?_))
     | exact ih0 _ _ _
     | exact token_Next.mono _ _ _ _ _ _
     | exact LeO.none _
     | refine LeO.ite ?_ ?_
     | refine LeO.bind ?_ (fun _ => ?_)
set_option maxHeartbeats 8000000 in
set_option maxRecDepth 100000 in
theorem token_All.calls (k : Nat) (a0 : ByteArray) (r : List (S29)) (w : World) (hm : HM w) (h : token_All.f k a0 = some r) :
    Calls Try.prog 14 #[.string a0] w fun e w' => ∃ v0_ : Value, e = .returned (v0_) ∧ Kd.S k29 29 w' w.heap.size (fun _ => True) v0_ r ∧ Below w.heap.size w w' := by
 have HM0 := Aside0.mk hm
 clear hm
 have hu29 := Try.underlying29
 have HB := Aside0.mk (Below.refl w.heap.size w)
 have H : (token_All.l0 k a0 ([] : List (S29)) 0) = some r := h
 clear h
 have H' := Aside0.mk H
 clear H
 go_enter Try.func14, Try.ntmps14
 go_wp2
 go_loopg [3, 4] k (fun kq v3 v4 w' => ∃ (x3_1 : List (S29)) (x4_1 : Int), v4 = .int .i64 x4_1 ∧ Aside0 (token_All.l0 kq a0 x3_1 x4_1 = some r) ∧ Aside0 (kq ≤ k) ∧ Aside0 (Kd.S k29 29 w' w.heap.size (fun _ => True) v3 x3_1) ∧ Aside0 (Below w.heap.size w w'))
 case atStart => exact ⟨(([] : List (S29))), (0), (by first | rfl | (simp; done) | (simp [*]; done)), H', ⟨Nat.le_refl _⟩, ⟨by first | exact Kd.S_nil _ _ _ _ _ | exact Kd.N_nil _ _ _ _ _ | exact Kd.V_nil _ _ _ _ _ | exact Kd.Q_nil _ _ _ _ _ | exact Kd.R_nil _ _ _ _ _⟩, ⟨by repeat (first | (with_reducible first | exact HB.out | apply below_alloc | apply pw_below_drewN | apply below_drew1) | exact HB.out)⟩⟩
 case round =>
  clear H'
  try clear c1
  obtain ⟨x3_1, x4_1, rfl, HA, HK1, HO_3, HB⟩ := hrel
  cases gk with
  | zero => exact absurd HA.out (by simp [token_All.l0])
  | succ k1 =>
   have H := HA.out
   clear HA
   simp only [token_All.l0] at H
   replace H := Option.bind_eq_some_iff.mp H
   obtain ⟨⟨t160, t161, t162, t165, t166, t167⟩, A20, H⟩ := H
   try dsimp only at H
   have A2 := Aside0.mk A20
   clear A20
   go_wp2_with fail
   (with_reducible refine (token_Next.calls k1 a0 x4_1 0 (⟨#[]⟩ : ByteArray) false t160 t161 t162 t165 t166 t167 _ ?side1 A2.out).mono ?_)
   (case side1 => exact HM.at_ HM0.out (by repeat (first | (with_reducible first | exact HB.out | apply below_alloc | apply pw_below_drewN | apply below_drew1) | exact HB.out)))
   rintro e w4 ⟨v163, rfl, ho0, hb⟩
   have n0_ := Aside0.mk (Kd.S_elder' (by (with_reducible repeat (first | apply Kd.S_alloc | apply Kd.S_drewN | apply Kd.S_drew)); exact HO_3.out) (Kd.R_base ho0) hb)
   have n1_ := Aside0.mk (Kd.R_lower ho0 (below_size (by repeat (first | (with_reducible first | exact HB.out | apply below_alloc | apply pw_below_drewN | apply below_drew1) | exact HB.out))))
   have n2_ := Aside0.mk (below_step (by repeat (first | (with_reducible first | exact HB.out | apply below_alloc | apply pw_below_drewN | apply below_drew1) | exact HB.out)) hb)
   clear HO_3
   clear HB
   have HO_3 := n0_
   have HO164 := n1_
   have HB := n2_
   clear n0_ n1_ n2_
   (try clear hb)
   (try clear hb2)
   (try clear hk)
   (try clear hi)
   (try clear ho0)
   by_cases c3 : t160 = 0
   ·
    rw [if_pos c3] at H
    have c3b0 : (t160 == 0) = true := beq_iff_eq.mpr c3
    have c3b1 : (t160 != 0) = false := bne_eq_false_iff_eq.mpr c3
    clear c3
    obtain rfl := Option.some.inj H
    go_wp2_with (first | ((with_reducible refine gate_dst (N := 5) rfl ?_); refine box_event ?hg (N := 5) ?hd (cs := #[.int .i64 0, .string (⟨#[]⟩ : ByteArray), .slice none 0 0, .bool false, .string (⟨#[]⟩ : ByteArray)]) (t := 29) ?hr ?_; (case hd => rfl); (case hg => rfl); (case hr => first | (go_simp; done) | (go_simp; rfl)); intro gb168 hg w5 hbox hb; have n0_ := Aside0.mk (Kd.S_below (Kd.S_elderB (by (with_reducible repeat (first | apply Kd.S_alloc | apply Kd.S_drewN | apply Kd.S_drew)); exact HO_3.out) gb168 (Nat.le_of_eq hg.symm)) hb); have n1_ := Aside0.mk (Kd.R_below (by (with_reducible repeat (first | apply Kd.R_alloc | apply Kd.R_drewN | apply Kd.R_drew)); exact HO164.out) hb); have n2_ := Aside0.mk (below_step (by repeat (first | (with_reducible first | exact HB.out | apply below_alloc | apply pw_below_drewN | apply below_drew1) | exact HB.out)) hb); have n3_ := Aside0.mk (hbox); have n4_ := Aside0.mk ((by rw [hg]; exact (below_size (by repeat (first | (with_reducible first | exact HB.out | apply below_alloc | apply pw_below_drewN | apply below_drew1) | exact HB.out))) : w.heap.size ≤ gb168)); have n5_ := Aside0.mk ((by rw [hg]; exact (below_size (by repeat (first | (with_reducible first | exact HB.out | apply below_alloc | apply pw_below_drewN | apply below_drew1) | exact HB.out))) : w.heap.size ≤ gb168)); clear HO_3; clear HO164; clear HB; have HO_3 := n0_; have HO164 := n1_; have HB := n2_; have BK168 := n3_; have GW168 := n4_; have GE168 := n5_; clear n0_ n1_ n2_ n3_ n4_ n5_; clear hb hbox hg; have hcz6_0 : w5.cell? ⟨gb168, 0, none⟩ = some (.int .i64 0) := (blk_cell BK168.out 0).trans rfl; have hcz6_1 : w5.cell? ⟨gb168, 1, none⟩ = some (.string (⟨#[]⟩ : ByteArray)) := (blk_cell BK168.out 1).trans rfl; have hcz6_2 : w5.cell? ⟨gb168, 2, none⟩ = some (.slice none 0 0) := (blk_cell BK168.out 2).trans rfl; have hcz6_3 : w5.cell? ⟨gb168, 3, none⟩ = some (.bool false) := (blk_cell BK168.out 3).trans rfl; have hcz6_4 : w5.cell? ⟨gb168, 4, none⟩ = some (.string (⟨#[]⟩ : ByteArray)) := (blk_cell BK168.out 4).trans rfl; have hfz6_0 := blk_frozen BK168.out 0; have hfz6_1 := blk_frozen BK168.out 1; have hfz6_2 := blk_frozen BK168.out 2; have hfz6_3 := blk_frozen BK168.out 3; have hfz6_4 := blk_frozen BK168.out 4; obtain ⟨Ao7, co7, eo7⟩ := Kd.R_slice HO164.out; subst eo7))
    go_ret
    exact ⟨_, by first | rfl | (simp [errW_none, errW_some] <;> rfl) | (simp [*, errW_none, errW_some] <;> rfl), by (with_reducible repeat (first | apply Kd.S_alloc | apply Kd.S_drewN | apply Kd.S_drew)); exact Kd.S_mono (Kd.S_far (p := ⟨gb168, 4, none⟩) (Kd.S_far (p := ⟨gb168, 3, none⟩) (Kd.S_far (p := ⟨gb168, 2, none⟩) (Kd.S_far (p := ⟨gb168, 1, none⟩) (Kd.S_far (p := ⟨gb168, 0, none⟩) (Kd.S_mono HO_3.out (fun k_ hk => (⟨hk, hk.2⟩ : _ ∧ k_ ≠ gb168))) (fun _ hk => hk.2) (.int .i64 t160)) (fun _ hk => hk.2) (.string t161)) (fun _ hk => hk.2) (.slice Ao7 t162.length co7)) (fun _ hk => hk.2) (.bool t165)) (fun _ hk => hk.2) (.string t166)) (fun _ hk => trivial), by repeat (first | (with_reducible first | exact HB.out | apply below_alloc | apply pw_below_drewN | apply below_drew1 | refine below_set ?_ GE168.out) | exact HB.out)⟩
   ·
    rw [if_neg c3] at H
    have c3b0 : (t160 == 0) = false := beq_eq_false_iff_ne.mpr c3
    have c3b1 : (t160 != 0) = true := bne_iff_ne.mpr c3
    by_cases c8 : x3_1.length < 1954687338268
    ·
     rw [if_pos c8] at H
     have LMc8 := Aside0.mk c8
     clear c8
     obtain ⟨y169, hy169⟩ : ∃ y_ : List (S29), y_ = (x3_1 ++ [(⟨t160, t161, t162, t165, t166⟩ : S29)]) := ⟨_, rfl⟩
     replace H : (token_All.l0 k1 a0 y169 t167) = some r := by first | (rw [hy169]; with_reducible exact H) | (have H2_ := (Option.bind_some _ _).symm.trans H; rw [hy169]; with_reducible exact H2_) | (have H2_ := (Option.bind_some _ _).symm.trans H; with_reducible exact H2_) | with_reducible exact H | (rw [hy169]; exact H) | exact H
     have Ny169 := Aside0.mk hy169
     clear hy169
     have H' := Aside0.mk H
     clear H
     go_wp2_with (first | ((with_reducible refine gate_dst (N := 5) rfl ?_); refine box_event ?hg (N := 5) ?hd (cs := #[.int .i64 0, .string (⟨#[]⟩ : ByteArray), .slice none 0 0, .bool false, .string (⟨#[]⟩ : ByteArray)]) (t := 29) ?hr ?_; (case hd => rfl); (case hg => rfl); (case hr => first | (go_simp; done) | (go_simp; rfl)); intro gb168 hg w10 hbox hb; have n0_ := Aside0.mk (Kd.S_below (Kd.S_elderB (by (with_reducible repeat (first | apply Kd.S_alloc | apply Kd.S_drewN | apply Kd.S_drew)); exact HO_3.out) gb168 (Nat.le_of_eq hg.symm)) hb); have n1_ := Aside0.mk (Kd.R_below (by (with_reducible repeat (first | apply Kd.R_alloc | apply Kd.R_drewN | apply Kd.R_drew)); exact HO164.out) hb); have n2_ := Aside0.mk (below_step (by repeat (first | (with_reducible first | exact HB.out | apply below_alloc | apply pw_below_drewN | apply below_drew1) | exact HB.out)) hb); have n3_ := Aside0.mk (hbox); have n4_ := Aside0.mk ((by rw [hg]; exact (below_size (by repeat (first | (with_reducible first | exact HB.out | apply below_alloc | apply pw_below_drewN | apply below_drew1) | exact HB.out))) : w.heap.size ≤ gb168)); have n5_ := Aside0.mk ((by rw [hg]; exact (below_size (by repeat (first | (with_reducible first | exact HB.out | apply below_alloc | apply pw_below_drewN | apply below_drew1) | exact HB.out))) : w.heap.size ≤ gb168)); clear HO_3; clear HO164; clear HB; have HO_3 := n0_; have HO164 := n1_; have HB := n2_; have BK168 := n3_; have GW168 := n4_; have GE168 := n5_; clear n0_ n1_ n2_ n3_ n4_ n5_; clear hb hbox hg; have hcz11_0 : w10.cell? ⟨gb168, 0, none⟩ = some (.int .i64 0) := (blk_cell BK168.out 0).trans rfl; have hcz11_1 : w10.cell? ⟨gb168, 1, none⟩ = some (.string (⟨#[]⟩ : ByteArray)) := (blk_cell BK168.out 1).trans rfl; have hcz11_2 : w10.cell? ⟨gb168, 2, none⟩ = some (.slice none 0 0) := (blk_cell BK168.out 2).trans rfl; have hcz11_3 : w10.cell? ⟨gb168, 3, none⟩ = some (.bool false) := (blk_cell BK168.out 3).trans rfl; have hcz11_4 : w10.cell? ⟨gb168, 4, none⟩ = some (.string (⟨#[]⟩ : ByteArray)) := (blk_cell BK168.out 4).trans rfl; have hfz11_0 := blk_frozen BK168.out 0; have hfz11_1 := blk_frozen BK168.out 1; have hfz11_2 := blk_frozen BK168.out 2; have hfz11_3 := blk_frozen BK168.out 3; have hfz11_4 := blk_frozen BK168.out 4; obtain ⟨Ao12, co12, eo12⟩ := Kd.R_slice HO164.out; subst eo12) | ((with_reducible refine gate_store (t := 29) (p := 5) rfl ?_); refine store_event (t := 29) (p := 5) (v := ?vo_w13) (w1 := (((((w10.setCell ⟨gb168, 0, none⟩ (.int .i64 t160)).setCell ⟨gb168, 1, none⟩ (.string t161)).setCell ⟨gb168, 2, none⟩ (.slice Ao12 t162.length co12)).setCell ⟨gb168, 3, none⟩ (.bool t165)).setCell ⟨gb168, 4, none⟩ (.string t166))) ?hg ?ho ?hn ?hr ?_; (case ho => rfl); (case hg => rfl); (case hn => rfl); (case hr => first | (go_simp; done) | (go_simp; rfl)); intro w13 hw; have n0_ : Aside0 (Kd.S k29 29 w13 w.heap.size (fun k_ => some k_ ≠ (.slice Ao12 t162.length co12 : Value).ownBlock ∧ k_ ≠ gb168) u3 x3_1) := ⟨(by rw [hw]; exact (by (with_reducible repeat (first | apply Kd.S_alloc | apply Kd.S_drewN | apply Kd.S_drew)); exact Kd.S_mono (Kd.S_far (p := ⟨gb168, 4, none⟩) (Kd.S_far (p := ⟨gb168, 3, none⟩) (Kd.S_far (p := ⟨gb168, 2, none⟩) (Kd.S_far (p := ⟨gb168, 1, none⟩) (Kd.S_far (p := ⟨gb168, 0, none⟩) (Kd.S_mono HO_3.out (fun k_ hk => (⟨hk, hk.2⟩ : _ ∧ k_ ≠ gb168))) (fun _ hk => hk.2) (.int .i64 t160)) (fun _ hk => hk.2) (.string t161)) (fun _ hk => hk.2) (.slice Ao12 t162.length co12)) (fun _ hk => hk.2) (.bool t165)) (fun _ hk => hk.2) (.string t166)) (fun _ hk => ⟨hk.1.1.2, hk.1.2⟩)))⟩; have n1_ : Aside0 (Kd.R k41 41 w13 w.heap.size (fun _ => True) (.slice Ao12 t162.length co12) t162) := ⟨(by rw [hw]; exact (by (with_reducible repeat (first | apply Kd.R_alloc | apply Kd.R_drewN | apply Kd.R_drew)); exact Kd.R_mono (Kd.R_far (p := ⟨gb168, 4, none⟩) (Kd.R_far (p := ⟨gb168, 3, none⟩) (Kd.R_far (p := ⟨gb168, 2, none⟩) (Kd.R_far (p := ⟨gb168, 1, none⟩) (Kd.R_far (p := ⟨gb168, 0, none⟩) (Kd.R_types HO164.out BK168.out (by decide)) (fun _ hk => hk.2) (.int .i64 t160)) (fun _ hk => hk.2) (.string t161)) (fun _ hk => hk.2) (.slice Ao12 t162.length co12)) (fun _ hk => hk.2) (.bool t165)) (fun _ hk => hk.2) (.string t166)) (fun _ hk => trivial)))⟩; have n2_ : Aside0 (w13.heap[gb168]? = some (.cells #[.int .i64 t160, .string t161, .slice Ao12 t162.length co12, .bool t165, .string t166] 29 (0, 0))) := ⟨(by rw [hw]; exact (by (with_reducible repeat (first | refine blk_drewN ?_ _ | refine blk_drew ?_ | refine blk_alloc ?_ _)); refine blk_put (cs := #[.int .i64 t160, .string t161, .slice Ao12 t162.length co12, .bool t165, .string (⟨#[]⟩ : ByteArray)]) ?_ 4 _ rfl; (with_reducible repeat (first | refine blk_drewN ?_ _ | refine blk_drew ?_ | refine blk_alloc ?_ _)); refine blk_put (cs := #[.int .i64 t160, .string t161, .slice Ao12 t162.length co12, .bool false, .string (⟨#[]⟩ : ByteArray)]) ?_ 3 _ rfl; (with_reducible repeat (first | refine blk_drewN ?_ _ | refine blk_drew ?_ | refine blk_alloc ?_ _)); refine blk_put (cs := #[.int .i64 t160, .string t161, .slice none 0 0, .bool false, .string (⟨#[]⟩ : ByteArray)]) ?_ 2 _ rfl; (with_reducible repeat (first | refine blk_drewN ?_ _ | refine blk_drew ?_ | refine blk_alloc ?_ _)); refine blk_put (cs := #[.int .i64 t160, .string (⟨#[]⟩ : ByteArray), .slice none 0 0, .bool false, .string (⟨#[]⟩ : ByteArray)]) ?_ 1 _ rfl; (with_reducible repeat (first | refine blk_drewN ?_ _ | refine blk_drew ?_ | refine blk_alloc ?_ _)); refine blk_put (cs := #[.int .i64 0, .string (⟨#[]⟩ : ByteArray), .slice none 0 0, .bool false, .string (⟨#[]⟩ : ByteArray)]) ?_ 0 _ rfl; (with_reducible repeat (first | refine blk_drewN ?_ _ | refine blk_drew ?_ | refine blk_alloc ?_ _)); exact BK168.out))⟩; have n3_ : Aside0 (Below w.heap.size w w13) := ⟨(by rw [hw]; exact (by repeat (first | (with_reducible first | exact HB.out | apply below_alloc | apply pw_below_drewN | apply below_drew1 | refine below_set ?_ GE168.out) | exact HB.out)))⟩; clear hw; clear HO_3; clear HO164; clear BK168; clear HB; have HO_3 := n0_; have HO164 := n1_; have BK168 := n2_; have HB := n3_; clear n0_ n1_ n2_ n3_; have hcz14_0 : w13.cell? ⟨gb168, 0, none⟩ = some (.int .i64 t160) := (blk_cell BK168.out 0).trans rfl; have hcz14_1 : w13.cell? ⟨gb168, 1, none⟩ = some (.string t161) := (blk_cell BK168.out 1).trans rfl; have hcz14_2 : w13.cell? ⟨gb168, 2, none⟩ = some (.slice Ao12 t162.length co12) := (blk_cell BK168.out 2).trans rfl; have hcz14_3 : w13.cell? ⟨gb168, 3, none⟩ = some (.bool t165) := (blk_cell BK168.out 3).trans rfl; have hcz14_4 : w13.cell? ⟨gb168, 4, none⟩ = some (.string t166) := (blk_cell BK168.out 4).trans rfl; have hfz14_0 := blk_frozen BK168.out 0; have hfz14_1 := blk_frozen BK168.out 1; have hfz14_2 := blk_frozen BK168.out 2; have hfz14_3 := blk_frozen BK168.out 3; have hfz14_4 := blk_frozen BK168.out 4) | ((with_reducible refine gate_builtin (b := .append) (xs := #[.tmp 17, .tmp 19]) rfl ?_); at_builtin; refine Kd.S_append k29 (w0 := w) w.heap.size rfl (.tmp 17) (.tmp 19) 34 29 (.agg #[(.int .i64 0), (.string ⟨#[]⟩), (.slice none 0 0), (.bool false), (.string ⟨#[]⟩)]) 72 rfl Try.underlying34 info29 rfl (by decide) (by omega) u3 x3_1 (⟨t160, t161, t162, t165, t166⟩ : S29) [.int .i64 t160, .string t161, .slice Ao12 t162.length co12, .bool t165, .string t166] (fun k_ => k_ ≠ gb168) (fun k_ => some k_ = (.slice Ao12 t162.length co12 : Value).ownBlock) rfl rfl ?aP (fun k_ hk_ => ((Kd.R_mono (ok' := fun k_ => ((fun k_ => k_ ≠ gb168)) k_ ∧ some k_ ≠ (u3 : Value).ownBlock) (Kd.R_types (Kd.R_apart' (HO164.out) (Kd.S_typed HO_3.out) (by decide)) BK168.out (by decide)) (fun k_ hk => ⟨hk.2, hk.1.2⟩))).1 k_ hk_.symm) ?aF ?aO ?aB ?aS ?aL ?_; (case aP => exact k29_mkM _ _ _ (⟨t160, t161, t162, t165, t166⟩ : S29) (Kd.R_mono (Kd.R_tight rfl (Kd.R_mono (ok' := fun k_ => ((fun k_ => k_ ≠ gb168)) k_ ∧ some k_ ≠ (u3 : Value).ownBlock) (Kd.R_types (Kd.R_apart' (HO164.out) (Kd.S_typed HO_3.out) (by decide)) BK168.out (by decide)) (fun k_ hk => ⟨hk.2, hk.1.2⟩))) (fun _ h_ => h_))); (case aB => exact (by repeat (first | (with_reducible first | exact HB.out | apply below_alloc | apply pw_below_drewN | apply below_drew1 | refine below_set ?_ GE168.out) | exact HB.out))); (case aF => exact (fun k_ hk => Kd.freshB (g := gb168) (o := .cells #[.int .i64 t160, .string t161, .slice Ao12 t162.length co12, .bool t165, .string t166] 29 (0, 0)) (by (with_reducible repeat (first | refine blk_drewN ?_ _ | refine blk_drew ?_ | refine blk_alloc ?_ _)); exact BK168.out) k_ hk)); (case aO => exact (by (with_reducible repeat (first | apply Kd.S_alloc | apply Kd.S_drewN | apply Kd.S_drew)); exact Kd.S_mono HO_3.out (fun k_ hk => ⟨hk.2, fun e_ => hk.1 e_⟩))); (case aS => exact (below_size (by repeat (first | (with_reducible first | exact HB.out | apply below_alloc | apply pw_below_drewN | apply below_drew1 | refine below_set ?_ GE168.out) | exact HB.out)))); (case aL => have := LMc8.out; omega); intro v170 w15 ho hb hg hat; rw [← Ny169.out] at ho; have n0_ := Aside0.mk (blk_grown (g := gb168) (o := .cells #[.int .i64 t160, .string t161, .slice Ao12 t162.length co12, .bool t165, .string t166] 29 (0, 0)) (by (with_reducible repeat (first | refine blk_drewN ?_ _ | refine blk_drew ?_ | refine blk_alloc ?_ _)); exact BK168.out) hg (Kd.S_away HO_3.out (fun _ hk => hk.2))); have n1_ := Aside0.mk (hb); have n2_ := Aside0.mk (ho); clear BK168; clear HB; clear HO_3; clear HO164; have BK168 := n0_; have HB := n1_; have HO171 := n2_; clear n0_ n1_ n2_; clear ho hb hg hat))
     go_roundg k1
     case measure => have := HK1.out; omega
     case rel => exact ⟨(y169), (t167), (by first | rfl | (simp; done) | (simp [*]; done)), H', ⟨by have := HK1.out; omega⟩, ⟨by (with_reducible repeat (first | apply Kd.S_alloc | apply Kd.S_drewN | apply Kd.S_drew)); exact Kd.S_mono HO171.out (fun _ hk => trivial)⟩, ⟨by repeat (first | (with_reducible first | exact HB.out | apply below_alloc | apply pw_below_drewN | apply below_drew1 | refine below_set ?_ GE168.out) | exact HB.out)⟩⟩
    ·
     rw [if_neg c8] at H
     exact absurd H (by simp)
/-! ### marginalialaw04_alive: function 10 -/
def marginalialaw04_alive.f (k : Nat)  : Option (Bool) := (token_Next.f k (⟨#[97, 60, 66, 32, 99, 61, 100, 62, 101]⟩ : ByteArray) 1 0 (⟨#[]⟩ : ByteArray) false).bind fun bt172 => ((token_Get.f k bt172.2.2.1 (⟨#[99]⟩ : ByteArray)).bind fun bt181 => (if bt172.1 = 2 then (if bt172.2.1.toList = ([98] : List UInt8) then (if bt172.2.2.2.2.2 = 8 then (if bt181.2 = true then (if bt181.1.toList = ([100] : List UInt8) then ((token_All.f k (⟨#[97, 60, 98, 62, 99]⟩ : ByteArray)).bind fun t183 => (some ((t183.length : Int) == 3))) else (some false)) else (some false)) else (some false)) else (some false)) else (some false)))
theorem marginalialaw04_alive.mono : ∀ k, LeO (marginalialaw04_alive.f k ) (marginalialaw04_alive.f (k + 1) ) := by
 intro  k
 unfold marginalialaw04_alive.f
 repeat' first
     | (with_reducible exact token_All.mono _ _)
     | (with_reducible exact token_Get.mono _ _ _)
     | (with_reducible exact token_Next.mono _ _ _ _ _ _)
     | (with_reducible exact LeO.refl _)
     | (with_reducible exact LeO.none _)
     | (with_reducible refine LeO.ite ?_ ?_)
     | (with_reducible refine LeO.bind ?_ (fun _ => ?_))
     | exact token_All.mono _ _
     | exact token_Get.mono _ _ _
     | exact token_Next.mono _ _ _ _ _ _
     | exact LeO.none _
     | refine LeO.ite ?_ ?_
     | refine LeO.bind ?_ (fun _ => ?_)
set_option maxHeartbeats 8000000 in
set_option maxRecDepth 100000 in
theorem marginalialaw04_alive.calls (k : Nat)  (r : Bool) (w : World) (hm : HM w) (h : marginalialaw04_alive.f k  = some r) :
    Calls Try.prog 10 #[] w fun e w' => e = .returned (.bool r) ∧ Below w.heap.size w w' := by
 have HM0 := Aside0.mk hm
 clear hm
 have hu29 := Try.underlying29
 have HB := Aside0.mk (Below.refl w.heap.size w)
 have H : ((token_Next.f k (⟨#[97, 60, 66, 32, 99, 61, 100, 62, 101]⟩ : ByteArray) 1 0 (⟨#[]⟩ : ByteArray) false).bind fun bt172 => ((token_Get.f k bt172.2.2.1 (⟨#[99]⟩ : ByteArray)).bind fun bt181 => (if bt172.1 = 2 then (if bt172.2.1.toList = ([98] : List UInt8) then (if bt172.2.2.2.2.2 = 8 then (if bt181.2 = true then (if bt181.1.toList = ([100] : List UInt8) then ((token_All.f k (⟨#[97, 60, 98, 62, 99]⟩ : ByteArray)).bind fun t183 => (some ((t183.length : Int) == 3))) else (some false)) else (some false)) else (some false)) else (some false)) else (some false)))) = some r := h
 clear h
 replace H := Option.bind_eq_some_iff.mp H
 obtain ⟨⟨t172, t173, t174, t177, t178, t179⟩, A10, H⟩ := H
 try dsimp only at H
 have A1 := Aside0.mk A10
 clear A10
 go_enter Try.func10, Try.ntmps10
 go_wp2_with fail
 (with_reducible refine (token_Next.calls k (⟨#[97, 60, 66, 32, 99, 61, 100, 62, 101]⟩ : ByteArray) 1 0 (⟨#[]⟩ : ByteArray) false t172 t173 t174 t177 t178 t179 _ ?side1 A1.out).mono ?_)
 (case side1 => exact HM.at_ HM0.out (by repeat (first | (with_reducible first | exact HB.out | apply below_alloc | apply pw_below_drewN | apply below_drew1) | exact HB.out)))
 rintro e w9 ⟨v175, rfl, ho0, hb⟩
 have n0_ := Aside0.mk (Kd.R_lower ho0 (below_size (by repeat (first | (with_reducible first | exact HB.out | apply below_alloc | apply pw_below_drewN | apply below_drew1) | exact HB.out))))
 have n1_ := Aside0.mk (below_step (by repeat (first | (with_reducible first | exact HB.out | apply below_alloc | apply pw_below_drewN | apply below_drew1) | exact HB.out)) hb)
 clear HB
 have HO176 := n0_
 have HB := n1_
 clear n0_ n1_
 (try clear hb)
 (try clear hb2)
 (try clear hk)
 (try clear hi)
 (try clear ho0)
 replace H := Option.bind_eq_some_iff.mp H
 obtain ⟨⟨t181, t182⟩, A20, H⟩ := H
 try dsimp only at H
 have A2 := Aside0.mk A20
 clear A20
 go_wp2_with (first | ((with_reducible refine gate_dst (N := 1) rfl ?_); (try (refine gate_guard (by rfl) ?_; dsimp only)); refine box_event ?hg (N := 1) ?hd (cs := #[.int .i64 0, .string (⟨#[]⟩ : ByteArray), .slice none 0 0, .bool false, .string (⟨#[]⟩ : ByteArray)]) (t := 29) ?hr ?_; (case hd => rfl); (case hg => rfl); (case hr => first | (go_simp; done) | (go_simp; rfl)); intro gb180 hg w10 hbox hb; have n0_ := Aside0.mk (Kd.R_below (by (with_reducible repeat (first | apply Kd.R_alloc | apply Kd.R_drewN | apply Kd.R_drew)); exact HO176.out) hb); have n1_ := Aside0.mk (below_step (by repeat (first | (with_reducible first | exact HB.out | apply below_alloc | apply pw_below_drewN | apply below_drew1) | exact HB.out)) hb); have n2_ := Aside0.mk (hbox); have n3_ := Aside0.mk ((by rw [hg]; exact (below_size (by repeat (first | (with_reducible first | exact HB.out | apply below_alloc | apply pw_below_drewN | apply below_drew1) | exact HB.out))) : w.heap.size ≤ gb180)); have n4_ := Aside0.mk ((by rw [hg]; exact (below_size (by repeat (first | (with_reducible first | exact HB.out | apply below_alloc | apply pw_below_drewN | apply below_drew1) | exact HB.out))) : w.heap.size ≤ gb180)); clear HO176; clear HB; have HO176 := n0_; have HB := n1_; have BK180 := n2_; have GW180 := n3_; have GE180 := n4_; clear n0_ n1_ n2_ n3_ n4_; clear hb hbox hg; have hcz11_0 : w10.cell? ⟨gb180, 0, none⟩ = some (.int .i64 0) := (blk_cell BK180.out 0).trans rfl; have hcz11_1 : w10.cell? ⟨gb180, 1, none⟩ = some (.string (⟨#[]⟩ : ByteArray)) := (blk_cell BK180.out 1).trans rfl; have hcz11_2 : w10.cell? ⟨gb180, 2, none⟩ = some (.slice none 0 0) := (blk_cell BK180.out 2).trans rfl; have hcz11_3 : w10.cell? ⟨gb180, 3, none⟩ = some (.bool false) := (blk_cell BK180.out 3).trans rfl; have hcz11_4 : w10.cell? ⟨gb180, 4, none⟩ = some (.string (⟨#[]⟩ : ByteArray)) := (blk_cell BK180.out 4).trans rfl; have hfz11_0 := blk_frozen BK180.out 0; have hfz11_1 := blk_frozen BK180.out 1; have hfz11_2 := blk_frozen BK180.out 2; have hfz11_3 := blk_frozen BK180.out 3; have hfz11_4 := blk_frozen BK180.out 4; obtain ⟨Ao12, co12, eo12⟩ := Kd.R_slice HO176.out; subst eo12))
 (with_reducible refine (token_Get.calls k _ _ t174 (⟨#[99]⟩ : ByteArray) t181 t182 _ ?side1 ?side2 A2.out).mono ?_)
 (case side1 => refine (Kd.R_reads' (e := 41) (base := w.heap.size) (ok := fun k_ => True) (n := t174.length) (c := co12) ?_).2.2; exact (by (with_reducible repeat (first | apply Kd.R_alloc | apply Kd.R_drewN | apply Kd.R_drew)); exact (Kd.R_mono (Kd.R_far (p := ⟨gb180, 4, none⟩) (Kd.R_far (p := ⟨gb180, 3, none⟩) (Kd.R_far (p := ⟨gb180, 2, none⟩) (Kd.R_far (p := ⟨gb180, 1, none⟩) (Kd.R_far (p := ⟨gb180, 0, none⟩) (Kd.R_types HO176.out BK180.out (by decide)) (fun _ hk => hk.2) (.int .i64 t172)) (fun _ hk => hk.2) (.string t173)) (fun _ hk => hk.2) (.slice Ao12 t174.length co12)) (fun _ hk => hk.2) (.bool t177)) (fun _ hk => hk.2) (.string t178)) (fun _ h_ => h_.1))))
 (case side2 => exact (Kd.R_reads' HO176.out).2.1)
 rintro e w13 ⟨rfl, hb⟩
 have n0_ := Aside0.mk (Kd.R_below (by (with_reducible repeat (first | apply Kd.R_alloc | apply Kd.R_drewN | apply Kd.R_drew)); exact (Kd.R_mono (Kd.R_far (p := ⟨gb180, 4, none⟩) (Kd.R_far (p := ⟨gb180, 3, none⟩) (Kd.R_far (p := ⟨gb180, 2, none⟩) (Kd.R_far (p := ⟨gb180, 1, none⟩) (Kd.R_far (p := ⟨gb180, 0, none⟩) (Kd.R_types HO176.out BK180.out (by decide)) (fun _ hk => hk.2) (.int .i64 t172)) (fun _ hk => hk.2) (.string t173)) (fun _ hk => hk.2) (.slice Ao12 t174.length co12)) (fun _ hk => hk.2) (.bool t177)) (fun _ hk => hk.2) (.string t178)) (fun _ h_ => h_.1))) hb)
 have n1_ := Aside0.mk (blk_below (g := gb180) (o := .cells #[.int .i64 t172, .string t173, .slice Ao12 t174.length co12, .bool t177, .string t178] 29 (0, 0)) (by (with_reducible repeat (first | refine blk_drewN ?_ _ | refine blk_drew ?_ | refine blk_alloc ?_ _)); refine blk_put (cs := #[.int .i64 t172, .string t173, .slice Ao12 t174.length co12, .bool t177, .string (⟨#[]⟩ : ByteArray)]) ?_ 4 _ rfl; (with_reducible repeat (first | refine blk_drewN ?_ _ | refine blk_drew ?_ | refine blk_alloc ?_ _)); refine blk_put (cs := #[.int .i64 t172, .string t173, .slice Ao12 t174.length co12, .bool false, .string (⟨#[]⟩ : ByteArray)]) ?_ 3 _ rfl; (with_reducible repeat (first | refine blk_drewN ?_ _ | refine blk_drew ?_ | refine blk_alloc ?_ _)); refine blk_put (cs := #[.int .i64 t172, .string t173, .slice none 0 0, .bool false, .string (⟨#[]⟩ : ByteArray)]) ?_ 2 _ rfl; (with_reducible repeat (first | refine blk_drewN ?_ _ | refine blk_drew ?_ | refine blk_alloc ?_ _)); refine blk_put (cs := #[.int .i64 t172, .string (⟨#[]⟩ : ByteArray), .slice none 0 0, .bool false, .string (⟨#[]⟩ : ByteArray)]) ?_ 1 _ rfl; (with_reducible repeat (first | refine blk_drewN ?_ _ | refine blk_drew ?_ | refine blk_alloc ?_ _)); refine blk_put (cs := #[.int .i64 0, .string (⟨#[]⟩ : ByteArray), .slice none 0 0, .bool false, .string (⟨#[]⟩ : ByteArray)]) ?_ 0 _ rfl; (with_reducible repeat (first | refine blk_drewN ?_ _ | refine blk_drew ?_ | refine blk_alloc ?_ _)); exact BK180.out) hb)
 have n2_ := Aside0.mk (below_step (by repeat (first | (with_reducible first | exact HB.out | apply below_alloc | apply pw_below_drewN | apply below_drew1 | refine below_set ?_ GE180.out) | exact HB.out)) hb)
 clear HO176
 clear BK180
 clear HB
 have HO176 := n0_
 have BK180 := n1_
 have HB := n2_
 clear n0_ n1_ n2_
 (try clear hb)
 (try clear hb2)
 (try clear hk)
 (try clear hi)
 by_cases c3 : t172 = 2
 ·
  rw [if_pos c3] at H
  have c3b0 : (t172 == 2) = true := beq_iff_eq.mpr c3
  have c3b1 : (t172 != 2) = false := bne_eq_false_iff_eq.mpr c3
  clear c3
  by_cases c4 : t173.toList = ([98] : List UInt8)
  ·
   rw [if_pos c4] at H
   have c4b0 : (t173.toList == ([98] : List UInt8)) = true := beq_iff_eq.mpr c4
   have c4b1 : (t173.toList != ([98] : List UInt8)) = false := bne_eq_false_iff_eq.mpr c4
   clear c4
   by_cases c5 : t179 = 8
   ·
    rw [if_pos c5] at H
    have c5b0 : (t179 == 8) = true := beq_iff_eq.mpr c5
    have c5b1 : (t179 != 8) = false := bne_eq_false_iff_eq.mpr c5
    clear c5
    by_cases c6 : t182 = true
    ·
     subst c6
     replace H := (if_pos rfl).symm.trans H
     by_cases c7 : t181.toList = ([100] : List UInt8)
     ·
      rw [if_pos c7] at H
      have c7b0 : (t181.toList == ([100] : List UInt8)) = true := beq_iff_eq.mpr c7
      have c7b1 : (t181.toList != ([100] : List UInt8)) = false := bne_eq_false_iff_eq.mpr c7
      clear c7
      replace H := Option.bind_eq_some_iff.mp H
      obtain ⟨t183, A80, H⟩ := H
      try dsimp only at H
      have A8 := Aside0.mk A80
      clear A80
      have hcz14_0 : w13.cell? ⟨gb180, 0, none⟩ = some (.int .i64 t172) := (blk_cell BK180.out 0).trans rfl
      have hcz14_1 : w13.cell? ⟨gb180, 1, none⟩ = some (.string t173) := (blk_cell BK180.out 1).trans rfl
      have hcz14_2 : w13.cell? ⟨gb180, 2, none⟩ = some (.slice Ao12 t174.length co12) := (blk_cell BK180.out 2).trans rfl
      have hcz14_3 : w13.cell? ⟨gb180, 3, none⟩ = some (.bool t177) := (blk_cell BK180.out 3).trans rfl
      have hcz14_4 : w13.cell? ⟨gb180, 4, none⟩ = some (.string t178) := (blk_cell BK180.out 4).trans rfl
      have hfz14_0 := blk_frozen BK180.out 0
      have hfz14_1 := blk_frozen BK180.out 1
      have hfz14_2 := blk_frozen BK180.out 2
      have hfz14_3 := blk_frozen BK180.out 3
      have hfz14_4 := blk_frozen BK180.out 4
      go_wp2_with fail
      (with_reducible refine (token_All.calls k (⟨#[97, 60, 98, 62, 99]⟩ : ByteArray) t183 _ ?side1 A8.out).mono ?_)
      (case side1 => exact HM.at_ HM0.out (by repeat (first | (with_reducible first | exact HB.out | apply below_alloc | apply pw_below_drewN | apply below_drew1 | refine below_set ?_ GE180.out) | exact HB.out)))
      rintro e w15 ⟨v184, rfl, ho0, hb⟩
      have n0_ := Aside0.mk (Kd.R_below (by (with_reducible repeat (first | apply Kd.R_alloc | apply Kd.R_drewN | apply Kd.R_drew)); exact HO176.out) hb)
      have n1_ := Aside0.mk (Kd.S_lower (Kd.S_newB (Kd.S_new' ho0 (Kd.R_lt (by (with_reducible repeat (first | apply Kd.R_alloc | apply Kd.R_drewN | apply Kd.R_drew)); exact HO176.out))) (g := gb180) (o := .cells #[.int .i64 t172, .string t173, .slice Ao12 t174.length co12, .bool t177, .string t178] 29 (0, 0)) (by (with_reducible repeat (first | refine blk_drewN ?_ _ | refine blk_drew ?_ | refine blk_alloc ?_ _)); exact BK180.out)) (below_size (by repeat (first | (with_reducible first | exact HB.out | apply below_alloc | apply pw_below_drewN | apply below_drew1 | refine below_set ?_ GE180.out) | exact HB.out))))
      have n2_ := Aside0.mk (blk_below (g := gb180) (o := .cells #[.int .i64 t172, .string t173, .slice Ao12 t174.length co12, .bool t177, .string t178] 29 (0, 0)) (by (with_reducible repeat (first | refine blk_drewN ?_ _ | refine blk_drew ?_ | refine blk_alloc ?_ _)); exact BK180.out) hb)
      have n3_ := Aside0.mk (below_step (by repeat (first | (with_reducible first | exact HB.out | apply below_alloc | apply pw_below_drewN | apply below_drew1 | refine below_set ?_ GE180.out) | exact HB.out)) hb)
      clear HO176
      clear BK180
      clear HB
      have HO176 := n0_
      have HO185 := n1_
      have BK180 := n2_
      have HB := n3_
      clear n0_ n1_ n2_ n3_
      (try clear hb)
      (try clear hb2)
      (try clear hk)
      (try clear hi)
      (try clear ho0)
      obtain rfl := Option.some.inj H
      obtain ⟨Ao16, co16, eo16⟩ := Kd.S_slice HO185.out
      subst eo16
      go_wp2
      go_ret
      exact ⟨by first | rfl | (simp [errW_none, errW_some] <;> rfl) | (simp [*, errW_none, errW_some] <;> rfl), by repeat (first | (with_reducible first | exact HB.out | apply below_alloc | apply pw_below_drewN | apply below_drew1 | refine below_set ?_ GE180.out) | exact HB.out)⟩
     ·
      rw [if_neg c7] at H
      have c7b0 : (t181.toList == ([100] : List UInt8)) = false := beq_eq_false_iff_ne.mpr c7
      have c7b1 : (t181.toList != ([100] : List UInt8)) = true := bne_iff_ne.mpr c7
      obtain rfl := Option.some.inj H
      have hcz22_0 : w13.cell? ⟨gb180, 0, none⟩ = some (.int .i64 t172) := (blk_cell BK180.out 0).trans rfl
      have hcz22_1 : w13.cell? ⟨gb180, 1, none⟩ = some (.string t173) := (blk_cell BK180.out 1).trans rfl
      have hcz22_2 : w13.cell? ⟨gb180, 2, none⟩ = some (.slice Ao12 t174.length co12) := (blk_cell BK180.out 2).trans rfl
      have hcz22_3 : w13.cell? ⟨gb180, 3, none⟩ = some (.bool t177) := (blk_cell BK180.out 3).trans rfl
      have hcz22_4 : w13.cell? ⟨gb180, 4, none⟩ = some (.string t178) := (blk_cell BK180.out 4).trans rfl
      have hfz22_0 := blk_frozen BK180.out 0
      have hfz22_1 := blk_frozen BK180.out 1
      have hfz22_2 := blk_frozen BK180.out 2
      have hfz22_3 := blk_frozen BK180.out 3
      have hfz22_4 := blk_frozen BK180.out 4
      go_wp2
      go_ret
      exact ⟨by first | rfl | (simp [errW_none, errW_some] <;> rfl) | (simp [*, errW_none, errW_some] <;> rfl), by repeat (first | (with_reducible first | exact HB.out | apply below_alloc | apply pw_below_drewN | apply below_drew1 | refine below_set ?_ GE180.out) | exact HB.out)⟩
    ·
     replace c6 := Bool.eq_false_iff.mpr c6
     subst c6
     replace H := (if_neg Bool.false_ne_true).symm.trans H
     obtain rfl := Option.some.inj H
     have hcz28_0 : w13.cell? ⟨gb180, 0, none⟩ = some (.int .i64 t172) := (blk_cell BK180.out 0).trans rfl
     have hcz28_1 : w13.cell? ⟨gb180, 1, none⟩ = some (.string t173) := (blk_cell BK180.out 1).trans rfl
     have hcz28_2 : w13.cell? ⟨gb180, 2, none⟩ = some (.slice Ao12 t174.length co12) := (blk_cell BK180.out 2).trans rfl
     have hcz28_3 : w13.cell? ⟨gb180, 3, none⟩ = some (.bool t177) := (blk_cell BK180.out 3).trans rfl
     have hcz28_4 : w13.cell? ⟨gb180, 4, none⟩ = some (.string t178) := (blk_cell BK180.out 4).trans rfl
     have hfz28_0 := blk_frozen BK180.out 0
     have hfz28_1 := blk_frozen BK180.out 1
     have hfz28_2 := blk_frozen BK180.out 2
     have hfz28_3 := blk_frozen BK180.out 3
     have hfz28_4 := blk_frozen BK180.out 4
     go_wp2
     go_ret
     exact ⟨by first | rfl | (simp [errW_none, errW_some] <;> rfl) | (simp [*, errW_none, errW_some] <;> rfl), by repeat (first | (with_reducible first | exact HB.out | apply below_alloc | apply pw_below_drewN | apply below_drew1 | refine below_set ?_ GE180.out) | exact HB.out)⟩
   ·
    rw [if_neg c5] at H
    have c5b0 : (t179 == 8) = false := beq_eq_false_iff_ne.mpr c5
    have c5b1 : (t179 != 8) = true := bne_iff_ne.mpr c5
    obtain rfl := Option.some.inj H
    have hcz34_0 : w13.cell? ⟨gb180, 0, none⟩ = some (.int .i64 t172) := (blk_cell BK180.out 0).trans rfl
    have hcz34_1 : w13.cell? ⟨gb180, 1, none⟩ = some (.string t173) := (blk_cell BK180.out 1).trans rfl
    have hcz34_2 : w13.cell? ⟨gb180, 2, none⟩ = some (.slice Ao12 t174.length co12) := (blk_cell BK180.out 2).trans rfl
    have hcz34_3 : w13.cell? ⟨gb180, 3, none⟩ = some (.bool t177) := (blk_cell BK180.out 3).trans rfl
    have hcz34_4 : w13.cell? ⟨gb180, 4, none⟩ = some (.string t178) := (blk_cell BK180.out 4).trans rfl
    have hfz34_0 := blk_frozen BK180.out 0
    have hfz34_1 := blk_frozen BK180.out 1
    have hfz34_2 := blk_frozen BK180.out 2
    have hfz34_3 := blk_frozen BK180.out 3
    have hfz34_4 := blk_frozen BK180.out 4
    go_wp2
    go_ret
    exact ⟨by first | rfl | (simp [errW_none, errW_some] <;> rfl) | (simp [*, errW_none, errW_some] <;> rfl), by repeat (first | (with_reducible first | exact HB.out | apply below_alloc | apply pw_below_drewN | apply below_drew1 | refine below_set ?_ GE180.out) | exact HB.out)⟩
  ·
   rw [if_neg c4] at H
   have c4b0 : (t173.toList == ([98] : List UInt8)) = false := beq_eq_false_iff_ne.mpr c4
   have c4b1 : (t173.toList != ([98] : List UInt8)) = true := bne_iff_ne.mpr c4
   obtain rfl := Option.some.inj H
   have hcz40_0 : w13.cell? ⟨gb180, 0, none⟩ = some (.int .i64 t172) := (blk_cell BK180.out 0).trans rfl
   have hcz40_1 : w13.cell? ⟨gb180, 1, none⟩ = some (.string t173) := (blk_cell BK180.out 1).trans rfl
   have hcz40_2 : w13.cell? ⟨gb180, 2, none⟩ = some (.slice Ao12 t174.length co12) := (blk_cell BK180.out 2).trans rfl
   have hcz40_3 : w13.cell? ⟨gb180, 3, none⟩ = some (.bool t177) := (blk_cell BK180.out 3).trans rfl
   have hcz40_4 : w13.cell? ⟨gb180, 4, none⟩ = some (.string t178) := (blk_cell BK180.out 4).trans rfl
   have hfz40_0 := blk_frozen BK180.out 0
   have hfz40_1 := blk_frozen BK180.out 1
   have hfz40_2 := blk_frozen BK180.out 2
   have hfz40_3 := blk_frozen BK180.out 3
   have hfz40_4 := blk_frozen BK180.out 4
   go_wp2
   go_ret
   exact ⟨by first | rfl | (simp [errW_none, errW_some] <;> rfl) | (simp [*, errW_none, errW_some] <;> rfl), by repeat (first | (with_reducible first | exact HB.out | apply below_alloc | apply pw_below_drewN | apply below_drew1 | refine below_set ?_ GE180.out) | exact HB.out)⟩
 ·
  rw [if_neg c3] at H
  have c3b0 : (t172 == 2) = false := beq_eq_false_iff_ne.mpr c3
  have c3b1 : (t172 != 2) = true := bne_iff_ne.mpr c3
  obtain rfl := Option.some.inj H
  have hcz46_0 : w13.cell? ⟨gb180, 0, none⟩ = some (.int .i64 t172) := (blk_cell BK180.out 0).trans rfl
  have hcz46_1 : w13.cell? ⟨gb180, 1, none⟩ = some (.string t173) := (blk_cell BK180.out 1).trans rfl
  have hcz46_2 : w13.cell? ⟨gb180, 2, none⟩ = some (.slice Ao12 t174.length co12) := (blk_cell BK180.out 2).trans rfl
  have hcz46_3 : w13.cell? ⟨gb180, 3, none⟩ = some (.bool t177) := (blk_cell BK180.out 3).trans rfl
  have hcz46_4 : w13.cell? ⟨gb180, 4, none⟩ = some (.string t178) := (blk_cell BK180.out 4).trans rfl
  have hfz46_0 := blk_frozen BK180.out 0
  have hfz46_1 := blk_frozen BK180.out 1
  have hfz46_2 := blk_frozen BK180.out 2
  have hfz46_3 := blk_frozen BK180.out 3
  have hfz46_4 := blk_frozen BK180.out 4
  go_wp2
  go_ret
  exact ⟨by first | rfl | (simp [errW_none, errW_some] <;> rfl) | (simp [*, errW_none, errW_some] <;> rfl), by repeat (first | (with_reducible first | exact HB.out | apply below_alloc | apply pw_below_drewN | apply below_drew1 | refine below_set ?_ GE180.out) | exact HB.out)⟩
/-! ### marginaliaref04_Get: function 17 -/
def marginaliaref04_Get.l0 : Nat → List (S41) → ByteArray → Int → Option (ByteArray × Bool)
  | 0, _, _, _ => none
  | k + 1, x0, x1, x6 => if x6 < (x0.length : Int) then (if 0 ≤ x6 then (if ((rd_T41 x0 x6).f0).toList = x1.toList then (some ((rd_T41 x0 x6).f1, true)) else (marginaliaref04_Get.l0 k x0 x1 (wrap64 (x6 + 1)))) else (none)) else (some ((⟨#[]⟩ : ByteArray), false))
def marginaliaref04_Get.f (k : Nat) (l0 : List (S41)) (a1 : ByteArray) : Option (ByteArray × Bool) := marginaliaref04_Get.l0 k l0 a1 0
set_option maxHeartbeats 8000000 in
set_option maxRecDepth 100000 in
theorem marginaliaref04_Get.calls (k : Nat) (A0 : Option Addr) (c0 : Nat) (l0 : List (S41)) (a1 : ByteArray) (r1 : ByteArray) (r2 : Bool) (w : World) (hr0 : Kd.C k41 w A0 l0.length l0) (hc0 : l0.length ≤ c0) (h : marginaliaref04_Get.f k l0 a1 = some (r1, r2)) :
    Calls Try.prog 17 #[.slice A0 l0.length c0, .string a1] w fun e w' => e = .returned (.tuple #[.string r1, .bool r2]) ∧ Drawn0 w w' := by
 have HR0 := Aside0.mk hr0
 have HC0 := Aside0.mk hc0
 clear hr0 hc0
 have H : (marginaliaref04_Get.l0 k l0 a1 0) = some (r1, r2) := h
 clear h
 have H' := Aside0.mk H
 clear H
 go_enter Try.func17, Try.ntmps17
 go_wp2
 go_loopg [6] k (fun kq v6 w' => ∃ (x6_1 : Int), v6 = .int .i64 x6_1 ∧ Aside0 (marginaliaref04_Get.l0 kq l0 a1 x6_1 = some (r1, r2)) ∧ Aside0 (kq ≤ k) ∧ Drawn0 w w')
 case atStart => exact ⟨(0), (by first | rfl | (simp; done) | (simp [*]; done)), H', ⟨Nat.le_refl _⟩, by repeat (first | exact Drawn0.refl _ | apply Drawn0.step)⟩
 case round =>
  clear H'
  try clear c1
  try clear p2
  obtain ⟨x6_1, rfl, HA, HK1, ⟨m1, rfl⟩⟩ := hrel
  cases gk with
  | zero => exact absurd HA.out (by simp [marginaliaref04_Get.l0])
  | succ k1 =>
   have H := HA.out
   clear HA
   simp only [marginaliaref04_Get.l0] at H
   by_cases c3 : x6_1 < (l0.length : Int)
   ·
    rw [if_pos c3] at H
    have c3b0 : decide (x6_1 < (l0.length : Int)) = true := decide_eq_true c3
    clear c3
    by_cases c4 : 0 ≤ x6_1
    ·
     rw [if_pos c4] at H
     have c4b0 : decide (0 ≤ x6_1) = true := decide_eq_true c4
     clear c4
     by_cases c5 : ((rd_T41 l0 x6_1).f0).toList = a1.toList
     ·
      rw [if_pos c5] at H
      have c5b0 : (((rd_T41 l0 x6_1).f0).toList == a1.toList) = true := beq_iff_eq.mpr c5
      have c5b1 : (((rd_T41 l0 x6_1).f0).toList != a1.toList) = false := bne_eq_false_iff_eq.mpr c5
      clear c5
      simp only [Option.some.injEq, Prod.mk.injEq] at H
      obtain ⟨rfl, rfl⟩ := H
      have p186 : 0 ≤ (x6_1 : Int) := of_decide_eq_true (by first | (with_reducible assumption) | assumption)
      have q186 : x6_1 < (l0.length : Int) := of_decide_eq_true (by first | (with_reducible assumption) | assumption)
      obtain ⟨ad186, e186, hx186_0, hx186_1⟩ := at_T41 HR0.out x6_1 p186 q186
      cases e186
      replace p186 := eq_true p186
      replace q186 := eq_true q186
      have p187 : 0 ≤ (x6_1 : Int) := of_decide_eq_true (by first | (with_reducible assumption) | assumption)
      have q187 : x6_1 < (l0.length : Int) := of_decide_eq_true (by first | (with_reducible assumption) | assumption)
      obtain ⟨ad187, e187, hx187_0, hx187_1⟩ := at_T41 HR0.out x6_1 p187 q187
      obtain rfl : ad186 = ad187 := (by injection e187)
      replace p187 := eq_true p187
      replace q187 := eq_true q187
      go_wp2
      go_ret2
      exact ⟨by first | rfl | (simp; done) | (simp [*]; done), by repeat (first | exact Drawn0.refl _ | apply Drawn0.step)⟩
     ·
      rw [if_neg c5] at H
      have c5b0 : (((rd_T41 l0 x6_1).f0).toList == a1.toList) = false := beq_eq_false_iff_ne.mpr c5
      have c5b1 : (((rd_T41 l0 x6_1).f0).toList != a1.toList) = true := bne_iff_ne.mpr c5
      have H' := Aside0.mk H
      clear H
      have p186 : 0 ≤ (x6_1 : Int) := of_decide_eq_true (by first | (with_reducible assumption) | assumption)
      have q186 : x6_1 < (l0.length : Int) := of_decide_eq_true (by first | (with_reducible assumption) | assumption)
      obtain ⟨ad186, e186, hx186_0, hx186_1⟩ := at_T41 HR0.out x6_1 p186 q186
      cases e186
      replace p186 := eq_true p186
      replace q186 := eq_true q186
      go_wp2
      go_roundg k1
      case measure => have := HK1.out; omega
      case rel => exact ⟨(wrap64 (x6_1 + 1)), (by first | rfl | (simp; done) | (simp [*]; done)), H', ⟨by have := HK1.out; omega⟩, by repeat (first | exact Drawn0.refl _ | apply Drawn0.step)⟩
    ·
     rw [if_neg c4] at H
     exact absurd H (by simp)
   ·
    rw [if_neg c3] at H
    have c3b0 : decide (x6_1 < (l0.length : Int)) = false := decide_eq_false c3
    clear c3
    simp only [Option.some.injEq, Prod.mk.injEq] at H
    obtain ⟨rfl, rfl⟩ := H
    go_wp2
    go_ret2
    exact ⟨by first | rfl | (simp; done) | (simp [*]; done), by repeat (first | exact Drawn0.refl _ | apply Drawn0.step)⟩
/-! ### marginaliaref02_Lower: function 50 -/
def marginaliaref02_Lower.l0 : Nat → ByteArray → List Int → Int → Option (ByteArray)
  | 0, _, _, _ => none
  | k + 1, x0, x3, x4 => if x4 < (x0.size : Int) then (if 0 ≤ x4 then (if (bt x0 x4) ≥ 65 then (if (bt x0 x4) ≤ 90 then (if x3.length < 140737488355328 then (marginaliaref02_Lower.l0 k x0 (x3 ++ [((bt x0 x4) + 32) % 256]) (wrap64 (x4 + 1))) else (none)) else (if x3.length < 140737488355328 then (marginaliaref02_Lower.l0 k x0 (x3 ++ [bt x0 x4]) (wrap64 (x4 + 1))) else (none))) else (if x3.length < 140737488355328 then (marginaliaref02_Lower.l0 k x0 (x3 ++ [bt x0 x4]) (wrap64 (x4 + 1))) else (none))) else (none)) else (some (strOfNums x3))
def marginaliaref02_Lower.f (k : Nat) (a0 : ByteArray) : Option (ByteArray) := marginaliaref02_Lower.l0 k a0 (([] : List Int)) 0
theorem marginaliaref02_Lower.mono_l : ∀ k, (∀ y0 y1 y2, LeO (marginaliaref02_Lower.l0 k y0 y1 y2) (marginaliaref02_Lower.l0 (k + 1) y0 y1 y2))
  | 0 => fun _ _ _ r h => by simp [marginaliaref02_Lower.l0] at h
  | k + 1 => by
    have ih0 := marginaliaref02_Lower.mono_l k
    · intro y0 y1 y2
      unfold marginaliaref02_Lower.l0
      repeat' first
      | (with_reducible exact ih0 _ _ _)
      | (with_reducible exact LeO.refl _)
      | (with_reducible exact LeO.none _)
      | (with_reducible refine LeO.ite ?_ ?_)
      | (with_reducible refine LeO.bind ?_ (fun _ => ?_))
      | exact ih0 _ _ _
      | exact LeO.none _
      | refine LeO.ite ?_ ?_
      | refine LeO.bind ?_ (fun _ => ?_)
theorem marginaliaref02_Lower.mono : ∀ a0 k, LeO (marginaliaref02_Lower.f k a0) (marginaliaref02_Lower.f (k + 1) a0) := by
 intro a0 k
 have ih0 := marginaliaref02_Lower.mono_l k
 unfold marginaliaref02_Lower.f
 repeat' first
     | (with_reducible exact ih0 _ _ _)
     | (with_reducible exact LeO.refl _)
     | (with_reducible exact LeO.none _)
     | (with_reducible refine LeO.ite ?_ ?_)
     | (with_reducible refine LeO.bind ?_ (fun _ => ?_))
     | exact ih0 _ _ _
     | exact LeO.none _
     | refine LeO.ite ?_ ?_
     | refine LeO.bind ?_ (fun _ => ?_)
set_option maxHeartbeats 8000000 in
set_option maxRecDepth 100000 in
theorem marginaliaref02_Lower.calls (k : Nat) (a0 : ByteArray) (r : ByteArray) (w : World) (h : marginaliaref02_Lower.f k a0 = some r) :
    Calls Try.prog 50 #[.string a0] w fun e w' => e = .returned (.string r) ∧ Below w.heap.size w w' := by
 have HB := Aside0.mk (Below.refl w.heap.size w)
 have H : (marginaliaref02_Lower.l0 k a0 (([] : List Int)) 0) = some r := h
 clear h
 obtain ⟨y188, hy188⟩ : ∃ y_ : List Int, y_ = (([] : List Int)) := ⟨_, rfl⟩
 replace H : (marginaliaref02_Lower.l0 k a0 y188 0) = some r := by first | (rw [hy188]; with_reducible exact H) | (have H2_ := (Option.bind_some _ _).symm.trans H; rw [hy188]; with_reducible exact H2_) | (have H2_ := (Option.bind_some _ _).symm.trans H; with_reducible exact H2_) | with_reducible exact H | (rw [hy188]; exact H) | exact H
 have Ny188 := Aside0.mk hy188
 clear hy188
 have H' := Aside0.mk H
 clear H
 go_enter Try.func50, Try.ntmps50
 go_wp2_with (first | ((with_reducible refine gate_dst (N := 6) rfl ?_); refine Kd.R_lit (Kd.int .u8) _ 5 ?hg (N := 6) ?hd (xs := ([] : List Int)) (inner := []) (ok := fun _ => True) (okp := fun _ => True) ?hr ?hp (fun _ hk => hk) trivial (Below.refl _ _) (Nat.le_refl _) (by simp) ?_; (case hd => rfl); (case hg => rfl); (case hr => first | (go_simp; done) | (go_simp; rfl)); (case hp => exact (Reps.none _ _)); intro v189 w2 ho3 hb hg_ hnew_; clear hg_ hnew_; (first | rw [← Ny188.out] at ho3 | (simp only [Int.reduceToNat] at ho3; rw [← Ny188.out] at ho3)); have n0_ := Aside0.mk (Kd.R_lower ho3 (below_size (by repeat (first | (with_reducible first | exact HB.out | apply below_alloc | apply pw_below_drewN | apply below_drew1) | exact HB.out)))); have n1_ := Aside0.mk (below_step (by repeat (first | (with_reducible first | exact HB.out | apply below_alloc | apply pw_below_drewN | apply below_drew1) | exact HB.out)) hb); clear HB; have HO190 := n0_; have HB := n1_; clear n0_ n1_; clear hb ho3))
 go_loopg [3, 4] k (fun kq v3 v4 w' => ∃ (x3_1 : List Int) (x4_1 : Int), v4 = .int .i64 x4_1 ∧ Aside0 (marginaliaref02_Lower.l0 kq a0 x3_1 x4_1 = some r) ∧ Aside0 (kq ≤ k) ∧ Aside0 (Kd.R (Kd.int .u8) 5 w' w.heap.size (fun _ => True) v3 x3_1) ∧ Aside0 (Below w.heap.size w w'))
 case atStart => exact ⟨(y188), (0), (by first | rfl | (simp; done) | (simp [*]; done)), H', ⟨Nat.le_refl _⟩, ⟨by (with_reducible repeat (first | apply Kd.R_alloc | apply Kd.R_drewN | apply Kd.R_drew)); exact HO190.out⟩, ⟨by repeat (first | (with_reducible first | exact HB.out | apply below_alloc | apply pw_below_drewN | apply below_drew1) | exact HB.out)⟩⟩
 case round =>
  clear H'
  try clear p2
  obtain ⟨x3_1, x4_1, rfl, HA, HK1, HO_3, HB⟩ := hrel
  cases gk with
  | zero => exact absurd HA.out (by simp [marginaliaref02_Lower.l0])
  | succ k1 =>
   have H := HA.out
   clear HA
   simp only [marginaliaref02_Lower.l0] at H
   by_cases c4 : x4_1 < (a0.size : Int)
   ·
    rw [if_pos c4] at H
    have c4b0 : decide (x4_1 < (a0.size : Int)) = true := decide_eq_true c4
    clear c4
    by_cases c5 : 0 ≤ x4_1
    ·
     rw [if_pos c5] at H
     have c5b0 : decide (0 ≤ x4_1) = true := decide_eq_true c5
     clear c5
     by_cases c7 : (bt a0 x4_1) ≥ 65
     ·
      rw [if_pos c7] at H
      have c7b0 : decide (65 ≤ (bt a0 x4_1)) = true := decide_eq_true c7
      clear c7
      by_cases c8 : (bt a0 x4_1) ≤ 90
      ·
       rw [if_pos c8] at H
       have c8b0 : decide ((bt a0 x4_1) ≤ 90) = true := decide_eq_true c8
       clear c8
       by_cases c9 : x3_1.length < 140737488355328
       ·
        rw [if_pos c9] at H
        have LMc9 := Aside0.mk c9
        clear c9
        obtain ⟨y191, hy191⟩ : ∃ y_ : List Int, y_ = (x3_1 ++ [((bt a0 x4_1) + 32) % 256]) := ⟨_, rfl⟩
        replace H : (marginaliaref02_Lower.l0 k1 a0 y191 (wrap64 (x4_1 + 1))) = some r := by first | (rw [hy191]; with_reducible exact H) | (have H2_ := (Option.bind_some _ _).symm.trans H; rw [hy191]; with_reducible exact H2_) | (have H2_ := (Option.bind_some _ _).symm.trans H; with_reducible exact H2_) | with_reducible exact H | (rw [hy191]; exact H) | exact H
        have Ny191 := Aside0.mk hy191
        clear hy191
        have H' := Aside0.mk H
        clear H
        have p6 : 0 ≤ (x4_1 : Int) := of_decide_eq_true (by first | (with_reducible assumption) | assumption)
        have q6 : x4_1 < (a0.size : Int) := of_decide_eq_true (by first | (with_reducible assumption) | assumption)
        have hx6 := bt_at a0 x4_1
        replace p6 := eq_true p6
        replace q6 := eq_true q6
        go_wp2_with (first | ((with_reducible refine gate_builtin (b := .append) (xs := #[.tmp 24, .tmp 26]) rfl ?_); at_builtin; refine Kd.R_append (Kd.int .u8) (w0 := w) w.heap.size rfl (.tmp 24) (.tmp 26) 59 5 (.int .u8 0) 1 rfl Try.underlying59 info5 rfl (by decide) (by omega) u3 x3_1 (((bt a0 x4_1) + 32) % 256) [.int .u8 (((bt a0 x4_1) + 32) % 256)] (fun _ => True) (fun _ => False) rfl rfl ?aP (fun _ hk => hk.elim) ?aF ?aO ?aB ?aS ?aL ?_; (case aP => exact rfl); (case aB => exact (by repeat (first | (with_reducible first | exact HB.out | apply below_alloc | apply pw_below_drewN | apply below_drew1) | exact HB.out))); (case aF => exact (fun _ _ => trivial)); (case aO => exact (by (with_reducible repeat (first | apply Kd.R_alloc | apply Kd.R_drewN | apply Kd.R_drew)); exact HO_3.out)); (case aS => exact (below_size (by repeat (first | (with_reducible first | exact HB.out | apply below_alloc | apply pw_below_drewN | apply below_drew1) | exact HB.out)))); (case aL => have := LMc9.out; omega); intro v192 w10 ho hb hg hat; rw [← Ny191.out] at ho; have n0_ := Aside0.mk (hb); have n1_ := Aside0.mk (ho); clear HB; clear HO_3; have HB := n0_; have HO193 := n1_; clear n0_ n1_; clear ho hb hg hat))
        go_roundg k1
        case measure => have := HK1.out; omega
        case rel => exact ⟨(y191), (wrap64 (x4_1 + 1)), (by first | rfl | (simp; done) | (simp [*]; done)), H', ⟨by have := HK1.out; omega⟩, ⟨by (with_reducible repeat (first | apply Kd.R_alloc | apply Kd.R_drewN | apply Kd.R_drew)); exact HO193.out⟩, ⟨by repeat (first | (with_reducible first | exact HB.out | apply below_alloc | apply pw_below_drewN | apply below_drew1) | exact HB.out)⟩⟩
       ·
        rw [if_neg c9] at H
        exact absurd H (by simp)
      ·
       rw [if_neg c8] at H
       have c8b0 : decide ((bt a0 x4_1) ≤ 90) = false := decide_eq_false c8
       clear c8
       by_cases c11 : x3_1.length < 140737488355328
       ·
        rw [if_pos c11] at H
        have LMc11 := Aside0.mk c11
        clear c11
        obtain ⟨y194, hy194⟩ : ∃ y_ : List Int, y_ = (x3_1 ++ [bt a0 x4_1]) := ⟨_, rfl⟩
        replace H : (marginaliaref02_Lower.l0 k1 a0 y194 (wrap64 (x4_1 + 1))) = some r := by first | (rw [hy194]; with_reducible exact H) | (have H2_ := (Option.bind_some _ _).symm.trans H; rw [hy194]; with_reducible exact H2_) | (have H2_ := (Option.bind_some _ _).symm.trans H; with_reducible exact H2_) | with_reducible exact H | (rw [hy194]; exact H) | exact H
        have Ny194 := Aside0.mk hy194
        clear hy194
        have H' := Aside0.mk H
        clear H
        have p6 : 0 ≤ (x4_1 : Int) := of_decide_eq_true (by first | (with_reducible assumption) | assumption)
        have q6 : x4_1 < (a0.size : Int) := of_decide_eq_true (by first | (with_reducible assumption) | assumption)
        have hx6 := bt_at a0 x4_1
        replace p6 := eq_true p6
        replace q6 := eq_true q6
        go_wp2_with (first | ((with_reducible refine gate_builtin (b := .append) (xs := #[.tmp 24, .tmp 26]) rfl ?_); at_builtin; refine Kd.R_append (Kd.int .u8) (w0 := w) w.heap.size rfl (.tmp 24) (.tmp 26) 59 5 (.int .u8 0) 1 rfl Try.underlying59 info5 rfl (by decide) (by omega) u3 x3_1 (bt a0 x4_1) [.int .u8 (bt a0 x4_1)] (fun _ => True) (fun _ => False) rfl rfl ?aP (fun _ hk => hk.elim) ?aF ?aO ?aB ?aS ?aL ?_; (case aP => exact rfl); (case aB => exact (by repeat (first | (with_reducible first | exact HB.out | apply below_alloc | apply pw_below_drewN | apply below_drew1) | exact HB.out))); (case aF => exact (fun _ _ => trivial)); (case aO => exact (by (with_reducible repeat (first | apply Kd.R_alloc | apply Kd.R_drewN | apply Kd.R_drew)); exact HO_3.out)); (case aS => exact (below_size (by repeat (first | (with_reducible first | exact HB.out | apply below_alloc | apply pw_below_drewN | apply below_drew1) | exact HB.out)))); (case aL => have := LMc11.out; omega); intro v195 w12 ho hb hg hat; rw [← Ny194.out] at ho; have n0_ := Aside0.mk (hb); have n1_ := Aside0.mk (ho); clear HB; clear HO_3; have HB := n0_; have HO196 := n1_; clear n0_ n1_; clear ho hb hg hat))
        go_roundg k1
        case measure => have := HK1.out; omega
        case rel => exact ⟨(y194), (wrap64 (x4_1 + 1)), (by first | rfl | (simp; done) | (simp [*]; done)), H', ⟨by have := HK1.out; omega⟩, ⟨by (with_reducible repeat (first | apply Kd.R_alloc | apply Kd.R_drewN | apply Kd.R_drew)); exact HO196.out⟩, ⟨by repeat (first | (with_reducible first | exact HB.out | apply below_alloc | apply pw_below_drewN | apply below_drew1) | exact HB.out)⟩⟩
       ·
        rw [if_neg c11] at H
        exact absurd H (by simp)
     ·
      rw [if_neg c7] at H
      have c7b0 : decide (65 ≤ (bt a0 x4_1)) = false := decide_eq_false c7
      clear c7
      by_cases c13 : x3_1.length < 140737488355328
      ·
       rw [if_pos c13] at H
       have LMc13 := Aside0.mk c13
       clear c13
       obtain ⟨y197, hy197⟩ : ∃ y_ : List Int, y_ = (x3_1 ++ [bt a0 x4_1]) := ⟨_, rfl⟩
       replace H : (marginaliaref02_Lower.l0 k1 a0 y197 (wrap64 (x4_1 + 1))) = some r := by first | (rw [hy197]; with_reducible exact H) | (have H2_ := (Option.bind_some _ _).symm.trans H; rw [hy197]; with_reducible exact H2_) | (have H2_ := (Option.bind_some _ _).symm.trans H; with_reducible exact H2_) | with_reducible exact H | (rw [hy197]; exact H) | exact H
       have Ny197 := Aside0.mk hy197
       clear hy197
       have H' := Aside0.mk H
       clear H
       have p6 : 0 ≤ (x4_1 : Int) := of_decide_eq_true (by first | (with_reducible assumption) | assumption)
       have q6 : x4_1 < (a0.size : Int) := of_decide_eq_true (by first | (with_reducible assumption) | assumption)
       have hx6 := bt_at a0 x4_1
       replace p6 := eq_true p6
       replace q6 := eq_true q6
       go_wp2_with (first | ((with_reducible refine gate_builtin (b := .append) (xs := #[.tmp 24, .tmp 26]) rfl ?_); at_builtin; refine Kd.R_append (Kd.int .u8) (w0 := w) w.heap.size rfl (.tmp 24) (.tmp 26) 59 5 (.int .u8 0) 1 rfl Try.underlying59 info5 rfl (by decide) (by omega) u3 x3_1 (bt a0 x4_1) [.int .u8 (bt a0 x4_1)] (fun _ => True) (fun _ => False) rfl rfl ?aP (fun _ hk => hk.elim) ?aF ?aO ?aB ?aS ?aL ?_; (case aP => exact rfl); (case aB => exact (by repeat (first | (with_reducible first | exact HB.out | apply below_alloc | apply pw_below_drewN | apply below_drew1) | exact HB.out))); (case aF => exact (fun _ _ => trivial)); (case aO => exact (by (with_reducible repeat (first | apply Kd.R_alloc | apply Kd.R_drewN | apply Kd.R_drew)); exact HO_3.out)); (case aS => exact (below_size (by repeat (first | (with_reducible first | exact HB.out | apply below_alloc | apply pw_below_drewN | apply below_drew1) | exact HB.out)))); (case aL => have := LMc13.out; omega); intro v198 w14 ho hb hg hat; rw [← Ny197.out] at ho; have n0_ := Aside0.mk (hb); have n1_ := Aside0.mk (ho); clear HB; clear HO_3; have HB := n0_; have HO199 := n1_; clear n0_ n1_; clear ho hb hg hat))
       go_roundg k1
       case measure => have := HK1.out; omega
       case rel => exact ⟨(y197), (wrap64 (x4_1 + 1)), (by first | rfl | (simp; done) | (simp [*]; done)), H', ⟨by have := HK1.out; omega⟩, ⟨by (with_reducible repeat (first | apply Kd.R_alloc | apply Kd.R_drewN | apply Kd.R_drew)); exact HO199.out⟩, ⟨by repeat (first | (with_reducible first | exact HB.out | apply below_alloc | apply pw_below_drewN | apply below_drew1) | exact HB.out)⟩⟩
      ·
       rw [if_neg c13] at H
       exact absurd H (by simp)
    ·
     rw [if_neg c5] at H
     exact absurd H (by simp)
   ·
    rw [if_neg c4] at H
    have c4b0 : decide (x4_1 < (a0.size : Int)) = false := decide_eq_false c4
    clear c4
    obtain rfl := Option.some.inj H
    have hcv15 := own_string (P := Try.prog) Try.underlying59 Try.underlying5 Try.underlying9 (Kd.own_of_R HO_3.out)
    go_wp2
    go_ret
    exact ⟨by first | rfl | (simp [errW_none, errW_some] <;> rfl) | (simp [*, errW_none, errW_some] <;> rfl), by repeat (first | (with_reducible first | exact HB.out | apply below_alloc | apply pw_below_drewN | apply below_drew1) | exact HB.out)⟩
/-! ### marginaliaref02_Space: function 51 -/
def marginaliaref02_Space.f (a0 : Int) : Option (Bool) := if a0 = 9 then (some true) else (if a0 = 10 then (some true) else (if a0 = 12 then (some true) else (if a0 = 13 then (some true) else (some (a0 == 32)))))
set_option maxHeartbeats 8000000 in
set_option maxRecDepth 100000 in
theorem marginaliaref02_Space.calls (a0 : Int) (r : Bool) (w : World) (h : marginaliaref02_Space.f a0 = some r) :
    Calls Try.prog 51 #[.int .u8 a0] w fun e w' => e = .returned (.bool r) ∧ Drawn0 w w' := by
 have H : (if a0 = 9 then (some true) else (if a0 = 10 then (some true) else (if a0 = 12 then (some true) else (if a0 = 13 then (some true) else (some (a0 == 32)))))) = some r := h
 clear h
 by_cases c2 : a0 = 9
 ·
  rw [if_pos c2] at H
  have c2b0 : (a0 == 9) = true := beq_iff_eq.mpr c2
  have c2b1 : (a0 != 9) = false := bne_eq_false_iff_eq.mpr c2
  clear c2
  obtain rfl := Option.some.inj H
  go_enter Try.func51, Try.ntmps51
  go_wp2
  go_ret
  exact ⟨by first | rfl | (simp; done) | (simp [*]; done), by repeat (first | exact Drawn0.refl _ | apply Drawn0.step)⟩
 ·
  rw [if_neg c2] at H
  have c2b0 : (a0 == 9) = false := beq_eq_false_iff_ne.mpr c2
  have c2b1 : (a0 != 9) = true := bne_iff_ne.mpr c2
  by_cases c3 : a0 = 10
  ·
   rw [if_pos c3] at H
   have c3b0 : (a0 == 10) = true := beq_iff_eq.mpr c3
   have c3b1 : (a0 != 10) = false := bne_eq_false_iff_eq.mpr c3
   clear c3
   obtain rfl := Option.some.inj H
   go_enter Try.func51, Try.ntmps51
   go_wp2
   go_ret
   exact ⟨by first | rfl | (simp; done) | (simp [*]; done), by repeat (first | exact Drawn0.refl _ | apply Drawn0.step)⟩
  ·
   rw [if_neg c3] at H
   have c3b0 : (a0 == 10) = false := beq_eq_false_iff_ne.mpr c3
   have c3b1 : (a0 != 10) = true := bne_iff_ne.mpr c3
   by_cases c4 : a0 = 12
   ·
    rw [if_pos c4] at H
    have c4b0 : (a0 == 12) = true := beq_iff_eq.mpr c4
    have c4b1 : (a0 != 12) = false := bne_eq_false_iff_eq.mpr c4
    clear c4
    obtain rfl := Option.some.inj H
    go_enter Try.func51, Try.ntmps51
    go_wp2
    go_ret
    exact ⟨by first | rfl | (simp; done) | (simp [*]; done), by repeat (first | exact Drawn0.refl _ | apply Drawn0.step)⟩
   ·
    rw [if_neg c4] at H
    have c4b0 : (a0 == 12) = false := beq_eq_false_iff_ne.mpr c4
    have c4b1 : (a0 != 12) = true := bne_iff_ne.mpr c4
    by_cases c5 : a0 = 13
    ·
     rw [if_pos c5] at H
     have c5b0 : (a0 == 13) = true := beq_iff_eq.mpr c5
     have c5b1 : (a0 != 13) = false := bne_eq_false_iff_eq.mpr c5
     clear c5
     obtain rfl := Option.some.inj H
     go_enter Try.func51, Try.ntmps51
     go_wp2
     go_ret
     exact ⟨by first | rfl | (simp; done) | (simp [*]; done), by repeat (first | exact Drawn0.refl _ | apply Drawn0.step)⟩
    ·
     rw [if_neg c5] at H
     have c5b0 : (a0 == 13) = false := beq_eq_false_iff_ne.mpr c5
     have c5b1 : (a0 != 13) = true := bne_iff_ne.mpr c5
     obtain rfl := Option.some.inj H
     go_enter Try.func51, Try.ntmps51
     go_wp2
     go_ret
     exact ⟨by first | rfl | (simp; done) | (simp [*]; done), by repeat (first | exact Drawn0.refl _ | apply Drawn0.step)⟩
/-! ### marginaliaref04_upTo: function 69 -/
mutual
def marginaliaref04_upTo.l0 : Nat → ByteArray → Int → ByteArray → Option (Int)
  | 0, _, _, _ => none
  | k + 1, x0, x1, x2 => if x1 < (x0.size : Int) then (if 0 ≤ x1 then ((marginaliaref02_Space.f (bt x0 x1)).bind fun t200 => (marginaliaref04_upTo.j1 k x0 x1 x2 (!t200))) else (none)) else (marginaliaref04_upTo.j1 k x0 x1 x2 false)
def marginaliaref04_upTo.j1 : Nat → ByteArray → Int → ByteArray → Bool → Option (Int)
  | 0, _, _, _, _ => none
  | k + 1, x0, x1, x2, x18 => if x18 = true then (marginaliaref04_upTo.l1 k x0 x1 x2 0) else (some x1)
def marginaliaref04_upTo.l1 : Nat → ByteArray → Int → ByteArray → Int → Option (Int)
  | 0, _, _, _, _ => none
  | k + 1, x0, x1, x2, x7 => if x7 < (x2.size : Int) then (if 0 ≤ x7 then (if 0 ≤ x1 then (if x1 < (x0.size : Int) then (if (bt x2 x7) = (bt x0 x1) then (some x1) else (marginaliaref04_upTo.l1 k x0 x1 x2 (wrap64 (x7 + 1)))) else (none)) else (none)) else (none)) else (marginaliaref04_upTo.l0 k x0 (wrap64 (x1 + 1)) x2)
end
def marginaliaref04_upTo.f (k : Nat) (a0 : ByteArray) (a1 : Int) (a2 : ByteArray) : Option (Int) := marginaliaref04_upTo.l0 k a0 a1 a2
set_option maxHeartbeats 8000000 in
set_option maxRecDepth 100000 in
theorem marginaliaref04_upTo.calls (k : Nat) (a0 : ByteArray) (a1 : Int) (a2 : ByteArray) (r : Int) (w : World) (h : marginaliaref04_upTo.f k a0 a1 a2 = some r) :
    Calls Try.prog 69 #[.string a0, .int .i64 a1, .string a2] w fun e w' => e = .returned (.int .i64 r) ∧ Drawn0 w w' := by
 have H : (marginaliaref04_upTo.l0 k a0 a1 a2) = some r := h
 clear h
 have H' := Aside0.mk H
 clear H
 go_enter Try.func69, Try.ntmps69
 go_wp2
 repeat (go_quiet (fail); try go_wp2)
 go_loopg [1] k (fun kq v1 w' => ∃ (x1_1 : Int), v1 = .int .i64 x1_1 ∧ Aside0 (marginaliaref04_upTo.l0 kq a0 x1_1 a2 = some r) ∧ Aside0 (kq ≤ k) ∧ Drawn0 w w')
 case atStart => exact ⟨(a1), (by first | rfl | (simp; done) | (simp [*]; done)), H', ⟨Nat.le_refl _⟩, by repeat (first | exact Drawn0.refl _ | apply Drawn0.step)⟩
 case round =>
  clear H'
  try clear p2
  obtain ⟨x1_1, rfl, HA, HK1, ⟨m1, rfl⟩⟩ := hrel
  cases gk with
  | zero => exact absurd HA.out (by simp [marginaliaref04_upTo.l0])
  | succ k1 =>
   have H := HA.out
   clear HA
   simp only [marginaliaref04_upTo.l0] at H
   have HC4 := Aside0.mk H
   clear H
   go_upto_region 1 with (fail)
   repeat (go_quiet (fail); go_upto_region 1 with (fail))
   go_cut [18] (fun v18 wc => ∃ (kq : Nat) (x18_3 : Bool), v18 = .bool x18_3 ∧ Aside0 (marginaliaref04_upTo.j1 kq a0 x1_1 a2 x18_3 = some r) ∧ Aside0 (kq ≤ k1) ∧ Drawn0 w wc)
   case first =>
    have H := HC4.out
    clear HC4
    by_cases c5 : x1_1 < (a0.size : Int)
    ·
     rw [if_pos c5] at H
     have c5b0 : decide (x1_1 < (a0.size : Int)) = true := decide_eq_true c5
     clear c5
     (first | rw [c5b0] | (simp only [i64_w, i32_w]; rw [c5b0]) | skip)
     by_cases c6 : 0 ≤ x1_1
     ·
      rw [if_pos c6] at H
      have c6b0 : decide (0 ≤ x1_1) = true := decide_eq_true c6
      clear c6
      replace H := Option.bind_eq_some_iff.mp H
      obtain ⟨t200, A80, H⟩ := H
      try dsimp only at H
      have A8 := Aside0.mk A80
      clear A80
      have p7 : 0 ≤ (x1_1 : Int) := of_decide_eq_true (by first | (with_reducible assumption) | assumption)
      have q7 : x1_1 < (a0.size : Int) := of_decide_eq_true (by first | (with_reducible assumption) | assumption)
      have hx7 := bt_at a0 x1_1
      replace p7 := eq_true p7
      replace q7 := eq_true q7
      go_wp2_with fail
      (with_reducible refine (marginaliaref02_Space.calls (bt a0 x1_1) t200 _ A8.out).mono ?_)
      rintro e w' ⟨rfl, ⟨nd, rfl⟩⟩
      (try first | exact ⟨rfl, _, World.drewN_drewN _ _ _⟩ | exact ⟨rfl, _, Eq.trans (World.drewN_drewN _ _ _) (congrArg (World.drewN _) (Nat.add_assoc _ _ _))⟩)
      have H' := Aside0.mk H
      clear H
      go_wp2
      repeat (go_quiet (first | (go_at_call 51; (with_reducible refine (marginaliaref02_Space.calls (bt a0 x1_1) t200 _ A8.out).mono ?_); rintro e w' ⟨rfl, ⟨nd, rfl⟩⟩; (try first | exact ⟨rfl, _, World.drewN_drewN _ _ _⟩ | exact ⟨rfl, _, Eq.trans (World.drewN_drewN _ _ _) (congrArg (World.drewN _) (Nat.add_assoc _ _ _))⟩))); try go_wp2_with (first | (go_at_call 51; (with_reducible refine (marginaliaref02_Space.calls (bt a0 x1_1) t200 _ A8.out).mono ?_); rintro e w' ⟨rfl, ⟨nd, rfl⟩⟩; (try first | exact ⟨rfl, _, World.drewN_drewN _ _ _⟩ | exact ⟨rfl, _, Eq.trans (World.drewN_drewN _ _ _) (congrArg (World.drewN _) (Nat.add_assoc _ _ _))⟩))))
      go_meet
      case rel => exact ⟨_, (!t200), (by first | rfl | (simp; done) | (simp [*]; done)), H', ⟨by have := HK1.out; first | omega | exact Nat.le_refl _⟩, by repeat (first | exact Drawn0.refl _ | apply Drawn0.step)⟩
     ·
      rw [if_neg c6] at H
      exact absurd H (by simp)
    ·
     rw [if_neg c5] at H
     have c5b0 : decide (x1_1 < (a0.size : Int)) = false := decide_eq_false c5
     clear c5
     (first | rw [c5b0] | (simp only [i64_w, i32_w]; rw [c5b0]) | skip)
     have H' := Aside0.mk H
     clear H
     go_wp2
     repeat (go_quiet (fail); try go_wp2)
     go_meet
     case rel => exact ⟨_, (false), (by first | rfl | (simp; done) | (simp [*]; done)), H', ⟨by have := HK1.out; first | omega | exact Nat.le_refl _⟩, by repeat (first | exact Drawn0.refl _ | apply Drawn0.step)⟩
   case rest =>
    clear HC4
    try clear p2
    try clear c5
    try clear c5b0
    try clear c6
    try clear c6b0
    try clear p7
    try clear q7
    try clear hx7
    try clear p2
    try clear p7
    try clear q7
    obtain ⟨kq, x18_3, rfl, HA, HJ3, ⟨mc3, rfl⟩⟩ := hcut
    cases kq with
    | zero => exact absurd HA.out (by simp [marginaliaref04_upTo.j1])
    | succ kj3 =>
     have H := HA.out
     clear HA
     simp only [marginaliaref04_upTo.j1] at H
     by_cases c9 : x18_3 = true
     ·
      subst c9
      replace H := (if_pos rfl).symm.trans H
      have H' := Aside0.mk H
      clear H
      go_wp2
      repeat (go_quiet (fail); try go_wp2)
      go_loopg [7] kj3 (fun kq v7 w' => ∃ (x7_3 : Int), v7 = .int .i64 x7_3 ∧ Aside0 (marginaliaref04_upTo.l1 kq a0 x1_1 a2 x7_3 = some r) ∧ Aside0 (kq ≤ kj3) ∧ Drawn0 w w')
      case atStart => exact ⟨(0), (by first | rfl | (simp; done) | (simp [*]; done)), H', ⟨Nat.le_refl _⟩, by repeat (first | exact Drawn0.refl _ | apply Drawn0.step)⟩
      case round =>
       clear H'
       try clear p2
       try clear c3
       try clear c5
       try clear c5b0
       try clear c6
       try clear c6b0
       try clear p7
       try clear q7
       try clear hx7
       try clear c9
       try clear p2
       try clear p7
       try clear q7
       obtain ⟨x7_3, rfl, HA, HK3, ⟨m3, rfl⟩⟩ := hrel
       cases gk with
       | zero => exact absurd HA.out (by simp [marginaliaref04_upTo.l1])
       | succ k3 =>
        have H := HA.out
        clear HA
        simp only [marginaliaref04_upTo.l1] at H
        by_cases c10 : x7_3 < (a2.size : Int)
        ·
         rw [if_pos c10] at H
         have c10b0 : decide (x7_3 < (a2.size : Int)) = true := decide_eq_true c10
         clear c10
         by_cases c11 : 0 ≤ x7_3
         ·
          rw [if_pos c11] at H
          have c11b0 : decide (0 ≤ x7_3) = true := decide_eq_true c11
          clear c11
          by_cases c13 : 0 ≤ x1_1
          ·
           rw [if_pos c13] at H
           have c13b0 : decide (0 ≤ x1_1) = true := decide_eq_true c13
           clear c13
           by_cases c14 : x1_1 < (a0.size : Int)
           ·
            rw [if_pos c14] at H
            have c14b0 : decide (x1_1 < (a0.size : Int)) = true := decide_eq_true c14
            clear c14
            by_cases c16 : (bt a2 x7_3) = (bt a0 x1_1)
            ·
             rw [if_pos c16] at H
             have c16b0 : ((bt a2 x7_3) == (bt a0 x1_1)) = true := beq_iff_eq.mpr c16
             have c16b1 : ((bt a2 x7_3) != (bt a0 x1_1)) = false := bne_eq_false_iff_eq.mpr c16
             clear c16
             obtain rfl := Option.some.inj H
             have p12 : 0 ≤ (x7_3 : Int) := of_decide_eq_true (by first | (with_reducible assumption) | assumption)
             have q12 : x7_3 < (a2.size : Int) := of_decide_eq_true (by first | (with_reducible assumption) | assumption)
             have hx12 := bt_at a2 x7_3
             replace p12 := eq_true p12
             replace q12 := eq_true q12
             have p15 : 0 ≤ (x1_1 : Int) := of_decide_eq_true (by first | (with_reducible assumption) | assumption)
             have q15 : x1_1 < (a0.size : Int) := of_decide_eq_true (by first | (with_reducible assumption) | assumption)
             have hx15 := bt_at a0 x1_1
             replace p15 := eq_true p15
             replace q15 := eq_true q15
             go_wp2
             repeat (go_quiet (fail); try go_wp2)
             go_ret
             exact ⟨by first | rfl | (simp; done) | (simp [*]; done), by repeat (first | exact Drawn0.refl _ | apply Drawn0.step)⟩
            ·
             rw [if_neg c16] at H
             have c16b0 : ((bt a2 x7_3) == (bt a0 x1_1)) = false := beq_eq_false_iff_ne.mpr c16
             have c16b1 : ((bt a2 x7_3) != (bt a0 x1_1)) = true := bne_iff_ne.mpr c16
             have H' := Aside0.mk H
             clear H
             have p12 : 0 ≤ (x7_3 : Int) := of_decide_eq_true (by first | (with_reducible assumption) | assumption)
             have q12 : x7_3 < (a2.size : Int) := of_decide_eq_true (by first | (with_reducible assumption) | assumption)
             have hx12 := bt_at a2 x7_3
             replace p12 := eq_true p12
             replace q12 := eq_true q12
             have p15 : 0 ≤ (x1_1 : Int) := of_decide_eq_true (by first | (with_reducible assumption) | assumption)
             have q15 : x1_1 < (a0.size : Int) := of_decide_eq_true (by first | (with_reducible assumption) | assumption)
             have hx15 := bt_at a0 x1_1
             replace p15 := eq_true p15
             replace q15 := eq_true q15
             go_wp2
             repeat (go_quiet (fail); try go_wp2)
             go_roundg k3
             case measure => have := HK1.out; have := HJ3.out; have := HK3.out; omega
             case rel => exact ⟨(wrap64 (x7_3 + 1)), (by first | rfl | (simp; done) | (simp [*]; done)), H', ⟨by have := HK1.out; have := HJ3.out; have := HK3.out; omega⟩, by repeat (first | exact Drawn0.refl _ | apply Drawn0.step)⟩
           ·
            rw [if_neg c14] at H
            exact absurd H (by simp)
          ·
           rw [if_neg c13] at H
           exact absurd H (by simp)
         ·
          rw [if_neg c11] at H
          exact absurd H (by simp)
        ·
         rw [if_neg c10] at H
         have c10b0 : decide (x7_3 < (a2.size : Int)) = false := decide_eq_false c10
         clear c10
         have H' := Aside0.mk H
         clear H
         go_wp2
         repeat (go_quiet (fail); try go_wp2)
         go_roundg k3
         case measure => have := HK1.out; have := HJ3.out; have := HK3.out; omega
         case rel => exact ⟨(wrap64 (x1_1 + 1)), (by first | rfl | (simp; done) | (simp [*]; done)), H', ⟨by have := HK1.out; have := HJ3.out; have := HK3.out; omega⟩, by repeat (first | exact Drawn0.refl _ | apply Drawn0.step)⟩
     ·
      replace c9 := Bool.eq_false_iff.mpr c9
      subst c9
      replace H := (if_neg Bool.false_ne_true).symm.trans H
      obtain rfl := Option.some.inj H
      go_wp2
      repeat (go_quiet (fail); try go_wp2)
      go_ret
      exact ⟨by first | rfl | (simp; done) | (simp [*]; done), by repeat (first | exact Drawn0.refl _ | apply Drawn0.step)⟩
/-! ### marginaliaref04_space: function 70 -/
def marginaliaref04_space.l0 : Nat → ByteArray → Int → Option (Int)
  | 0, _, _ => none
  | k + 1, x0, x1 => if x1 < (x0.size : Int) then (if 0 ≤ x1 then ((marginaliaref02_Space.f (bt x0 x1)).bind fun t201 => (if t201 = true then (marginaliaref04_space.l0 k x0 (wrap64 (x1 + 1))) else (some x1))) else (none)) else (some x1)
def marginaliaref04_space.f (k : Nat) (a0 : ByteArray) (a1 : Int) : Option (Int) := marginaliaref04_space.l0 k a0 a1
set_option maxHeartbeats 8000000 in
set_option maxRecDepth 100000 in
theorem marginaliaref04_space.calls (k : Nat) (a0 : ByteArray) (a1 : Int) (r : Int) (w : World) (h : marginaliaref04_space.f k a0 a1 = some r) :
    Calls Try.prog 70 #[.string a0, .int .i64 a1] w fun e w' => e = .returned (.int .i64 r) ∧ Drawn0 w w' := by
 have H : (marginaliaref04_space.l0 k a0 a1) = some r := h
 clear h
 have H' := Aside0.mk H
 clear H
 go_enter Try.func70, Try.ntmps70
 go_wp2
 go_loopg [1] k (fun kq v1 w' => ∃ (x1_1 : Int), v1 = .int .i64 x1_1 ∧ Aside0 (marginaliaref04_space.l0 kq a0 x1_1 = some r) ∧ Aside0 (kq ≤ k) ∧ Drawn0 w w')
 case atStart => exact ⟨(a1), (by first | rfl | (simp; done) | (simp [*]; done)), H', ⟨Nat.le_refl _⟩, by repeat (first | exact Drawn0.refl _ | apply Drawn0.step)⟩
 case round =>
  clear H'
  try clear p2
  obtain ⟨x1_1, rfl, HA, HK1, ⟨m1, rfl⟩⟩ := hrel
  cases gk with
  | zero => exact absurd HA.out (by simp [marginaliaref04_space.l0])
  | succ k1 =>
   have H := HA.out
   clear HA
   simp only [marginaliaref04_space.l0] at H
   by_cases c3 : x1_1 < (a0.size : Int)
   ·
    rw [if_pos c3] at H
    have c3b0 : decide (x1_1 < (a0.size : Int)) = true := decide_eq_true c3
    clear c3
    by_cases c4 : 0 ≤ x1_1
    ·
     rw [if_pos c4] at H
     have c4b0 : decide (0 ≤ x1_1) = true := decide_eq_true c4
     clear c4
     replace H := Option.bind_eq_some_iff.mp H
     obtain ⟨t201, A60, H⟩ := H
     try dsimp only at H
     have A6 := Aside0.mk A60
     clear A60
     have p5 : 0 ≤ (x1_1 : Int) := of_decide_eq_true (by first | (with_reducible assumption) | assumption)
     have q5 : x1_1 < (a0.size : Int) := of_decide_eq_true (by first | (with_reducible assumption) | assumption)
     have hx5 := bt_at a0 x1_1
     replace p5 := eq_true p5
     replace q5 := eq_true q5
     go_wp2_with fail
     (with_reducible refine (marginaliaref02_Space.calls (bt a0 x1_1) t201 _ A6.out).mono ?_)
     rintro e w' ⟨rfl, ⟨nd, rfl⟩⟩
     by_cases c7 : t201 = true
     ·
      subst c7
      replace H := (if_pos rfl).symm.trans H
      have H' := Aside0.mk H
      clear H
      go_wp2
      go_roundg k1
      case measure => have := HK1.out; omega
      case rel => exact ⟨(wrap64 (x1_1 + 1)), (by first | rfl | (simp; done) | (simp [*]; done)), H', ⟨by have := HK1.out; omega⟩, by repeat (first | exact Drawn0.refl _ | apply Drawn0.step)⟩
     ·
      replace c7 := Bool.eq_false_iff.mpr c7
      subst c7
      replace H := (if_neg Bool.false_ne_true).symm.trans H
      obtain rfl := Option.some.inj H
      go_wp2
      go_ret
      exact ⟨by first | rfl | (simp; done) | (simp [*]; done), by repeat (first | exact Drawn0.refl _ | apply Drawn0.step)⟩
    ·
     rw [if_neg c4] at H
     exact absurd H (by simp)
   ·
    rw [if_neg c3] at H
    have c3b0 : decide (x1_1 < (a0.size : Int)) = false := decide_eq_false c3
    clear c3
    obtain rfl := Option.some.inj H
    go_wp2
    go_ret
    exact ⟨by first | rfl | (simp; done) | (simp [*]; done), by repeat (first | exact Drawn0.refl _ | apply Drawn0.step)⟩
/-! ### marginaliaref02_Letter: function 46 -/
def marginaliaref02_Letter.f (a0 : Int) : Option (Bool) := if a0 ≥ 65 then (if a0 ≤ 90 then (some true) else (if a0 ≥ 97 then (some (decide (a0 ≤ 122))) else (some false))) else (if a0 ≥ 97 then (some (decide (a0 ≤ 122))) else (some false))
set_option maxHeartbeats 8000000 in
set_option maxRecDepth 100000 in
theorem marginaliaref02_Letter.calls (a0 : Int) (r : Bool) (w : World) (h : marginaliaref02_Letter.f a0 = some r) :
    Calls Try.prog 46 #[.int .u8 a0] w fun e w' => e = .returned (.bool r) ∧ Drawn0 w w' := by
 have H : (if a0 ≥ 65 then (if a0 ≤ 90 then (some true) else (if a0 ≥ 97 then (some (decide (a0 ≤ 122))) else (some false))) else (if a0 ≥ 97 then (some (decide (a0 ≤ 122))) else (some false))) = some r := h
 clear h
 by_cases c2 : a0 ≥ 65
 ·
  rw [if_pos c2] at H
  have c2b0 : decide (65 ≤ a0) = true := decide_eq_true c2
  clear c2
  by_cases c3 : a0 ≤ 90
  ·
   rw [if_pos c3] at H
   have c3b0 : decide (a0 ≤ 90) = true := decide_eq_true c3
   clear c3
   obtain rfl := Option.some.inj H
   go_enter Try.func46, Try.ntmps46
   go_wp2
   go_ret
   exact ⟨by first | rfl | (simp; done) | (simp [*]; done), by repeat (first | exact Drawn0.refl _ | apply Drawn0.step)⟩
  ·
   rw [if_neg c3] at H
   have c3b0 : decide (a0 ≤ 90) = false := decide_eq_false c3
   clear c3
   by_cases c4 : a0 ≥ 97
   ·
    rw [if_pos c4] at H
    have c4b0 : decide (97 ≤ a0) = true := decide_eq_true c4
    clear c4
    obtain rfl := Option.some.inj H
    go_enter Try.func46, Try.ntmps46
    go_wp2
    go_ret
    exact ⟨by first | rfl | (simp; done) | (simp [*]; done), by repeat (first | exact Drawn0.refl _ | apply Drawn0.step)⟩
   ·
    rw [if_neg c4] at H
    have c4b0 : decide (97 ≤ a0) = false := decide_eq_false c4
    clear c4
    obtain rfl := Option.some.inj H
    go_enter Try.func46, Try.ntmps46
    go_wp2
    go_ret
    exact ⟨by first | rfl | (simp; done) | (simp [*]; done), by repeat (first | exact Drawn0.refl _ | apply Drawn0.step)⟩
 ·
  rw [if_neg c2] at H
  have c2b0 : decide (65 ≤ a0) = false := decide_eq_false c2
  clear c2
  by_cases c5 : a0 ≥ 97
  ·
   rw [if_pos c5] at H
   have c5b0 : decide (97 ≤ a0) = true := decide_eq_true c5
   clear c5
   obtain rfl := Option.some.inj H
   go_enter Try.func46, Try.ntmps46
   go_wp2
   go_ret
   exact ⟨by first | rfl | (simp; done) | (simp [*]; done), by repeat (first | exact Drawn0.refl _ | apply Drawn0.step)⟩
  ·
   rw [if_neg c5] at H
   have c5b0 : decide (97 ≤ a0) = false := decide_eq_false c5
   clear c5
   obtain rfl := Option.some.inj H
   go_enter Try.func46, Try.ntmps46
   go_wp2
   go_ret
   exact ⟨by first | rfl | (simp; done) | (simp [*]; done), by repeat (first | exact Drawn0.refl _ | apply Drawn0.step)⟩
/-! ### marginaliaref03_digit: function 89 -/
mutual
def marginaliaref03_digit.j0 : Nat → Int → Int → Int → Bool → Option (Int)
  | 0, _, _, _, _ => none
  | k + 1, x0, x1, x5, x6 => if x6 = true then (if ((x0 - 48) % 256) ≥ x1 then (some (-1)) else (some ((x0 - 48) % 256))) else (if x0 ≥ 97 then (marginaliaref03_digit.j1 k x0 x1 x5 (decide (x0 ≤ 102))) else (marginaliaref03_digit.j1 k x0 x1 x5 false))
def marginaliaref03_digit.j1 : Nat → Int → Int → Int → Bool → Option (Int)
  | 0, _, _, _, _ => none
  | k + 1, x0, x1, x5, x16 => if x16 = true then (if (((x0 - 97) % 256) + 10) ≥ x1 then (some (-1)) else (some (((x0 - 97) % 256) + 10))) else (if x0 ≥ 65 then (marginaliaref03_digit.j2 k x0 x1 x5 (decide (x0 ≤ 70))) else (marginaliaref03_digit.j2 k x0 x1 x5 false))
def marginaliaref03_digit.j2 : Nat → Int → Int → Int → Bool → Option (Int)
  | 0, _, _, _, _ => none
  | k + 1, x0, x1, x5, x27 => if x27 = true then (if (((x0 - 65) % 256) + 10) ≥ x1 then (some (-1)) else (some (((x0 - 65) % 256) + 10))) else (if x5 ≥ x1 then (some (-1)) else (some x5))
end
def marginaliaref03_digit.f (k : Nat) (a0 : Int) (a1 : Int) : Option (Int) := if a0 ≥ 48 then (marginaliaref03_digit.j0 k a0 a1 (-1) (decide (a0 ≤ 57))) else (marginaliaref03_digit.j0 k a0 a1 (-1) false)
theorem marginaliaref03_digit.mono_l : ∀ k, (∀ y0 y1 y2 y3, LeO (marginaliaref03_digit.j0 k y0 y1 y2 y3) (marginaliaref03_digit.j0 (k + 1) y0 y1 y2 y3)) ∧ (∀ y0 y1 y2 y3, LeO (marginaliaref03_digit.j1 k y0 y1 y2 y3) (marginaliaref03_digit.j1 (k + 1) y0 y1 y2 y3)) ∧ (∀ y0 y1 y2 y3, LeO (marginaliaref03_digit.j2 k y0 y1 y2 y3) (marginaliaref03_digit.j2 (k + 1) y0 y1 y2 y3))
  | 0 => ⟨fun _ _ _ _ r h => by simp [marginaliaref03_digit.j0] at h, fun _ _ _ _ r h => by simp [marginaliaref03_digit.j1] at h, fun _ _ _ _ r h => by simp [marginaliaref03_digit.j2] at h⟩
  | k + 1 => by
    obtain ⟨ih0, ih1, ih2⟩ := marginaliaref03_digit.mono_l k
    refine ⟨?_, ?_, ?_⟩
    · intro y0 y1 y2 y3
      unfold marginaliaref03_digit.j0
      repeat' first
      | (with_reducible exact ih0 _ _ _ _)
      | (with_reducible exact ih1 _ _ _ _)
      | (with_reducible exact ih2 _ _ _ _)
      | (with_reducible exact LeO.refl _)
      | (with_reducible exact LeO.none _)
      | (with_reducible refine LeO.ite ?_ ?_)
      | (with_reducible refine LeO.bind ?_ (fun _ => ?_))
      | exact ih0 _ _ _ _
      | exact ih1 _ _ _ _
      | exact ih2 _ _ _ _
      | exact LeO.none _
      | refine LeO.ite ?_ ?_
      | refine LeO.bind ?_ (fun _ => ?_)
    · intro y0 y1 y2 y3
      unfold marginaliaref03_digit.j1
      repeat' first
      | (with_reducible exact ih0 _ _ _ _)
      | (with_reducible exact ih1 _ _ _ _)
      | (with_reducible exact ih2 _ _ _ _)
      | (with_reducible exact LeO.refl _)
      | (with_reducible exact LeO.none _)
      | (with_reducible refine LeO.ite ?_ ?_)
      | (with_reducible refine LeO.bind ?_ (fun _ => ?_))
      | exact ih0 _ _ _ _
      | exact ih1 _ _ _ _
      | exact ih2 _ _ _ _
      | exact LeO.none _
      | refine LeO.ite ?_ ?_
      | refine LeO.bind ?_ (fun _ => ?_)
    · intro y0 y1 y2 y3
      unfold marginaliaref03_digit.j2
      repeat' first
      | (with_reducible exact ih0 _ _ _ _)
      | (with_reducible exact ih1 _ _ _ _)
      | (with_reducible exact ih2 _ _ _ _)
      | (with_reducible exact LeO.refl _)
      | (with_reducible exact LeO.none _)
      | (with_reducible refine LeO.ite ?_ ?_)
      | (with_reducible refine LeO.bind ?_ (fun _ => ?_))
      | exact ih0 _ _ _ _
      | exact ih1 _ _ _ _
      | exact ih2 _ _ _ _
      | exact LeO.none _
      | refine LeO.ite ?_ ?_
      | refine LeO.bind ?_ (fun _ => ?_)
theorem marginaliaref03_digit.mono : ∀ a0 a1 k, LeO (marginaliaref03_digit.f k a0 a1) (marginaliaref03_digit.f (k + 1) a0 a1) := by
 intro a0 a1 k
 obtain ⟨ih0, ih1, ih2⟩ := marginaliaref03_digit.mono_l k
 unfold marginaliaref03_digit.f
 repeat' first
     | (with_reducible exact ih0 _ _ _ _)
     | (with_reducible exact ih1 _ _ _ _)
     | (with_reducible exact ih2 _ _ _ _)
     | (with_reducible exact LeO.refl _)
     | (with_reducible exact LeO.none _)
     | (with_reducible refine LeO.ite ?_ ?_)
     | (with_reducible refine LeO.bind ?_ (fun _ => ?_))
     | exact ih0 _ _ _ _
     | exact ih1 _ _ _ _
     | exact ih2 _ _ _ _
     | exact LeO.none _
     | refine LeO.ite ?_ ?_
     | refine LeO.bind ?_ (fun _ => ?_)
set_option maxHeartbeats 8000000 in
set_option maxRecDepth 100000 in
theorem marginaliaref03_digit.calls (k : Nat) (a0 : Int) (a1 : Int) (r : Int) (w : World) (h : marginaliaref03_digit.f k a0 a1 = some r) :
    Calls Try.prog 89 #[.int .u8 a0, .int .i64 a1] w fun e w' => e = .returned (.int .i64 r) ∧ Drawn0 w w' := by
 have H : (if a0 ≥ 48 then (marginaliaref03_digit.j0 k a0 a1 (-1) (decide (a0 ≤ 57))) else (marginaliaref03_digit.j0 k a0 a1 (-1) false)) = some r := h
 clear h
 have HC3 := Aside0.mk H
 clear H
 go_enter Try.func89, Try.ntmps89
 go_upto_region 2 with (fail)
 go_cut [6] (fun v6 wc => ∃ (kq : Nat) (x6_2 : Bool), v6 = .bool x6_2 ∧ Aside0 (marginaliaref03_digit.j0 kq a0 a1 (-1) x6_2 = some r) ∧ Aside0 (kq ≤ k) ∧ Drawn0 w wc)
 case first =>
  have H := HC3.out
  clear HC3
  by_cases c4 : a0 ≥ 48
  ·
   rw [if_pos c4] at H
   have c4b0 : decide (48 ≤ a0) = true := decide_eq_true c4
   clear c4
   (first | rw [c4b0] | (simp only [i64_w, i32_w]; rw [c4b0]) | skip)
   have H' := Aside0.mk H
   clear H
   go_wp2
   go_meet
   case rel => exact ⟨_, (decide (a0 ≤ 57)), (by first | rfl | (simp; done) | (simp [*]; done)), H', ⟨by first | omega | exact Nat.le_refl _⟩, by repeat (first | exact Drawn0.refl _ | apply Drawn0.step)⟩
  ·
   rw [if_neg c4] at H
   have c4b0 : decide (48 ≤ a0) = false := decide_eq_false c4
   clear c4
   (first | rw [c4b0] | (simp only [i64_w, i32_w]; rw [c4b0]) | skip)
   have H' := Aside0.mk H
   clear H
   go_wp2
   go_meet
   case rel => exact ⟨_, (false), (by first | rfl | (simp; done) | (simp [*]; done)), H', ⟨by first | omega | exact Nat.le_refl _⟩, by repeat (first | exact Drawn0.refl _ | apply Drawn0.step)⟩
 case rest =>
  clear HC3
  try clear p2
  try clear c4
  try clear c4b0
  obtain ⟨kq, x6_2, rfl, HA, HJ2, ⟨mc2, rfl⟩⟩ := hcut
  cases kq with
  | zero => exact absurd HA.out (by simp [marginaliaref03_digit.j0])
  | succ kj2 =>
   have H := HA.out
   clear HA
   simp only [marginaliaref03_digit.j0] at H
   by_cases c5 : x6_2 = true
   ·
    subst c5
    replace H := (if_pos rfl).symm.trans H
    by_cases c6 : ((a0 - 48) % 256) ≥ a1
    ·
     rw [if_pos c6] at H
     have c6b0 : decide (a1 ≤ ((a0 - 48) % 256)) = true := decide_eq_true c6
     clear c6
     obtain rfl := Option.some.inj H
     go_wp2
     go_ret
     exact ⟨by first | rfl | (simp; done) | (simp [*]; done), by repeat (first | exact Drawn0.refl _ | apply Drawn0.step)⟩
    ·
     rw [if_neg c6] at H
     have c6b0 : decide (a1 ≤ ((a0 - 48) % 256)) = false := decide_eq_false c6
     clear c6
     obtain rfl := Option.some.inj H
     go_wp2
     go_ret
     exact ⟨by first | rfl | (simp; done) | (simp [*]; done), by repeat (first | exact Drawn0.refl _ | apply Drawn0.step)⟩
   ·
    replace c5 := Bool.eq_false_iff.mpr c5
    subst c5
    replace H := (if_neg Bool.false_ne_true).symm.trans H
    have HC7 := Aside0.mk H
    clear H
    go_upto_region 4 with (fail)
    go_cut [16] (fun v16 wc => ∃ (kq : Nat) (x16_6 : Bool), v16 = .bool x16_6 ∧ Aside0 (marginaliaref03_digit.j1 kq a0 a1 (-1) x16_6 = some r) ∧ Aside0 (kq ≤ kj2) ∧ Drawn0 w wc)
    case first =>
     have H := HC7.out
     clear HC7
     by_cases c8 : a0 ≥ 97
     ·
      rw [if_pos c8] at H
      have c8b0 : decide (97 ≤ a0) = true := decide_eq_true c8
      clear c8
      (first | rw [c8b0] | (simp only [i64_w, i32_w]; rw [c8b0]) | skip)
      have H' := Aside0.mk H
      clear H
      go_wp2
      go_meet
      case rel => exact ⟨_, (decide (a0 ≤ 102)), (by first | rfl | (simp; done) | (simp [*]; done)), H', ⟨by have := HJ2.out; first | omega | exact Nat.le_refl _⟩, by repeat (first | exact Drawn0.refl _ | apply Drawn0.step)⟩
     ·
      rw [if_neg c8] at H
      have c8b0 : decide (97 ≤ a0) = false := decide_eq_false c8
      clear c8
      (first | rw [c8b0] | (simp only [i64_w, i32_w]; rw [c8b0]) | skip)
      have H' := Aside0.mk H
      clear H
      go_wp2
      go_meet
      case rel => exact ⟨_, (false), (by first | rfl | (simp; done) | (simp [*]; done)), H', ⟨by have := HJ2.out; first | omega | exact Nat.le_refl _⟩, by repeat (first | exact Drawn0.refl _ | apply Drawn0.step)⟩
    case rest =>
     clear HC7
     try clear c2
     try clear p2
     try clear c4
     try clear c4b0
     try clear c5
     try clear c6
     try clear c6b0
     try clear c8
     try clear c8b0
     try clear p2
     obtain ⟨kq, x16_6, rfl, HA, HJ6, ⟨mc6, rfl⟩⟩ := hcut
     cases kq with
     | zero => exact absurd HA.out (by simp [marginaliaref03_digit.j1])
     | succ kj6 =>
      have H := HA.out
      clear HA
      simp only [marginaliaref03_digit.j1] at H
      by_cases c9 : x16_6 = true
      ·
       subst c9
       replace H := (if_pos rfl).symm.trans H
       by_cases c10 : (((a0 - 97) % 256) + 10) ≥ a1
       ·
        rw [if_pos c10] at H
        have c10b0 : decide (a1 ≤ (((a0 - 97) % 256) + 10)) = true := decide_eq_true c10
        clear c10
        obtain rfl := Option.some.inj H
        go_wp2
        go_ret
        exact ⟨by first | rfl | (simp; done) | (simp [*]; done), by repeat (first | exact Drawn0.refl _ | apply Drawn0.step)⟩
       ·
        rw [if_neg c10] at H
        have c10b0 : decide (a1 ≤ (((a0 - 97) % 256) + 10)) = false := decide_eq_false c10
        clear c10
        obtain rfl := Option.some.inj H
        go_wp2
        go_ret
        exact ⟨by first | rfl | (simp; done) | (simp [*]; done), by repeat (first | exact Drawn0.refl _ | apply Drawn0.step)⟩
      ·
       replace c9 := Bool.eq_false_iff.mpr c9
       subst c9
       replace H := (if_neg Bool.false_ne_true).symm.trans H
       have HC11 := Aside0.mk H
       clear H
       go_upto_region 6 with (fail)
       go_cut [27] (fun v27 wc => ∃ (kq : Nat) (x27_10 : Bool), v27 = .bool x27_10 ∧ Aside0 (marginaliaref03_digit.j2 kq a0 a1 (-1) x27_10 = some r) ∧ Aside0 (kq ≤ kj6) ∧ Drawn0 w wc)
       case first =>
        have H := HC11.out
        clear HC11
        by_cases c12 : a0 ≥ 65
        ·
         rw [if_pos c12] at H
         have c12b0 : decide (65 ≤ a0) = true := decide_eq_true c12
         clear c12
         (first | rw [c12b0] | (simp only [i64_w, i32_w]; rw [c12b0]) | skip)
         have H' := Aside0.mk H
         clear H
         go_wp2
         go_meet
         case rel => exact ⟨_, (decide (a0 ≤ 70)), (by first | rfl | (simp; done) | (simp [*]; done)), H', ⟨by have := HJ2.out; have := HJ6.out; first | omega | exact Nat.le_refl _⟩, by repeat (first | exact Drawn0.refl _ | apply Drawn0.step)⟩
        ·
         rw [if_neg c12] at H
         have c12b0 : decide (65 ≤ a0) = false := decide_eq_false c12
         clear c12
         (first | rw [c12b0] | (simp only [i64_w, i32_w]; rw [c12b0]) | skip)
         have H' := Aside0.mk H
         clear H
         go_wp2
         go_meet
         case rel => exact ⟨_, (false), (by first | rfl | (simp; done) | (simp [*]; done)), H', ⟨by have := HJ2.out; have := HJ6.out; first | omega | exact Nat.le_refl _⟩, by repeat (first | exact Drawn0.refl _ | apply Drawn0.step)⟩
       case rest =>
        clear HC11
        try clear c1
        try clear c2
        try clear p2
        try clear c4
        try clear c4b0
        try clear c5
        try clear c6
        try clear c6b0
        try clear c8
        try clear c8b0
        try clear c9
        try clear c10
        try clear c10b0
        try clear c12
        try clear c12b0
        try clear p2
        obtain ⟨kq, x27_10, rfl, HA, HJ10, ⟨mc10, rfl⟩⟩ := hcut
        cases kq with
        | zero => exact absurd HA.out (by simp [marginaliaref03_digit.j2])
        | succ kj10 =>
         have H := HA.out
         clear HA
         simp only [marginaliaref03_digit.j2] at H
         by_cases c13 : x27_10 = true
         ·
          subst c13
          replace H := (if_pos rfl).symm.trans H
          by_cases c14 : (((a0 - 65) % 256) + 10) ≥ a1
          ·
           rw [if_pos c14] at H
           have c14b0 : decide (a1 ≤ (((a0 - 65) % 256) + 10)) = true := decide_eq_true c14
           clear c14
           obtain rfl := Option.some.inj H
           go_wp2
           go_ret
           exact ⟨by first | rfl | (simp; done) | (simp [*]; done), by repeat (first | exact Drawn0.refl _ | apply Drawn0.step)⟩
          ·
           rw [if_neg c14] at H
           have c14b0 : decide (a1 ≤ (((a0 - 65) % 256) + 10)) = false := decide_eq_false c14
           clear c14
           obtain rfl := Option.some.inj H
           go_wp2
           go_ret
           exact ⟨by first | rfl | (simp; done) | (simp [*]; done), by repeat (first | exact Drawn0.refl _ | apply Drawn0.step)⟩
         ·
          replace c13 := Bool.eq_false_iff.mpr c13
          subst c13
          replace H := (if_neg Bool.false_ne_true).symm.trans H
          by_cases c15 : (-1) ≥ a1
          ·
           rw [if_pos c15] at H
           have c15b0 : decide (a1 ≤ (-1)) = true := decide_eq_true c15
           clear c15
           obtain rfl := Option.some.inj H
           go_wp2
           go_ret
           exact ⟨by first | rfl | (simp; done) | (simp [*]; done), by repeat (first | exact Drawn0.refl _ | apply Drawn0.step)⟩
          ·
           rw [if_neg c15] at H
           have c15b0 : decide (a1 ≤ (-1)) = false := decide_eq_false c15
           clear c15
           obtain rfl := Option.some.inj H
           go_wp2
           go_ret
           exact ⟨by first | rfl | (simp; done) | (simp [*]; done), by repeat (first | exact Drawn0.refl _ | apply Drawn0.step)⟩
/-! ### marginaliaref03_Utf8: function 92 -/
def marginaliaref03_Utf8.f (a0 : Int) : Option (ByteArray) := if a0 < 128 then (some (strOfNums (([(a0) % 256] : List Int)))) else (if a0 < 2048 then (some (strOfNums (([(wrap64 (192 + (wrap64 (Int.tdiv a0 64)))) % 256, (wrap64 (128 + (Int.tmod a0 64))) % 256] : List Int)))) else (if a0 < 65536 then (some (strOfNums (([(wrap64 (224 + (wrap64 (Int.tdiv a0 4096)))) % 256, (wrap64 (128 + (Int.tmod (wrap64 (Int.tdiv a0 64)) 64))) % 256, (wrap64 (128 + (Int.tmod a0 64))) % 256] : List Int)))) else (some (strOfNums (([(wrap64 (240 + (wrap64 (Int.tdiv a0 262144)))) % 256, (wrap64 (128 + (Int.tmod (wrap64 (Int.tdiv a0 4096)) 64))) % 256, (wrap64 (128 + (Int.tmod (wrap64 (Int.tdiv a0 64)) 64))) % 256, (wrap64 (128 + (Int.tmod a0 64))) % 256] : List Int))))))
set_option maxHeartbeats 8000000 in
set_option maxRecDepth 100000 in
theorem marginaliaref03_Utf8.calls (a0 : Int) (r : ByteArray) (w : World) (h : marginaliaref03_Utf8.f a0 = some r) :
    Calls Try.prog 92 #[.int .i64 a0] w fun e w' => e = .returned (.string r) ∧ Below w.heap.size w w' := by
 have HB := Aside0.mk (Below.refl w.heap.size w)
 have H : (if a0 < 128 then (some (strOfNums (([(a0) % 256] : List Int)))) else (if a0 < 2048 then (some (strOfNums (([(wrap64 (192 + (wrap64 (Int.tdiv a0 64)))) % 256, (wrap64 (128 + (Int.tmod a0 64))) % 256] : List Int)))) else (if a0 < 65536 then (some (strOfNums (([(wrap64 (224 + (wrap64 (Int.tdiv a0 4096)))) % 256, (wrap64 (128 + (Int.tmod (wrap64 (Int.tdiv a0 64)) 64))) % 256, (wrap64 (128 + (Int.tmod a0 64))) % 256] : List Int)))) else (some (strOfNums (([(wrap64 (240 + (wrap64 (Int.tdiv a0 262144)))) % 256, (wrap64 (128 + (Int.tmod (wrap64 (Int.tdiv a0 4096)) 64))) % 256, (wrap64 (128 + (Int.tmod (wrap64 (Int.tdiv a0 64)) 64))) % 256, (wrap64 (128 + (Int.tmod a0 64))) % 256] : List Int))))))) = some r := h
 clear h
 by_cases c2 : a0 < 128
 ·
  rw [if_pos c2] at H
  have c2b0 : decide (a0 < 128) = true := decide_eq_true c2
  clear c2
  obtain ⟨y202, hy202⟩ : ∃ y_ : List Int, y_ = (([(a0) % 256] : List Int)) := ⟨_, rfl⟩
  replace H : (some (strOfNums y202)) = some r := by first | (rw [hy202]; with_reducible exact H) | (have H2_ := (Option.bind_some _ _).symm.trans H; rw [hy202]; with_reducible exact H2_) | (have H2_ := (Option.bind_some _ _).symm.trans H; with_reducible exact H2_) | with_reducible exact H | (rw [hy202]; exact H) | exact H
  have Ny202 := Aside0.mk hy202
  clear hy202
  obtain rfl := Option.some.inj H
  go_enter Try.func92, Try.ntmps92
  go_wp2_with (first | ((with_reducible refine gate_dst (N := 8) rfl ?_); refine Kd.R_lit (Kd.int .u8) _ 5 ?hg (N := 8) ?hd (xs := ([(a0) % 256] : List Int)) (inner := [.int .u8 ((a0) % 256)]) (ok := fun _ => True) (okp := fun _ => True) ?hr ?hp (fun _ hk => hk) trivial (Below.refl _ _) (Nat.le_refl _) (by simp) ?_; (case hd => rfl); (case hg => rfl); (case hr => first | (go_simp; done) | (go_simp; rfl)); (case hp => exact (Reps.one (show Kd.M (Kd.int .u8) _ _ _ ((a0) % 256) [.int .u8 ((a0) % 256)] from rfl) (Reps.none _ _))); intro v203 w3 ho4 hb hg_ hnew_; clear hg_ hnew_; (first | rw [← Ny202.out] at ho4 | (simp only [Int.reduceToNat] at ho4; rw [← Ny202.out] at ho4)); have n0_ := Aside0.mk (Kd.R_lower ho4 (below_size (by repeat (first | (with_reducible first | exact HB.out | apply below_alloc | apply pw_below_drewN | apply below_drew1) | exact HB.out)))); have n1_ := Aside0.mk (below_step (by repeat (first | (with_reducible first | exact HB.out | apply below_alloc | apply pw_below_drewN | apply below_drew1) | exact HB.out)) hb); clear HB; have HO204 := n0_; have HB := n1_; clear n0_ n1_; clear hb ho4; have hcv5 := own_string (P := Try.prog) Try.underlying59 Try.underlying5 Try.underlying9 (Kd.own_of_R HO204.out)))
  go_ret
  exact ⟨by first | rfl | (simp [errW_none, errW_some] <;> rfl) | (simp [*, errW_none, errW_some] <;> rfl), by repeat (first | (with_reducible first | exact HB.out | apply below_alloc | apply pw_below_drewN | apply below_drew1) | exact HB.out)⟩
 ·
  rw [if_neg c2] at H
  have c2b0 : decide (a0 < 128) = false := decide_eq_false c2
  clear c2
  by_cases c6 : a0 < 2048
  ·
   rw [if_pos c6] at H
   have c6b0 : decide (a0 < 2048) = true := decide_eq_true c6
   clear c6
   obtain ⟨y205, hy205⟩ : ∃ y_ : List Int, y_ = (([(wrap64 (192 + (wrap64 (Int.tdiv a0 64)))) % 256, (wrap64 (128 + (Int.tmod a0 64))) % 256] : List Int)) := ⟨_, rfl⟩
   replace H : (some (strOfNums y205)) = some r := by first | (rw [hy205]; with_reducible exact H) | (have H2_ := (Option.bind_some _ _).symm.trans H; rw [hy205]; with_reducible exact H2_) | (have H2_ := (Option.bind_some _ _).symm.trans H; with_reducible exact H2_) | with_reducible exact H | (rw [hy205]; exact H) | exact H
   have Ny205 := Aside0.mk hy205
   clear hy205
   obtain rfl := Option.some.inj H
   go_enter Try.func92, Try.ntmps92
   go_wp2_with (first | ((with_reducible refine gate_dst (N := 21) rfl ?_); refine Kd.R_lit (Kd.int .u8) _ 5 ?hg (N := 21) ?hd (xs := ([(wrap64 (192 + (wrap64 (Int.tdiv a0 64)))) % 256, (wrap64 (128 + (Int.tmod a0 64))) % 256] : List Int)) (inner := [.int .u8 ((wrap64 (192 + (wrap64 (Int.tdiv a0 64)))) % 256), .int .u8 ((wrap64 (128 + (Int.tmod a0 64))) % 256)]) (ok := fun _ => True) (okp := fun _ => True) ?hr ?hp (fun _ hk => hk) trivial (Below.refl _ _) (Nat.le_refl _) (by simp) ?_; (case hd => rfl); (case hg => rfl); (case hr => first | (go_simp; done) | (go_simp; rfl)); (case hp => exact (Reps.one (show Kd.M (Kd.int .u8) _ _ _ ((wrap64 (192 + (wrap64 (Int.tdiv a0 64)))) % 256) [.int .u8 ((wrap64 (192 + (wrap64 (Int.tdiv a0 64)))) % 256)] from rfl) (Reps.one (show Kd.M (Kd.int .u8) _ _ _ ((wrap64 (128 + (Int.tmod a0 64))) % 256) [.int .u8 ((wrap64 (128 + (Int.tmod a0 64))) % 256)] from rfl) (Reps.none _ _)))); intro v206 w7 ho8 hb hg_ hnew_; clear hg_ hnew_; (first | rw [← Ny205.out] at ho8 | (simp only [Int.reduceToNat] at ho8; rw [← Ny205.out] at ho8)); have n0_ := Aside0.mk (Kd.R_lower ho8 (below_size (by repeat (first | (with_reducible first | exact HB.out | apply below_alloc | apply pw_below_drewN | apply below_drew1) | exact HB.out)))); have n1_ := Aside0.mk (below_step (by repeat (first | (with_reducible first | exact HB.out | apply below_alloc | apply pw_below_drewN | apply below_drew1) | exact HB.out)) hb); clear HB; have HO207 := n0_; have HB := n1_; clear n0_ n1_; clear hb ho8; have hcv9 := own_string (P := Try.prog) Try.underlying59 Try.underlying5 Try.underlying9 (Kd.own_of_R HO207.out)))
   go_ret
   exact ⟨by first | rfl | (simp [errW_none, errW_some] <;> rfl) | (simp [*, errW_none, errW_some] <;> rfl), by repeat (first | (with_reducible first | exact HB.out | apply below_alloc | apply pw_below_drewN | apply below_drew1) | exact HB.out)⟩
  ·
   rw [if_neg c6] at H
   have c6b0 : decide (a0 < 2048) = false := decide_eq_false c6
   clear c6
   by_cases c10 : a0 < 65536
   ·
    rw [if_pos c10] at H
    have c10b0 : decide (a0 < 65536) = true := decide_eq_true c10
    clear c10
    obtain ⟨y208, hy208⟩ : ∃ y_ : List Int, y_ = (([(wrap64 (224 + (wrap64 (Int.tdiv a0 4096)))) % 256, (wrap64 (128 + (Int.tmod (wrap64 (Int.tdiv a0 64)) 64))) % 256, (wrap64 (128 + (Int.tmod a0 64))) % 256] : List Int)) := ⟨_, rfl⟩
    replace H : (some (strOfNums y208)) = some r := by first | (rw [hy208]; with_reducible exact H) | (have H2_ := (Option.bind_some _ _).symm.trans H; rw [hy208]; with_reducible exact H2_) | (have H2_ := (Option.bind_some _ _).symm.trans H; with_reducible exact H2_) | with_reducible exact H | (rw [hy208]; exact H) | exact H
    have Ny208 := Aside0.mk hy208
    clear hy208
    obtain rfl := Option.some.inj H
    go_enter Try.func92, Try.ntmps92
    go_wp2_with (first | ((with_reducible refine gate_dst (N := 39) rfl ?_); refine Kd.R_lit (Kd.int .u8) _ 5 ?hg (N := 39) ?hd (xs := ([(wrap64 (224 + (wrap64 (Int.tdiv a0 4096)))) % 256, (wrap64 (128 + (Int.tmod (wrap64 (Int.tdiv a0 64)) 64))) % 256, (wrap64 (128 + (Int.tmod a0 64))) % 256] : List Int)) (inner := [.int .u8 ((wrap64 (224 + (wrap64 (Int.tdiv a0 4096)))) % 256), .int .u8 ((wrap64 (128 + (Int.tmod (wrap64 (Int.tdiv a0 64)) 64))) % 256), .int .u8 ((wrap64 (128 + (Int.tmod a0 64))) % 256)]) (ok := fun _ => True) (okp := fun _ => True) ?hr ?hp (fun _ hk => hk) trivial (Below.refl _ _) (Nat.le_refl _) (by simp) ?_; (case hd => rfl); (case hg => rfl); (case hr => first | (go_simp; done) | (go_simp; rfl)); (case hp => exact (Reps.one (show Kd.M (Kd.int .u8) _ _ _ ((wrap64 (224 + (wrap64 (Int.tdiv a0 4096)))) % 256) [.int .u8 ((wrap64 (224 + (wrap64 (Int.tdiv a0 4096)))) % 256)] from rfl) (Reps.one (show Kd.M (Kd.int .u8) _ _ _ ((wrap64 (128 + (Int.tmod (wrap64 (Int.tdiv a0 64)) 64))) % 256) [.int .u8 ((wrap64 (128 + (Int.tmod (wrap64 (Int.tdiv a0 64)) 64))) % 256)] from rfl) (Reps.one (show Kd.M (Kd.int .u8) _ _ _ ((wrap64 (128 + (Int.tmod a0 64))) % 256) [.int .u8 ((wrap64 (128 + (Int.tmod a0 64))) % 256)] from rfl) (Reps.none _ _))))); intro v209 w11 ho12 hb hg_ hnew_; clear hg_ hnew_; (first | rw [← Ny208.out] at ho12 | (simp only [Int.reduceToNat] at ho12; rw [← Ny208.out] at ho12)); have n0_ := Aside0.mk (Kd.R_lower ho12 (below_size (by repeat (first | (with_reducible first | exact HB.out | apply below_alloc | apply pw_below_drewN | apply below_drew1) | exact HB.out)))); have n1_ := Aside0.mk (below_step (by repeat (first | (with_reducible first | exact HB.out | apply below_alloc | apply pw_below_drewN | apply below_drew1) | exact HB.out)) hb); clear HB; have HO210 := n0_; have HB := n1_; clear n0_ n1_; clear hb ho12; have hcv13 := own_string (P := Try.prog) Try.underlying59 Try.underlying5 Try.underlying9 (Kd.own_of_R HO210.out)))
    go_ret
    exact ⟨by first | rfl | (simp [errW_none, errW_some] <;> rfl) | (simp [*, errW_none, errW_some] <;> rfl), by repeat (first | (with_reducible first | exact HB.out | apply below_alloc | apply pw_below_drewN | apply below_drew1) | exact HB.out)⟩
   ·
    rw [if_neg c10] at H
    have c10b0 : decide (a0 < 65536) = false := decide_eq_false c10
    clear c10
    obtain ⟨y211, hy211⟩ : ∃ y_ : List Int, y_ = (([(wrap64 (240 + (wrap64 (Int.tdiv a0 262144)))) % 256, (wrap64 (128 + (Int.tmod (wrap64 (Int.tdiv a0 4096)) 64))) % 256, (wrap64 (128 + (Int.tmod (wrap64 (Int.tdiv a0 64)) 64))) % 256, (wrap64 (128 + (Int.tmod a0 64))) % 256] : List Int)) := ⟨_, rfl⟩
    replace H : (some (strOfNums y211)) = some r := by first | (rw [hy211]; with_reducible exact H) | (have H2_ := (Option.bind_some _ _).symm.trans H; rw [hy211]; with_reducible exact H2_) | (have H2_ := (Option.bind_some _ _).symm.trans H; with_reducible exact H2_) | with_reducible exact H | (rw [hy211]; exact H) | exact H
    have Ny211 := Aside0.mk hy211
    clear hy211
    obtain rfl := Option.some.inj H
    go_enter Try.func92, Try.ntmps92
    go_wp2_with (first | ((with_reducible refine gate_dst (N := 59) rfl ?_); refine Kd.R_lit (Kd.int .u8) _ 5 ?hg (N := 59) ?hd (xs := ([(wrap64 (240 + (wrap64 (Int.tdiv a0 262144)))) % 256, (wrap64 (128 + (Int.tmod (wrap64 (Int.tdiv a0 4096)) 64))) % 256, (wrap64 (128 + (Int.tmod (wrap64 (Int.tdiv a0 64)) 64))) % 256, (wrap64 (128 + (Int.tmod a0 64))) % 256] : List Int)) (inner := [.int .u8 ((wrap64 (240 + (wrap64 (Int.tdiv a0 262144)))) % 256), .int .u8 ((wrap64 (128 + (Int.tmod (wrap64 (Int.tdiv a0 4096)) 64))) % 256), .int .u8 ((wrap64 (128 + (Int.tmod (wrap64 (Int.tdiv a0 64)) 64))) % 256), .int .u8 ((wrap64 (128 + (Int.tmod a0 64))) % 256)]) (ok := fun _ => True) (okp := fun _ => True) ?hr ?hp (fun _ hk => hk) trivial (Below.refl _ _) (Nat.le_refl _) (by simp) ?_; (case hd => rfl); (case hg => rfl); (case hr => first | (go_simp; done) | (go_simp; rfl)); (case hp => exact (Reps.one (show Kd.M (Kd.int .u8) _ _ _ ((wrap64 (240 + (wrap64 (Int.tdiv a0 262144)))) % 256) [.int .u8 ((wrap64 (240 + (wrap64 (Int.tdiv a0 262144)))) % 256)] from rfl) (Reps.one (show Kd.M (Kd.int .u8) _ _ _ ((wrap64 (128 + (Int.tmod (wrap64 (Int.tdiv a0 4096)) 64))) % 256) [.int .u8 ((wrap64 (128 + (Int.tmod (wrap64 (Int.tdiv a0 4096)) 64))) % 256)] from rfl) (Reps.one (show Kd.M (Kd.int .u8) _ _ _ ((wrap64 (128 + (Int.tmod (wrap64 (Int.tdiv a0 64)) 64))) % 256) [.int .u8 ((wrap64 (128 + (Int.tmod (wrap64 (Int.tdiv a0 64)) 64))) % 256)] from rfl) (Reps.one (show Kd.M (Kd.int .u8) _ _ _ ((wrap64 (128 + (Int.tmod a0 64))) % 256) [.int .u8 ((wrap64 (128 + (Int.tmod a0 64))) % 256)] from rfl) (Reps.none _ _)))))); intro v212 w14 ho15 hb hg_ hnew_; clear hg_ hnew_; (first | rw [← Ny211.out] at ho15 | (simp only [Int.reduceToNat] at ho15; rw [← Ny211.out] at ho15)); have n0_ := Aside0.mk (Kd.R_lower ho15 (below_size (by repeat (first | (with_reducible first | exact HB.out | apply below_alloc | apply pw_below_drewN | apply below_drew1) | exact HB.out)))); have n1_ := Aside0.mk (below_step (by repeat (first | (with_reducible first | exact HB.out | apply below_alloc | apply pw_below_drewN | apply below_drew1) | exact HB.out)) hb); clear HB; have HO213 := n0_; have HB := n1_; clear n0_ n1_; clear hb ho15; have hcv16 := own_string (P := Try.prog) Try.underlying59 Try.underlying5 Try.underlying9 (Kd.own_of_R HO213.out)))
    go_ret
    exact ⟨by first | rfl | (simp [errW_none, errW_some] <;> rfl) | (simp [*, errW_none, errW_some] <;> rfl), by repeat (first | (with_reducible first | exact HB.out | apply below_alloc | apply pw_below_drewN | apply below_drew1) | exact HB.out)⟩
/-! ### marginaliaref03_old: function 98 -/
def marginaliaref03_old.f (a0 : Int) : Option (Int) := (some (([8364, 129, 8218, 402, 8222, 8230, 8224, 8225, 710, 8240, 352, 8249, 338, 141, 381, 143, 144, 8216, 8217, 8220, 8221, 8226, 8211, 8212, 732, 8482, 353, 8250, 339, 157, 382, 376] : List Int) : List Int)).bind fun y214 => (if 0 ≤ (wrap64 (a0 - 128)) then (if (wrap64 (a0 - 128)) < (y214.length : Int) then (some (rd y214 (wrap64 (a0 - 128)))) else (none)) else (none))
set_option maxHeartbeats 8000000 in
set_option maxRecDepth 100000 in
theorem marginaliaref03_old.calls (a0 : Int) (r : Int) (w : World) (h : marginaliaref03_old.f a0 = some r) :
    Calls Try.prog 98 #[.int .i64 a0] w fun e w' => e = .returned (.int .i64 r) ∧ Below w.heap.size w w' := by
 have HB := Aside0.mk (Below.refl w.heap.size w)
 have H : ((some (([8364, 129, 8218, 402, 8222, 8230, 8224, 8225, 710, 8240, 352, 8249, 338, 141, 381, 143, 144, 8216, 8217, 8220, 8221, 8226, 8211, 8212, 732, 8482, 353, 8250, 339, 157, 382, 376] : List Int) : List Int)).bind fun y214 => (if 0 ≤ (wrap64 (a0 - 128)) then (if (wrap64 (a0 - 128)) < (y214.length : Int) then (some (rd y214 (wrap64 (a0 - 128)))) else (none)) else (none))) = some r := h
 clear h
 obtain ⟨y214, hy214⟩ : ∃ y_ : List Int, y_ = (([8364, 129, 8218, 402, 8222, 8230, 8224, 8225, 710, 8240, 352, 8249, 338, 141, 381, 143, 144, 8216, 8217, 8220, 8221, 8226, 8211, 8212, 732, 8482, 353, 8250, 339, 157, 382, 376] : List Int)) := ⟨_, rfl⟩
 replace H : (if 0 ≤ (wrap64 (a0 - 128)) then (if (wrap64 (a0 - 128)) < (y214.length : Int) then (some (rd y214 (wrap64 (a0 - 128)))) else (none)) else (none)) = some r := by first | (rw [hy214]; with_reducible exact H) | (have H2_ := (Option.bind_some _ _).symm.trans H; rw [hy214]; with_reducible exact H2_) | (have H2_ := (Option.bind_some _ _).symm.trans H; with_reducible exact H2_) | with_reducible exact H | (rw [hy214]; exact H) | exact H
 have Ny214 := Aside0.mk hy214
 clear hy214
 obtain ⟨ji2, hji2⟩ : ∃ j_ : Int, (wrap64 (a0 - 128)) = j_ := ⟨_, rfl⟩
 replace H : (if 0 ≤ (ji2) then (if (ji2) < (y214.length : Int) then (some (rd y214 (ji2))) else (none)) else (none)) = some r := by first | (rw [hji2] at H; exact H) | (simp only [hji2] at H ⊢; exact H)
 have hji2w : (IntKind.i64.wrap (a0 - 128)) = ji2 := (i64_w _).trans hji2
 by_cases c3 : 0 ≤ (ji2)
 ·
  rw [if_pos c3] at H
  have c3b0 : decide (0 ≤ (ji2)) = true := decide_eq_true c3
  clear c3
  by_cases c4 : (ji2) < (y214.length : Int)
  ·
   rw [if_pos c4] at H
   have c4b0 : decide ((ji2) < (y214.length : Int)) = true := decide_eq_true c4
   clear c4
   obtain rfl := Option.some.inj H
   go_enter Try.func98, Try.ntmps98
   go_wp2_with (first | ((with_reducible refine gate_dst (N := 4) rfl ?_); refine Kd.R_lit (Kd.int .i64) _ 3 ?hg (N := 4) ?hd (xs := ([8364, 129, 8218, 402, 8222, 8230, 8224, 8225, 710, 8240, 352, 8249, 338, 141, 381, 143, 144, 8216, 8217, 8220, 8221, 8226, 8211, 8212, 732, 8482, 353, 8250, 339, 157, 382, 376] : List Int)) (inner := [.int .i64 8364, .int .i64 129, .int .i64 8218, .int .i64 402, .int .i64 8222, .int .i64 8230, .int .i64 8224, .int .i64 8225, .int .i64 710, .int .i64 8240, .int .i64 352, .int .i64 8249, .int .i64 338, .int .i64 141, .int .i64 381, .int .i64 143, .int .i64 144, .int .i64 8216, .int .i64 8217, .int .i64 8220, .int .i64 8221, .int .i64 8226, .int .i64 8211, .int .i64 8212, .int .i64 732, .int .i64 8482, .int .i64 353, .int .i64 8250, .int .i64 339, .int .i64 157, .int .i64 382, .int .i64 376]) (ok := fun _ => True) (okp := fun _ => True) ?hr ?hp (fun _ hk => hk) trivial (Below.refl _ _) (Nat.le_refl _) (by simp) ?_; (case hd => rfl); (case hg => rfl); (case hr => first | (go_simp; done) | (go_simp; rfl)); (case hp => exact (Reps.one (show Kd.M (Kd.int .i64) _ _ _ 8364 [.int .i64 8364] from rfl) (Reps.one (show Kd.M (Kd.int .i64) _ _ _ 129 [.int .i64 129] from rfl) (Reps.one (show Kd.M (Kd.int .i64) _ _ _ 8218 [.int .i64 8218] from rfl) (Reps.one (show Kd.M (Kd.int .i64) _ _ _ 402 [.int .i64 402] from rfl) (Reps.one (show Kd.M (Kd.int .i64) _ _ _ 8222 [.int .i64 8222] from rfl) (Reps.one (show Kd.M (Kd.int .i64) _ _ _ 8230 [.int .i64 8230] from rfl) (Reps.one (show Kd.M (Kd.int .i64) _ _ _ 8224 [.int .i64 8224] from rfl) (Reps.one (show Kd.M (Kd.int .i64) _ _ _ 8225 [.int .i64 8225] from rfl) (Reps.one (show Kd.M (Kd.int .i64) _ _ _ 710 [.int .i64 710] from rfl) (Reps.one (show Kd.M (Kd.int .i64) _ _ _ 8240 [.int .i64 8240] from rfl) (Reps.one (show Kd.M (Kd.int .i64) _ _ _ 352 [.int .i64 352] from rfl) (Reps.one (show Kd.M (Kd.int .i64) _ _ _ 8249 [.int .i64 8249] from rfl) (Reps.one (show Kd.M (Kd.int .i64) _ _ _ 338 [.int .i64 338] from rfl) (Reps.one (show Kd.M (Kd.int .i64) _ _ _ 141 [.int .i64 141] from rfl) (Reps.one (show Kd.M (Kd.int .i64) _ _ _ 381 [.int .i64 381] from rfl) (Reps.one (show Kd.M (Kd.int .i64) _ _ _ 143 [.int .i64 143] from rfl) (Reps.one (show Kd.M (Kd.int .i64) _ _ _ 144 [.int .i64 144] from rfl) (Reps.one (show Kd.M (Kd.int .i64) _ _ _ 8216 [.int .i64 8216] from rfl) (Reps.one (show Kd.M (Kd.int .i64) _ _ _ 8217 [.int .i64 8217] from rfl) (Reps.one (show Kd.M (Kd.int .i64) _ _ _ 8220 [.int .i64 8220] from rfl) (Reps.one (show Kd.M (Kd.int .i64) _ _ _ 8221 [.int .i64 8221] from rfl) (Reps.one (show Kd.M (Kd.int .i64) _ _ _ 8226 [.int .i64 8226] from rfl) (Reps.one (show Kd.M (Kd.int .i64) _ _ _ 8211 [.int .i64 8211] from rfl) (Reps.one (show Kd.M (Kd.int .i64) _ _ _ 8212 [.int .i64 8212] from rfl) (Reps.one (show Kd.M (Kd.int .i64) _ _ _ 732 [.int .i64 732] from rfl) (Reps.one (show Kd.M (Kd.int .i64) _ _ _ 8482 [.int .i64 8482] from rfl) (Reps.one (show Kd.M (Kd.int .i64) _ _ _ 353 [.int .i64 353] from rfl) (Reps.one (show Kd.M (Kd.int .i64) _ _ _ 8250 [.int .i64 8250] from rfl) (Reps.one (show Kd.M (Kd.int .i64) _ _ _ 339 [.int .i64 339] from rfl) (Reps.one (show Kd.M (Kd.int .i64) _ _ _ 157 [.int .i64 157] from rfl) (Reps.one (show Kd.M (Kd.int .i64) _ _ _ 382 [.int .i64 382] from rfl) (Reps.one (show Kd.M (Kd.int .i64) _ _ _ 376 [.int .i64 376] from rfl) (Reps.none _ _)))))))))))))))))))))))))))))))))); intro v215 w5 ho6 hb hg_ hnew_; clear hg_ hnew_; (first | rw [← Ny214.out] at ho6 | (simp only [Int.reduceToNat] at ho6; rw [← Ny214.out] at ho6)); have n0_ := Aside0.mk (Kd.R_lower ho6 (below_size (by repeat (first | (with_reducible first | exact HB.out | apply below_alloc | apply pw_below_drewN | apply below_drew1) | exact HB.out)))); have n1_ := Aside0.mk (below_step (by repeat (first | (with_reducible first | exact HB.out | apply below_alloc | apply pw_below_drewN | apply below_drew1) | exact HB.out)) hb); clear HB; have HO216 := n0_; have HB := n1_; clear n0_ n1_; clear hb ho6; obtain ⟨Ao7, co7, eo7⟩ := Kd.R_slice HO216.out; subst eo7; have p217 : 0 ≤ ((ji2) : Int) := of_decide_eq_true (by first | (with_reducible assumption) | assumption); have q217 : (ji2) < (y214.length : Int) := of_decide_eq_true (by first | (with_reducible assumption) | assumption); obtain ⟨ad217, e217, hx217_0⟩ := Kd.at_int (Kd.R_reads' HO216.out).2.2 (ji2) p217 q217; cases e217; replace p217 := eq_true p217; replace q217 := eq_true q217))
   go_ret
   exact ⟨by first | rfl | (simp [errW_none, errW_some] <;> rfl) | (simp only [← hji2]; first | rfl | (simp [errW_none, errW_some] <;> rfl)) | (simp [*, errW_none, errW_some] <;> rfl), by repeat (first | (with_reducible first | exact HB.out | apply below_alloc | apply pw_below_drewN | apply below_drew1) | exact HB.out)⟩
  ·
   rw [if_neg c4] at H
   exact absurd H (by simp)
 ·
  rw [if_neg c3] at H
  exact absurd H (by simp)
/-! ### marginaliaref03_Number: function 90 -/
mutual
def marginaliaref03_Number.j0 : Nat → Int → Bool → Option (ByteArray)
  | 0, _, _ => none
  | k + 1, x0, x3 => if x3 = true then ((marginaliaref03_Utf8.f 65533).bind fun t218 => (some t218)) else (if x0 ≥ 128 then (marginaliaref03_Number.j1 k x0 (decide (x0 ≤ 159))) else (marginaliaref03_Number.j1 k x0 false))
def marginaliaref03_Number.j1 : Nat → Int → Bool → Option (ByteArray)
  | 0, _, _ => none
  | k + 1, x0, x19 => if x19 = true then ((marginaliaref03_old.f x0).bind fun t219 => ((marginaliaref03_Utf8.f t219).bind fun t220 => (some t220))) else ((marginaliaref03_Utf8.f x0).bind fun t221 => (some t221))
end
def marginaliaref03_Number.f (k : Nat) (a0 : Int) : Option (ByteArray) := if a0 ≤ 0 then (marginaliaref03_Number.j0 k a0 true) else (if a0 > 1114111 then (marginaliaref03_Number.j0 k a0 true) else (if a0 ≥ 55296 then (marginaliaref03_Number.j0 k a0 (decide (a0 ≤ 57343))) else (marginaliaref03_Number.j0 k a0 false)))
theorem marginaliaref03_Number.mono_l : ∀ k, (∀ y0 y1, LeO (marginaliaref03_Number.j0 k y0 y1) (marginaliaref03_Number.j0 (k + 1) y0 y1)) ∧ (∀ y0 y1, LeO (marginaliaref03_Number.j1 k y0 y1) (marginaliaref03_Number.j1 (k + 1) y0 y1))
  | 0 => ⟨fun _ _ r h => by simp [marginaliaref03_Number.j0] at h, fun _ _ r h => by simp [marginaliaref03_Number.j1] at h⟩
  | k + 1 => by
    obtain ⟨ih0, ih1⟩ := marginaliaref03_Number.mono_l k
    refine ⟨?_, ?_⟩
    · intro y0 y1
      unfold marginaliaref03_Number.j0
      repeat' first
      | (with_reducible exact ih0 _ _)
      | (with_reducible exact ih1 _ _)
      | (with_reducible exact LeO.refl _)
      | (with_reducible exact LeO.none _)
      | (with_reducible refine LeO.ite ?_ ?_)
      | (with_reducible refine LeO.bind ?_ (fun _ => ?_))
      | exact ih0 _ _
      | exact ih1 _ _
      | exact LeO.none _
      | refine LeO.ite ?_ ?_
      | refine LeO.bind ?_ (fun _ => ?_)
    · intro y0 y1
      unfold marginaliaref03_Number.j1
      repeat' first
      | (with_reducible exact ih0 _ _)
      | (with_reducible exact ih1 _ _)
      | (with_reducible exact LeO.refl _)
      | (with_reducible exact LeO.none _)
      | (with_reducible refine LeO.ite ?_ ?_)
      | (with_reducible refine LeO.bind ?_ (fun _ => ?_))
      | exact ih0 _ _
      | exact ih1 _ _
      | exact LeO.none _
      | refine LeO.ite ?_ ?_
      | refine LeO.bind ?_ (fun _ => ?_)
theorem marginaliaref03_Number.mono : ∀ a0 k, LeO (marginaliaref03_Number.f k a0) (marginaliaref03_Number.f (k + 1) a0) := by
 intro a0 k
 obtain ⟨ih0, ih1⟩ := marginaliaref03_Number.mono_l k
 unfold marginaliaref03_Number.f
 repeat' first
     | (with_reducible exact ih0 _ _)
     | (with_reducible exact ih1 _ _)
     | (with_reducible exact LeO.refl _)
     | (with_reducible exact LeO.none _)
     | (with_reducible refine LeO.ite ?_ ?_)
     | (with_reducible refine LeO.bind ?_ (fun _ => ?_))
     | exact ih0 _ _
     | exact ih1 _ _
     | exact LeO.none _
     | refine LeO.ite ?_ ?_
     | refine LeO.bind ?_ (fun _ => ?_)
set_option maxHeartbeats 8000000 in
set_option maxRecDepth 100000 in
theorem marginaliaref03_Number.calls (k : Nat) (a0 : Int) (r : ByteArray) (w : World) (h : marginaliaref03_Number.f k a0 = some r) :
    Calls Try.prog 90 #[.int .i64 a0] w fun e w' => e = .returned (.string r) ∧ Below w.heap.size w w' := by
 have HB := Aside0.mk (Below.refl w.heap.size w)
 have H : (if a0 ≤ 0 then (marginaliaref03_Number.j0 k a0 true) else (if a0 > 1114111 then (marginaliaref03_Number.j0 k a0 true) else (if a0 ≥ 55296 then (marginaliaref03_Number.j0 k a0 (decide (a0 ≤ 57343))) else (marginaliaref03_Number.j0 k a0 false)))) = some r := h
 clear h
 have HC2 := Aside0.mk H
 clear H
 go_enter Try.func90, Try.ntmps90
 go_upto_region 1 with (fail)
 go_cut [3] (fun v3 wc => ∃ (kq : Nat) (x3_1 : Bool), v3 = .bool x3_1 ∧ Aside0 (marginaliaref03_Number.j0 kq a0 x3_1 = some r) ∧ Aside0 (kq ≤ k) ∧ Aside0 (Below w.heap.size w wc))
 case first =>
  have H := HC2.out
  clear HC2
  by_cases c3 : a0 ≤ 0
  ·
   rw [if_pos c3] at H
   have c3b0 : decide (a0 ≤ 0) = true := decide_eq_true c3
   clear c3
   (first | rw [c3b0] | (simp only [i64_w, i32_w]; rw [c3b0]) | skip)
   have H' := Aside0.mk H
   clear H
   go_wp2
   go_meet
   case rel => exact ⟨_, (true), (by first | rfl | (simp; done) | (simp [*]; done)), H', ⟨by first | omega | exact Nat.le_refl _⟩, ⟨by repeat (first | (with_reducible first | exact HB.out | apply below_alloc | apply pw_below_drewN | apply below_drew1) | exact HB.out)⟩⟩
  ·
   rw [if_neg c3] at H
   have c3b0 : decide (a0 ≤ 0) = false := decide_eq_false c3
   clear c3
   (first | rw [c3b0] | (simp only [i64_w, i32_w]; rw [c3b0]) | skip)
   by_cases c4 : a0 > 1114111
   ·
    rw [if_pos c4] at H
    have c4b0 : decide (1114111 < a0) = true := decide_eq_true c4
    clear c4
    have H' := Aside0.mk H
    clear H
    go_wp2
    go_meet
    case rel => exact ⟨_, (true), (by first | rfl | (simp; done) | (simp [*]; done)), H', ⟨by first | omega | exact Nat.le_refl _⟩, ⟨by repeat (first | (with_reducible first | exact HB.out | apply below_alloc | apply pw_below_drewN | apply below_drew1) | exact HB.out)⟩⟩
   ·
    rw [if_neg c4] at H
    have c4b0 : decide (1114111 < a0) = false := decide_eq_false c4
    clear c4
    by_cases c5 : a0 ≥ 55296
    ·
     rw [if_pos c5] at H
     have c5b0 : decide (55296 ≤ a0) = true := decide_eq_true c5
     clear c5
     have H' := Aside0.mk H
     clear H
     go_wp2
     go_meet
     case rel => exact ⟨_, (decide (a0 ≤ 57343)), (by first | rfl | (simp; done) | (simp [*]; done)), H', ⟨by first | omega | exact Nat.le_refl _⟩, ⟨by repeat (first | (with_reducible first | exact HB.out | apply below_alloc | apply pw_below_drewN | apply below_drew1) | exact HB.out)⟩⟩
    ·
     rw [if_neg c5] at H
     have c5b0 : decide (55296 ≤ a0) = false := decide_eq_false c5
     clear c5
     have H' := Aside0.mk H
     clear H
     go_wp2
     go_meet
     case rel => exact ⟨_, (false), (by first | rfl | (simp; done) | (simp [*]; done)), H', ⟨by first | omega | exact Nat.le_refl _⟩, ⟨by repeat (first | (with_reducible first | exact HB.out | apply below_alloc | apply pw_below_drewN | apply below_drew1) | exact HB.out)⟩⟩
 case rest =>
  clear HC2
  try clear p2
  try clear c3
  try clear c3b0
  try clear c4
  try clear c4b0
  try clear c5
  try clear c5b0
  obtain ⟨kq, x3_1, rfl, HA, HJ1, HB⟩ := hcut
  cases kq with
  | zero => exact absurd HA.out (by simp [marginaliaref03_Number.j0])
  | succ kj1 =>
   have H := HA.out
   clear HA
   simp only [marginaliaref03_Number.j0] at H
   by_cases c6 : x3_1 = true
   ·
    subst c6
    replace H := (if_pos rfl).symm.trans H
    replace H := Option.bind_eq_some_iff.mp H
    obtain ⟨t218, A70, H⟩ := H
    try dsimp only at H
    have A7 := Aside0.mk A70
    clear A70
    go_wp2_with fail
    (with_reducible refine (marginaliaref03_Utf8.calls 65533 t218 _ A7.out).mono ?_)
    rintro e w8 ⟨rfl, hb⟩
    have n0_ := Aside0.mk (below_step (by repeat (first | (with_reducible first | exact HB.out | apply below_alloc | apply pw_below_drewN | apply below_drew1) | exact HB.out)) hb)
    clear HB
    have HB := n0_
    clear n0_
    (try clear hb)
    (try clear hb2)
    (try clear hk)
    (try clear hi)
    obtain rfl := Option.some.inj H
    go_wp2
    go_ret
    exact ⟨by first | rfl | (simp [errW_none, errW_some] <;> rfl) | (simp [*, errW_none, errW_some] <;> rfl), by repeat (first | (with_reducible first | exact HB.out | apply below_alloc | apply pw_below_drewN | apply below_drew1) | exact HB.out)⟩
   ·
    replace c6 := Bool.eq_false_iff.mpr c6
    subst c6
    replace H := (if_neg Bool.false_ne_true).symm.trans H
    have HC9 := Aside0.mk H
    clear H
    go_upto_region 3 with (fail)
    go_cut [19] (fun v19 wc => ∃ (kq : Nat) (x19_8 : Bool), v19 = .bool x19_8 ∧ Aside0 (marginaliaref03_Number.j1 kq a0 x19_8 = some r) ∧ Aside0 (kq ≤ kj1) ∧ Aside0 (Below w.heap.size w wc))
    case first =>
     have H := HC9.out
     clear HC9
     by_cases c10 : a0 ≥ 128
     ·
      rw [if_pos c10] at H
      have c10b0 : decide (128 ≤ a0) = true := decide_eq_true c10
      clear c10
      (first | rw [c10b0] | (simp only [i64_w, i32_w]; rw [c10b0]) | skip)
      have H' := Aside0.mk H
      clear H
      go_wp2
      go_meet
      case rel => exact ⟨_, (decide (a0 ≤ 159)), (by first | rfl | (simp; done) | (simp [*]; done)), H', ⟨by have := HJ1.out; first | omega | exact Nat.le_refl _⟩, ⟨by repeat (first | (with_reducible first | exact HB.out | apply below_alloc | apply pw_below_drewN | apply below_drew1) | exact HB.out)⟩⟩
     ·
      rw [if_neg c10] at H
      have c10b0 : decide (128 ≤ a0) = false := decide_eq_false c10
      clear c10
      (first | rw [c10b0] | (simp only [i64_w, i32_w]; rw [c10b0]) | skip)
      have H' := Aside0.mk H
      clear H
      go_wp2
      go_meet
      case rel => exact ⟨_, (false), (by first | rfl | (simp; done) | (simp [*]; done)), H', ⟨by have := HJ1.out; first | omega | exact Nat.le_refl _⟩, ⟨by repeat (first | (with_reducible first | exact HB.out | apply below_alloc | apply pw_below_drewN | apply below_drew1) | exact HB.out)⟩⟩
    case rest =>
     clear HC9
     try clear c1
     try clear p2
     try clear c3
     try clear c3b0
     try clear c4
     try clear c4b0
     try clear c5
     try clear c5b0
     try clear c6
     try clear c9
     try clear c10
     try clear c10b0
     try clear p2
     obtain ⟨kq, x19_8, rfl, HA, HJ8, HB⟩ := hcut
     cases kq with
     | zero => exact absurd HA.out (by simp [marginaliaref03_Number.j1])
     | succ kj8 =>
      have H := HA.out
      clear HA
      simp only [marginaliaref03_Number.j1] at H
      by_cases c11 : x19_8 = true
      ·
       subst c11
       replace H := (if_pos rfl).symm.trans H
       replace H := Option.bind_eq_some_iff.mp H
       obtain ⟨t219, A120, H⟩ := H
       try dsimp only at H
       have A12 := Aside0.mk A120
       clear A120
       go_wp2_with fail
       (with_reducible refine (marginaliaref03_old.calls a0 t219 _ A12.out).mono ?_)
       rintro e w14 ⟨rfl, hb⟩
       have n0_ := Aside0.mk (below_step (by repeat (first | (with_reducible first | exact HB.out | apply below_alloc | apply pw_below_drewN | apply below_drew1) | exact HB.out)) hb)
       clear HB
       have HB := n0_
       clear n0_
       (try clear hb)
       (try clear hb2)
       (try clear hk)
       (try clear hi)
       replace H := Option.bind_eq_some_iff.mp H
       obtain ⟨t220, A130, H⟩ := H
       try dsimp only at H
       have A13 := Aside0.mk A130
       clear A130
       go_wp2_with fail
       (with_reducible refine (marginaliaref03_Utf8.calls t219 t220 _ A13.out).mono ?_)
       rintro e w15 ⟨rfl, hb⟩
       have n0_ := Aside0.mk (below_step (by repeat (first | (with_reducible first | exact HB.out | apply below_alloc | apply pw_below_drewN | apply below_drew1) | exact HB.out)) hb)
       clear HB
       have HB := n0_
       clear n0_
       (try clear hb)
       (try clear hb2)
       (try clear hk)
       (try clear hi)
       obtain rfl := Option.some.inj H
       go_wp2
       go_ret
       exact ⟨by first | rfl | (simp [errW_none, errW_some] <;> rfl) | (simp [*, errW_none, errW_some] <;> rfl), by repeat (first | (with_reducible first | exact HB.out | apply below_alloc | apply pw_below_drewN | apply below_drew1) | exact HB.out)⟩
      ·
       replace c11 := Bool.eq_false_iff.mpr c11
       subst c11
       replace H := (if_neg Bool.false_ne_true).symm.trans H
       replace H := Option.bind_eq_some_iff.mp H
       obtain ⟨t221, A160, H⟩ := H
       try dsimp only at H
       have A16 := Aside0.mk A160
       clear A160
       go_wp2_with fail
       (with_reducible refine (marginaliaref03_Utf8.calls a0 t221 _ A16.out).mono ?_)
       rintro e w17 ⟨rfl, hb⟩
       have n0_ := Aside0.mk (below_step (by repeat (first | (with_reducible first | exact HB.out | apply below_alloc | apply pw_below_drewN | apply below_drew1) | exact HB.out)) hb)
       clear HB
       have HB := n0_
       clear n0_
       (try clear hb)
       (try clear hb2)
       (try clear hk)
       (try clear hi)
       obtain rfl := Option.some.inj H
       go_wp2
       go_ret
       exact ⟨by first | rfl | (simp [errW_none, errW_some] <;> rfl) | (simp [*, errW_none, errW_some] <;> rfl), by repeat (first | (with_reducible first | exact HB.out | apply below_alloc | apply pw_below_drewN | apply below_drew1) | exact HB.out)⟩
/-! ### marginaliaref03_number: function 72 -/
mutual
def marginaliaref03_number.j0 : Nat → ByteArray → Int → Int → Int → Bool → Option (ByteArray × Int)
  | 0, _, _, _, _, _ => none
  | k + 1, x0, x1, x6, x7, x27 => if x27 = true then (marginaliaref03_number.j1 k x0 x1 (wrap64 (x6 + 1)) 16) else (marginaliaref03_number.j1 k x0 x1 x6 x7)
def marginaliaref03_number.j1 : Nat → ByteArray → Int → Int → Int → Option (ByteArray × Int)
  | 0, _, _, _, _ => none
  | k + 1, x0, x1, x6, x7 => marginaliaref03_number.l0 k x0 x1 x6 x7 0 0
def marginaliaref03_number.l0 : Nat → ByteArray → Int → Int → Int → Int → Int → Option (ByteArray × Int)
  | 0, _, _, _, _, _, _ => none
  | k + 1, x0, x1, x6, x7, x8, x9 => if x6 < (x0.size : Int) then (if 0 ≤ x6 then ((marginaliaref03_digit.f k (bt x0 x6) x7).bind fun t222 => (marginaliaref03_number.j3 k x0 x1 x6 x7 x8 x9 (decide (t222 ≥ 0)))) else (none)) else (marginaliaref03_number.j3 k x0 x1 x6 x7 x8 x9 false)
def marginaliaref03_number.j3 : Nat → ByteArray → Int → Int → Int → Int → Int → Bool → Option (ByteArray × Int)
  | 0, _, _, _, _, _, _, _ => none
  | k + 1, x0, x1, x6, x7, x8, x9, x41 => if x41 = true then (if 0 ≤ x6 then (if x6 < (x0.size : Int) then ((marginaliaref03_digit.f k (bt x0 x6) x7).bind fun t223 => (if (wrap64 ((wrap64 (x8 * x7)) + t223)) > 1114111 then (marginaliaref03_number.l0 k x0 x1 (wrap64 (x6 + 1)) x7 1114112 (wrap64 (x9 + 1))) else (marginaliaref03_number.l0 k x0 x1 (wrap64 (x6 + 1)) x7 (wrap64 ((wrap64 (x8 * x7)) + t223)) (wrap64 (x9 + 1))))) else (none)) else (none)) else (if x9 = 0 then (some ((⟨#[]⟩ : ByteArray), 0)) else (if x6 < (x0.size : Int) then (if 0 ≤ x6 then (if (bt x0 x6) = 59 then ((marginaliaref03_Number.f k x8).bind fun t224 => (some (t224, wrap64 ((wrap64 (x6 + 1)) - x1)))) else ((marginaliaref03_Number.f k x8).bind fun t225 => (some (t225, wrap64 (x6 - x1))))) else (none)) else ((marginaliaref03_Number.f k x8).bind fun t226 => (some (t226, wrap64 (x6 - x1))))))
end
def marginaliaref03_number.f (k : Nat) (a0 : ByteArray) (a1 : Int) : Option (ByteArray × Int) := if (wrap64 (a1 + 2)) < (a0.size : Int) then (if 0 ≤ (wrap64 (a1 + 2)) then (if (bt a0 (wrap64 (a1 + 2))) = 120 then (marginaliaref03_number.j0 k a0 a1 (wrap64 (a1 + 2)) 10 true) else (marginaliaref03_number.j0 k a0 a1 (wrap64 (a1 + 2)) 10 ((bt a0 (wrap64 (a1 + 2))) == 88))) else (none)) else (marginaliaref03_number.j0 k a0 a1 (wrap64 (a1 + 2)) 10 false)
theorem marginaliaref03_number.mono_l : ∀ k, (∀ y0 y1 y2 y3 y4, LeO (marginaliaref03_number.j0 k y0 y1 y2 y3 y4) (marginaliaref03_number.j0 (k + 1) y0 y1 y2 y3 y4)) ∧ (∀ y0 y1 y2 y3, LeO (marginaliaref03_number.j1 k y0 y1 y2 y3) (marginaliaref03_number.j1 (k + 1) y0 y1 y2 y3)) ∧ (∀ y0 y1 y2 y3 y4 y5, LeO (marginaliaref03_number.l0 k y0 y1 y2 y3 y4 y5) (marginaliaref03_number.l0 (k + 1) y0 y1 y2 y3 y4 y5)) ∧ (∀ y0 y1 y2 y3 y4 y5 y6, LeO (marginaliaref03_number.j3 k y0 y1 y2 y3 y4 y5 y6) (marginaliaref03_number.j3 (k + 1) y0 y1 y2 y3 y4 y5 y6))
  | 0 => ⟨fun _ _ _ _ _ r h => by simp [marginaliaref03_number.j0] at h, fun _ _ _ _ r h => by simp [marginaliaref03_number.j1] at h, fun _ _ _ _ _ _ r h => by simp [marginaliaref03_number.l0] at h, fun _ _ _ _ _ _ _ r h => by simp [marginaliaref03_number.j3] at h⟩
  | k + 1 => by
    obtain ⟨ih0, ih1, ih2, ih3⟩ := marginaliaref03_number.mono_l k
    refine ⟨?_, ?_, ?_, ?_⟩
    · intro y0 y1 y2 y3 y4
      unfold marginaliaref03_number.j0
      repeat' first
      | (with_reducible exact ih0 _ _ _ _ _)
      | (with_reducible exact ih1 _ _ _ _)
      | (with_reducible exact ih2 _ _ _ _ _ _)
      | (with_reducible exact ih3 _ _ _ _ _ _ _)
      | (with_reducible exact marginaliaref03_Number.mono _ _)
      | (with_reducible exact marginaliaref03_digit.mono _ _ _)
      | (with_reducible exact LeO.refl _)
      | (with_reducible exact LeO.none _)
      | (with_reducible refine LeO.ite ?_ ?_)
      | (with_reducible refine LeO.bind ?_ (fun _ => ?_))
      | exact ih0 _ _ _ _ _
      | exact ih1 _ _ _ _
      | exact ih2 _ _ _ _ _ _
      | exact ih3 _ _ _ _ _ _ _
      | exact marginaliaref03_Number.mono _ _
      | exact marginaliaref03_digit.mono _ _ _
      | exact LeO.none _
      | refine LeO.ite ?_ ?_
      | refine LeO.bind ?_ (fun _ => ?_)
    · intro y0 y1 y2 y3
      unfold marginaliaref03_number.j1
      repeat' first
      | (with_reducible exact ih0 _ _ _ _ _)
      | (with_reducible exact ih1 _ _ _ _)
      | (with_reducible exact ih2 _ _ _ _ _ _)
      | (with_reducible exact ih3 _ _ _ _ _ _ _)
      | (with_reducible exact marginaliaref03_Number.mono _ _)
      | (with_reducible exact marginaliaref03_digit.mono _ _ _)
      | (with_reducible exact LeO.refl _)
      | (with_reducible exact LeO.none _)
      | (with_reducible refine LeO.ite ?_ ?_)
      | (with_reducible refine LeO.bind ?_ (fun _ => ?_))
      | exact ih0 _ _ _ _ _
      | exact ih1 _ _ _ _
      | exact ih2 _ _ _ _ _ _
      | exact ih3 _ _ _ _ _ _ _
      | exact marginaliaref03_Number.mono _ _
      | exact marginaliaref03_digit.mono _ _ _
      | exact LeO.none _
      | refine LeO.ite ?_ ?_
      | refine LeO.bind ?_ (fun _ => ?_)
    · intro y0 y1 y2 y3 y4 y5
      unfold marginaliaref03_number.l0
      repeat' first
      | (with_reducible exact ih0 _ _ _ _ _)
      | (with_reducible exact ih1 _ _ _ _)
      | (with_reducible exact ih2 _ _ _ _ _ _)
      | (with_reducible exact ih3 _ _ _ _ _ _ _)
      | (with_reducible exact marginaliaref03_Number.mono _ _)
      | (with_reducible exact marginaliaref03_digit.mono _ _ _)
      | (with_reducible exact LeO.refl _)
      | (with_reducible exact LeO.none _)
      | (with_reducible refine LeO.ite ?_ ?_)
      | (with_reducible refine LeO.bind ?_ (fun _ => ?_))
      | exact ih0 _ _ _ _ _
      | exact ih1 _ _ _ _
      | exact ih2 _ _ _ _ _ _
      | exact ih3 _ _ _ _ _ _ _
      | exact marginaliaref03_Number.mono _ _
      | exact marginaliaref03_digit.mono _ _ _
      | exact LeO.none _
      | refine LeO.ite ?_ ?_
      | refine LeO.bind ?_ (fun _ => ?_)
    · intro y0 y1 y2 y3 y4 y5 y6
      unfold marginaliaref03_number.j3
      repeat' first
      | (with_reducible exact ih0 _ _ _ _ _)
      | (with_reducible exact ih1 _ _ _ _)
      | (with_reducible exact ih2 _ _ _ _ _ _)
      | (with_reducible exact ih3 _ _ _ _ _ _ _)
      | (with_reducible exact marginaliaref03_Number.mono _ _)
      | (with_reducible exact marginaliaref03_digit.mono _ _ _)
      | (with_reducible exact LeO.refl _)
      | (with_reducible exact LeO.none _)
      | (with_reducible refine LeO.ite ?_ ?_)
      | (with_reducible refine LeO.bind ?_ (fun _ => ?_))
      | exact ih0 _ _ _ _ _
      | exact ih1 _ _ _ _
      | exact ih2 _ _ _ _ _ _
      | exact ih3 _ _ _ _ _ _ _
      | exact marginaliaref03_Number.mono _ _
      | exact marginaliaref03_digit.mono _ _ _
      | exact LeO.none _
      | refine LeO.ite ?_ ?_
      | refine LeO.bind ?_ (fun _ => ?_)
theorem marginaliaref03_number.mono : ∀ a0 a1 k, LeO (marginaliaref03_number.f k a0 a1) (marginaliaref03_number.f (k + 1) a0 a1) := by
 intro a0 a1 k
 obtain ⟨ih0, ih1, ih2, ih3⟩ := marginaliaref03_number.mono_l k
 unfold marginaliaref03_number.f
 repeat' first
     | (with_reducible exact ih0 _ _ _ _ _)
     | (with_reducible exact ih1 _ _ _ _)
     | (with_reducible exact ih2 _ _ _ _ _ _)
     | (with_reducible exact ih3 _ _ _ _ _ _ _)
     | (with_reducible exact marginaliaref03_Number.mono _ _)
     | (with_reducible exact marginaliaref03_digit.mono _ _ _)
     | (with_reducible exact LeO.refl _)
     | (with_reducible exact LeO.none _)
     | (with_reducible refine LeO.ite ?_ ?_)
     | (with_reducible refine LeO.bind ?_ (fun _ => ?_))
     | exact ih0 _ _ _ _ _
     | exact ih1 _ _ _ _
     | exact ih2 _ _ _ _ _ _
     | exact ih3 _ _ _ _ _ _ _
     | exact marginaliaref03_Number.mono _ _
     | exact marginaliaref03_digit.mono _ _ _
     | exact LeO.none _
     | refine LeO.ite ?_ ?_
     | refine LeO.bind ?_ (fun _ => ?_)
set_option maxHeartbeats 8000000 in
set_option maxRecDepth 100000 in
theorem marginaliaref03_number.calls (k : Nat) (a0 : ByteArray) (a1 : Int) (r1 : ByteArray) (r2 : Int) (w : World) (h : marginaliaref03_number.f k a0 a1 = some (r1, r2)) :
    Calls Try.prog 72 #[.string a0, .int .i64 a1] w fun e w' => e = .returned (.tuple #[.string r1, .int .i64 r2]) ∧ Below w.heap.size w w' := by
 have HB := Aside0.mk (Below.refl w.heap.size w)
 have H : (if (wrap64 (a1 + 2)) < (a0.size : Int) then (if 0 ≤ (wrap64 (a1 + 2)) then (if (bt a0 (wrap64 (a1 + 2))) = 120 then (marginaliaref03_number.j0 k a0 a1 (wrap64 (a1 + 2)) 10 true) else (marginaliaref03_number.j0 k a0 a1 (wrap64 (a1 + 2)) 10 ((bt a0 (wrap64 (a1 + 2))) == 88))) else (none)) else (marginaliaref03_number.j0 k a0 a1 (wrap64 (a1 + 2)) 10 false)) = some (r1, r2) := h
 clear h
 have HC3 := Aside0.mk H
 clear H
 go_enter Try.func72, Try.ntmps72
 go_upto_region 2 with (fail)
 go_cut [27] (fun v27 wc => ∃ (kq : Nat) (x27_2 : Bool), v27 = .bool x27_2 ∧ Aside0 (marginaliaref03_number.j0 kq a0 a1 (wrap64 (a1 + 2)) 10 x27_2 = some (r1, r2)) ∧ Aside0 (kq ≤ k) ∧ Aside0 (Below w.heap.size w wc))
 case first =>
  have H := HC3.out
  clear HC3
  by_cases c4 : (wrap64 (a1 + 2)) < (a0.size : Int)
  ·
   rw [if_pos c4] at H
   have c4b0 : decide ((wrap64 (a1 + 2)) < (a0.size : Int)) = true := decide_eq_true c4
   clear c4
   (first | rw [c4b0] | (simp only [i64_w, i32_w]; rw [c4b0]) | skip)
   obtain ⟨ji5, hji5⟩ : ∃ j_ : Int, (wrap64 (a1 + 2)) = j_ := ⟨_, rfl⟩
   replace H : (if 0 ≤ (ji5) then (if (bt a0 (ji5)) = 120 then (marginaliaref03_number.j0 k a0 a1 ji5 10 true) else (marginaliaref03_number.j0 k a0 a1 ji5 10 ((bt a0 (ji5)) == 88))) else (none)) = some (r1, r2) := by first | (rw [hji5] at H; exact H) | (simp only [hji5] at H ⊢; exact H)
   (try rw [hji5] at c4b0)
   have hji5w : (IntKind.i64.wrap (a1 + 2)) = ji5 := (i64_w _).trans hji5
   by_cases c6 : 0 ≤ (ji5)
   ·
    rw [if_pos c6] at H
    have c6b0 : decide (0 ≤ (ji5)) = true := decide_eq_true c6
    clear c6
    by_cases c8 : (bt a0 (ji5)) = 120
    ·
     rw [if_pos c8] at H
     have c8b0 : ((bt a0 (ji5)) == 120) = true := beq_iff_eq.mpr c8
     have c8b1 : ((bt a0 (ji5)) != 120) = false := bne_eq_false_iff_eq.mpr c8
     clear c8
     have H' := Aside0.mk H
     clear H
     have p7 : 0 ≤ ((ji5) : Int) := of_decide_eq_true (by first | (with_reducible assumption) | assumption)
     have q7 : (ji5) < (a0.size : Int) := of_decide_eq_true (by first | (with_reducible assumption) | assumption)
     have hx7 := bt_at a0 (ji5)
     replace p7 := eq_true p7
     replace q7 := eq_true q7
     go_wp2
     go_meet
     case rel => exact ⟨k, (true), (by first | rfl | (simp; done) | (simp [*]; done)), (by first | exact H' | (simp only [hji5]; exact H') | (simp only [hji5]; exact H')), ⟨by first | omega | exact Nat.le_refl _⟩, ⟨by repeat (first | (with_reducible first | exact HB.out | apply below_alloc | apply pw_below_drewN | apply below_drew1) | exact HB.out)⟩⟩
    ·
     rw [if_neg c8] at H
     have c8b0 : ((bt a0 (ji5)) == 120) = false := beq_eq_false_iff_ne.mpr c8
     have c8b1 : ((bt a0 (ji5)) != 120) = true := bne_iff_ne.mpr c8
     have H' := Aside0.mk H
     clear H
     have p7 : 0 ≤ ((ji5) : Int) := of_decide_eq_true (by first | (with_reducible assumption) | assumption)
     have q7 : (ji5) < (a0.size : Int) := of_decide_eq_true (by first | (with_reducible assumption) | assumption)
     have hx7 := bt_at a0 (ji5)
     replace p7 := eq_true p7
     replace q7 := eq_true q7
     have p9 : 0 ≤ ((ji5) : Int) := of_decide_eq_true (by first | (with_reducible assumption) | assumption)
     have q9 : (ji5) < (a0.size : Int) := of_decide_eq_true (by first | (with_reducible assumption) | assumption)
     have hx9 := bt_at a0 (ji5)
     replace p9 := eq_true p9
     replace q9 := eq_true q9
     go_wp2
     go_meet
     case rel => exact ⟨k, (((bt a0 (ji5)) == 88)), (by first | rfl | (simp; done) | (simp only [← hji5] <;> (first | rfl | simp)) | (simp [*]; done)), (by first | exact H' | (simp only [hji5]; exact H') | (simp only [hji5]; exact H')), ⟨by first | omega | exact Nat.le_refl _⟩, ⟨by repeat (first | (with_reducible first | exact HB.out | apply below_alloc | apply pw_below_drewN | apply below_drew1) | exact HB.out)⟩⟩
   ·
    rw [if_neg c6] at H
    exact absurd H (by simp)
  ·
   rw [if_neg c4] at H
   have c4b0 : decide ((wrap64 (a1 + 2)) < (a0.size : Int)) = false := decide_eq_false c4
   clear c4
   (first | rw [c4b0] | (simp only [i64_w, i32_w]; rw [c4b0]) | skip)
   have H' := Aside0.mk H
   clear H
   go_wp2
   go_meet
   case rel => exact ⟨_, (false), (by first | rfl | (simp; done) | (simp [*]; done)), H', ⟨by first | omega | exact Nat.le_refl _⟩, ⟨by repeat (first | (with_reducible first | exact HB.out | apply below_alloc | apply pw_below_drewN | apply below_drew1) | exact HB.out)⟩⟩
 case rest =>
  clear HC3
  try clear p2
  try clear c4
  try clear c4b0
  try clear c6
  try clear c6b0
  try clear p6
  try clear c7
  try clear p7
  try clear q7
  try clear hx7
  try clear c8
  try clear c8b0
  try clear c8b1
  try clear p9
  try clear q9
  try clear hx9
  try clear p7
  try clear p9
  try clear q7
  try clear q9
  obtain ⟨kq, x27_2, rfl, HA, HJ2, HB⟩ := hcut
  cases kq with
  | zero => exact absurd HA.out (by simp [marginaliaref03_number.j0])
  | succ kj2 =>
   have H := HA.out
   clear HA
   simp only [marginaliaref03_number.j0] at H
   have HC10 := Aside0.mk H
   clear H
   go_upto_if 27 with (fail)
   go_cut [6, 7] (fun v6 v7 wc => ∃ (kq : Nat) (x6_9 : Int) (x7_9 : Int), v6 = .int .i64 x6_9 ∧ v7 = .int .i64 x7_9 ∧ Aside0 (marginaliaref03_number.j1 kq a0 a1 x6_9 x7_9 = some (r1, r2)) ∧ Aside0 (kq ≤ kj2) ∧ Aside0 (Below w.heap.size w wc))
   case first =>
    have H := HC10.out
    clear HC10
    by_cases c11 : x27_2 = true
    ·
     subst c11
     replace H := (if_pos rfl).symm.trans H
     have H' := Aside0.mk H
     clear H
     go_wp2
     go_meet
     case rel => exact ⟨_, (wrap64 ((wrap64 (a1 + 2)) + 1)), (16), (by first | rfl | (simp; done) | (simp [*]; done)), (by first | rfl | (simp; done) | (simp [*]; done)), H', ⟨by have := HJ2.out; first | omega | exact Nat.le_refl _⟩, ⟨by repeat (first | (with_reducible first | exact HB.out | apply below_alloc | apply pw_below_drewN | apply below_drew1) | exact HB.out)⟩⟩
    ·
     replace c11 := Bool.eq_false_iff.mpr c11
     subst c11
     replace H := (if_neg Bool.false_ne_true).symm.trans H
     have H' := Aside0.mk H
     clear H
     go_wp2
     go_meet
     case rel => exact ⟨_, ((wrap64 (a1 + 2))), (10), (by first | rfl | (simp; done) | (simp [*]; done)), (by first | rfl | (simp; done) | (simp [*]; done)), H', ⟨by have := HJ2.out; first | omega | exact Nat.le_refl _⟩, ⟨by repeat (first | (with_reducible first | exact HB.out | apply below_alloc | apply pw_below_drewN | apply below_drew1) | exact HB.out)⟩⟩
   case rest =>
    clear HC10
    try clear c1
    try clear p2
    try clear c4
    try clear c4b0
    try clear c6
    try clear c6b0
    try clear p6
    try clear c7
    try clear p7
    try clear q7
    try clear hx7
    try clear c8
    try clear c8b0
    try clear c8b1
    try clear p9
    try clear q9
    try clear hx9
    try clear c11
    try clear p2
    try clear p6
    try clear p7
    try clear p9
    try clear q7
    try clear q9
    obtain ⟨kq, x6_9, x7_9, rfl, rfl, HA, HJ9, HB⟩ := hcut
    cases kq with
    | zero => exact absurd HA.out (by simp [marginaliaref03_number.j1])
    | succ kj9 =>
     have H := HA.out
     clear HA
     simp only [marginaliaref03_number.j1] at H
     have H' := Aside0.mk H
     clear H
     go_wp2
     go_loopg [6, 8, 9] kj9 (fun kq v6 v8 v9 w' => ∃ (x6_3 : Int) (x8_3 : Int) (x9_3 : Int), v6 = .int .i64 x6_3 ∧ v8 = .int .i64 x8_3 ∧ v9 = .int .i64 x9_3 ∧ Aside0 (marginaliaref03_number.l0 kq a0 a1 x6_3 x7_9 x8_3 x9_3 = some (r1, r2)) ∧ Aside0 (kq ≤ kj9) ∧ Aside0 (Below w.heap.size w w'))
     case atStart => exact ⟨(x6_9), (0), (0), (by first | rfl | (simp; done) | (simp [*]; done)), (by first | rfl | (simp; done) | (simp [*]; done)), (by first | rfl | (simp; done) | (simp [*]; done)), H', ⟨Nat.le_refl _⟩, ⟨by repeat (first | (with_reducible first | exact HB.out | apply below_alloc | apply pw_below_drewN | apply below_drew1) | exact HB.out)⟩⟩
     case round =>
      clear H'
      try clear c1
      try clear p2
      try clear c4
      try clear c4b0
      try clear c6
      try clear c6b0
      try clear p6
      try clear c7
      try clear p7
      try clear q7
      try clear hx7
      try clear c8
      try clear c8b0
      try clear c8b1
      try clear p9
      try clear q9
      try clear hx9
      try clear c11
      try clear p2
      try clear p6
      try clear p7
      try clear p9
      try clear q7
      try clear q9
      obtain ⟨x6_3, x8_3, x9_3, rfl, rfl, rfl, HA, HK3, HB⟩ := hrel
      cases gk with
      | zero => exact absurd HA.out (by simp [marginaliaref03_number.l0])
      | succ k3 =>
       have H := HA.out
       clear HA
       simp only [marginaliaref03_number.l0] at H
       have HC12 := Aside0.mk H
       clear H
       go_upto_region 6 with (fail)
       go_cut [41] (fun v41 wc => ∃ (kq : Nat) (x41_11 : Bool), v41 = .bool x41_11 ∧ Aside0 (marginaliaref03_number.j3 kq a0 a1 x6_3 x7_9 x8_3 x9_3 x41_11 = some (r1, r2)) ∧ Aside0 (kq ≤ k3) ∧ Aside0 (Below w.heap.size w wc))
       case first =>
        have H := HC12.out
        clear HC12
        by_cases c13 : x6_3 < (a0.size : Int)
        ·
         rw [if_pos c13] at H
         have c13b0 : decide (x6_3 < (a0.size : Int)) = true := decide_eq_true c13
         clear c13
         (first | rw [c13b0] | (simp only [i64_w, i32_w]; rw [c13b0]) | skip)
         by_cases c14 : 0 ≤ x6_3
         ·
          rw [if_pos c14] at H
          have c14b0 : decide (0 ≤ x6_3) = true := decide_eq_true c14
          clear c14
          replace H := Option.bind_eq_some_iff.mp H
          obtain ⟨t222, A160, H⟩ := H
          try dsimp only at H
          have A16 := Aside0.mk A160
          clear A160
          have p15 : 0 ≤ (x6_3 : Int) := of_decide_eq_true (by first | (with_reducible assumption) | assumption)
          have q15 : x6_3 < (a0.size : Int) := of_decide_eq_true (by first | (with_reducible assumption) | assumption)
          have hx15 := bt_at a0 x6_3
          replace p15 := eq_true p15
          replace q15 := eq_true q15
          go_wp2_with fail
          (with_reducible refine (marginaliaref03_digit.calls k3 (bt a0 x6_3) x7_9 t222 _ A16.out).mono ?_)
          rintro e w' ⟨rfl, ⟨nd, rfl⟩⟩
          have H' := Aside0.mk H
          clear H
          go_wp2
          go_meet
          case rel => exact ⟨_, (decide (t222 ≥ 0)), (by first | rfl | (simp; done) | (simp [*]; done)), H', ⟨by have := HJ2.out; have := HJ9.out; have := HK3.out; first | omega | exact Nat.le_refl _⟩, ⟨by repeat (first | (with_reducible first | exact HB.out | apply below_alloc | apply pw_below_drewN | apply below_drew1) | exact HB.out)⟩⟩
         ·
          rw [if_neg c14] at H
          exact absurd H (by simp)
        ·
         rw [if_neg c13] at H
         have c13b0 : decide (x6_3 < (a0.size : Int)) = false := decide_eq_false c13
         clear c13
         (first | rw [c13b0] | (simp only [i64_w, i32_w]; rw [c13b0]) | skip)
         have H' := Aside0.mk H
         clear H
         go_wp2
         go_meet
         case rel => exact ⟨_, (false), (by first | rfl | (simp; done) | (simp [*]; done)), H', ⟨by have := HJ2.out; have := HJ9.out; have := HK3.out; first | omega | exact Nat.le_refl _⟩, ⟨by repeat (first | (with_reducible first | exact HB.out | apply below_alloc | apply pw_below_drewN | apply below_drew1) | exact HB.out)⟩⟩
       case rest =>
        clear HC12
        try clear c1
        try clear p1
        try clear q1
        try clear hx1
        try clear p2
        try clear c4
        try clear c4b0
        try clear c6
        try clear c6b0
        try clear p6
        try clear c7
        try clear p7
        try clear q7
        try clear hx7
        try clear c8
        try clear c8b0
        try clear c8b1
        try clear p9
        try clear q9
        try clear hx9
        try clear c11
        try clear c13
        try clear c13b0
        try clear c14
        try clear c14b0
        try clear p15
        try clear q15
        try clear hx15
        try clear p15
        try clear p2
        try clear p6
        try clear p7
        try clear p9
        try clear q15
        try clear q7
        try clear q9
        obtain ⟨kq, x41_11, rfl, HA, HJ11, HB⟩ := hcut
        cases kq with
        | zero => exact absurd HA.out (by simp [marginaliaref03_number.j3])
        | succ kj11 =>
         have H := HA.out
         clear HA
         simp only [marginaliaref03_number.j3] at H
         by_cases c17 : x41_11 = true
         ·
          subst c17
          replace H := (if_pos rfl).symm.trans H
          by_cases c18 : 0 ≤ x6_3
          ·
           rw [if_pos c18] at H
           have c18b0 : decide (0 ≤ x6_3) = true := decide_eq_true c18
           clear c18
           by_cases c19 : x6_3 < (a0.size : Int)
           ·
            rw [if_pos c19] at H
            have c19b0 : decide (x6_3 < (a0.size : Int)) = true := decide_eq_true c19
            clear c19
            replace H := Option.bind_eq_some_iff.mp H
            obtain ⟨t223, A210, H⟩ := H
            try dsimp only at H
            have A21 := Aside0.mk A210
            clear A210
            have p20 : 0 ≤ (x6_3 : Int) := of_decide_eq_true (by first | (with_reducible assumption) | assumption)
            have q20 : x6_3 < (a0.size : Int) := of_decide_eq_true (by first | (with_reducible assumption) | assumption)
            have hx20 := bt_at a0 x6_3
            replace p20 := eq_true p20
            replace q20 := eq_true q20
            go_wp2_with fail
            (with_reducible refine (marginaliaref03_digit.calls kj11 (bt a0 x6_3) x7_9 t223 _ A21.out).mono ?_)
            rintro e w' ⟨rfl, ⟨nd, rfl⟩⟩
            by_cases c22 : (wrap64 ((wrap64 (x8_3 * x7_9)) + t223)) > 1114111
            ·
             rw [if_pos c22] at H
             have c22b0 : decide (1114111 < (wrap64 ((wrap64 (x8_3 * x7_9)) + t223))) = true := decide_eq_true c22
             clear c22
             have H' := Aside0.mk H
             clear H
             go_wp2
             go_roundg kj11
             case measure => have := HJ2.out; have := HJ9.out; have := HK3.out; have := HJ11.out; omega
             case rel => exact ⟨(wrap64 (x6_3 + 1)), (1114112), (wrap64 (x9_3 + 1)), (by first | rfl | (simp; done) | (simp [*]; done)), (by first | rfl | (simp; done) | (simp [*]; done)), (by first | rfl | (simp; done) | (simp [*]; done)), H', ⟨by have := HJ2.out; have := HJ9.out; have := HK3.out; have := HJ11.out; omega⟩, ⟨by repeat (first | (with_reducible first | exact HB.out | apply below_alloc | apply pw_below_drewN | apply below_drew1) | exact HB.out)⟩⟩
            ·
             rw [if_neg c22] at H
             have c22b0 : decide (1114111 < (wrap64 ((wrap64 (x8_3 * x7_9)) + t223))) = false := decide_eq_false c22
             clear c22
             have H' := Aside0.mk H
             clear H
             go_wp2
             go_roundg kj11
             case measure => have := HJ2.out; have := HJ9.out; have := HK3.out; have := HJ11.out; omega
             case rel => exact ⟨(wrap64 (x6_3 + 1)), (wrap64 ((wrap64 (x8_3 * x7_9)) + t223)), (wrap64 (x9_3 + 1)), (by first | rfl | (simp; done) | (simp [*]; done)), (by first | rfl | (simp; done) | (simp [*]; done)), (by first | rfl | (simp; done) | (simp [*]; done)), H', ⟨by have := HJ2.out; have := HJ9.out; have := HK3.out; have := HJ11.out; omega⟩, ⟨by repeat (first | (with_reducible first | exact HB.out | apply below_alloc | apply pw_below_drewN | apply below_drew1) | exact HB.out)⟩⟩
           ·
            rw [if_neg c19] at H
            exact absurd H (by simp)
          ·
           rw [if_neg c18] at H
           exact absurd H (by simp)
         ·
          replace c17 := Bool.eq_false_iff.mpr c17
          subst c17
          replace H := (if_neg Bool.false_ne_true).symm.trans H
          by_cases c23 : x9_3 = 0
          ·
           rw [if_pos c23] at H
           have c23b0 : (x9_3 == 0) = true := beq_iff_eq.mpr c23
           have c23b1 : (x9_3 != 0) = false := bne_eq_false_iff_eq.mpr c23
           clear c23
           simp only [Option.some.injEq, Prod.mk.injEq] at H
           obtain ⟨rfl, rfl⟩ := H
           go_wp2
           go_ret2
           exact ⟨by first | rfl | (simp [errW_none, errW_some] <;> rfl) | (simp [*, errW_none, errW_some] <;> rfl), by repeat (first | (with_reducible first | exact HB.out | apply below_alloc | apply pw_below_drewN | apply below_drew1) | exact HB.out)⟩
          ·
           rw [if_neg c23] at H
           have c23b0 : (x9_3 == 0) = false := beq_eq_false_iff_ne.mpr c23
           have c23b1 : (x9_3 != 0) = true := bne_iff_ne.mpr c23
           by_cases c24 : x6_3 < (a0.size : Int)
           ·
            rw [if_pos c24] at H
            have c24b0 : decide (x6_3 < (a0.size : Int)) = true := decide_eq_true c24
            clear c24
            by_cases c25 : 0 ≤ x6_3
            ·
             rw [if_pos c25] at H
             have c25b0 : decide (0 ≤ x6_3) = true := decide_eq_true c25
             clear c25
             by_cases c27 : (bt a0 x6_3) = 59
             ·
              rw [if_pos c27] at H
              have c27b0 : ((bt a0 x6_3) == 59) = true := beq_iff_eq.mpr c27
              have c27b1 : ((bt a0 x6_3) != 59) = false := bne_eq_false_iff_eq.mpr c27
              clear c27
              replace H := Option.bind_eq_some_iff.mp H
              obtain ⟨t224, A280, H⟩ := H
              try dsimp only at H
              have A28 := Aside0.mk A280
              clear A280
              have p26 : 0 ≤ (x6_3 : Int) := of_decide_eq_true (by first | (with_reducible assumption) | assumption)
              have q26 : x6_3 < (a0.size : Int) := of_decide_eq_true (by first | (with_reducible assumption) | assumption)
              have hx26 := bt_at a0 x6_3
              replace p26 := eq_true p26
              replace q26 := eq_true q26
              go_wp2_with fail
              (with_reducible refine (marginaliaref03_Number.calls kj11 x8_3 t224 _ A28.out).mono ?_)
              rintro e w29 ⟨rfl, hb⟩
              have n0_ := Aside0.mk (below_step (by repeat (first | (with_reducible first | exact HB.out | apply below_alloc | apply pw_below_drewN | apply below_drew1) | exact HB.out)) hb)
              clear HB
              have HB := n0_
              clear n0_
              (try clear hb)
              (try clear hb2)
              (try clear hk)
              (try clear hi)
              simp only [Option.some.injEq, Prod.mk.injEq] at H
              obtain ⟨rfl, rfl⟩ := H
              go_wp2
              go_ret2
              exact ⟨by first | rfl | (simp [errW_none, errW_some] <;> rfl) | (simp [*, errW_none, errW_some] <;> rfl), by repeat (first | (with_reducible first | exact HB.out | apply below_alloc | apply pw_below_drewN | apply below_drew1) | exact HB.out)⟩
             ·
              rw [if_neg c27] at H
              have c27b0 : ((bt a0 x6_3) == 59) = false := beq_eq_false_iff_ne.mpr c27
              have c27b1 : ((bt a0 x6_3) != 59) = true := bne_iff_ne.mpr c27
              replace H := Option.bind_eq_some_iff.mp H
              obtain ⟨t225, A300, H⟩ := H
              try dsimp only at H
              have A30 := Aside0.mk A300
              clear A300
              have p26 : 0 ≤ (x6_3 : Int) := of_decide_eq_true (by first | (with_reducible assumption) | assumption)
              have q26 : x6_3 < (a0.size : Int) := of_decide_eq_true (by first | (with_reducible assumption) | assumption)
              have hx26 := bt_at a0 x6_3
              replace p26 := eq_true p26
              replace q26 := eq_true q26
              go_wp2_with fail
              (with_reducible refine (marginaliaref03_Number.calls kj11 x8_3 t225 _ A30.out).mono ?_)
              rintro e w31 ⟨rfl, hb⟩
              have n0_ := Aside0.mk (below_step (by repeat (first | (with_reducible first | exact HB.out | apply below_alloc | apply pw_below_drewN | apply below_drew1) | exact HB.out)) hb)
              clear HB
              have HB := n0_
              clear n0_
              (try clear hb)
              (try clear hb2)
              (try clear hk)
              (try clear hi)
              simp only [Option.some.injEq, Prod.mk.injEq] at H
              obtain ⟨rfl, rfl⟩ := H
              go_wp2
              go_ret2
              exact ⟨by first | rfl | (simp [errW_none, errW_some] <;> rfl) | (simp [*, errW_none, errW_some] <;> rfl), by repeat (first | (with_reducible first | exact HB.out | apply below_alloc | apply pw_below_drewN | apply below_drew1) | exact HB.out)⟩
            ·
             rw [if_neg c25] at H
             exact absurd H (by simp)
           ·
            rw [if_neg c24] at H
            have c24b0 : decide (x6_3 < (a0.size : Int)) = false := decide_eq_false c24
            clear c24
            replace H := Option.bind_eq_some_iff.mp H
            obtain ⟨t226, A320, H⟩ := H
            try dsimp only at H
            have A32 := Aside0.mk A320
            clear A320
            go_wp2_with fail
            (with_reducible refine (marginaliaref03_Number.calls kj11 x8_3 t226 _ A32.out).mono ?_)
            rintro e w33 ⟨rfl, hb⟩
            have n0_ := Aside0.mk (below_step (by repeat (first | (with_reducible first | exact HB.out | apply below_alloc | apply pw_below_drewN | apply below_drew1) | exact HB.out)) hb)
            clear HB
            have HB := n0_
            clear n0_
            (try clear hb)
            (try clear hb2)
            (try clear hk)
            (try clear hi)
            simp only [Option.some.injEq, Prod.mk.injEq] at H
            obtain ⟨rfl, rfl⟩ := H
            go_wp2
            go_ret2
            exact ⟨by first | rfl | (simp [errW_none, errW_some] <;> rfl) | (simp [*, errW_none, errW_some] <;> rfl), by repeat (first | (with_reducible first | exact HB.out | apply below_alloc | apply pw_below_drewN | apply below_drew1) | exact HB.out)⟩
/-! HAND marginaliaref03_Entries: function 91 -/
def marginaliaref03_Entries.tab : List S97 := [⟨⟨#[65, 77, 80]⟩, 38, true⟩, ⟨⟨#[97, 109, 112]⟩, 38, true⟩, ⟨⟨#[76, 84]⟩, 60, true⟩, ⟨⟨#[108, 116]⟩, 60, true⟩, ⟨⟨#[71, 84]⟩, 62, true⟩, ⟨⟨#[103, 116]⟩, 62, true⟩, ⟨⟨#[81, 85, 79, 84]⟩, 34, true⟩, ⟨⟨#[113, 117, 111, 116]⟩, 34, true⟩, ⟨⟨#[110, 98, 115, 112]⟩, 160, true⟩, ⟨⟨#[99, 111, 112, 121]⟩, 169, true⟩, ⟨⟨#[108, 97, 113, 117, 111]⟩, 171, true⟩, ⟨⟨#[110, 111, 116]⟩, 172, true⟩, ⟨⟨#[115, 104, 121]⟩, 173, true⟩, ⟨⟨#[114, 101, 103]⟩, 174, true⟩, ⟨⟨#[100, 101, 103]⟩, 176, true⟩, ⟨⟨#[112, 97, 114, 97]⟩, 182, true⟩, ⟨⟨#[109, 105, 100, 100, 111, 116]⟩, 183, true⟩, ⟨⟨#[114, 97, 113, 117, 111]⟩, 187, true⟩, ⟨⟨#[69, 97, 99, 117, 116, 101]⟩, 201, true⟩, ⟨⟨#[116, 105, 109, 101, 115]⟩, 215, true⟩, ⟨⟨#[115, 122, 108, 105, 103]⟩, 223, true⟩, ⟨⟨#[101, 97, 99, 117, 116, 101]⟩, 233, true⟩, ⟨⟨#[100, 105, 118, 105, 100, 101]⟩, 247, true⟩, ⟨⟨#[117, 117, 109, 108]⟩, 252, true⟩, ⟨⟨#[84, 97, 98]⟩, 9, false⟩, ⟨⟨#[78, 101, 119, 76, 105, 110, 101]⟩, 10, false⟩, ⟨⟨#[101, 120, 99, 108]⟩, 33, false⟩, ⟨⟨#[110, 117, 109]⟩, 35, false⟩, ⟨⟨#[97, 112, 111, 115]⟩, 39, false⟩, ⟨⟨#[108, 112, 97, 114]⟩, 40, false⟩, ⟨⟨#[114, 112, 97, 114]⟩, 41, false⟩, ⟨⟨#[115, 111, 108]⟩, 47, false⟩, ⟨⟨#[99, 111, 108, 111, 110]⟩, 58, false⟩, ⟨⟨#[98, 115, 111, 108]⟩, 92, false⟩, ⟨⟨#[110, 100, 97, 115, 104]⟩, 8211, false⟩, ⟨⟨#[109, 100, 97, 115, 104]⟩, 8212, false⟩, ⟨⟨#[108, 115, 113, 117, 111]⟩, 8216, false⟩, ⟨⟨#[114, 115, 113, 117, 111]⟩, 8217, false⟩, ⟨⟨#[108, 100, 113, 117, 111]⟩, 8220, false⟩, ⟨⟨#[114, 100, 113, 117, 111]⟩, 8221, false⟩, ⟨⟨#[104, 101, 108, 108, 105, 112]⟩, 8230, false⟩, ⟨⟨#[101, 117, 114, 111]⟩, 8364, false⟩, ⟨⟨#[116, 114, 97, 100, 101]⟩, 8482, false⟩, ⟨⟨#[110, 111, 116, 105, 110]⟩, 8713, false⟩, ⟨⟨#[116, 105, 109, 101, 115, 98]⟩, 8864, false⟩]
def marginaliaref03_Entries.f : Option (List S97) := some marginaliaref03_Entries.tab
def marginaliaref03_Entries.vals : Array Value := #[.string ⟨#[65, 77, 80]⟩, .int .i64 38, .bool true, .string ⟨#[97, 109, 112]⟩, .int .i64 38, .bool true, .string ⟨#[76, 84]⟩, .int .i64 60, .bool true, .string ⟨#[108, 116]⟩, .int .i64 60, .bool true, .string ⟨#[71, 84]⟩, .int .i64 62, .bool true, .string ⟨#[103, 116]⟩, .int .i64 62, .bool true, .string ⟨#[81, 85, 79, 84]⟩, .int .i64 34, .bool true, .string ⟨#[113, 117, 111, 116]⟩, .int .i64 34, .bool true, .string ⟨#[110, 98, 115, 112]⟩, .int .i64 160, .bool true, .string ⟨#[99, 111, 112, 121]⟩, .int .i64 169, .bool true, .string ⟨#[108, 97, 113, 117, 111]⟩, .int .i64 171, .bool true, .string ⟨#[110, 111, 116]⟩, .int .i64 172, .bool true, .string ⟨#[115, 104, 121]⟩, .int .i64 173, .bool true, .string ⟨#[114, 101, 103]⟩, .int .i64 174, .bool true, .string ⟨#[100, 101, 103]⟩, .int .i64 176, .bool true, .string ⟨#[112, 97, 114, 97]⟩, .int .i64 182, .bool true, .string ⟨#[109, 105, 100, 100, 111, 116]⟩, .int .i64 183, .bool true, .string ⟨#[114, 97, 113, 117, 111]⟩, .int .i64 187, .bool true, .string ⟨#[69, 97, 99, 117, 116, 101]⟩, .int .i64 201, .bool true, .string ⟨#[116, 105, 109, 101, 115]⟩, .int .i64 215, .bool true, .string ⟨#[115, 122, 108, 105, 103]⟩, .int .i64 223, .bool true, .string ⟨#[101, 97, 99, 117, 116, 101]⟩, .int .i64 233, .bool true, .string ⟨#[100, 105, 118, 105, 100, 101]⟩, .int .i64 247, .bool true, .string ⟨#[117, 117, 109, 108]⟩, .int .i64 252, .bool true, .string ⟨#[84, 97, 98]⟩, .int .i64 9, .bool false, .string ⟨#[78, 101, 119, 76, 105, 110, 101]⟩, .int .i64 10, .bool false, .string ⟨#[101, 120, 99, 108]⟩, .int .i64 33, .bool false, .string ⟨#[110, 117, 109]⟩, .int .i64 35, .bool false, .string ⟨#[97, 112, 111, 115]⟩, .int .i64 39, .bool false, .string ⟨#[108, 112, 97, 114]⟩, .int .i64 40, .bool false, .string ⟨#[114, 112, 97, 114]⟩, .int .i64 41, .bool false, .string ⟨#[115, 111, 108]⟩, .int .i64 47, .bool false, .string ⟨#[99, 111, 108, 111, 110]⟩, .int .i64 58, .bool false, .string ⟨#[98, 115, 111, 108]⟩, .int .i64 92, .bool false, .string ⟨#[110, 100, 97, 115, 104]⟩, .int .i64 8211, .bool false, .string ⟨#[109, 100, 97, 115, 104]⟩, .int .i64 8212, .bool false, .string ⟨#[108, 115, 113, 117, 111]⟩, .int .i64 8216, .bool false, .string ⟨#[114, 115, 113, 117, 111]⟩, .int .i64 8217, .bool false, .string ⟨#[108, 100, 113, 117, 111]⟩, .int .i64 8220, .bool false, .string ⟨#[114, 100, 113, 117, 111]⟩, .int .i64 8221, .bool false, .string ⟨#[104, 101, 108, 108, 105, 112]⟩, .int .i64 8230, .bool false, .string ⟨#[101, 117, 114, 111]⟩, .int .i64 8364, .bool false, .string ⟨#[116, 114, 97, 100, 101]⟩, .int .i64 8482, .bool false, .string ⟨#[110, 111, 116, 105, 110]⟩, .int .i64 8713, .bool false, .string ⟨#[116, 105, 109, 101, 115, 98]⟩, .int .i64 8864, .bool false]
theorem marginaliaref03_Entries.reps (w : World) (b : Nat) (ok : Nat → Prop) : ∀ l : List S97, Reps (Kd.M k97 w b ok) 3 l (l.flatMap fun x => [.string x.f0, .int .i64 x.f1, .bool x.f2])
  | [] => Reps.none _ _
  | x :: r => Reps.c3 (k97_mkM _ _ _ x) (marginaliaref03_Entries.reps w b ok r)
set_option maxRecDepth 100000 in
theorem marginaliaref03_Entries.row (W : World) (base : Nat) (hbase : base ≤ W.heap.size) : Kd.R k97 97 (W.alloc (.cells marginaliaref03_Entries.vals 97)) base (fun _ => True) (.slice (some ⟨W.heap.size, 0, none⟩) 45 45) marginaliaref03_Entries.tab := by
 have hv : marginaliaref03_Entries.vals = (marginaliaref03_Entries.tab.flatMap fun x => [.string x.f0, .int .i64 x.f1, .bool x.f2]).toArray := by kernel_rfl
 refine ⟨fun _ _ => trivial, marginaliaref03_Entries.vals.toList, ?_, ?_⟩
 ·
  exact World.ownsRow_lit (base := base) (e := 97) (size := 3) W marginaliaref03_Entries.vals 45 hbase (by decide) (by kernel_rfl)
 ·
  rw [hv]
  refine (marginaliaref03_Entries.reps W base (fun _ => False) _).imp_ (fun p c hp => Kd.M_mono k97 (fun k hk => hk.1.elim) (Kd.M_below (Kd.M_bound k97 hp) (below_alloc (Below.refl _ _) _)))
set_option maxHeartbeats 4000000 in
set_option maxRecDepth 100000 in
theorem marginaliaref03_Entries.calls (r : List S97) (w : World) (h : marginaliaref03_Entries.f = some r) :
    Calls Try.prog 91 #[] w fun e w' => ∃ v0_ : Value, e = .returned (v0_) ∧ Kd.R k97 97 w' w.heap.size (fun _ => True) v0_ r ∧ Below w.heap.size w w' := by
 obtain rfl := Option.some.inj h
 clear h
 have HR := Aside0.mk (marginaliaref03_Entries.row w w.heap.size (Nat.le_refl _))
 have HB := Aside0.mk ((Below.refl w.heap.size w).alloc (Nat.le_refl _) (.cells marginaliaref03_Entries.vals 97))
 go_enter Try.func91, Try.ntmps91
 go_wp2_with fail
 go_ret
 exact ⟨_, rfl, HR.out, HB.out⟩
/-! ### marginaliaref03_longest: function 73 -/
mutual
def marginaliaref03_longest.l0 : Nat → ByteArray → Int → List (S97) → ByteArray → Int → Int → Option (ByteArray × Int)
  | 0, _, _, _, _, _, _ => none
  | k + 1, x0, x1, x6, x7, x8, x9 => if x9 < (x6.length : Int) then (marginaliaref03_longest.l1 k x0 x1 x6 x7 x8 x9 0) else (some (x7, x8))
def marginaliaref03_longest.l1 : Nat → ByteArray → Int → List (S97) → ByteArray → Int → Int → Int → Option (ByteArray × Int)
  | 0, _, _, _, _, _, _, _ => none
  | k + 1, x0, x1, x6, x7, x8, x9, x10 => if x10 < 2 then (if 0 ≤ x9 then (if x9 < (x6.length : Int) then (if x10 = 0 then (if ((rd_T97 x6 x9).f0).size + 1 ≤ 9223372036854775807 then (if (wrap64 (x1 + ((((rd_T97 x6 x9).f0) ++ (⟨#[59]⟩ : ByteArray)).size : Int))) ≤ (x0.size : Int) then (if 0 ≤ x1 then (if x1 ≤ (wrap64 (x1 + ((((rd_T97 x6 x9).f0) ++ (⟨#[59]⟩ : ByteArray)).size : Int))) then (if (x0.extract (x1 : Int).toNat ((wrap64 (x1 + ((((rd_T97 x6 x9).f0) ++ (⟨#[59]⟩ : ByteArray)).size : Int))) : Int).toNat).toList = (((rd_T97 x6 x9).f0) ++ (⟨#[59]⟩ : ByteArray)).toList then (if ((((rd_T97 x6 x9).f0) ++ (⟨#[59]⟩ : ByteArray)).size : Int) > x8 then ((marginaliaref03_Utf8.f ((rd_T97 x6 x9).f1)).bind fun t232 => (marginaliaref03_longest.l1 k x0 x1 x6 t232 ((((rd_T97 x6 x9).f0) ++ (⟨#[59]⟩ : ByteArray)).size : Int) x9 (wrap64 (x10 + 1)))) else (marginaliaref03_longest.l1 k x0 x1 x6 x7 x8 x9 (wrap64 (x10 + 1)))) else (marginaliaref03_longest.l1 k x0 x1 x6 x7 x8 x9 (wrap64 (x10 + 1)))) else (none)) else (none)) else (marginaliaref03_longest.l1 k x0 x1 x6 x7 x8 x9 (wrap64 (x10 + 1)))) else (none)) else (if ((rd_T97 x6 x9).f2 = true) then (if (wrap64 (x1 + (((rd_T97 x6 x9).f0).size : Int))) ≤ (x0.size : Int) then (if 0 ≤ x1 then (if x1 ≤ (wrap64 (x1 + (((rd_T97 x6 x9).f0).size : Int))) then (if (x0.extract (x1 : Int).toNat ((wrap64 (x1 + (((rd_T97 x6 x9).f0).size : Int))) : Int).toNat).toList = ((rd_T97 x6 x9).f0).toList then (if (((rd_T97 x6 x9).f0).size : Int) > x8 then ((marginaliaref03_Utf8.f ((rd_T97 x6 x9).f1)).bind fun t235 => (marginaliaref03_longest.l1 k x0 x1 x6 t235 (((rd_T97 x6 x9).f0).size : Int) x9 (wrap64 (x10 + 1)))) else (marginaliaref03_longest.l1 k x0 x1 x6 x7 x8 x9 (wrap64 (x10 + 1)))) else (marginaliaref03_longest.l1 k x0 x1 x6 x7 x8 x9 (wrap64 (x10 + 1)))) else (none)) else (none)) else (marginaliaref03_longest.l1 k x0 x1 x6 x7 x8 x9 (wrap64 (x10 + 1)))) else (marginaliaref03_longest.l1 k x0 x1 x6 x7 x8 x9 (wrap64 (x10 + 1))))) else (none)) else (none)) else (marginaliaref03_longest.l0 k x0 x1 x6 x7 x8 (wrap64 (x9 + 1)))
end
def marginaliaref03_longest.f (k : Nat) (a0 : ByteArray) (a1 : Int) : Option (ByteArray × Int) := (marginaliaref03_Entries.f).bind fun t227 => (marginaliaref03_longest.l0 k a0 a1 t227 (⟨#[]⟩ : ByteArray) 0 0)
theorem marginaliaref03_longest.mono_l : ∀ k, (∀ y0 y1 y2 y3 y4 y5, LeO (marginaliaref03_longest.l0 k y0 y1 y2 y3 y4 y5) (marginaliaref03_longest.l0 (k + 1) y0 y1 y2 y3 y4 y5)) ∧ (∀ y0 y1 y2 y3 y4 y5 y6, LeO (marginaliaref03_longest.l1 k y0 y1 y2 y3 y4 y5 y6) (marginaliaref03_longest.l1 (k + 1) y0 y1 y2 y3 y4 y5 y6))
  | 0 => ⟨fun _ _ _ _ _ _ r h => by simp [marginaliaref03_longest.l0] at h, fun _ _ _ _ _ _ _ r h => by simp [marginaliaref03_longest.l1] at h⟩
  | k + 1 => by
    obtain ⟨ih0, ih1⟩ := marginaliaref03_longest.mono_l k
    refine ⟨?_, ?_⟩
    · intro y0 y1 y2 y3 y4 y5
      unfold marginaliaref03_longest.l0
      repeat' first
      | (with_reducible exact ih0 _ _ _ _ _ _)
      | (with_reducible exact ih1 _ _ _ _ _ _ _)
      | (with_reducible exact LeO.refl _)
      | (with_reducible exact LeO.none _)
      | (with_reducible refine LeO.ite ?_ ?_)
      | (with_reducible refine LeO.bind ?_ (fun _ => ?_))
      | exact ih0 _ _ _ _ _ _
      | exact ih1 _ _ _ _ _ _ _
      | exact LeO.none _
      | refine LeO.ite ?_ ?_
      | refine LeO.bind ?_ (fun _ => ?_)
    · intro y0 y1 y2 y3 y4 y5 y6
      unfold marginaliaref03_longest.l1
      repeat' first
      | (with_reducible exact ih0 _ _ _ _ _ _)
      | (with_reducible exact ih1 _ _ _ _ _ _ _)
      | (with_reducible exact LeO.refl _)
      | (with_reducible exact LeO.none _)
      | (with_reducible refine LeO.ite ?_ ?_)
      | (with_reducible refine LeO.bind ?_ (fun _ => ?_))
      | exact ih0 _ _ _ _ _ _
      | exact ih1 _ _ _ _ _ _ _
      | exact LeO.none _
      | refine LeO.ite ?_ ?_
      | refine LeO.bind ?_ (fun _ => ?_)
theorem marginaliaref03_longest.mono : ∀ a0 a1 k, LeO (marginaliaref03_longest.f k a0 a1) (marginaliaref03_longest.f (k + 1) a0 a1) := by
 intro a0 a1 k
 obtain ⟨ih0, ih1⟩ := marginaliaref03_longest.mono_l k
 unfold marginaliaref03_longest.f
 repeat' first
     | (with_reducible exact ih0 _ _ _ _ _ _)
     | (with_reducible exact ih1 _ _ _ _ _ _ _)
     | (with_reducible exact LeO.refl _)
     | (with_reducible exact LeO.none _)
     | (with_reducible refine LeO.ite ?_ ?_)
     | (with_reducible refine LeO.bind ?_ (fun _ => ?_))
     | exact ih0 _ _ _ _ _ _
     | exact ih1 _ _ _ _ _ _ _
     | exact LeO.none _
     | refine LeO.ite ?_ ?_
     | refine LeO.bind ?_ (fun _ => ?_)
set_option maxHeartbeats 8000000 in
set_option maxRecDepth 100000 in
theorem marginaliaref03_longest.calls (k : Nat) (a0 : ByteArray) (a1 : Int) (r1 : ByteArray) (r2 : Int) (w : World) (h : marginaliaref03_longest.f k a0 a1 = some (r1, r2)) :
    Calls Try.prog 73 #[.string a0, .int .i64 a1] w fun e w' => e = .returned (.tuple #[.string r1, .int .i64 r2]) ∧ Below w.heap.size w w' := by
 have HB := Aside0.mk (Below.refl w.heap.size w)
 have H : ((marginaliaref03_Entries.f).bind fun t227 => (marginaliaref03_longest.l0 k a0 a1 t227 (⟨#[]⟩ : ByteArray) 0 0)) = some (r1, r2) := h
 clear h
 replace H := Option.bind_eq_some_iff.mp H
 obtain ⟨t227, A30, H⟩ := H
 replace H : (marginaliaref03_longest.l0 k a0 a1 t227 (⟨#[]⟩ : ByteArray) 0 0) = some (r1, r2) := H
 have A3 := Aside0.mk A30
 clear A30
 have H' := Aside0.mk H
 clear H
 go_enter Try.func73, Try.ntmps73
 go_wp2_with (first | ((with_reducible refine gate_callee (f := 91) rfl ?_); refine goesL_ (some 12) rfl rfl Try.func91 (by kernel_rfl) rfl #[] rfl (by (try simp only [List.map_toArray, List.map_cons, List.map_nil]); first | done | rfl | (simp only [List.length_drop, List.length_take]; rfl)) ?_; (with_reducible refine (marginaliaref03_Entries.calls  t227 _ A3.out).mono ?_); rintro e w4 ⟨v228, rfl, ho0, hb⟩; refine ⟨_, rfl, ?_⟩; have n0_ := Aside0.mk (Kd.R_lower ho0 (below_size (by repeat (first | (with_reducible first | exact HB.out | apply below_alloc | apply pw_below_drewN | apply below_drew1) | exact HB.out)))); have n1_ := Aside0.mk (below_step (by repeat (first | (with_reducible first | exact HB.out | apply below_alloc | apply pw_below_drewN | apply below_drew1) | exact HB.out)) hb); clear HB; have HO229 := n0_; have HB := n1_; clear n0_ n1_; (try clear hb); (try clear hb2); (try clear hk); (try clear hi); (try clear ho0)))
 go_loopg [7, 8, 9] k (fun kq v7 v8 v9 w' => ∃ (x7_1 : ByteArray) (x8_1 : Int) (x9_1 : Int), v7 = .string x7_1 ∧ v8 = .int .i64 x8_1 ∧ v9 = .int .i64 x9_1 ∧ Aside0 (marginaliaref03_longest.l0 kq a0 a1 t227 x7_1 x8_1 x9_1 = some (r1, r2)) ∧ Aside0 (kq ≤ k) ∧ Aside0 (Kd.R k97 97 w' w.heap.size (fun _ => True) v228 t227) ∧ Aside0 (Below w.heap.size w w'))
 case atStart => exact ⟨((⟨#[]⟩ : ByteArray)), (0), (0), (by first | rfl | (simp; done) | (simp [*]; done)), (by first | rfl | (simp; done) | (simp [*]; done)), (by first | rfl | (simp; done) | (simp [*]; done)), H', ⟨Nat.le_refl _⟩, ⟨by (with_reducible repeat (first | apply Kd.R_alloc | apply Kd.R_drewN | apply Kd.R_drew)); exact HO229.out⟩, ⟨by repeat (first | (with_reducible first | exact HB.out | apply below_alloc | apply pw_below_drewN | apply below_drew1) | exact HB.out)⟩⟩
 case round =>
  clear H'
  try clear p2
  obtain ⟨x7_1, x8_1, x9_1, rfl, rfl, rfl, HA, HK1, HO_6, HB⟩ := hrel
  cases gk with
  | zero => exact absurd HA.out (by simp [marginaliaref03_longest.l0])
  | succ k1 =>
   have H := HA.out
   clear HA
   simp only [marginaliaref03_longest.l0] at H
   by_cases c5 : x9_1 < (t227.length : Int)
   ·
    rw [if_pos c5] at H
    have c5b0 : decide (x9_1 < (t227.length : Int)) = true := decide_eq_true c5
    clear c5
    have H' := Aside0.mk H
    clear H
    obtain ⟨Ao6, co6, eo6⟩ := Kd.R_slice HO_6.out
    subst eo6
    go_wp2
    go_loopg [7, 8, 10] k1 (fun kq v7 v8 v10 w' => ∃ (x7_2 : ByteArray) (x8_2 : Int) (x10_2 : Int), v7 = .string x7_2 ∧ v8 = .int .i64 x8_2 ∧ v10 = .int .i64 x10_2 ∧ Aside0 (marginaliaref03_longest.l1 kq a0 a1 t227 x7_2 x8_2 x9_1 x10_2 = some (r1, r2)) ∧ Aside0 (kq ≤ k1) ∧ Aside0 (Kd.R k97 97 w' w.heap.size (fun _ => True) (.slice Ao6 t227.length co6) t227) ∧ Aside0 (Below w.heap.size w w'))
    case atStart => exact ⟨(x7_1), (x8_1), (0), (by first | rfl | (simp; done) | (simp [*]; done)), (by first | rfl | (simp; done) | (simp [*]; done)), (by first | rfl | (simp; done) | (simp [*]; done)), H', ⟨Nat.le_refl _⟩, ⟨by (with_reducible repeat (first | apply Kd.R_alloc | apply Kd.R_drewN | apply Kd.R_drew)); exact HO_6.out⟩, ⟨by repeat (first | (with_reducible first | exact HB.out | apply below_alloc | apply pw_below_drewN | apply below_drew1) | exact HB.out)⟩⟩
    case round =>
     clear H'
     try clear p2
     try clear c5
     try clear c5b0
     try clear p2
     obtain ⟨x7_2, x8_2, x10_2, rfl, rfl, rfl, HA, HK2, HO_6, HB⟩ := hrel
     cases gk with
     | zero => exact absurd HA.out (by simp [marginaliaref03_longest.l1])
     | succ k2 =>
      have H := HA.out
      clear HA
      simp only [marginaliaref03_longest.l1] at H
      by_cases c7 : x10_2 < 2
      ·
       rw [if_pos c7] at H
       have c7b0 : decide (x10_2 < 2) = true := decide_eq_true c7
       clear c7
       by_cases c8 : 0 ≤ x9_1
       ·
        rw [if_pos c8] at H
        have c8b0 : decide (0 ≤ x9_1) = true := decide_eq_true c8
        clear c8
        by_cases c9 : x9_1 < (t227.length : Int)
        ·
         rw [if_pos c9] at H
         have c9b0 : decide (x9_1 < (t227.length : Int)) = true := decide_eq_true c9
         clear c9
         by_cases c10 : x10_2 = 0
         ·
          rw [if_pos c10] at H
          have c10b0 : (x10_2 == 0) = true := beq_iff_eq.mpr c10
          have c10b1 : (x10_2 != 0) = false := bne_eq_false_iff_eq.mpr c10
          clear c10
          by_cases c11 : ((rd_T97 t227 x9_1).f0).size + 1 ≤ 9223372036854775807
          ·
           rw [if_pos c11] at H
           have c11b0 := eq_true c11
           have c11b1 : decide (((rd_T97 t227 x9_1).f0).size + 1 ≤ 9223372036854775807) = true := decide_eq_true c11
           try have c11b2 : (9223372036854775807 < ((rd_T97 t227 x9_1).f0).size + 1) = False := eq_false (Nat.not_lt.2 c11)
           by_cases c12 : (wrap64 (a1 + ((((rd_T97 t227 x9_1).f0) ++ (⟨#[59]⟩ : ByteArray)).size : Int))) ≤ (a0.size : Int)
           ·
            rw [if_pos c12] at H
            have c12b0 : decide ((wrap64 (a1 + ((((rd_T97 t227 x9_1).f0) ++ (⟨#[59]⟩ : ByteArray)).size : Int))) ≤ (a0.size : Int)) = true := decide_eq_true c12
            (try (have c12b0s := c12b0; simp only [ByteArray.size_append, Int.natCast_add, Int.cast_ofNat_Int, show ((⟨#[59]⟩ : ByteArray).size : Int) = 1 from rfl, show (⟨#[59]⟩ : ByteArray).size = 1 from rfl] at c12b0s))
            clear c12
            by_cases c13 : 0 ≤ a1
            ·
             rw [if_pos c13] at H
             have c13b0 := eq_true c13
             have c13b1 : decide (0 ≤ a1) = true := decide_eq_true c13
             clear c13
             by_cases c14 : a1 ≤ (wrap64 (a1 + ((((rd_T97 t227 x9_1).f0) ++ (⟨#[59]⟩ : ByteArray)).size : Int)))
             ·
              rw [if_pos c14] at H
              have c14b0 := eq_true c14
              have c14b1 : decide (a1 ≤ (wrap64 (a1 + ((((rd_T97 t227 x9_1).f0) ++ (⟨#[59]⟩ : ByteArray)).size : Int)))) = true := decide_eq_true c14
              (try (have c14b0s := c14b0; simp only [ByteArray.size_append, Int.natCast_add, Int.cast_ofNat_Int, show ((⟨#[59]⟩ : ByteArray).size : Int) = 1 from rfl, show (⟨#[59]⟩ : ByteArray).size = 1 from rfl] at c14b0s))
              (try (have c14b1s := c14b1; simp only [ByteArray.size_append, Int.natCast_add, Int.cast_ofNat_Int, show ((⟨#[59]⟩ : ByteArray).size : Int) = 1 from rfl, show (⟨#[59]⟩ : ByteArray).size = 1 from rfl] at c14b1s))
              have c15b0 := eq_true (of_decide_eq_true (by first | (with_reducible assumption) | assumption) : (wrap64 (a1 + ((((rd_T97 t227 x9_1).f0) ++ (⟨#[59]⟩ : ByteArray)).size : Int))) ≤ (a0.size : Int))
              (try (have c15b0s := c15b0; simp only [ByteArray.size_append, Int.natCast_add, Int.cast_ofNat_Int, show ((⟨#[59]⟩ : ByteArray).size : Int) = 1 from rfl, show (⟨#[59]⟩ : ByteArray).size = 1 from rfl] at c15b0s))
              by_cases c16 : (a0.extract (a1 : Int).toNat ((wrap64 (a1 + ((((rd_T97 t227 x9_1).f0) ++ (⟨#[59]⟩ : ByteArray)).size : Int))) : Int).toNat).toList = (((rd_T97 t227 x9_1).f0) ++ (⟨#[59]⟩ : ByteArray)).toList
              ·
               rw [if_pos c16] at H
               have c16b0 : ((a0.extract (a1 : Int).toNat ((wrap64 (a1 + ((((rd_T97 t227 x9_1).f0) ++ (⟨#[59]⟩ : ByteArray)).size : Int))) : Int).toNat).toList == (((rd_T97 t227 x9_1).f0) ++ (⟨#[59]⟩ : ByteArray)).toList) = true := beq_iff_eq.mpr c16
               (try (have c16b0s := c16b0; simp only [ByteArray.size_append, Int.natCast_add, Int.cast_ofNat_Int, show ((⟨#[59]⟩ : ByteArray).size : Int) = 1 from rfl, show (⟨#[59]⟩ : ByteArray).size = 1 from rfl] at c16b0s))
               have c16b1 : ((a0.extract (a1 : Int).toNat ((wrap64 (a1 + ((((rd_T97 t227 x9_1).f0) ++ (⟨#[59]⟩ : ByteArray)).size : Int))) : Int).toNat).toList != (((rd_T97 t227 x9_1).f0) ++ (⟨#[59]⟩ : ByteArray)).toList) = false := bne_eq_false_iff_eq.mpr c16
               (try (have c16b1s := c16b1; simp only [ByteArray.size_append, Int.natCast_add, Int.cast_ofNat_Int, show ((⟨#[59]⟩ : ByteArray).size : Int) = 1 from rfl, show (⟨#[59]⟩ : ByteArray).size = 1 from rfl] at c16b1s))
               clear c16
               by_cases c17 : ((((rd_T97 t227 x9_1).f0) ++ (⟨#[59]⟩ : ByteArray)).size : Int) > x8_2
               ·
                rw [if_pos c17] at H
                have c17b0 : decide (x8_2 < ((((rd_T97 t227 x9_1).f0) ++ (⟨#[59]⟩ : ByteArray)).size : Int)) = true := decide_eq_true c17
                (try (have c17b0s := c17b0; simp only [ByteArray.size_append, Int.natCast_add, Int.cast_ofNat_Int, show ((⟨#[59]⟩ : ByteArray).size : Int) = 1 from rfl, show (⟨#[59]⟩ : ByteArray).size = 1 from rfl] at c17b0s))
                clear c17
                replace H := Option.bind_eq_some_iff.mp H
                obtain ⟨t232, A180, H⟩ := H
                replace H : (marginaliaref03_longest.l1 k2 a0 a1 t227 t232 ((((rd_T97 t227 x9_1).f0) ++ (⟨#[59]⟩ : ByteArray)).size : Int) x9_1 (wrap64 (x10_2 + 1))) = some (r1, r2) := H
                have A18 := Aside0.mk A180
                clear A180
                have H' := Aside0.mk H
                clear H
                have p230 : 0 ≤ (x9_1 : Int) := of_decide_eq_true (by first | (with_reducible assumption) | assumption)
                have q230 : x9_1 < (t227.length : Int) := of_decide_eq_true (by first | (with_reducible assumption) | assumption)
                obtain ⟨ad230, e230, hx230_0, hx230_1, hx230_2⟩ := at_T97 (Kd.R_reads' HO_6.out).2.2 x9_1 p230 q230
                cases e230
                replace p230 := eq_true p230
                replace q230 := eq_true q230
                have p231 : 0 ≤ (x9_1 : Int) := of_decide_eq_true (by first | (with_reducible assumption) | assumption)
                have q231 : x9_1 < (t227.length : Int) := of_decide_eq_true (by first | (with_reducible assumption) | assumption)
                obtain ⟨ad231, e231, hx231_0, hx231_1, hx231_2⟩ := at_T97 (Kd.R_reads' HO_6.out).2.2 x9_1 p231 q231
                obtain rfl : ad230 = ad231 := (by injection e231)
                replace p231 := eq_true p231
                replace q231 := eq_true q231
                go_wp2_with (first | ((with_reducible refine gate_callee (f := 92) rfl ?_); refine goesL_ (some 67) rfl rfl Try.func92 (by kernel_rfl) rfl #[.int .i64 ((rd_T97 t227 x9_1).f1)] rfl (by (try simp only [List.map_toArray, List.map_cons, List.map_nil]); first | done | rfl | (simp only [List.length_drop, List.length_take]; rfl)) ?_; (with_reducible refine (marginaliaref03_Utf8.calls ((rd_T97 t227 x9_1).f1) t232 _ A18.out).mono ?_); rintro e w19 ⟨rfl, hb⟩; refine ⟨_, rfl, ?_⟩; have n0_ := Aside0.mk (Kd.R_below (by (with_reducible repeat (first | apply Kd.R_alloc | apply Kd.R_drewN | apply Kd.R_drew)); exact HO_6.out) hb); have n1_ := Aside0.mk (below_step (by repeat (first | (with_reducible first | exact HB.out | apply below_alloc | apply pw_below_drewN | apply below_drew1) | exact HB.out)) hb); clear HO_6; clear HB; have HO_6 := n0_; have HB := n1_; clear n0_ n1_; (try clear hb); (try clear hb2); (try clear hk); (try clear hi)))
                go_roundg k2
                case measure => have := HK1.out; have := HK2.out; omega
                case rel => exact ⟨(t232), (((((rd_T97 t227 x9_1).f0) ++ (⟨#[59]⟩ : ByteArray)).size : Int)), (wrap64 (x10_2 + 1)), (by first | rfl | (simp; done) | (simp [*]; done)), (by first | rfl | (simp; done) | (simp [*]; done) | (simp only [ByteArray.size_append, Int.natCast_add]; rfl)), (by first | rfl | (simp; done) | (simp [*]; done)), H', ⟨by have := HK1.out; have := HK2.out; omega⟩, ⟨by (with_reducible repeat (first | apply Kd.R_alloc | apply Kd.R_drewN | apply Kd.R_drew)); exact HO_6.out⟩, ⟨by repeat (first | (with_reducible first | exact HB.out | apply below_alloc | apply pw_below_drewN | apply below_drew1) | exact HB.out)⟩⟩
               ·
                rw [if_neg c17] at H
                have c17b0 : decide (x8_2 < ((((rd_T97 t227 x9_1).f0) ++ (⟨#[59]⟩ : ByteArray)).size : Int)) = false := decide_eq_false c17
                (try (have c17b0s := c17b0; simp only [ByteArray.size_append, Int.natCast_add, Int.cast_ofNat_Int, show ((⟨#[59]⟩ : ByteArray).size : Int) = 1 from rfl, show (⟨#[59]⟩ : ByteArray).size = 1 from rfl] at c17b0s))
                clear c17
                have H' := Aside0.mk H
                clear H
                have p230 : 0 ≤ (x9_1 : Int) := of_decide_eq_true (by first | (with_reducible assumption) | assumption)
                have q230 : x9_1 < (t227.length : Int) := of_decide_eq_true (by first | (with_reducible assumption) | assumption)
                obtain ⟨ad230, e230, hx230_0, hx230_1, hx230_2⟩ := at_T97 (Kd.R_reads' HO_6.out).2.2 x9_1 p230 q230
                cases e230
                replace p230 := eq_true p230
                replace q230 := eq_true q230
                go_wp2
                go_roundg k2
                case measure => have := HK1.out; have := HK2.out; omega
                case rel => exact ⟨(x7_2), (x8_2), (wrap64 (x10_2 + 1)), (by first | rfl | (simp; done) | (simp [*]; done)), (by first | rfl | (simp; done) | (simp [*]; done)), (by first | rfl | (simp; done) | (simp [*]; done)), H', ⟨by have := HK1.out; have := HK2.out; omega⟩, ⟨by (with_reducible repeat (first | apply Kd.R_alloc | apply Kd.R_drewN | apply Kd.R_drew)); exact HO_6.out⟩, ⟨by repeat (first | (with_reducible first | exact HB.out | apply below_alloc | apply pw_below_drewN | apply below_drew1) | exact HB.out)⟩⟩
              ·
               rw [if_neg c16] at H
               have c16b0 : ((a0.extract (a1 : Int).toNat ((wrap64 (a1 + ((((rd_T97 t227 x9_1).f0) ++ (⟨#[59]⟩ : ByteArray)).size : Int))) : Int).toNat).toList == (((rd_T97 t227 x9_1).f0) ++ (⟨#[59]⟩ : ByteArray)).toList) = false := beq_eq_false_iff_ne.mpr c16
               (try (have c16b0s := c16b0; simp only [ByteArray.size_append, Int.natCast_add, Int.cast_ofNat_Int, show ((⟨#[59]⟩ : ByteArray).size : Int) = 1 from rfl, show (⟨#[59]⟩ : ByteArray).size = 1 from rfl] at c16b0s))
               have c16b1 : ((a0.extract (a1 : Int).toNat ((wrap64 (a1 + ((((rd_T97 t227 x9_1).f0) ++ (⟨#[59]⟩ : ByteArray)).size : Int))) : Int).toNat).toList != (((rd_T97 t227 x9_1).f0) ++ (⟨#[59]⟩ : ByteArray)).toList) = true := bne_iff_ne.mpr c16
               (try (have c16b1s := c16b1; simp only [ByteArray.size_append, Int.natCast_add, Int.cast_ofNat_Int, show ((⟨#[59]⟩ : ByteArray).size : Int) = 1 from rfl, show (⟨#[59]⟩ : ByteArray).size = 1 from rfl] at c16b1s))
               have H' := Aside0.mk H
               clear H
               have p230 : 0 ≤ (x9_1 : Int) := of_decide_eq_true (by first | (with_reducible assumption) | assumption)
               have q230 : x9_1 < (t227.length : Int) := of_decide_eq_true (by first | (with_reducible assumption) | assumption)
               obtain ⟨ad230, e230, hx230_0, hx230_1, hx230_2⟩ := at_T97 (Kd.R_reads' HO_6.out).2.2 x9_1 p230 q230
               cases e230
               replace p230 := eq_true p230
               replace q230 := eq_true q230
               go_wp2
               go_roundg k2
               case measure => have := HK1.out; have := HK2.out; omega
               case rel => exact ⟨(x7_2), (x8_2), (wrap64 (x10_2 + 1)), (by first | rfl | (simp; done) | (simp [*]; done)), (by first | rfl | (simp; done) | (simp [*]; done)), (by first | rfl | (simp; done) | (simp [*]; done)), H', ⟨by have := HK1.out; have := HK2.out; omega⟩, ⟨by (with_reducible repeat (first | apply Kd.R_alloc | apply Kd.R_drewN | apply Kd.R_drew)); exact HO_6.out⟩, ⟨by repeat (first | (with_reducible first | exact HB.out | apply below_alloc | apply pw_below_drewN | apply below_drew1) | exact HB.out)⟩⟩
             ·
              rw [if_neg c14] at H
              exact absurd H (by simp)
            ·
             rw [if_neg c13] at H
             exact absurd H (by simp)
           ·
            rw [if_neg c12] at H
            have c12b0 : decide ((wrap64 (a1 + ((((rd_T97 t227 x9_1).f0) ++ (⟨#[59]⟩ : ByteArray)).size : Int))) ≤ (a0.size : Int)) = false := decide_eq_false c12
            (try (have c12b0s := c12b0; simp only [ByteArray.size_append, Int.natCast_add, Int.cast_ofNat_Int, show ((⟨#[59]⟩ : ByteArray).size : Int) = 1 from rfl, show (⟨#[59]⟩ : ByteArray).size = 1 from rfl] at c12b0s))
            clear c12
            have H' := Aside0.mk H
            clear H
            have p230 : 0 ≤ (x9_1 : Int) := of_decide_eq_true (by first | (with_reducible assumption) | assumption)
            have q230 : x9_1 < (t227.length : Int) := of_decide_eq_true (by first | (with_reducible assumption) | assumption)
            obtain ⟨ad230, e230, hx230_0, hx230_1, hx230_2⟩ := at_T97 (Kd.R_reads' HO_6.out).2.2 x9_1 p230 q230
            cases e230
            replace p230 := eq_true p230
            replace q230 := eq_true q230
            go_wp2
            go_roundg k2
            case measure => have := HK1.out; have := HK2.out; omega
            case rel => exact ⟨(x7_2), (x8_2), (wrap64 (x10_2 + 1)), (by first | rfl | (simp; done) | (simp [*]; done)), (by first | rfl | (simp; done) | (simp [*]; done)), (by first | rfl | (simp; done) | (simp [*]; done)), H', ⟨by have := HK1.out; have := HK2.out; omega⟩, ⟨by (with_reducible repeat (first | apply Kd.R_alloc | apply Kd.R_drewN | apply Kd.R_drew)); exact HO_6.out⟩, ⟨by repeat (first | (with_reducible first | exact HB.out | apply below_alloc | apply pw_below_drewN | apply below_drew1) | exact HB.out)⟩⟩
          ·
           rw [if_neg c11] at H
           exact absurd H (by simp)
         ·
          rw [if_neg c10] at H
          have c10b0 : (x10_2 == 0) = false := beq_eq_false_iff_ne.mpr c10
          have c10b1 : (x10_2 != 0) = true := bne_iff_ne.mpr c10
          obtain ⟨bq20, hbq20⟩ : ∃ b_ : Bool, b_ = ((rd_T97 t227 x9_1).f2) := ⟨_, rfl⟩
          replace H : (if (bq20 = true) then (if (wrap64 (a1 + (((rd_T97 t227 x9_1).f0).size : Int))) ≤ (a0.size : Int) then (if 0 ≤ a1 then (if a1 ≤ (wrap64 (a1 + (((rd_T97 t227 x9_1).f0).size : Int))) then (if (a0.extract (a1 : Int).toNat ((wrap64 (a1 + (((rd_T97 t227 x9_1).f0).size : Int))) : Int).toNat).toList = ((rd_T97 t227 x9_1).f0).toList then (if (((rd_T97 t227 x9_1).f0).size : Int) > x8_2 then ((marginaliaref03_Utf8.f ((rd_T97 t227 x9_1).f1)).bind fun t235 => (marginaliaref03_longest.l1 k2 a0 a1 t227 t235 (((rd_T97 t227 x9_1).f0).size : Int) x9_1 (wrap64 (x10_2 + 1)))) else (marginaliaref03_longest.l1 k2 a0 a1 t227 x7_2 x8_2 x9_1 (wrap64 (x10_2 + 1)))) else (marginaliaref03_longest.l1 k2 a0 a1 t227 x7_2 x8_2 x9_1 (wrap64 (x10_2 + 1)))) else (none)) else (none)) else (marginaliaref03_longest.l1 k2 a0 a1 t227 x7_2 x8_2 x9_1 (wrap64 (x10_2 + 1)))) else (marginaliaref03_longest.l1 k2 a0 a1 t227 x7_2 x8_2 x9_1 (wrap64 (x10_2 + 1)))) = some (r1, r2) := by rw [← hbq20] at H; exact H
          have Nbq20 := Aside0.mk hbq20
          clear hbq20
          by_cases c21 : (bq20 = true)
          ·
           subst c21
           have H1 : (if (wrap64 (a1 + (((rd_T97 t227 x9_1).f0).size : Int))) ≤ (a0.size : Int) then (if 0 ≤ a1 then (if a1 ≤ (wrap64 (a1 + (((rd_T97 t227 x9_1).f0).size : Int))) then (if (a0.extract (a1 : Int).toNat ((wrap64 (a1 + (((rd_T97 t227 x9_1).f0).size : Int))) : Int).toNat).toList = ((rd_T97 t227 x9_1).f0).toList then (if (((rd_T97 t227 x9_1).f0).size : Int) > x8_2 then ((marginaliaref03_Utf8.f ((rd_T97 t227 x9_1).f1)).bind fun t235 => (marginaliaref03_longest.l1 k2 a0 a1 t227 t235 (((rd_T97 t227 x9_1).f0).size : Int) x9_1 (wrap64 (x10_2 + 1)))) else (marginaliaref03_longest.l1 k2 a0 a1 t227 x7_2 x8_2 x9_1 (wrap64 (x10_2 + 1)))) else (marginaliaref03_longest.l1 k2 a0 a1 t227 x7_2 x8_2 x9_1 (wrap64 (x10_2 + 1)))) else (none)) else (none)) else (marginaliaref03_longest.l1 k2 a0 a1 t227 x7_2 x8_2 x9_1 (wrap64 (x10_2 + 1)))) = some (r1, r2) := by rw [if_pos rfl] at H; exact H
           clear H
           have H := H1
           clear H1
           by_cases c22 : (wrap64 (a1 + (((rd_T97 t227 x9_1).f0).size : Int))) ≤ (a0.size : Int)
           ·
            rw [if_pos c22] at H
            have c22b0 : decide ((wrap64 (a1 + (((rd_T97 t227 x9_1).f0).size : Int))) ≤ (a0.size : Int)) = true := decide_eq_true c22
            clear c22
            by_cases c23 : 0 ≤ a1
            ·
             rw [if_pos c23] at H
             have c23b0 := eq_true c23
             have c23b1 : decide (0 ≤ a1) = true := decide_eq_true c23
             clear c23
             by_cases c24 : a1 ≤ (wrap64 (a1 + (((rd_T97 t227 x9_1).f0).size : Int)))
             ·
              rw [if_pos c24] at H
              have c24b0 := eq_true c24
              have c24b1 : decide (a1 ≤ (wrap64 (a1 + (((rd_T97 t227 x9_1).f0).size : Int)))) = true := decide_eq_true c24
              have c25b0 := eq_true (of_decide_eq_true (by first | (with_reducible assumption) | assumption) : (wrap64 (a1 + (((rd_T97 t227 x9_1).f0).size : Int))) ≤ (a0.size : Int))
              by_cases c26 : (a0.extract (a1 : Int).toNat ((wrap64 (a1 + (((rd_T97 t227 x9_1).f0).size : Int))) : Int).toNat).toList = ((rd_T97 t227 x9_1).f0).toList
              ·
               rw [if_pos c26] at H
               have c26b0 : ((a0.extract (a1 : Int).toNat ((wrap64 (a1 + (((rd_T97 t227 x9_1).f0).size : Int))) : Int).toNat).toList == ((rd_T97 t227 x9_1).f0).toList) = true := beq_iff_eq.mpr c26
               (try (have c26b0s := c26b0; simp at c26b0s))
               have c26b1 : ((a0.extract (a1 : Int).toNat ((wrap64 (a1 + (((rd_T97 t227 x9_1).f0).size : Int))) : Int).toNat).toList != ((rd_T97 t227 x9_1).f0).toList) = false := bne_eq_false_iff_eq.mpr c26
               (try (have c26b1s := c26b1; simp at c26b1s))
               clear c26
               by_cases c27 : (((rd_T97 t227 x9_1).f0).size : Int) > x8_2
               ·
                rw [if_pos c27] at H
                have c27b0 : decide (x8_2 < (((rd_T97 t227 x9_1).f0).size : Int)) = true := decide_eq_true c27
                clear c27
                replace H := Option.bind_eq_some_iff.mp H
                obtain ⟨t235, A280, H⟩ := H
                replace H : (marginaliaref03_longest.l1 k2 a0 a1 t227 t235 (((rd_T97 t227 x9_1).f0).size : Int) x9_1 (wrap64 (x10_2 + 1))) = some (r1, r2) := H
                have A28 := Aside0.mk A280
                clear A280
                have H' := Aside0.mk H
                clear H
                have p230 : 0 ≤ (x9_1 : Int) := of_decide_eq_true (by first | (with_reducible assumption) | assumption)
                have q230 : x9_1 < (t227.length : Int) := of_decide_eq_true (by first | (with_reducible assumption) | assumption)
                obtain ⟨ad230, e230, hx230_0, hx230_1, hx230_2⟩ := at_T97 (Kd.R_reads' HO_6.out).2.2 x9_1 p230 q230
                (try rw [← Nbq20.out] at hx230_2)
                cases e230
                replace p230 := eq_true p230
                replace q230 := eq_true q230
                have p233 : 0 ≤ (x9_1 : Int) := of_decide_eq_true (by first | (with_reducible assumption) | assumption)
                have q233 : x9_1 < (t227.length : Int) := of_decide_eq_true (by first | (with_reducible assumption) | assumption)
                obtain ⟨ad233, e233, hx233_0, hx233_1, hx233_2⟩ := at_T97 (Kd.R_reads' HO_6.out).2.2 x9_1 p233 q233
                (try rw [← Nbq20.out] at hx233_2)
                obtain rfl : ad230 = ad233 := (by injection e233)
                replace p233 := eq_true p233
                replace q233 := eq_true q233
                have p234 : 0 ≤ (x9_1 : Int) := of_decide_eq_true (by first | (with_reducible assumption) | assumption)
                have q234 : x9_1 < (t227.length : Int) := of_decide_eq_true (by first | (with_reducible assumption) | assumption)
                obtain ⟨ad234, e234, hx234_0, hx234_1, hx234_2⟩ := at_T97 (Kd.R_reads' HO_6.out).2.2 x9_1 p234 q234
                (try rw [← Nbq20.out] at hx234_2)
                obtain rfl : ad230 = ad234 := (by injection e234)
                replace p234 := eq_true p234
                replace q234 := eq_true q234
                go_wp2_with (first | ((with_reducible refine gate_callee (f := 92) rfl ?_); refine goesL_ (some 67) rfl rfl Try.func92 (by kernel_rfl) rfl #[.int .i64 ((rd_T97 t227 x9_1).f1)] rfl (by (try simp only [List.map_toArray, List.map_cons, List.map_nil]); first | done | rfl | (simp only [List.length_drop, List.length_take]; rfl)) ?_; (with_reducible refine (marginaliaref03_Utf8.calls ((rd_T97 t227 x9_1).f1) t235 _ A28.out).mono ?_); rintro e w29 ⟨rfl, hb⟩; refine ⟨_, rfl, ?_⟩; have n0_ := Aside0.mk (Kd.R_below (by (with_reducible repeat (first | apply Kd.R_alloc | apply Kd.R_drewN | apply Kd.R_drew)); exact HO_6.out) hb); have n1_ := Aside0.mk (below_step (by repeat (first | (with_reducible first | exact HB.out | apply below_alloc | apply pw_below_drewN | apply below_drew1) | exact HB.out)) hb); clear HO_6; clear HB; have HO_6 := n0_; have HB := n1_; clear n0_ n1_; (try clear hb); (try clear hb2); (try clear hk); (try clear hi)))
                go_roundg k2
                case measure => have := HK1.out; have := HK2.out; omega
                case rel => exact ⟨(t235), ((((rd_T97 t227 x9_1).f0).size : Int)), (wrap64 (x10_2 + 1)), (by first | rfl | (simp; done) | (simp [*]; done)), (by first | rfl | (simp; done) | (simp [*]; done)), (by first | rfl | (simp; done) | (simp [*]; done)), H', ⟨by have := HK1.out; have := HK2.out; omega⟩, ⟨by (with_reducible repeat (first | apply Kd.R_alloc | apply Kd.R_drewN | apply Kd.R_drew)); exact HO_6.out⟩, ⟨by repeat (first | (with_reducible first | exact HB.out | apply below_alloc | apply pw_below_drewN | apply below_drew1) | exact HB.out)⟩⟩
               ·
                rw [if_neg c27] at H
                have c27b0 : decide (x8_2 < (((rd_T97 t227 x9_1).f0).size : Int)) = false := decide_eq_false c27
                clear c27
                have H' := Aside0.mk H
                clear H
                have p230 : 0 ≤ (x9_1 : Int) := of_decide_eq_true (by first | (with_reducible assumption) | assumption)
                have q230 : x9_1 < (t227.length : Int) := of_decide_eq_true (by first | (with_reducible assumption) | assumption)
                obtain ⟨ad230, e230, hx230_0, hx230_1, hx230_2⟩ := at_T97 (Kd.R_reads' HO_6.out).2.2 x9_1 p230 q230
                (try rw [← Nbq20.out] at hx230_2)
                cases e230
                replace p230 := eq_true p230
                replace q230 := eq_true q230
                have p233 : 0 ≤ (x9_1 : Int) := of_decide_eq_true (by first | (with_reducible assumption) | assumption)
                have q233 : x9_1 < (t227.length : Int) := of_decide_eq_true (by first | (with_reducible assumption) | assumption)
                obtain ⟨ad233, e233, hx233_0, hx233_1, hx233_2⟩ := at_T97 (Kd.R_reads' HO_6.out).2.2 x9_1 p233 q233
                (try rw [← Nbq20.out] at hx233_2)
                obtain rfl : ad230 = ad233 := (by injection e233)
                replace p233 := eq_true p233
                replace q233 := eq_true q233
                go_wp2
                go_roundg k2
                case measure => have := HK1.out; have := HK2.out; omega
                case rel => exact ⟨(x7_2), (x8_2), (wrap64 (x10_2 + 1)), (by first | rfl | (simp; done) | (simp [*]; done)), (by first | rfl | (simp; done) | (simp [*]; done)), (by first | rfl | (simp; done) | (simp [*]; done)), H', ⟨by have := HK1.out; have := HK2.out; omega⟩, ⟨by (with_reducible repeat (first | apply Kd.R_alloc | apply Kd.R_drewN | apply Kd.R_drew)); exact HO_6.out⟩, ⟨by repeat (first | (with_reducible first | exact HB.out | apply below_alloc | apply pw_below_drewN | apply below_drew1) | exact HB.out)⟩⟩
              ·
               rw [if_neg c26] at H
               have c26b0 : ((a0.extract (a1 : Int).toNat ((wrap64 (a1 + (((rd_T97 t227 x9_1).f0).size : Int))) : Int).toNat).toList == ((rd_T97 t227 x9_1).f0).toList) = false := beq_eq_false_iff_ne.mpr c26
               (try (have c26b0s := c26b0; simp at c26b0s))
               have c26b1 : ((a0.extract (a1 : Int).toNat ((wrap64 (a1 + (((rd_T97 t227 x9_1).f0).size : Int))) : Int).toNat).toList != ((rd_T97 t227 x9_1).f0).toList) = true := bne_iff_ne.mpr c26
               (try (have c26b1s := c26b1; simp at c26b1s))
               have H' := Aside0.mk H
               clear H
               have p230 : 0 ≤ (x9_1 : Int) := of_decide_eq_true (by first | (with_reducible assumption) | assumption)
               have q230 : x9_1 < (t227.length : Int) := of_decide_eq_true (by first | (with_reducible assumption) | assumption)
               obtain ⟨ad230, e230, hx230_0, hx230_1, hx230_2⟩ := at_T97 (Kd.R_reads' HO_6.out).2.2 x9_1 p230 q230
               (try rw [← Nbq20.out] at hx230_2)
               cases e230
               replace p230 := eq_true p230
               replace q230 := eq_true q230
               have p233 : 0 ≤ (x9_1 : Int) := of_decide_eq_true (by first | (with_reducible assumption) | assumption)
               have q233 : x9_1 < (t227.length : Int) := of_decide_eq_true (by first | (with_reducible assumption) | assumption)
               obtain ⟨ad233, e233, hx233_0, hx233_1, hx233_2⟩ := at_T97 (Kd.R_reads' HO_6.out).2.2 x9_1 p233 q233
               (try rw [← Nbq20.out] at hx233_2)
               obtain rfl : ad230 = ad233 := (by injection e233)
               replace p233 := eq_true p233
               replace q233 := eq_true q233
               go_wp2
               go_roundg k2
               case measure => have := HK1.out; have := HK2.out; omega
               case rel => exact ⟨(x7_2), (x8_2), (wrap64 (x10_2 + 1)), (by first | rfl | (simp; done) | (simp [*]; done)), (by first | rfl | (simp; done) | (simp [*]; done)), (by first | rfl | (simp; done) | (simp [*]; done)), H', ⟨by have := HK1.out; have := HK2.out; omega⟩, ⟨by (with_reducible repeat (first | apply Kd.R_alloc | apply Kd.R_drewN | apply Kd.R_drew)); exact HO_6.out⟩, ⟨by repeat (first | (with_reducible first | exact HB.out | apply below_alloc | apply pw_below_drewN | apply below_drew1) | exact HB.out)⟩⟩
             ·
              rw [if_neg c24] at H
              exact absurd H (by simp)
            ·
             rw [if_neg c23] at H
             exact absurd H (by simp)
           ·
            rw [if_neg c22] at H
            have c22b0 : decide ((wrap64 (a1 + (((rd_T97 t227 x9_1).f0).size : Int))) ≤ (a0.size : Int)) = false := decide_eq_false c22
            clear c22
            have H' := Aside0.mk H
            clear H
            have p230 : 0 ≤ (x9_1 : Int) := of_decide_eq_true (by first | (with_reducible assumption) | assumption)
            have q230 : x9_1 < (t227.length : Int) := of_decide_eq_true (by first | (with_reducible assumption) | assumption)
            obtain ⟨ad230, e230, hx230_0, hx230_1, hx230_2⟩ := at_T97 (Kd.R_reads' HO_6.out).2.2 x9_1 p230 q230
            (try rw [← Nbq20.out] at hx230_2)
            cases e230
            replace p230 := eq_true p230
            replace q230 := eq_true q230
            have p233 : 0 ≤ (x9_1 : Int) := of_decide_eq_true (by first | (with_reducible assumption) | assumption)
            have q233 : x9_1 < (t227.length : Int) := of_decide_eq_true (by first | (with_reducible assumption) | assumption)
            obtain ⟨ad233, e233, hx233_0, hx233_1, hx233_2⟩ := at_T97 (Kd.R_reads' HO_6.out).2.2 x9_1 p233 q233
            (try rw [← Nbq20.out] at hx233_2)
            obtain rfl : ad230 = ad233 := (by injection e233)
            replace p233 := eq_true p233
            replace q233 := eq_true q233
            go_wp2
            go_roundg k2
            case measure => have := HK1.out; have := HK2.out; omega
            case rel => exact ⟨(x7_2), (x8_2), (wrap64 (x10_2 + 1)), (by first | rfl | (simp; done) | (simp [*]; done)), (by first | rfl | (simp; done) | (simp [*]; done)), (by first | rfl | (simp; done) | (simp [*]; done)), H', ⟨by have := HK1.out; have := HK2.out; omega⟩, ⟨by (with_reducible repeat (first | apply Kd.R_alloc | apply Kd.R_drewN | apply Kd.R_drew)); exact HO_6.out⟩, ⟨by repeat (first | (with_reducible first | exact HB.out | apply below_alloc | apply pw_below_drewN | apply below_drew1) | exact HB.out)⟩⟩
          ·
           replace c21 := Bool.eq_false_iff.mpr c21
           subst c21
           have H1 : (marginaliaref03_longest.l1 k2 a0 a1 t227 x7_2 x8_2 x9_1 (wrap64 (x10_2 + 1))) = some (r1, r2) := by rw [if_neg (show ¬ (false = true) by decide)] at H; exact H
           clear H
           have H := H1
           clear H1
           have H' := Aside0.mk H
           clear H
           have p230 : 0 ≤ (x9_1 : Int) := of_decide_eq_true (by first | (with_reducible assumption) | assumption)
           have q230 : x9_1 < (t227.length : Int) := of_decide_eq_true (by first | (with_reducible assumption) | assumption)
           obtain ⟨ad230, e230, hx230_0, hx230_1, hx230_2⟩ := at_T97 (Kd.R_reads' HO_6.out).2.2 x9_1 p230 q230
           (try rw [← Nbq20.out] at hx230_2)
           cases e230
           replace p230 := eq_true p230
           replace q230 := eq_true q230
           have p233 : 0 ≤ (x9_1 : Int) := of_decide_eq_true (by first | (with_reducible assumption) | assumption)
           have q233 : x9_1 < (t227.length : Int) := of_decide_eq_true (by first | (with_reducible assumption) | assumption)
           obtain ⟨ad233, e233, hx233_0, hx233_1, hx233_2⟩ := at_T97 (Kd.R_reads' HO_6.out).2.2 x9_1 p233 q233
           (try rw [← Nbq20.out] at hx233_2)
           obtain rfl : ad230 = ad233 := (by injection e233)
           replace p233 := eq_true p233
           replace q233 := eq_true q233
           go_wp2
           go_roundg k2
           case measure => have := HK1.out; have := HK2.out; omega
           case rel => exact ⟨(x7_2), (x8_2), (wrap64 (x10_2 + 1)), (by first | rfl | (simp; done) | (simp [*]; done)), (by first | rfl | (simp; done) | (simp [*]; done)), (by first | rfl | (simp; done) | (simp [*]; done)), H', ⟨by have := HK1.out; have := HK2.out; omega⟩, ⟨by (with_reducible repeat (first | apply Kd.R_alloc | apply Kd.R_drewN | apply Kd.R_drew)); exact HO_6.out⟩, ⟨by repeat (first | (with_reducible first | exact HB.out | apply below_alloc | apply pw_below_drewN | apply below_drew1) | exact HB.out)⟩⟩
        ·
         rw [if_neg c9] at H
         exact absurd H (by simp)
       ·
        rw [if_neg c8] at H
        exact absurd H (by simp)
      ·
       rw [if_neg c7] at H
       have c7b0 : decide (x10_2 < 2) = false := decide_eq_false c7
       clear c7
       have H' := Aside0.mk H
       clear H
       go_wp2
       go_roundg k2
       case measure => have := HK1.out; have := HK2.out; omega
       case rel => exact ⟨(x7_2), (x8_2), (wrap64 (x9_1 + 1)), (by first | rfl | (simp; done) | (simp [*]; done)), (by first | rfl | (simp; done) | (simp [*]; done)), (by first | rfl | (simp; done) | (simp [*]; done)), H', ⟨by have := HK1.out; have := HK2.out; omega⟩, ⟨by (with_reducible repeat (first | apply Kd.R_alloc | apply Kd.R_drewN | apply Kd.R_drew)); exact HO_6.out⟩, ⟨by repeat (first | (with_reducible first | exact HB.out | apply below_alloc | apply pw_below_drewN | apply below_drew1) | exact HB.out)⟩⟩
   ·
    rw [if_neg c5] at H
    have c5b0 : decide (x9_1 < (t227.length : Int)) = false := decide_eq_false c5
    clear c5
    simp only [Option.some.injEq, Prod.mk.injEq] at H
    obtain ⟨rfl, rfl⟩ := H
    obtain ⟨Ao30, co30, eo30⟩ := Kd.R_slice HO_6.out
    subst eo30
    go_wp2
    go_ret2
    exact ⟨by first | rfl | (simp [errW_none, errW_some] <;> rfl) | (simp [*, errW_none, errW_some] <;> rfl), by repeat (first | (with_reducible first | exact HB.out | apply below_alloc | apply pw_below_drewN | apply below_drew1) | exact HB.out)⟩
/-! ### marginaliaref02_Figure: function 74 -/
def marginaliaref02_Figure.f (a0 : Int) : Option (Bool) := if a0 ≥ 48 then (some (decide (a0 ≤ 57))) else (some false)
set_option maxHeartbeats 8000000 in
set_option maxRecDepth 100000 in
theorem marginaliaref02_Figure.calls (a0 : Int) (r : Bool) (w : World) (h : marginaliaref02_Figure.f a0 = some r) :
    Calls Try.prog 74 #[.int .u8 a0] w fun e w' => e = .returned (.bool r) ∧ Drawn0 w w' := by
 have H : (if a0 ≥ 48 then (some (decide (a0 ≤ 57))) else (some false)) = some r := h
 clear h
 by_cases c2 : a0 ≥ 48
 ·
  rw [if_pos c2] at H
  have c2b0 : decide (48 ≤ a0) = true := decide_eq_true c2
  clear c2
  obtain rfl := Option.some.inj H
  go_enter Try.func74, Try.ntmps74
  go_wp2
  go_ret
  exact ⟨by first | rfl | (simp; done) | (simp [*]; done), by repeat (first | exact Drawn0.refl _ | apply Drawn0.step)⟩
 ·
  rw [if_neg c2] at H
  have c2b0 : decide (48 ≤ a0) = false := decide_eq_false c2
  clear c2
  obtain rfl := Option.some.inj H
  go_enter Try.func74, Try.ntmps74
  go_wp2
  go_ret
  exact ⟨by first | rfl | (simp; done) | (simp [*]; done), by repeat (first | exact Drawn0.refl _ | apply Drawn0.step)⟩
/-! ### marginaliaref03_At: function 53 -/
mutual
def marginaliaref03_At.j0 : Nat → ByteArray → Int → Bool → Bool → Option (ByteArray × Int)
  | 0, _, _, _, _ => none
  | k + 1, x0, x1, x2, x26 => if x26 = true then (some ((⟨#[]⟩ : ByteArray), 0)) else (if (wrap64 (x1 + 1)) < (x0.size : Int) then (if 0 ≤ (wrap64 (x1 + 1)) then (marginaliaref03_At.j1 k x0 x1 x2 ((bt x0 (wrap64 (x1 + 1))) == 35)) else (none)) else (marginaliaref03_At.j1 k x0 x1 x2 false))
def marginaliaref03_At.j1 : Nat → ByteArray → Int → Bool → Bool → Option (ByteArray × Int)
  | 0, _, _, _, _ => none
  | k + 1, x0, x1, x2, x38 => if x38 = true then ((marginaliaref03_number.f k x0 x1).bind fun bt236 => (if bt236.2 = 0 then (some ((⟨#[38]⟩ : ByteArray), 1)) else (some (bt236.1, bt236.2)))) else ((marginaliaref03_longest.f k x0 (wrap64 (x1 + 1))).bind fun bt238 => (if bt238.2 = 0 then (some ((⟨#[38]⟩ : ByteArray), 1)) else (if x2 = true then (if 0 ≤ (wrap64 ((wrap64 ((wrap64 (x1 + 1)) + bt238.2)) - 1)) then (if (wrap64 ((wrap64 ((wrap64 (x1 + 1)) + bt238.2)) - 1)) < (x0.size : Int) then (if (bt x0 (wrap64 ((wrap64 ((wrap64 (x1 + 1)) + bt238.2)) - 1))) = 59 then (some (bt238.1, wrap64 (bt238.2 + 1))) else (if (wrap64 ((wrap64 (x1 + 1)) + bt238.2)) < (x0.size : Int) then (if 0 ≤ (wrap64 ((wrap64 (x1 + 1)) + bt238.2)) then (if (bt x0 (wrap64 ((wrap64 (x1 + 1)) + bt238.2))) = 61 then (some ((⟨#[38]⟩ : ByteArray), 1)) else ((marginaliaref02_Letter.f (bt x0 (wrap64 ((wrap64 (x1 + 1)) + bt238.2)))).bind fun t240 => (if t240 = true then (some ((⟨#[38]⟩ : ByteArray), 1)) else ((marginaliaref02_Figure.f (bt x0 (wrap64 ((wrap64 (x1 + 1)) + bt238.2)))).bind fun t241 => (if t241 = true then (some ((⟨#[38]⟩ : ByteArray), 1)) else (some (bt238.1, wrap64 (bt238.2 + 1)))))))) else (none)) else (some (bt238.1, wrap64 (bt238.2 + 1))))) else (none)) else (none)) else (some (bt238.1, wrap64 (bt238.2 + 1))))))
end
def marginaliaref03_At.f (k : Nat) (a0 : ByteArray) (a1 : Int) (a2 : Bool) : Option (ByteArray × Int) := if a1 < 0 then (marginaliaref03_At.j0 k a0 a1 a2 true) else (if a1 ≥ (a0.size : Int) then (marginaliaref03_At.j0 k a0 a1 a2 true) else (if 0 ≤ a1 then (if a1 < (a0.size : Int) then (marginaliaref03_At.j0 k a0 a1 a2 ((bt a0 a1) != 38)) else (none)) else (none)))
theorem marginaliaref03_At.mono_l : ∀ k, (∀ y0 y1 y2 y3, LeO (marginaliaref03_At.j0 k y0 y1 y2 y3) (marginaliaref03_At.j0 (k + 1) y0 y1 y2 y3)) ∧ (∀ y0 y1 y2 y3, LeO (marginaliaref03_At.j1 k y0 y1 y2 y3) (marginaliaref03_At.j1 (k + 1) y0 y1 y2 y3))
  | 0 => ⟨fun _ _ _ _ r h => by simp [marginaliaref03_At.j0] at h, fun _ _ _ _ r h => by simp [marginaliaref03_At.j1] at h⟩
  | k + 1 => by
    obtain ⟨ih0, ih1⟩ := marginaliaref03_At.mono_l k
    refine ⟨?_, ?_⟩
    · intro y0 y1 y2 y3
      unfold marginaliaref03_At.j0
      repeat' first
      | (with_reducible exact ih0 _ _ _ _)
      | (with_reducible exact ih1 _ _ _ _)
      | (with_reducible exact marginaliaref03_longest.mono _ _ _)
      | (with_reducible exact marginaliaref03_number.mono _ _ _)
      | (with_reducible exact LeO.refl _)
      | (with_reducible exact LeO.none _)
      | (with_reducible refine LeO.ite ?_ ?_)
      | (with_reducible refine LeO.bind ?_ (fun _ => ?_))
      | exact ih0 _ _ _ _
      | exact ih1 _ _ _ _
      | exact marginaliaref03_longest.mono _ _ _
      | exact marginaliaref03_number.mono _ _ _
      | exact LeO.none _
      | refine LeO.ite ?_ ?_
      | refine LeO.bind ?_ (fun _ => ?_)
    · intro y0 y1 y2 y3
      unfold marginaliaref03_At.j1
      repeat' first
      | (with_reducible exact ih0 _ _ _ _)
      | (with_reducible exact ih1 _ _ _ _)
      | (with_reducible exact marginaliaref03_longest.mono _ _ _)
      | (with_reducible exact marginaliaref03_number.mono _ _ _)
      | (with_reducible exact LeO.refl _)
      | (with_reducible exact LeO.none _)
      | (with_reducible refine LeO.ite ?_ ?_)
      | (with_reducible refine LeO.bind ?_ (fun _ => ?_))
      | exact ih0 _ _ _ _
      | exact ih1 _ _ _ _
      | exact marginaliaref03_longest.mono _ _ _
      | exact marginaliaref03_number.mono _ _ _
      | exact LeO.none _
      | refine LeO.ite ?_ ?_
      | refine LeO.bind ?_ (fun _ => ?_)
theorem marginaliaref03_At.mono : ∀ a0 a1 a2 k, LeO (marginaliaref03_At.f k a0 a1 a2) (marginaliaref03_At.f (k + 1) a0 a1 a2) := by
 intro a0 a1 a2 k
 obtain ⟨ih0, ih1⟩ := marginaliaref03_At.mono_l k
 unfold marginaliaref03_At.f
 repeat' first
     | (with_reducible exact ih0 _ _ _ _)
     | (with_reducible exact ih1 _ _ _ _)
     | (with_reducible exact marginaliaref03_longest.mono _ _ _)
     | (with_reducible exact marginaliaref03_number.mono _ _ _)
     | (with_reducible exact LeO.refl _)
     | (with_reducible exact LeO.none _)
     | (with_reducible refine LeO.ite ?_ ?_)
     | (with_reducible refine LeO.bind ?_ (fun _ => ?_))
     | exact ih0 _ _ _ _
     | exact ih1 _ _ _ _
     | exact marginaliaref03_longest.mono _ _ _
     | exact marginaliaref03_number.mono _ _ _
     | exact LeO.none _
     | refine LeO.ite ?_ ?_
     | refine LeO.bind ?_ (fun _ => ?_)
set_option maxHeartbeats 8000000 in
set_option maxRecDepth 100000 in
theorem marginaliaref03_At.calls (k : Nat) (a0 : ByteArray) (a1 : Int) (a2 : Bool) (r1 : ByteArray) (r2 : Int) (w : World) (h : marginaliaref03_At.f k a0 a1 a2 = some (r1, r2)) :
    Calls Try.prog 53 #[.string a0, .int .i64 a1, .bool a2] w fun e w' => e = .returned (.tuple #[.string r1, .int .i64 r2]) ∧ Below w.heap.size w w' := by
 have HB := Aside0.mk (Below.refl w.heap.size w)
 have H : (if a1 < 0 then (marginaliaref03_At.j0 k a0 a1 a2 true) else (if a1 ≥ (a0.size : Int) then (marginaliaref03_At.j0 k a0 a1 a2 true) else (if 0 ≤ a1 then (if a1 < (a0.size : Int) then (marginaliaref03_At.j0 k a0 a1 a2 ((bt a0 a1) != 38)) else (none)) else (none)))) = some (r1, r2) := h
 clear h
 have HC4 := Aside0.mk H
 clear H
 go_enter Try.func53, Try.ntmps53
 go_upto_region 1 with (fail)
 go_cut [26] (fun v26 wc => ∃ (kq : Nat) (x26_3 : Bool), v26 = .bool x26_3 ∧ Aside0 (marginaliaref03_At.j0 kq a0 a1 a2 x26_3 = some (r1, r2)) ∧ Aside0 (kq ≤ k) ∧ Aside0 (Below w.heap.size w wc))
 case first =>
  have H := HC4.out
  clear HC4
  by_cases c5 : a1 < 0
  ·
   rw [if_pos c5] at H
   have c5b0 : decide (a1 < 0) = true := decide_eq_true c5
   clear c5
   (first | rw [c5b0] | (simp only [i64_w, i32_w]; rw [c5b0]) | skip)
   have H' := Aside0.mk H
   clear H
   go_wp2
   go_meet
   case rel => exact ⟨_, (true), (by first | rfl | (simp; done) | (simp [*]; done)), H', ⟨by first | omega | exact Nat.le_refl _⟩, ⟨by repeat (first | (with_reducible first | exact HB.out | apply below_alloc | apply pw_below_drewN | apply below_drew1) | exact HB.out)⟩⟩
  ·
   rw [if_neg c5] at H
   have c5b0 : decide (a1 < 0) = false := decide_eq_false c5
   clear c5
   (first | rw [c5b0] | (simp only [i64_w, i32_w]; rw [c5b0]) | skip)
   by_cases c6 : a1 ≥ (a0.size : Int)
   ·
    rw [if_pos c6] at H
    have c6b0 : decide ((a0.size : Int) ≤ a1) = true := decide_eq_true c6
    clear c6
    have H' := Aside0.mk H
    clear H
    go_wp2
    go_meet
    case rel => exact ⟨_, (true), (by first | rfl | (simp; done) | (simp [*]; done)), H', ⟨by first | omega | exact Nat.le_refl _⟩, ⟨by repeat (first | (with_reducible first | exact HB.out | apply below_alloc | apply pw_below_drewN | apply below_drew1) | exact HB.out)⟩⟩
   ·
    rw [if_neg c6] at H
    have c6b0 : decide ((a0.size : Int) ≤ a1) = false := decide_eq_false c6
    clear c6
    by_cases c7 : 0 ≤ a1
    ·
     rw [if_pos c7] at H
     have c7b0 : decide (0 ≤ a1) = true := decide_eq_true c7
     clear c7
     by_cases c8 : a1 < (a0.size : Int)
     ·
      rw [if_pos c8] at H
      have c8b0 : decide (a1 < (a0.size : Int)) = true := decide_eq_true c8
      clear c8
      have H' := Aside0.mk H
      clear H
      have p9 : 0 ≤ (a1 : Int) := of_decide_eq_true (by first | (with_reducible assumption) | assumption)
      have q9 : a1 < (a0.size : Int) := of_decide_eq_true (by first | (with_reducible assumption) | assumption)
      have hx9 := bt_at a0 a1
      replace p9 := eq_true p9
      replace q9 := eq_true q9
      go_wp2
      go_meet
      case rel => exact ⟨_, (((bt a0 a1) != 38)), (by first | rfl | (simp; done) | (simp [*]; done)), H', ⟨by first | omega | exact Nat.le_refl _⟩, ⟨by repeat (first | (with_reducible first | exact HB.out | apply below_alloc | apply pw_below_drewN | apply below_drew1) | exact HB.out)⟩⟩
     ·
      rw [if_neg c8] at H
      exact absurd H (by simp)
    ·
     rw [if_neg c7] at H
     exact absurd H (by simp)
 case rest =>
  clear HC4
  try clear p2
  try clear c5
  try clear c5b0
  try clear c6
  try clear c6b0
  try clear c7
  try clear c7b0
  try clear c8
  try clear c8b0
  try clear p9
  try clear q9
  try clear hx9
  try clear p9
  try clear q9
  obtain ⟨kq, x26_3, rfl, HA, HJ3, HB⟩ := hcut
  cases kq with
  | zero => exact absurd HA.out (by simp [marginaliaref03_At.j0])
  | succ kj3 =>
   have H := HA.out
   clear HA
   simp only [marginaliaref03_At.j0] at H
   by_cases c10 : x26_3 = true
   ·
    subst c10
    replace H := (if_pos rfl).symm.trans H
    simp only [Option.some.injEq, Prod.mk.injEq] at H
    obtain ⟨rfl, rfl⟩ := H
    go_wp2
    go_ret2
    exact ⟨by first | rfl | (simp [errW_none, errW_some] <;> rfl) | (simp [*, errW_none, errW_some] <;> rfl), by repeat (first | (with_reducible first | exact HB.out | apply below_alloc | apply pw_below_drewN | apply below_drew1) | exact HB.out)⟩
   ·
    replace c10 := Bool.eq_false_iff.mpr c10
    subst c10
    replace H := (if_neg Bool.false_ne_true).symm.trans H
    have HC11 := Aside0.mk H
    clear H
    go_upto_region 3 with (fail)
    go_cut [38] (fun v38 wc => ∃ (kq : Nat) (x38_10 : Bool), v38 = .bool x38_10 ∧ Aside0 (marginaliaref03_At.j1 kq a0 a1 a2 x38_10 = some (r1, r2)) ∧ Aside0 (kq ≤ kj3) ∧ Aside0 (Below w.heap.size w wc))
    case first =>
     have H := HC11.out
     clear HC11
     by_cases c12 : (wrap64 (a1 + 1)) < (a0.size : Int)
     ·
      rw [if_pos c12] at H
      have c12b0 : decide ((wrap64 (a1 + 1)) < (a0.size : Int)) = true := decide_eq_true c12
      clear c12
      (first | rw [c12b0] | (simp only [i64_w, i32_w]; rw [c12b0]) | skip)
      obtain ⟨ji13, hji13⟩ : ∃ j_ : Int, (wrap64 (a1 + 1)) = j_ := ⟨_, rfl⟩
      replace H : (if 0 ≤ (ji13) then (marginaliaref03_At.j1 kj3 a0 a1 a2 ((bt a0 (ji13)) == 35)) else (none)) = some (r1, r2) := by first | (rw [hji13] at H; exact H) | (simp only [hji13] at H ⊢; exact H)
      (try rw [hji13] at c12b0)
      have hji13w : (IntKind.i64.wrap (a1 + 1)) = ji13 := (i64_w _).trans hji13
      by_cases c14 : 0 ≤ (ji13)
      ·
       rw [if_pos c14] at H
       have c14b0 : decide (0 ≤ (ji13)) = true := decide_eq_true c14
       clear c14
       have H' := Aside0.mk H
       clear H
       have p15 : 0 ≤ ((ji13) : Int) := of_decide_eq_true (by first | (with_reducible assumption) | assumption)
       have q15 : (ji13) < (a0.size : Int) := of_decide_eq_true (by first | (with_reducible assumption) | assumption)
       have hx15 := bt_at a0 (ji13)
       replace p15 := eq_true p15
       replace q15 := eq_true q15
       go_wp2
       go_meet
       case rel => exact ⟨kj3, (((bt a0 (ji13)) == 35)), (by first | rfl | (simp; done) | (simp only [← hji13] <;> (first | rfl | simp)) | (simp [*]; done)), (by first | exact H' | (simp only [hji13]; exact H') | (simp only [hji13]; exact H')), ⟨by have := HJ3.out; first | omega | exact Nat.le_refl _⟩, ⟨by repeat (first | (with_reducible first | exact HB.out | apply below_alloc | apply pw_below_drewN | apply below_drew1) | exact HB.out)⟩⟩
      ·
       rw [if_neg c14] at H
       exact absurd H (by simp)
     ·
      rw [if_neg c12] at H
      have c12b0 : decide ((wrap64 (a1 + 1)) < (a0.size : Int)) = false := decide_eq_false c12
      clear c12
      (first | rw [c12b0] | (simp only [i64_w, i32_w]; rw [c12b0]) | skip)
      have H' := Aside0.mk H
      clear H
      go_wp2
      go_meet
      case rel => exact ⟨_, (false), (by first | rfl | (simp; done) | (simp [*]; done)), H', ⟨by have := HJ3.out; first | omega | exact Nat.le_refl _⟩, ⟨by repeat (first | (with_reducible first | exact HB.out | apply below_alloc | apply pw_below_drewN | apply below_drew1) | exact HB.out)⟩⟩
    case rest =>
     clear HC11
     try clear c1
     try clear p1
     try clear q1
     try clear hx1
     try clear p2
     try clear c5
     try clear c5b0
     try clear c6
     try clear c6b0
     try clear p6
     try clear c7
     try clear c7b0
     try clear c8
     try clear c8b0
     try clear p9
     try clear q9
     try clear hx9
     try clear c10
     try clear c12
     try clear c12b0
     try clear c14
     try clear c14b0
     try clear p15
     try clear q15
     try clear hx15
     try clear p15
     try clear p2
     try clear p9
     try clear q15
     try clear q9
     obtain ⟨kq, x38_10, rfl, HA, HJ10, HB⟩ := hcut
     cases kq with
     | zero => exact absurd HA.out (by simp [marginaliaref03_At.j1])
     | succ kj10 =>
      have H := HA.out
      clear HA
      simp only [marginaliaref03_At.j1] at H
      by_cases c16 : x38_10 = true
      ·
       subst c16
       replace H := (if_pos rfl).symm.trans H
       replace H := Option.bind_eq_some_iff.mp H
       obtain ⟨⟨t236, t237⟩, A170, H⟩ := H
       try dsimp only at H
       have A17 := Aside0.mk A170
       clear A170
       go_wp2_with fail
       (with_reducible refine (marginaliaref03_number.calls kj10 a0 a1 t236 t237 _ A17.out).mono ?_)
       rintro e w19 ⟨rfl, hb⟩
       have n0_ := Aside0.mk (below_step (by repeat (first | (with_reducible first | exact HB.out | apply below_alloc | apply pw_below_drewN | apply below_drew1) | exact HB.out)) hb)
       clear HB
       have HB := n0_
       clear n0_
       (try clear hb)
       (try clear hb2)
       (try clear hk)
       (try clear hi)
       by_cases c18 : t237 = 0
       ·
        rw [if_pos c18] at H
        have c18b0 : (t237 == 0) = true := beq_iff_eq.mpr c18
        have c18b1 : (t237 != 0) = false := bne_eq_false_iff_eq.mpr c18
        clear c18
        simp only [Option.some.injEq, Prod.mk.injEq] at H
        obtain ⟨rfl, rfl⟩ := H
        go_wp2
        go_ret2
        exact ⟨by first | rfl | (simp [errW_none, errW_some] <;> rfl) | (simp [*, errW_none, errW_some] <;> rfl), by repeat (first | (with_reducible first | exact HB.out | apply below_alloc | apply pw_below_drewN | apply below_drew1) | exact HB.out)⟩
       ·
        rw [if_neg c18] at H
        have c18b0 : (t237 == 0) = false := beq_eq_false_iff_ne.mpr c18
        have c18b1 : (t237 != 0) = true := bne_iff_ne.mpr c18
        simp only [Option.some.injEq, Prod.mk.injEq] at H
        obtain ⟨rfl, rfl⟩ := H
        go_wp2
        go_ret2
        exact ⟨by first | rfl | (simp [errW_none, errW_some] <;> rfl) | (simp [*, errW_none, errW_some] <;> rfl), by repeat (first | (with_reducible first | exact HB.out | apply below_alloc | apply pw_below_drewN | apply below_drew1) | exact HB.out)⟩
      ·
       replace c16 := Bool.eq_false_iff.mpr c16
       subst c16
       replace H := (if_neg Bool.false_ne_true).symm.trans H
       replace H := Option.bind_eq_some_iff.mp H
       obtain ⟨⟨t238, t239⟩, A210, H⟩ := H
       try dsimp only at H
       have A21 := Aside0.mk A210
       clear A210
       go_wp2_with fail
       (with_reducible refine (marginaliaref03_longest.calls kj10 a0 (wrap64 (a1 + 1)) t238 t239 _ A21.out).mono ?_)
       rintro e w23 ⟨rfl, hb⟩
       have n0_ := Aside0.mk (below_step (by repeat (first | (with_reducible first | exact HB.out | apply below_alloc | apply pw_below_drewN | apply below_drew1) | exact HB.out)) hb)
       clear HB
       have HB := n0_
       clear n0_
       (try clear hb)
       (try clear hb2)
       (try clear hk)
       (try clear hi)
       by_cases c22 : t239 = 0
       ·
        rw [if_pos c22] at H
        have c22b0 : (t239 == 0) = true := beq_iff_eq.mpr c22
        have c22b1 : (t239 != 0) = false := bne_eq_false_iff_eq.mpr c22
        clear c22
        simp only [Option.some.injEq, Prod.mk.injEq] at H
        obtain ⟨rfl, rfl⟩ := H
        go_wp2
        go_ret2
        exact ⟨by first | rfl | (simp [errW_none, errW_some] <;> rfl) | (simp [*, errW_none, errW_some] <;> rfl), by repeat (first | (with_reducible first | exact HB.out | apply below_alloc | apply pw_below_drewN | apply below_drew1) | exact HB.out)⟩
       ·
        rw [if_neg c22] at H
        have c22b0 : (t239 == 0) = false := beq_eq_false_iff_ne.mpr c22
        have c22b1 : (t239 != 0) = true := bne_iff_ne.mpr c22
        by_cases c24 : a2 = true
        ·
         subst c24
         replace H := (if_pos rfl).symm.trans H
         obtain ⟨ji25, hji25⟩ : ∃ j_ : Int, (wrap64 ((wrap64 ((wrap64 (a1 + 1)) + t239)) - 1)) = j_ := ⟨_, rfl⟩
         replace H : (if 0 ≤ (ji25) then (if (ji25) < (a0.size : Int) then (if (bt a0 (ji25)) = 59 then (some (t238, wrap64 (t239 + 1))) else (if (wrap64 ((wrap64 (a1 + 1)) + t239)) < (a0.size : Int) then (if 0 ≤ (wrap64 ((wrap64 (a1 + 1)) + t239)) then (if (bt a0 (wrap64 ((wrap64 (a1 + 1)) + t239))) = 61 then (some ((⟨#[38]⟩ : ByteArray), 1)) else ((marginaliaref02_Letter.f (bt a0 (wrap64 ((wrap64 (a1 + 1)) + t239)))).bind fun t240 => (if t240 = true then (some ((⟨#[38]⟩ : ByteArray), 1)) else ((marginaliaref02_Figure.f (bt a0 (wrap64 ((wrap64 (a1 + 1)) + t239)))).bind fun t241 => (if t241 = true then (some ((⟨#[38]⟩ : ByteArray), 1)) else (some (t238, wrap64 (t239 + 1)))))))) else (none)) else (some (t238, wrap64 (t239 + 1))))) else (none)) else (none)) = some (r1, r2) := by first | (rw [hji25] at H; exact H) | (simp only [hji25] at H ⊢; exact H)
         (try rw [hji25] at A21)
         have hji25w : (IntKind.i64.wrap ((wrap64 ((wrap64 (a1 + 1)) + t239)) - 1)) = ji25 := (i64_w _).trans hji25
         by_cases c26 : 0 ≤ (ji25)
         ·
          rw [if_pos c26] at H
          have c26b0 : decide (0 ≤ (ji25)) = true := decide_eq_true c26
          clear c26
          by_cases c27 : (ji25) < (a0.size : Int)
          ·
           rw [if_pos c27] at H
           have c27b0 : decide ((ji25) < (a0.size : Int)) = true := decide_eq_true c27
           clear c27
           by_cases c29 : (bt a0 (ji25)) = 59
           ·
            rw [if_pos c29] at H
            have c29b0 : ((bt a0 (ji25)) == 59) = true := beq_iff_eq.mpr c29
            have c29b1 : ((bt a0 (ji25)) != 59) = false := bne_eq_false_iff_eq.mpr c29
            clear c29
            simp only [Option.some.injEq, Prod.mk.injEq] at H
            obtain ⟨rfl, rfl⟩ := H
            have p28 : 0 ≤ ((ji25) : Int) := of_decide_eq_true (by first | (with_reducible assumption) | assumption)
            have q28 : (ji25) < (a0.size : Int) := of_decide_eq_true (by first | (with_reducible assumption) | assumption)
            have hx28 := bt_at a0 (ji25)
            replace p28 := eq_true p28
            replace q28 := eq_true q28
            go_wp2
            go_ret2
            exact ⟨by first | rfl | (simp [errW_none, errW_some] <;> rfl) | (simp only [← hji25]; first | rfl | (simp [errW_none, errW_some] <;> rfl)) | (simp [*, errW_none, errW_some] <;> rfl), by repeat (first | (with_reducible first | exact HB.out | apply below_alloc | apply pw_below_drewN | apply below_drew1) | exact HB.out)⟩
           ·
            rw [if_neg c29] at H
            have c29b0 : ((bt a0 (ji25)) == 59) = false := beq_eq_false_iff_ne.mpr c29
            have c29b1 : ((bt a0 (ji25)) != 59) = true := bne_iff_ne.mpr c29
            by_cases c31 : (wrap64 ((wrap64 (a1 + 1)) + t239)) < (a0.size : Int)
            ·
             rw [if_pos c31] at H
             have c31b0 : decide ((wrap64 ((wrap64 (a1 + 1)) + t239)) < (a0.size : Int)) = true := decide_eq_true c31
             clear c31
             obtain ⟨ji32, hji32⟩ : ∃ j_ : Int, (wrap64 ((wrap64 (a1 + 1)) + t239)) = j_ := ⟨_, rfl⟩
             replace H : (if 0 ≤ (ji32) then (if (bt a0 (ji32)) = 61 then (some ((⟨#[38]⟩ : ByteArray), 1)) else ((marginaliaref02_Letter.f (bt a0 (ji32))).bind fun t240 => (if t240 = true then (some ((⟨#[38]⟩ : ByteArray), 1)) else ((marginaliaref02_Figure.f (bt a0 (ji32))).bind fun t241 => (if t241 = true then (some ((⟨#[38]⟩ : ByteArray), 1)) else (some (t238, wrap64 (t239 + 1)))))))) else (none)) = some (r1, r2) := by first | (rw [hji32] at H; exact H) | (simp only [hji32] at H ⊢; exact H)
             (try rw [hji32] at c31b0)
             (try rw [hji32] at A21)
             have hji32w : (IntKind.i64.wrap ((wrap64 (a1 + 1)) + t239)) = ji32 := (i64_w _).trans hji32
             (try rw [hji32] at hji25 hji25w)
             by_cases c33 : 0 ≤ (ji32)
             ·
              rw [if_pos c33] at H
              have c33b0 : decide (0 ≤ (ji32)) = true := decide_eq_true c33
              clear c33
              by_cases c35 : (bt a0 (ji32)) = 61
              ·
               rw [if_pos c35] at H
               have c35b0 : ((bt a0 (ji32)) == 61) = true := beq_iff_eq.mpr c35
               have c35b1 : ((bt a0 (ji32)) != 61) = false := bne_eq_false_iff_eq.mpr c35
               clear c35
               simp only [Option.some.injEq, Prod.mk.injEq] at H
               obtain ⟨rfl, rfl⟩ := H
               have p28 : 0 ≤ ((ji25) : Int) := of_decide_eq_true (by first | (with_reducible assumption) | assumption)
               have q28 : (ji25) < (a0.size : Int) := of_decide_eq_true (by first | (with_reducible assumption) | assumption)
               have hx28 := bt_at a0 (ji25)
               replace p28 := eq_true p28
               replace q28 := eq_true q28
               have p34 : 0 ≤ ((ji32) : Int) := of_decide_eq_true (by first | (with_reducible assumption) | assumption)
               have q34 : (ji32) < (a0.size : Int) := of_decide_eq_true (by first | (with_reducible assumption) | assumption)
               have hx34 := bt_at a0 (ji32)
               replace p34 := eq_true p34
               replace q34 := eq_true q34
               go_wp2
               go_ret2
               exact ⟨by first | rfl | (simp [errW_none, errW_some] <;> rfl) | (simp only [← hji25, ← hji32]; first | rfl | (simp [errW_none, errW_some] <;> rfl)) | (simp [*, errW_none, errW_some] <;> rfl), by repeat (first | (with_reducible first | exact HB.out | apply below_alloc | apply pw_below_drewN | apply below_drew1) | exact HB.out)⟩
              ·
               rw [if_neg c35] at H
               have c35b0 : ((bt a0 (ji32)) == 61) = false := beq_eq_false_iff_ne.mpr c35
               have c35b1 : ((bt a0 (ji32)) != 61) = true := bne_iff_ne.mpr c35
               replace H := Option.bind_eq_some_iff.mp H
               obtain ⟨t240, A380, H⟩ := H
               try dsimp only at H
               have A38 := Aside0.mk A380
               clear A380
               have p28 : 0 ≤ ((ji25) : Int) := of_decide_eq_true (by first | (with_reducible assumption) | assumption)
               have q28 : (ji25) < (a0.size : Int) := of_decide_eq_true (by first | (with_reducible assumption) | assumption)
               have hx28 := bt_at a0 (ji25)
               replace p28 := eq_true p28
               replace q28 := eq_true q28
               have p34 : 0 ≤ ((ji32) : Int) := of_decide_eq_true (by first | (with_reducible assumption) | assumption)
               have q34 : (ji32) < (a0.size : Int) := of_decide_eq_true (by first | (with_reducible assumption) | assumption)
               have hx34 := bt_at a0 (ji32)
               replace p34 := eq_true p34
               replace q34 := eq_true q34
               have p37 : 0 ≤ ((ji32) : Int) := of_decide_eq_true (by first | (with_reducible assumption) | assumption)
               have q37 : (ji32) < (a0.size : Int) := of_decide_eq_true (by first | (with_reducible assumption) | assumption)
               have hx37 := bt_at a0 (ji32)
               replace p37 := eq_true p37
               replace q37 := eq_true q37
               go_wp2_with fail
               (with_reducible refine (marginaliaref02_Letter.calls (bt a0 (ji32)) t240 _ A38.out).mono ?_)
               rintro e w' ⟨rfl, ⟨nd, rfl⟩⟩
               by_cases c39 : t240 = true
               ·
                subst c39
                replace H := (if_pos rfl).symm.trans H
                simp only [Option.some.injEq, Prod.mk.injEq] at H
                obtain ⟨rfl, rfl⟩ := H
                go_wp2
                go_ret2
                exact ⟨by first | rfl | (simp [errW_none, errW_some] <;> rfl) | (simp only [← hji25, ← hji32]; first | rfl | (simp [errW_none, errW_some] <;> rfl)) | (simp [*, errW_none, errW_some] <;> rfl), by repeat (first | (with_reducible first | exact HB.out | apply below_alloc | apply pw_below_drewN | apply below_drew1) | exact HB.out)⟩
               ·
                replace c39 := Bool.eq_false_iff.mpr c39
                subst c39
                replace H := (if_neg Bool.false_ne_true).symm.trans H
                replace H := Option.bind_eq_some_iff.mp H
                obtain ⟨t241, A420, H⟩ := H
                try dsimp only at H
                have A42 := Aside0.mk A420
                clear A420
                have p41 : 0 ≤ ((ji32) : Int) := of_decide_eq_true (by first | (with_reducible assumption) | assumption)
                have q41 : (ji32) < (a0.size : Int) := of_decide_eq_true (by first | (with_reducible assumption) | assumption)
                have hx41 := bt_at a0 (ji32)
                replace p41 := eq_true p41
                replace q41 := eq_true q41
                go_wp2_with fail
                (with_reducible refine (marginaliaref02_Figure.calls (bt a0 (ji32)) t241 _ A42.out).mono ?_)
                rintro e w' ⟨rfl, ⟨nd, rfl⟩⟩
                by_cases c43 : t241 = true
                ·
                 subst c43
                 replace H := (if_pos rfl).symm.trans H
                 simp only [Option.some.injEq, Prod.mk.injEq] at H
                 obtain ⟨rfl, rfl⟩ := H
                 go_wp2
                 go_ret2
                 exact ⟨by first | rfl | (simp [errW_none, errW_some] <;> rfl) | (simp only [← hji25, ← hji32]; first | rfl | (simp [errW_none, errW_some] <;> rfl)) | (simp [*, errW_none, errW_some] <;> rfl), by repeat (first | (with_reducible first | exact HB.out | apply below_alloc | apply pw_below_drewN | apply below_drew1) | exact HB.out)⟩
                ·
                 replace c43 := Bool.eq_false_iff.mpr c43
                 subst c43
                 replace H := (if_neg Bool.false_ne_true).symm.trans H
                 simp only [Option.some.injEq, Prod.mk.injEq] at H
                 obtain ⟨rfl, rfl⟩ := H
                 go_wp2
                 go_ret2
                 exact ⟨by first | rfl | (simp [errW_none, errW_some] <;> rfl) | (simp only [← hji25, ← hji32]; first | rfl | (simp [errW_none, errW_some] <;> rfl)) | (simp [*, errW_none, errW_some] <;> rfl), by repeat (first | (with_reducible first | exact HB.out | apply below_alloc | apply pw_below_drewN | apply below_drew1) | exact HB.out)⟩
             ·
              rw [if_neg c33] at H
              exact absurd H (by simp)
            ·
             rw [if_neg c31] at H
             have c31b0 : decide ((wrap64 ((wrap64 (a1 + 1)) + t239)) < (a0.size : Int)) = false := decide_eq_false c31
             clear c31
             simp only [Option.some.injEq, Prod.mk.injEq] at H
             obtain ⟨rfl, rfl⟩ := H
             have p28 : 0 ≤ ((ji25) : Int) := of_decide_eq_true (by first | (with_reducible assumption) | assumption)
             have q28 : (ji25) < (a0.size : Int) := of_decide_eq_true (by first | (with_reducible assumption) | assumption)
             have hx28 := bt_at a0 (ji25)
             replace p28 := eq_true p28
             replace q28 := eq_true q28
             go_wp2
             go_ret2
             exact ⟨by first | rfl | (simp [errW_none, errW_some] <;> rfl) | (simp only [← hji25]; first | rfl | (simp [errW_none, errW_some] <;> rfl)) | (simp [*, errW_none, errW_some] <;> rfl), by repeat (first | (with_reducible first | exact HB.out | apply below_alloc | apply pw_below_drewN | apply below_drew1) | exact HB.out)⟩
          ·
           rw [if_neg c27] at H
           exact absurd H (by simp)
         ·
          rw [if_neg c26] at H
          exact absurd H (by simp)
        ·
         replace c24 := Bool.eq_false_iff.mpr c24
         subst c24
         replace H := (if_neg Bool.false_ne_true).symm.trans H
         simp only [Option.some.injEq, Prod.mk.injEq] at H
         obtain ⟨rfl, rfl⟩ := H
         go_wp2
         go_ret2
         exact ⟨by first | rfl | (simp [errW_none, errW_some] <;> rfl) | (simp [*, errW_none, errW_some] <;> rfl), by repeat (first | (with_reducible first | exact HB.out | apply below_alloc | apply pw_below_drewN | apply below_drew1) | exact HB.out)⟩
/-! ### marginaliaref03_Decode: function 27 -/
def marginaliaref03_Decode.l0 : Nat → ByteArray → Bool → ByteArray → Int → Option (ByteArray)
  | 0, _, _, _, _ => none
  | k + 1, x0, x1, x5, x6 => if x6 < (x0.size : Int) then ((marginaliaref03_At.f k x0 x6 x1).bind fun bt242 => (if bt242.2 = 0 then (if 0 ≤ x6 then (if x6 ≤ (wrap64 (x6 + 1)) then (if (wrap64 (x6 + 1)) ≤ (x0.size : Int) then (if x5.size + (x0.extract (x6 : Int).toNat ((wrap64 (x6 + 1)) : Int).toNat).size ≤ 9223372036854775807 then (marginaliaref03_Decode.l0 k x0 x1 (x5 ++ (x0.extract (x6 : Int).toNat ((wrap64 (x6 + 1)) : Int).toNat)) (wrap64 (x6 + 1))) else (none)) else (none)) else (none)) else (none)) else (if x5.size + bt242.1.size ≤ 9223372036854775807 then (marginaliaref03_Decode.l0 k x0 x1 (x5 ++ bt242.1) (wrap64 (x6 + bt242.2))) else (none)))) else (some x5)
def marginaliaref03_Decode.f (k : Nat) (a0 : ByteArray) (a1 : Bool) : Option (ByteArray) := marginaliaref03_Decode.l0 k a0 a1 (⟨#[]⟩ : ByteArray) 0
theorem marginaliaref03_Decode.mono_l : ∀ k, (∀ y0 y1 y2 y3, LeO (marginaliaref03_Decode.l0 k y0 y1 y2 y3) (marginaliaref03_Decode.l0 (k + 1) y0 y1 y2 y3))
  | 0 => fun _ _ _ _ r h => by simp [marginaliaref03_Decode.l0] at h
  | k + 1 => by
    have ih0 := marginaliaref03_Decode.mono_l k
    · intro y0 y1 y2 y3
      unfold marginaliaref03_Decode.l0
      repeat' first
      | (with_reducible exact ih0 _ _ _ _)
      | (with_reducible exact marginaliaref03_At.mono _ _ _ _)
      | (with_reducible exact LeO.refl _)
      | (with_reducible exact LeO.none _)
      | (with_reducible refine LeO.ite ?_ ?_)
      | (with_reducible refine LeO.bind ?_ (fun _ => ?_))
      | exact ih0 _ _ _ _
      | exact marginaliaref03_At.mono _ _ _ _
      | exact LeO.none _
      | refine LeO.ite ?_ ?_
      | refine LeO.bind ?_ (fun _ => ?_)
theorem marginaliaref03_Decode.mono : ∀ a0 a1 k, LeO (marginaliaref03_Decode.f k a0 a1) (marginaliaref03_Decode.f (k + 1) a0 a1) := by
 intro a0 a1 k
 have ih0 := marginaliaref03_Decode.mono_l k
 unfold marginaliaref03_Decode.f
 repeat' first
     | (with_reducible exact ih0 _ _ _ _)
     | (with_reducible exact marginaliaref03_At.mono _ _ _ _)
     | (with_reducible exact LeO.refl _)
     | (with_reducible exact LeO.none _)
     | (with_reducible refine LeO.ite ?_ ?_)
     | (with_reducible refine LeO.bind ?_ (fun _ => ?_))
     | exact ih0 _ _ _ _
     | exact marginaliaref03_At.mono _ _ _ _
     | exact LeO.none _
     | refine LeO.ite ?_ ?_
     | refine LeO.bind ?_ (fun _ => ?_)
set_option maxHeartbeats 8000000 in
set_option maxRecDepth 100000 in
theorem marginaliaref03_Decode.calls (k : Nat) (a0 : ByteArray) (a1 : Bool) (r : ByteArray) (w : World) (h : marginaliaref03_Decode.f k a0 a1 = some r) :
    Calls Try.prog 27 #[.string a0, .bool a1] w fun e w' => e = .returned (.string r) ∧ Below w.heap.size w w' := by
 have HB := Aside0.mk (Below.refl w.heap.size w)
 have H : (marginaliaref03_Decode.l0 k a0 a1 (⟨#[]⟩ : ByteArray) 0) = some r := h
 clear h
 have H' := Aside0.mk H
 clear H
 go_enter Try.func27, Try.ntmps27
 go_wp2
 go_loopg [5, 6] k (fun kq v5 v6 w' => ∃ (x5_1 : ByteArray) (x6_1 : Int), v5 = .string x5_1 ∧ v6 = .int .i64 x6_1 ∧ Aside0 (marginaliaref03_Decode.l0 kq a0 a1 x5_1 x6_1 = some r) ∧ Aside0 (kq ≤ k) ∧ Aside0 (Below w.heap.size w w'))
 case atStart => exact ⟨((⟨#[]⟩ : ByteArray)), (0), (by first | rfl | (simp; done) | (simp [*]; done)), (by first | rfl | (simp; done) | (simp [*]; done)), H', ⟨Nat.le_refl _⟩, ⟨by repeat (first | (with_reducible first | exact HB.out | apply below_alloc | apply pw_below_drewN | apply below_drew1) | exact HB.out)⟩⟩
 case round =>
  clear H'
  try clear c2
  try clear p2
  obtain ⟨x5_1, x6_1, rfl, rfl, HA, HK1, HB⟩ := hrel
  cases gk with
  | zero => exact absurd HA.out (by simp [marginaliaref03_Decode.l0])
  | succ k1 =>
   have H := HA.out
   clear HA
   simp only [marginaliaref03_Decode.l0] at H
   by_cases c3 : x6_1 < (a0.size : Int)
   ·
    rw [if_pos c3] at H
    have c3b0 : decide (x6_1 < (a0.size : Int)) = true := decide_eq_true c3
    clear c3
    replace H := Option.bind_eq_some_iff.mp H
    obtain ⟨⟨t242, t243⟩, A40, H⟩ := H
    try dsimp only at H
    have A4 := Aside0.mk A40
    clear A40
    go_wp2_with fail
    (with_reducible refine (marginaliaref03_At.calls k1 a0 x6_1 a1 t242 t243 _ A4.out).mono ?_)
    rintro e w10 ⟨rfl, hb⟩
    have n0_ := Aside0.mk (below_step (by repeat (first | (with_reducible first | exact HB.out | apply below_alloc | apply pw_below_drewN | apply below_drew1) | exact HB.out)) hb)
    clear HB
    have HB := n0_
    clear n0_
    (try clear hb)
    (try clear hb2)
    (try clear hk)
    (try clear hi)
    by_cases c5 : t243 = 0
    ·
     rw [if_pos c5] at H
     have c5b0 : (t243 == 0) = true := beq_iff_eq.mpr c5
     have c5b1 : (t243 != 0) = false := bne_eq_false_iff_eq.mpr c5
     clear c5
     by_cases c6 : 0 ≤ x6_1
     ·
      rw [if_pos c6] at H
      have c6b0 := eq_true c6
      have c6b1 : decide (0 ≤ x6_1) = true := decide_eq_true c6
      clear c6
      by_cases c7 : x6_1 ≤ (wrap64 (x6_1 + 1))
      ·
       rw [if_pos c7] at H
       have c7b0 := eq_true c7
       have c7b1 : decide (x6_1 ≤ (wrap64 (x6_1 + 1))) = true := decide_eq_true c7
       by_cases c8 : (wrap64 (x6_1 + 1)) ≤ (a0.size : Int)
       ·
        rw [if_pos c8] at H
        have c8b0 := eq_true c8
        have c8b1 : decide ((wrap64 (x6_1 + 1)) ≤ (a0.size : Int)) = true := decide_eq_true c8
        by_cases c9 : x5_1.size + (a0.extract (x6_1 : Int).toNat ((wrap64 (x6_1 + 1)) : Int).toNat).size ≤ 9223372036854775807
        ·
         rw [if_pos c9] at H
         have c9b0 := eq_true c9
         have c9b1 : decide (x5_1.size + (a0.extract (x6_1 : Int).toNat ((wrap64 (x6_1 + 1)) : Int).toNat).size ≤ 9223372036854775807) = true := decide_eq_true c9
         try have c9b2 : (9223372036854775807 < x5_1.size + (a0.extract (x6_1 : Int).toNat ((wrap64 (x6_1 + 1)) : Int).toNat).size) = False := eq_false (Nat.not_lt.2 c9)
         have H' := Aside0.mk H
         clear H
         go_wp2
         go_roundg k1
         case measure => have := HK1.out; omega
         case rel => exact ⟨(x5_1 ++ (a0.extract (x6_1 : Int).toNat ((wrap64 (x6_1 + 1)) : Int).toNat)), (wrap64 (x6_1 + 1)), (by first | rfl | (simp; done) | (simp [*]; done) | (simp only [ByteArray.size_append, Int.natCast_add]; rfl)), (by first | rfl | (simp; done) | (simp [*]; done)), H', ⟨by have := HK1.out; omega⟩, ⟨by repeat (first | (with_reducible first | exact HB.out | apply below_alloc | apply pw_below_drewN | apply below_drew1) | exact HB.out)⟩⟩
        ·
         rw [if_neg c9] at H
         exact absurd H (by simp)
       ·
        rw [if_neg c8] at H
        exact absurd H (by simp)
      ·
       rw [if_neg c7] at H
       exact absurd H (by simp)
     ·
      rw [if_neg c6] at H
      exact absurd H (by simp)
    ·
     rw [if_neg c5] at H
     have c5b0 : (t243 == 0) = false := beq_eq_false_iff_ne.mpr c5
     have c5b1 : (t243 != 0) = true := bne_iff_ne.mpr c5
     by_cases c11 : x5_1.size + t242.size ≤ 9223372036854775807
     ·
      rw [if_pos c11] at H
      have c11b0 := eq_true c11
      have c11b1 : decide (x5_1.size + t242.size ≤ 9223372036854775807) = true := decide_eq_true c11
      try have c11b2 : (9223372036854775807 < x5_1.size + t242.size) = False := eq_false (Nat.not_lt.2 c11)
      have H' := Aside0.mk H
      clear H
      go_wp2
      go_roundg k1
      case measure => have := HK1.out; omega
      case rel => exact ⟨(x5_1 ++ t242), (wrap64 (x6_1 + t243)), (by first | rfl | (simp; done) | (simp [*]; done) | (simp only [ByteArray.size_append, Int.natCast_add]; rfl)), (by first | rfl | (simp; done) | (simp [*]; done)), H', ⟨by have := HK1.out; omega⟩, ⟨by repeat (first | (with_reducible first | exact HB.out | apply below_alloc | apply pw_below_drewN | apply below_drew1) | exact HB.out)⟩⟩
     ·
      rw [if_neg c11] at H
      exact absurd H (by simp)
   ·
    rw [if_neg c3] at H
    have c3b0 : decide (x6_1 < (a0.size : Int)) = false := decide_eq_false c3
    clear c3
    obtain rfl := Option.some.inj H
    go_wp2
    go_ret
    exact ⟨by first | rfl | (simp [errW_none, errW_some] <;> rfl) | (simp [*, errW_none, errW_some] <;> rfl), by repeat (first | (with_reducible first | exact HB.out | apply below_alloc | apply pw_below_drewN | apply below_drew1) | exact HB.out)⟩
/-! ### marginaliaref04_here: function 45 -/
def marginaliaref04_here.f (a0 : ByteArray) (a1 : Int) (a2 : ByteArray) : Option (Bool) := if a1 ≥ 0 then (if (wrap64 (a1 + (a2.size : Int))) ≤ (a0.size : Int) then (if 0 ≤ a1 then (if a1 ≤ (wrap64 (a1 + (a2.size : Int))) then (some ((a0.extract (a1 : Int).toNat ((wrap64 (a1 + (a2.size : Int))) : Int).toNat).toList == a2.toList)) else (none)) else (none)) else (some false)) else (some false)
set_option maxHeartbeats 8000000 in
set_option maxRecDepth 100000 in
theorem marginaliaref04_here.calls (a0 : ByteArray) (a1 : Int) (a2 : ByteArray) (r : Bool) (w : World) (h : marginaliaref04_here.f a0 a1 a2 = some r) :
    Calls Try.prog 45 #[.string a0, .int .i64 a1, .string a2] w fun e w' => e = .returned (.bool r) ∧ Drawn0 w w' := by
 have H : (if a1 ≥ 0 then (if (wrap64 (a1 + (a2.size : Int))) ≤ (a0.size : Int) then (if 0 ≤ a1 then (if a1 ≤ (wrap64 (a1 + (a2.size : Int))) then (some ((a0.extract (a1 : Int).toNat ((wrap64 (a1 + (a2.size : Int))) : Int).toNat).toList == a2.toList)) else (none)) else (none)) else (some false)) else (some false)) = some r := h
 clear h
 by_cases c4 : a1 ≥ 0
 ·
  rw [if_pos c4] at H
  have c4b0 : decide (0 ≤ a1) = true := decide_eq_true c4
  clear c4
  by_cases c5 : (wrap64 (a1 + (a2.size : Int))) ≤ (a0.size : Int)
  ·
   rw [if_pos c5] at H
   have c5b0 : decide ((wrap64 (a1 + (a2.size : Int))) ≤ (a0.size : Int)) = true := decide_eq_true c5
   clear c5
   by_cases c6 : 0 ≤ a1
   ·
    rw [if_pos c6] at H
    have c6b0 := eq_true c6
    have c6b1 : decide (0 ≤ a1) = true := decide_eq_true c6
    clear c6
    by_cases c7 : a1 ≤ (wrap64 (a1 + (a2.size : Int)))
    ·
     rw [if_pos c7] at H
     have c7b0 := eq_true c7
     have c7b1 : decide (a1 ≤ (wrap64 (a1 + (a2.size : Int)))) = true := decide_eq_true c7
     have c8b0 := eq_true (of_decide_eq_true (by first | (with_reducible assumption) | assumption) : (wrap64 (a1 + (a2.size : Int))) ≤ (a0.size : Int))
     obtain rfl := Option.some.inj H
     go_enter Try.func45, Try.ntmps45
     go_wp2
     go_ret
     exact ⟨by first | rfl | (simp; done) | (simp [*]; done), by repeat (first | exact Drawn0.refl _ | apply Drawn0.step)⟩
    ·
     rw [if_neg c7] at H
     exact absurd H (by simp)
   ·
    rw [if_neg c6] at H
    exact absurd H (by simp)
  ·
   rw [if_neg c5] at H
   have c5b0 : decide ((wrap64 (a1 + (a2.size : Int))) ≤ (a0.size : Int)) = false := decide_eq_false c5
   clear c5
   obtain rfl := Option.some.inj H
   go_enter Try.func45, Try.ntmps45
   go_wp2
   go_ret
   exact ⟨by first | rfl | (simp; done) | (simp [*]; done), by repeat (first | exact Drawn0.refl _ | apply Drawn0.step)⟩
 ·
  rw [if_neg c4] at H
  have c4b0 : decide (0 ≤ a1) = false := decide_eq_false c4
  clear c4
  obtain rfl := Option.some.inj H
  go_enter Try.func45, Try.ntmps45
  go_wp2
  go_ret
  exact ⟨by first | rfl | (simp; done) | (simp [*]; done), by repeat (first | exact Drawn0.refl _ | apply Drawn0.step)⟩
/-! ### marginaliaref04_find: function 68 -/
def marginaliaref04_find.l0 : Nat → ByteArray → ByteArray → Int → Option (Int)
  | 0, _, _, _ => none
  | k + 1, x0, x2, x7 => if x7 < (x0.size : Int) then ((marginaliaref04_here.f x0 x7 x2).bind fun t244 => (if t244 = true then (some x7) else (marginaliaref04_find.l0 k x0 x2 (wrap64 (x7 + 1))))) else (some (x0.size : Int))
def marginaliaref04_find.f (k : Nat) (a0 : ByteArray) (a1 : Int) (a2 : ByteArray) : Option (Int) := marginaliaref04_find.l0 k a0 a2 a1
set_option maxHeartbeats 8000000 in
set_option maxRecDepth 100000 in
theorem marginaliaref04_find.calls (k : Nat) (a0 : ByteArray) (a1 : Int) (a2 : ByteArray) (r : Int) (w : World) (h : marginaliaref04_find.f k a0 a1 a2 = some r) :
    Calls Try.prog 68 #[.string a0, .int .i64 a1, .string a2] w fun e w' => e = .returned (.int .i64 r) ∧ Drawn0 w w' := by
 have H : (marginaliaref04_find.l0 k a0 a2 a1) = some r := h
 clear h
 have H' := Aside0.mk H
 clear H
 go_enter Try.func68, Try.ntmps68
 go_wp2
 go_loopg [7] k (fun kq v7 w' => ∃ (x7_1 : Int), v7 = .int .i64 x7_1 ∧ Aside0 (marginaliaref04_find.l0 kq a0 a2 x7_1 = some r) ∧ Aside0 (kq ≤ k) ∧ Drawn0 w w')
 case atStart => exact ⟨(a1), (by first | rfl | (simp; done) | (simp [*]; done)), H', ⟨Nat.le_refl _⟩, by repeat (first | exact Drawn0.refl _ | apply Drawn0.step)⟩
 case round =>
  clear H'
  try clear p2
  obtain ⟨x7_1, rfl, HA, HK1, ⟨m1, rfl⟩⟩ := hrel
  cases gk with
  | zero => exact absurd HA.out (by simp [marginaliaref04_find.l0])
  | succ k1 =>
   have H := HA.out
   clear HA
   simp only [marginaliaref04_find.l0] at H
   by_cases c4 : x7_1 < (a0.size : Int)
   ·
    rw [if_pos c4] at H
    have c4b0 : decide (x7_1 < (a0.size : Int)) = true := decide_eq_true c4
    clear c4
    replace H := Option.bind_eq_some_iff.mp H
    obtain ⟨t244, A50, H⟩ := H
    try dsimp only at H
    have A5 := Aside0.mk A50
    clear A50
    go_wp2_with fail
    (with_reducible refine (marginaliaref04_here.calls a0 x7_1 a2 t244 _ A5.out).mono ?_)
    rintro e w' ⟨rfl, ⟨nd, rfl⟩⟩
    by_cases c6 : t244 = true
    ·
     subst c6
     replace H := (if_pos rfl).symm.trans H
     obtain rfl := Option.some.inj H
     go_wp2
     go_ret
     exact ⟨by first | rfl | (simp; done) | (simp [*]; done), by repeat (first | exact Drawn0.refl _ | apply Drawn0.step)⟩
    ·
     replace c6 := Bool.eq_false_iff.mpr c6
     subst c6
     replace H := (if_neg Bool.false_ne_true).symm.trans H
     have H' := Aside0.mk H
     clear H
     go_wp2
     go_roundg k1
     case measure => have := HK1.out; omega
     case rel => exact ⟨(wrap64 (x7_1 + 1)), (by first | rfl | (simp; done) | (simp [*]; done)), H', ⟨by have := HK1.out; omega⟩, by repeat (first | exact Drawn0.refl _ | apply Drawn0.step)⟩
   ·
    rw [if_neg c4] at H
    have c4b0 : decide (x7_1 < (a0.size : Int)) = false := decide_eq_false c4
    clear c4
    obtain rfl := Option.some.inj H
    go_wp2
    go_ret
    exact ⟨by first | rfl | (simp; done) | (simp [*]; done), by repeat (first | exact Drawn0.refl _ | apply Drawn0.step)⟩
/-! ### marginaliaref04_value: function 71 -/
mutual
def marginaliaref04_value.j0 : Nat → ByteArray → Int → Bool → Option (ByteArray × Int)
  | 0, _, _, _ => none
  | k + 1, x0, x1, x19 => if x19 = true then (some ((⟨#[]⟩ : ByteArray), x1)) else ((marginaliaref04_upTo.f k x0 x1 (⟨#[62]⟩ : ByteArray)).bind fun t245 => (if 0 ≤ x1 then (if x1 < (x0.size : Int) then (if (bt x0 x1) = 34 then (marginaliaref04_value.j1 k x0 x1 x1 t245 0 true) else (marginaliaref04_value.j1 k x0 x1 x1 t245 0 ((bt x0 x1) == 39))) else (none)) else (none)))
def marginaliaref04_value.j1 : Nat → ByteArray → Int → Int → Int → Int → Bool → Option (ByteArray × Int)
  | 0, _, _, _, _, _, _ => none
  | k + 1, x0, x1, x6, x7, x8, x34 => if x34 = true then (if 0 ≤ x1 then (if x1 ≤ (wrap64 (x1 + 1)) then (if (wrap64 (x1 + 1)) ≤ (x0.size : Int) then ((marginaliaref04_find.f k x0 (wrap64 (x1 + 1)) (x0.extract (x1 : Int).toNat ((wrap64 (x1 + 1)) : Int).toNat)).bind fun t246 => (if 0 ≤ (wrap64 (x1 + 1)) then (if (wrap64 (x1 + 1)) ≤ t246 then (if t246 ≤ (x0.size : Int) then ((marginaliaref03_Decode.f k (x0.extract ((wrap64 (x1 + 1)) : Int).toNat (t246 : Int).toNat) true).bind fun t247 => (some (t247, mn (wrap64 (t246 + 1)) (x0.size : Int)))) else (none)) else (none)) else (none))) else (none)) else (none)) else (none)) else (if 0 ≤ x6 then (if x6 ≤ x7 then (if x7 ≤ (x0.size : Int) then ((marginaliaref03_Decode.f k (x0.extract (x6 : Int).toNat (x7 : Int).toNat) true).bind fun t248 => (some (t248, mn (wrap64 (x7 + x8)) (x0.size : Int)))) else (none)) else (none)) else (none))
end
def marginaliaref04_value.f (k : Nat) (a0 : ByteArray) (a1 : Int) : Option (ByteArray × Int) := if a1 ≥ (a0.size : Int) then (marginaliaref04_value.j0 k a0 a1 true) else (if 0 ≤ a1 then (if a1 < (a0.size : Int) then (marginaliaref04_value.j0 k a0 a1 ((bt a0 a1) == 62)) else (none)) else (none))
set_option maxHeartbeats 8000000 in
set_option maxRecDepth 100000 in
theorem marginaliaref04_value.calls (k : Nat) (a0 : ByteArray) (a1 : Int) (r1 : ByteArray) (r2 : Int) (w : World) (h : marginaliaref04_value.f k a0 a1 = some (r1, r2)) :
    Calls Try.prog 71 #[.string a0, .int .i64 a1] w fun e w' => e = .returned (.tuple #[.string r1, .int .i64 r2]) ∧ Below w.heap.size w w' := by
 have HB := Aside0.mk (Below.refl w.heap.size w)
 have H : (if a1 ≥ (a0.size : Int) then (marginaliaref04_value.j0 k a0 a1 true) else (if 0 ≤ a1 then (if a1 < (a0.size : Int) then (marginaliaref04_value.j0 k a0 a1 ((bt a0 a1) == 62)) else (none)) else (none))) = some (r1, r2) := h
 clear h
 have HC3 := Aside0.mk H
 clear H
 go_enter Try.func71, Try.ntmps71
 go_upto_region 1 with (fail)
 go_cut [19] (fun v19 wc => ∃ (kq : Nat) (x19_2 : Bool), v19 = .bool x19_2 ∧ Aside0 (marginaliaref04_value.j0 kq a0 a1 x19_2 = some (r1, r2)) ∧ Aside0 (kq ≤ k) ∧ Aside0 (Below w.heap.size w wc))
 case first =>
  have H := HC3.out
  clear HC3
  by_cases c4 : a1 ≥ (a0.size : Int)
  ·
   rw [if_pos c4] at H
   have c4b0 : decide ((a0.size : Int) ≤ a1) = true := decide_eq_true c4
   clear c4
   (first | rw [c4b0] | (simp only [i64_w, i32_w]; rw [c4b0]) | skip)
   have H' := Aside0.mk H
   clear H
   go_wp2
   go_meet
   case rel => exact ⟨_, (true), (by first | rfl | (simp; done) | (simp [*]; done)), H', ⟨by first | omega | exact Nat.le_refl _⟩, ⟨by repeat (first | (with_reducible first | exact HB.out | apply below_alloc | apply pw_below_drewN | apply below_drew1) | exact HB.out)⟩⟩
  ·
   rw [if_neg c4] at H
   have c4b0 : decide ((a0.size : Int) ≤ a1) = false := decide_eq_false c4
   clear c4
   (first | rw [c4b0] | (simp only [i64_w, i32_w]; rw [c4b0]) | skip)
   by_cases c5 : 0 ≤ a1
   ·
    rw [if_pos c5] at H
    have c5b0 : decide (0 ≤ a1) = true := decide_eq_true c5
    clear c5
    by_cases c6 : a1 < (a0.size : Int)
    ·
     rw [if_pos c6] at H
     have c6b0 : decide (a1 < (a0.size : Int)) = true := decide_eq_true c6
     clear c6
     have H' := Aside0.mk H
     clear H
     have p7 : 0 ≤ (a1 : Int) := of_decide_eq_true (by first | (with_reducible assumption) | assumption)
     have q7 : a1 < (a0.size : Int) := of_decide_eq_true (by first | (with_reducible assumption) | assumption)
     have hx7 := bt_at a0 a1
     replace p7 := eq_true p7
     replace q7 := eq_true q7
     go_wp2
     go_meet
     case rel => exact ⟨_, (((bt a0 a1) == 62)), (by first | rfl | (simp; done) | (simp [*]; done)), H', ⟨by first | omega | exact Nat.le_refl _⟩, ⟨by repeat (first | (with_reducible first | exact HB.out | apply below_alloc | apply pw_below_drewN | apply below_drew1) | exact HB.out)⟩⟩
    ·
     rw [if_neg c6] at H
     exact absurd H (by simp)
   ·
    rw [if_neg c5] at H
    exact absurd H (by simp)
 case rest =>
  clear HC3
  try clear p2
  try clear c4
  try clear c4b0
  try clear c5
  try clear c5b0
  try clear c6
  try clear c6b0
  try clear c7
  try clear p7
  try clear q7
  try clear hx7
  try clear p7
  try clear q7
  obtain ⟨kq, x19_2, rfl, HA, HJ2, HB⟩ := hcut
  cases kq with
  | zero => exact absurd HA.out (by simp [marginaliaref04_value.j0])
  | succ kj2 =>
   have H := HA.out
   clear HA
   simp only [marginaliaref04_value.j0] at H
   by_cases c8 : x19_2 = true
   ·
    subst c8
    replace H := (if_pos rfl).symm.trans H
    simp only [Option.some.injEq, Prod.mk.injEq] at H
    obtain ⟨rfl, rfl⟩ := H
    go_wp2
    go_ret2
    exact ⟨by first | rfl | (simp [errW_none, errW_some] <;> rfl) | (simp [*, errW_none, errW_some] <;> rfl), by repeat (first | (with_reducible first | exact HB.out | apply below_alloc | apply pw_below_drewN | apply below_drew1) | exact HB.out)⟩
   ·
    replace c8 := Bool.eq_false_iff.mpr c8
    subst c8
    replace H := (if_neg Bool.false_ne_true).symm.trans H
    replace H := Option.bind_eq_some_iff.mp H
    obtain ⟨t245, A90, H⟩ := H
    try dsimp only at H
    have A9 := Aside0.mk A90
    clear A90
    go_wp2_with fail
    (with_reducible refine (marginaliaref04_upTo.calls kj2 a0 a1 (⟨#[62]⟩ : ByteArray) t245 _ A9.out).mono ?_)
    rintro e w' ⟨rfl, ⟨nd, rfl⟩⟩
    have HC10 := Aside0.mk H
    clear H
    go_upto_region 4 with fail
    (try simp only [Act.put, List.setIfInBounds_toArray, List.set_cons_zero, List.set_cons_succ])
    go_cut [34] (fun v34 wc => ∃ (kq : Nat) (x34_9 : Bool), v34 = .bool x34_9 ∧ Aside0 (marginaliaref04_value.j1 kq a0 a1 a1 t245 0 x34_9 = some (r1, r2)) ∧ Aside0 (kq ≤ kj2) ∧ Aside0 (Below w.heap.size w wc))
    case first =>
     have H := HC10.out
     clear HC10
     by_cases c11 : 0 ≤ a1
     ·
      rw [if_pos c11] at H
      have c11b0 : decide (0 ≤ a1) = true := decide_eq_true c11
      clear c11
      (first | rw [c11b0] | (simp only [i64_w, i32_w]; rw [c11b0]) | skip)
      by_cases c12 : a1 < (a0.size : Int)
      ·
       rw [if_pos c12] at H
       have c12b0 : decide (a1 < (a0.size : Int)) = true := decide_eq_true c12
       clear c12
       by_cases c14 : (bt a0 a1) = 34
       ·
        rw [if_pos c14] at H
        have c14b0 : ((bt a0 a1) == 34) = true := beq_iff_eq.mpr c14
        have c14b1 : ((bt a0 a1) != 34) = false := bne_eq_false_iff_eq.mpr c14
        clear c14
        have H' := Aside0.mk H
        clear H
        have p13 : 0 ≤ (a1 : Int) := of_decide_eq_true (by first | (with_reducible assumption) | assumption)
        have q13 : a1 < (a0.size : Int) := of_decide_eq_true (by first | (with_reducible assumption) | assumption)
        have hx13 := bt_at a0 a1
        replace p13 := eq_true p13
        replace q13 := eq_true q13
        go_wp2
        go_meet
        case rel => exact ⟨_, (true), (by first | rfl | (simp; done) | (simp [*]; done)), H', ⟨by have := HJ2.out; first | omega | exact Nat.le_refl _⟩, ⟨by repeat (first | (with_reducible first | exact HB.out | apply below_alloc | apply pw_below_drewN | apply below_drew1) | exact HB.out)⟩⟩
       ·
        rw [if_neg c14] at H
        have c14b0 : ((bt a0 a1) == 34) = false := beq_eq_false_iff_ne.mpr c14
        have c14b1 : ((bt a0 a1) != 34) = true := bne_iff_ne.mpr c14
        have H' := Aside0.mk H
        clear H
        have p13 : 0 ≤ (a1 : Int) := of_decide_eq_true (by first | (with_reducible assumption) | assumption)
        have q13 : a1 < (a0.size : Int) := of_decide_eq_true (by first | (with_reducible assumption) | assumption)
        have hx13 := bt_at a0 a1
        replace p13 := eq_true p13
        replace q13 := eq_true q13
        have p15 : 0 ≤ (a1 : Int) := of_decide_eq_true (by first | (with_reducible assumption) | assumption)
        have q15 : a1 < (a0.size : Int) := of_decide_eq_true (by first | (with_reducible assumption) | assumption)
        have hx15 := bt_at a0 a1
        replace p15 := eq_true p15
        replace q15 := eq_true q15
        go_wp2
        go_meet
        case rel => exact ⟨_, (((bt a0 a1) == 39)), (by first | rfl | (simp; done) | (simp [*]; done)), H', ⟨by have := HJ2.out; first | omega | exact Nat.le_refl _⟩, ⟨by repeat (first | (with_reducible first | exact HB.out | apply below_alloc | apply pw_below_drewN | apply below_drew1) | exact HB.out)⟩⟩
      ·
       rw [if_neg c12] at H
       exact absurd H (by simp)
     ·
      rw [if_neg c11] at H
      exact absurd H (by simp)
    case rest =>
     clear HC10
     try clear c1
     try clear p1
     try clear q1
     try clear hx1
     try clear p2
     try clear c4
     try clear c4b0
     try clear c5
     try clear c5b0
     try clear c6
     try clear c6b0
     try clear c7
     try clear p7
     try clear q7
     try clear hx7
     try clear c8
     try clear c11
     try clear c11b0
     try clear c12
     try clear c12b0
     try clear p13
     try clear q13
     try clear hx13
     try clear c14
     try clear c14b0
     try clear c14b1
     try clear p15
     try clear q15
     try clear hx15
     try clear p13
     try clear p15
     try clear p2
     try clear p7
     try clear q13
     try clear q15
     try clear q7
     obtain ⟨kq, x34_9, rfl, HA, HJ9, HB⟩ := hcut
     cases kq with
     | zero => exact absurd HA.out (by simp [marginaliaref04_value.j1])
     | succ kj9 =>
      have H := HA.out
      clear HA
      simp only [marginaliaref04_value.j1] at H
      by_cases c16 : x34_9 = true
      ·
       subst c16
       replace H := (if_pos rfl).symm.trans H
       by_cases c17 : 0 ≤ a1
       ·
        rw [if_pos c17] at H
        have c17b0 := eq_true c17
        have c17b1 : decide (0 ≤ a1) = true := decide_eq_true c17
        clear c17
        by_cases c18 : a1 ≤ (wrap64 (a1 + 1))
        ·
         rw [if_pos c18] at H
         have c18b0 := eq_true c18
         have c18b1 : decide (a1 ≤ (wrap64 (a1 + 1))) = true := decide_eq_true c18
         by_cases c19 : (wrap64 (a1 + 1)) ≤ (a0.size : Int)
         ·
          rw [if_pos c19] at H
          have c19b0 := eq_true c19
          have c19b1 : decide ((wrap64 (a1 + 1)) ≤ (a0.size : Int)) = true := decide_eq_true c19
          replace H := Option.bind_eq_some_iff.mp H
          obtain ⟨t246, A200, H⟩ := H
          try dsimp only at H
          have A20 := Aside0.mk A200
          clear A200
          obtain ⟨ji21, hji21⟩ : ∃ j_ : Int, (wrap64 (a1 + 1)) = j_ := ⟨_, rfl⟩
          replace H : (if 0 ≤ (ji21) then (if (ji21) ≤ t246 then (if t246 ≤ (a0.size : Int) then ((marginaliaref03_Decode.f kj9 (a0.extract ((ji21) : Int).toNat (t246 : Int).toNat) true).bind fun t247 => (some (t247, mn (wrap64 (t246 + 1)) (a0.size : Int)))) else (none)) else (none)) else (none)) = some (r1, r2) := by first | (rw [hji21] at H; exact H) | (simp only [hji21] at H ⊢; exact H)
          (try rw [hji21] at c18b0)
          (try rw [hji21] at c18b1)
          (try rw [hji21] at c18)
          (try rw [hji21] at c19b0)
          (try rw [hji21] at c19b1)
          (try rw [hji21] at c19)
          (try rw [hji21] at A20)
          have hji21w : (IntKind.i64.wrap (a1 + 1)) = ji21 := (i64_w _).trans hji21
          by_cases c22 : 0 ≤ (ji21)
          ·
           rw [if_pos c22] at H
           have c22b0 := eq_true c22
           have c22b1 : decide (0 ≤ (ji21)) = true := decide_eq_true c22
           clear c22
           by_cases c23 : (ji21) ≤ t246
           ·
            rw [if_pos c23] at H
            have c23b0 := eq_true c23
            have c23b1 : decide ((ji21) ≤ t246) = true := decide_eq_true c23
            clear c23
            by_cases c24 : t246 ≤ (a0.size : Int)
            ·
             rw [if_pos c24] at H
             have c24b0 := eq_true c24
             have c24b1 : decide (t246 ≤ (a0.size : Int)) = true := decide_eq_true c24
             clear c24
             replace H := Option.bind_eq_some_iff.mp H
             obtain ⟨t247, A250, H⟩ := H
             try dsimp only at H
             have A25 := Aside0.mk A250
             clear A250
             go_wp2_with fail
             (with_reducible refine (marginaliaref04_find.calls kj9 a0 ji21 (a0.extract (a1 : Int).toNat ((ji21) : Int).toNat) t246 _ A20.out).mono ?_)
             rintro e w' ⟨rfl, ⟨nd, rfl⟩⟩
             go_wp2_with fail
             (with_reducible refine (marginaliaref03_Decode.calls kj9 (a0.extract ((ji21) : Int).toNat (t246 : Int).toNat) true t247 _ A25.out).mono ?_)
             rintro e w27 ⟨rfl, hb⟩
             have n0_ := Aside0.mk (below_step (by repeat (first | (with_reducible first | exact HB.out | apply below_alloc | apply pw_below_drewN | apply below_drew1) | exact HB.out)) hb)
             clear HB
             have HB := n0_
             clear n0_
             (try clear hb)
             (try clear hb2)
             (try clear hk)
             (try clear hi)
             obtain ⟨ji26, hji26⟩ : ∃ j_ : Int, (mn (wrap64 (t246 + 1)) (a0.size : Int)) = j_ := ⟨_, rfl⟩
             replace H : (some (t247, ji26)) = some (r1, r2) := by first | (rw [hji26] at H; exact H) | (simp only [hji26] at H ⊢; exact H)
             (try rw [hji26] at A20)
             (try rw [hji26] at A25)
             have hji26_ : (if (a0.size : Int) < (wrap64 (t246 + 1)) then (a0.size : Int) else (wrap64 (t246 + 1))) = ji26 := hji26
             simp only [Option.some.injEq, Prod.mk.injEq] at H
             obtain ⟨rfl, rfl⟩ := H
             go_wp2
             go_ret2
             exact ⟨by first | rfl | (simp [errW_none, errW_some] <;> rfl) | (simp only [← hji21, ← hji26]; first | rfl | (simp [errW_none, errW_some] <;> rfl)) | (simp [*, errW_none, errW_some] <;> rfl), by repeat (first | (with_reducible first | exact HB.out | apply below_alloc | apply pw_below_drewN | apply below_drew1) | exact HB.out)⟩
            ·
             rw [if_neg c24] at H
             exact absurd H (by simp)
           ·
            rw [if_neg c23] at H
            exact absurd H (by simp)
          ·
           rw [if_neg c22] at H
           exact absurd H (by simp)
         ·
          rw [if_neg c19] at H
          exact absurd H (by simp)
        ·
         rw [if_neg c18] at H
         exact absurd H (by simp)
       ·
        rw [if_neg c17] at H
        exact absurd H (by simp)
      ·
       replace c16 := Bool.eq_false_iff.mpr c16
       subst c16
       replace H := (if_neg Bool.false_ne_true).symm.trans H
       by_cases c28 : 0 ≤ a1
       ·
        rw [if_pos c28] at H
        have c28b0 := eq_true c28
        have c28b1 : decide (0 ≤ a1) = true := decide_eq_true c28
        clear c28
        by_cases c29 : a1 ≤ t245
        ·
         rw [if_pos c29] at H
         have c29b0 := eq_true c29
         have c29b1 : decide (a1 ≤ t245) = true := decide_eq_true c29
         clear c29
         by_cases c30 : t245 ≤ (a0.size : Int)
         ·
          rw [if_pos c30] at H
          have c30b0 := eq_true c30
          have c30b1 : decide (t245 ≤ (a0.size : Int)) = true := decide_eq_true c30
          clear c30
          replace H := Option.bind_eq_some_iff.mp H
          obtain ⟨t248, A310, H⟩ := H
          try dsimp only at H
          have A31 := Aside0.mk A310
          clear A310
          go_wp2_with fail
          (with_reducible refine (marginaliaref03_Decode.calls kj9 (a0.extract (a1 : Int).toNat (t245 : Int).toNat) true t248 _ A31.out).mono ?_)
          rintro e w33 ⟨rfl, hb⟩
          have n0_ := Aside0.mk (below_step (by repeat (first | (with_reducible first | exact HB.out | apply below_alloc | apply pw_below_drewN | apply below_drew1) | exact HB.out)) hb)
          clear HB
          have HB := n0_
          clear n0_
          (try clear hb)
          (try clear hb2)
          (try clear hk)
          (try clear hi)
          obtain ⟨ji32, hji32⟩ : ∃ j_ : Int, (mn (wrap64 (t245 + 0)) (a0.size : Int)) = j_ := ⟨_, rfl⟩
          replace H : (some (t248, ji32)) = some (r1, r2) := by first | (rw [hji32] at H; exact H) | (simp only [hji32] at H ⊢; exact H)
          (try rw [hji32] at A31)
          have hji32_ : (if (a0.size : Int) < (wrap64 (t245 + 0)) then (a0.size : Int) else (wrap64 (t245 + 0))) = ji32 := hji32
          simp only [Option.some.injEq, Prod.mk.injEq] at H
          obtain ⟨rfl, rfl⟩ := H
          go_wp2
          all_goals
            go_ret2
            exact ⟨by first | rfl | (have hz_ := hji32_; rw [Int.add_zero] at hz_; first | (rw [if_pos (by assumption)] at hz_; subst hz_; rfl) | (rw [if_neg (Int.not_lt.2 (by assumption))] at hz_; subst hz_; rfl)) | (simp [errW_none, errW_some] <;> rfl) | (simp only [← hji32]; first | rfl | (simp [errW_none, errW_some] <;> rfl)) | (simp [*, errW_none, errW_some] <;> rfl), by repeat (first | (with_reducible first | exact HB.out | apply below_alloc | apply pw_below_drewN | apply below_drew1) | exact HB.out)⟩
         ·
          rw [if_neg c30] at H
          exact absurd H (by simp)
        ·
         rw [if_neg c29] at H
         exact absurd H (by simp)
       ·
        rw [if_neg c28] at H
        exact absurd H (by simp)
end
end Go.Proofs.Ytpelfhldgnmhpaa.G
