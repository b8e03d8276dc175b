-- laid by a program of this session's (wip/tools/myprint.py) over the translation
import Derived.Test.YtpelfhldgnmhpaaG0
import Derived.Test.YtpelfhldgnmhpaaG8
namespace Go.Proofs.Ytpelfhldgnmhpaa.G
open Go.RowKit Go.Proofs.YtpelfhldgnmhpaaW.PrintWords Go.Proofs.YtpelfhldgnmhpaaW.PrintLast Go.Proofs.YtpelfhldgnmhpaaW.PrintMore
attribute [local go_sem] max2_int min2_int max_two min_two max_three min_three max_four min_four   -- for this text's walks alone
set_option linter.unusedVariables false
set_option linter.unusedSimpArgs false

/-! HAND charref_Number: function 83 -/
def charref_Number.tab : List Int := [8364, 129, 8218, 402, 8222, 8230, 8224, 8225, 710, 8240, 352, 8249, 338, 141, 381, 143, 144, 8216, 8217, 8220, 8221, 8226, 8211, 8212, 732, 8482, 353, 8250, 339, 157, 382, 376]
def charref_Number.f (a0 : Int) : Option ByteArray :=
  if a0 ≤ 0 ∨ 1114111 < a0 ∨ (55296 ≤ a0 ∧ a0 ≤ 57343) then some ⟨#[239, 191, 189]⟩
  else if 128 ≤ a0 ∧ a0 < 160 then some (Utf8.encode (charref_Number.tab.getD (a0 - 128).toNat 0))
  else some (Utf8.encode a0)
theorem charref_Number.valid (a0 : Int) (w : World) (h0 : 0 < a0) (h1 : a0 ≤ 1114111) (hs : ¬ (55296 ≤ a0 ∧ a0 ≤ 57343)) :
    Calls Try.prog 93 #[.int .i32 a0] w fun e w' => e = .returned (.bool true) ∧ Drawn0 w w' :=
  utf8_ValidRune.calls 1 a0 true w (by
    unfold utf8_ValidRune.f
    rw [if_pos (by omega)]
    by_cases h : a0 < 55296
    · simp [utf8_ValidRune.j0, h]
    · have h2 : 57343 < a0 := by omega
      simp [utf8_ValidRune.j0, h, h1, h2])
theorem charref_Number.invalid (a0 : Int) (w : World) (hs : 55296 ≤ a0 ∧ a0 ≤ 57343) :
    Calls Try.prog 93 #[.int .i32 a0] w fun e w' => e = .returned (.bool false) ∧ Drawn0 w w' :=
  utf8_ValidRune.calls 1 a0 false w (by
    unfold utf8_ValidRune.f
    rw [if_pos (by omega)]
    have h : ¬ a0 < 55296 := by omega
    have h2 : ¬ 57343 < a0 := by omega
    simp [utf8_ValidRune.j0, h, h2])
def charref_Number.cells : Array Value := #[.int .i32 8364, .int .i32 129, .int .i32 8218, .int .i32 402, .int .i32 8222, .int .i32 8230, .int .i32 8224, .int .i32 8225, .int .i32 710, .int .i32 8240, .int .i32 352, .int .i32 8249, .int .i32 338, .int .i32 141, .int .i32 381, .int .i32 143, .int .i32 144, .int .i32 8216, .int .i32 8217, .int .i32 8220, .int .i32 8221, .int .i32 8226, .int .i32 8211, .int .i32 8212, .int .i32 732, .int .i32 8482, .int .i32 353, .int .i32 8250, .int .i32 339, .int .i32 157, .int .i32 382, .int .i32 376]
def charref_Number.zeros : Array Value := #[.int .i32 0, .int .i32 0, .int .i32 0, .int .i32 0, .int .i32 0, .int .i32 0, .int .i32 0, .int .i32 0, .int .i32 0, .int .i32 0, .int .i32 0, .int .i32 0, .int .i32 0, .int .i32 0, .int .i32 0, .int .i32 0, .int .i32 0, .int .i32 0, .int .i32 0, .int .i32 0, .int .i32 0, .int .i32 0, .int .i32 0, .int .i32 0, .int .i32 0, .int .i32 0, .int .i32 0, .int .i32 0, .int .i32 0, .int .i32 0, .int .i32 0, .int .i32 0]
theorem charref_Number.store_wp (w : World) (K : Act → World → Prop) (Q : Exit → Act → World → Prop) (o : Oper) (a : Act) (ho : o.op = .store 98 (.tmp 3) (.tmp 4)) (h3 : a.eval (.tmp 3) = .pointer (some ⟨w.heap.size, 0, none⟩)) (h4 : a.eval (.tmp 4) = .agg charref_Number.cells) (h : K (a.put o.dst undef) (w.alloc (.cells charref_Number.cells 98))) : o.wp Try.prog a (w.alloc (.cells charref_Number.zeros 98)) K Q := by
  unfold Oper.wp execOp
  simp only [ho, h3, h4, run_storeAt_new (P := Try.prog) w 98 charref_Number.zeros charref_Number.cells (by kernel_rfl) rfl (by kernel_rfl), Sem.run_bind, Sem.run_pure, Result.andThen_ok]
  exact h
theorem charref_Number.cell (w : World) (j : Nat) (hj : j < 32) : (w.alloc (.cells charref_Number.cells 98)).cell? ⟨w.heap.size, j, none⟩ = some (.int .i32 (charref_Number.tab.getD j 0)) := by
  rw [cell_of_row _ _ _ _ _ _ (heap_alloc_last w _)]
  have : ∀ j, j < 32 → charref_Number.cells[j]? = some (.int .i32 (charref_Number.tab.getD j 0)) := by
    intro j hj
    match j, hj with
    | 0, _ => rfl
    | 1, _ => rfl
    | 2, _ => rfl
    | 3, _ => rfl
    | 4, _ => rfl
    | 5, _ => rfl
    | 6, _ => rfl
    | 7, _ => rfl
    | 8, _ => rfl
    | 9, _ => rfl
    | 10, _ => rfl
    | 11, _ => rfl
    | 12, _ => rfl
    | 13, _ => rfl
    | 14, _ => rfl
    | 15, _ => rfl
    | 16, _ => rfl
    | 17, _ => rfl
    | 18, _ => rfl
    | 19, _ => rfl
    | 20, _ => rfl
    | 21, _ => rfl
    | 22, _ => rfl
    | 23, _ => rfl
    | 24, _ => rfl
    | 25, _ => rfl
    | 26, _ => rfl
    | 27, _ => rfl
    | 28, _ => rfl
    | 29, _ => rfl
    | 30, _ => rfl
    | 31, _ => rfl
    | n + 32, h => omega
  exact this j hj
set_option maxHeartbeats 4000000 in
set_option maxRecDepth 100000 in
theorem charref_Number.calls (a0 : Int) (r : ByteArray) (w : World) (h : charref_Number.f a0 = some r) :
    Calls Try.prog 83 #[.int .i64 a0] w fun e w' => e = .returned (.string r) ∧ Below w.heap.size w w' := by
  unfold charref_Number.f at h
  have HB : Aside0 (Below w.heap.size w (w.alloc (.cells charref_Number.cells 98))) := ⟨(Below.refl _ _).alloc (Nat.le_refl _) _⟩
  by_cases c0 : a0 ≤ 0
  · rw [if_pos (.inl c0)] at h
    obtain rfl := Option.some.inj h
    clear h
    go_enter Try.func83, Try.ntmps83
    go_upto_region 1 with (fail)
    go_wp2_with (first
      | ((with_reducible refine gate_dst (N := 4) rfl ?_); refine Kd.event_run rfl (v := .agg charref_Number.cells) (w1 := w) ?hr ?_; (case hr => kernel_rfl))
      | ((with_reducible refine gate_dst (N := 3) rfl ?_); refine Kd.event_run rfl (v := .pointer (some ⟨w.heap.size, 0, none⟩)) (w1 := w.alloc (.cells charref_Number.zeros 98)) ?hr ?_; (case hr => kernel_rfl); refine wpList_plain rfl (fun K_ hK_ => charref_Number.store_wp w K_ _ _ _ rfl rfl rfl (hK_ _ _ (wpList_nil ?_)))))
    go_wp2
    go_ret
    exact ⟨rfl, HB.out⟩
  · by_cases c1 : 1114111 < a0
    · rw [if_pos (.inr (.inl c1))] at h
      obtain rfl := Option.some.inj h
      clear h
      go_enter Try.func83, Try.ntmps83
      go_upto_region 1 with (fail)
      go_wp2_with (first
        | ((with_reducible refine gate_dst (N := 4) rfl ?_); refine Kd.event_run rfl (v := .agg charref_Number.cells) (w1 := w) ?hr ?_; (case hr => kernel_rfl))
        | ((with_reducible refine gate_dst (N := 3) rfl ?_); refine Kd.event_run rfl (v := .pointer (some ⟨w.heap.size, 0, none⟩)) (w1 := w.alloc (.cells charref_Number.zeros 98)) ?hr ?_; (case hr => kernel_rfl); refine wpList_plain rfl (fun K_ hK_ => charref_Number.store_wp w K_ _ _ _ rfl rfl rfl (hK_ _ _ (wpList_nil ?_)))))
      go_wp2
      go_ret
      exact ⟨rfl, HB.out⟩
    · have c0' : 0 < a0 := by omega
      have c1' : a0 ≤ 1114111 := by omega
      by_cases c2 : 55296 ≤ a0 ∧ a0 ≤ 57343
      · rw [if_pos (.inr (.inr c2))] at h
        obtain rfl := Option.some.inj h
        have c3 : (128 : Int) ≤ a0 := by omega
        clear h
        go_enter Try.func83, Try.ntmps83
        go_upto_region 1 with (fail)
        go_wp2_with (first
          | ((with_reducible refine gate_dst (N := 4) rfl ?_); refine Kd.event_run rfl (v := .agg charref_Number.cells) (w1 := w) ?hr ?_; (case hr => kernel_rfl))
          | ((with_reducible refine gate_dst (N := 3) rfl ?_); refine Kd.event_run rfl (v := .pointer (some ⟨w.heap.size, 0, none⟩)) (w1 := w.alloc (.cells charref_Number.zeros 98)) ?hr ?_; (case hr => kernel_rfl); refine wpList_plain rfl (fun K_ hK_ => charref_Number.store_wp w K_ _ _ _ rfl rfl rfl (hK_ _ _ (wpList_nil ?_)))))
        go_wp2_with (go_at_call 93; refine (charref_Number.invalid a0 _ c2).mono ?_; rintro e w1 ⟨rfl, ⟨n1, rfl⟩⟩)
        go_ret
        exact ⟨rfl, pw_below_drewN HB.out _⟩
      · rw [if_neg (by omega)] at h
        by_cases c4 : 128 ≤ a0 ∧ a0 < 160
        · rw [if_pos c4] at h
          obtain rfl := Option.some.inj h
          clear h
          have c5 : 128 ≤ a0 := c4.1
          have c6 : a0 < 160 := c4.2
          have HC := Aside0.mk (charref_Number.cell w (a0 - 128).toNat (by omega))
          go_enter Try.func83, Try.ntmps83
          go_upto_region 1 with (fail)
          go_wp2_with (first
            | ((with_reducible refine gate_dst (N := 4) rfl ?_); refine Kd.event_run rfl (v := .agg charref_Number.cells) (w1 := w) ?hr ?_; (case hr => kernel_rfl))
            | ((with_reducible refine gate_dst (N := 3) rfl ?_); refine Kd.event_run rfl (v := .pointer (some ⟨w.heap.size, 0, none⟩)) (w1 := w.alloc (.cells charref_Number.zeros 98)) ?hr ?_; (case hr => kernel_rfl); refine wpList_plain rfl (fun K_ hK_ => charref_Number.store_wp w K_ _ _ _ rfl rfl rfl (hK_ _ _ (wpList_nil ?_)))))
          go_wp2_with (go_at_call 93; refine (charref_Number.valid a0 _ c0' c1' c2).mono ?_; rintro e w1 ⟨rfl, ⟨n1, rfl⟩⟩; have hcell := HC.out)
          go_ret
          exact ⟨rfl, pw_below_drewN HB.out _⟩
        · rw [if_neg c4] at h
          obtain rfl := Option.some.inj h
          clear h
          by_cases c5 : 128 ≤ a0
          · have c6 : 160 ≤ a0 := by omega
            go_enter Try.func83, Try.ntmps83
            go_upto_region 1 with (fail)
            go_wp2_with (first
              | ((with_reducible refine gate_dst (N := 4) rfl ?_); refine Kd.event_run rfl (v := .agg charref_Number.cells) (w1 := w) ?hr ?_; (case hr => kernel_rfl))
              | ((with_reducible refine gate_dst (N := 3) rfl ?_); refine Kd.event_run rfl (v := .pointer (some ⟨w.heap.size, 0, none⟩)) (w1 := w.alloc (.cells charref_Number.zeros 98)) ?hr ?_; (case hr => kernel_rfl); refine wpList_plain rfl (fun K_ hK_ => charref_Number.store_wp w K_ _ _ _ rfl rfl rfl (hK_ _ _ (wpList_nil ?_)))))
            go_wp2_with (go_at_call 93; refine (charref_Number.valid a0 _ c0' c1' c2).mono ?_; rintro e w1 ⟨rfl, ⟨n1, rfl⟩⟩)
            go_ret
            exact ⟨rfl, pw_below_drewN HB.out _⟩
          · have c6 : a0 < 128 := by omega
            go_enter Try.func83, Try.ntmps83
            go_upto_region 1 with (fail)
            go_wp2_with (first
              | ((with_reducible refine gate_dst (N := 4) rfl ?_); refine Kd.event_run rfl (v := .agg charref_Number.cells) (w1 := w) ?hr ?_; (case hr => kernel_rfl))
              | ((with_reducible refine gate_dst (N := 3) rfl ?_); refine Kd.event_run rfl (v := .pointer (some ⟨w.heap.size, 0, none⟩)) (w1 := w.alloc (.cells charref_Number.zeros 98)) ?hr ?_; (case hr => kernel_rfl); refine wpList_plain rfl (fun K_ hK_ => charref_Number.store_wp w K_ _ _ _ rfl rfl rfl (hK_ _ _ (wpList_nil ?_)))))
            go_wp2_with (go_at_call 93; refine (charref_Number.valid a0 _ c0' c1' c2).mono ?_; rintro e w1 ⟨rfl, ⟨n1, rfl⟩⟩)
            go_ret
            exact ⟨rfl, pw_below_drewN HB.out _⟩

end Go.Proofs.Ytpelfhldgnmhpaa.G
