-- laid by a program of this session's (wip/tools/myprint.py) over the translation
import Derived.Test.YthialihgamlljaaG0
import Derived.Test.YthialihgamlljaaG2
import Derived.Test.YthialihgamlljaaG5
import Derived.Test.YthialihgamlljaaG7
namespace Go.Proofs.Ythialihgamlljaa.G
open Go.RowKit Go.Proofs.YthialihgamlljaaW.PrintWords Go.Proofs.YthialihgamlljaaW.PrintLast Go.Proofs.YthialihgamlljaaW.PrintMore
attribute [local go_sem] max2_int min2_int max_two min_two max_three min_three max_four min_four   -- for this text's walks alone
set_option linter.unusedVariables false
set_option linter.unusedSimpArgs false

/-! ### marginalialaw03_alive: function 20 -/
def marginalialaw03_alive.f (k : Nat)  : Option (Bool) := (charref_At.f k (⟨#[97, 38, 108, 116, 59]⟩ : ByteArray) 1 false).bind fun bt129 => (if bt129.1.toList = ([60] : List UInt8) then (if bt129.2 = 4 then ((charref_Decode.f k (⟨#[38, 35, 120, 52, 49]⟩ : ByteArray) true).bind fun t131 => (if t131.toList = ([65] : List UInt8) then ((charref_Number.f 65).bind fun t132 => (some (t132.toList == ([65] : List UInt8)))) else (some false))) else (some false)) else (some false))
theorem marginalialaw03_alive.mono : ∀ k, LeO (marginalialaw03_alive.f k ) (marginalialaw03_alive.f (k + 1) ) := by
  intro  k
  unfold marginalialaw03_alive.f
  repeat' first
      | (with_reducible exact charref_At.mono _ _ _ _)
      | (with_reducible exact charref_Decode.mono _ _ _)
      | (with_reducible exact LeO.refl _)
      | (with_reducible exact LeO.none _)
      | (with_reducible refine LeO.ite ?_ ?_)
      | (with_reducible refine LeO.bind ?_ (fun _ => ?_))
      | exact charref_At.mono _ _ _ _
      | exact charref_Decode.mono _ _ _
      | exact LeO.none _
      | refine LeO.ite ?_ ?_
      | refine LeO.bind ?_ (fun _ => ?_)
set_option maxHeartbeats 8000000 in
set_option maxRecDepth 100000 in
theorem marginalialaw03_alive.calls (k : Nat)  (r : Bool) (w : World) (h : marginalialaw03_alive.f k  = some r) :
    Calls Try.prog 20 #[] w fun e w' => e = .returned (.bool r) ∧ Below w.heap.size w w' := by
  have HB := Aside0.mk (Below.refl w.heap.size w)
  have H : ((charref_At.f k (⟨#[97, 38, 108, 116, 59]⟩ : ByteArray) 1 false).bind fun bt129 => (if bt129.1.toList = ([60] : List UInt8) then (if bt129.2 = 4 then ((charref_Decode.f k (⟨#[38, 35, 120, 52, 49]⟩ : ByteArray) true).bind fun t131 => (if t131.toList = ([65] : List UInt8) then ((charref_Number.f 65).bind fun t132 => (some (t132.toList == ([65] : List UInt8)))) else (some false))) else (some false)) else (some false))) = some r := h
  clear h
  replace H := Option.bind_eq_some_iff.mp H
  obtain ⟨⟨t129, t130⟩, A10, H⟩ := H
  replace H : (if t129.toList = ([60] : List UInt8) then (if t130 = 4 then ((charref_Decode.f k (⟨#[38, 35, 120, 52, 49]⟩ : ByteArray) true).bind fun t131 => (if t131.toList = ([65] : List UInt8) then ((charref_Number.f 65).bind fun t132 => (some (t132.toList == ([65] : List UInt8)))) else (some false))) else (some false)) else (some false)) = some r := H
  have A1 := Aside0.mk A10
  clear A10
  by_cases c2 : t129.toList = ([60] : List UInt8)
  · rw [if_pos c2] at H
    have c2b0 : (t129.toList == ([60] : List UInt8)) = true := beq_iff_eq.mpr c2
    have c2b1 : (t129.toList != ([60] : List UInt8)) = false := bne_eq_false_iff_eq.mpr c2
    clear c2
    by_cases c3 : t130 = 4
    · rw [if_pos c3] at H
      have c3b0 : (t130 == 4) = true := beq_iff_eq.mpr c3
      have c3b1 : (t130 != 4) = false := bne_eq_false_iff_eq.mpr c3
      clear c3
      replace H := Option.bind_eq_some_iff.mp H
      obtain ⟨t131, A40, H⟩ := H
      replace H : (if t131.toList = ([65] : List UInt8) then ((charref_Number.f 65).bind fun t132 => (some (t132.toList == ([65] : List UInt8)))) else (some false)) = some r := H
      have A4 := Aside0.mk A40
      clear A40
      by_cases c5 : t131.toList = ([65] : List UInt8)
      · rw [if_pos c5] at H
        have c5b0 : (t131.toList == ([65] : List UInt8)) = true := beq_iff_eq.mpr c5
        have c5b1 : (t131.toList != ([65] : List UInt8)) = false := bne_eq_false_iff_eq.mpr c5
        clear c5
        replace H := Option.bind_eq_some_iff.mp H
        obtain ⟨t132, A60, H⟩ := H
        replace H : (some (t132.toList == ([65] : List UInt8))) = some r := H
        have A6 := Aside0.mk A60
        clear A60
        obtain rfl := Option.some.inj H
        go_enter Try.func20, Try.ntmps20
        go_wp2_with (first | ((with_reducible refine gate_callee (f := 25) rfl ?_); refine goesL_ (some 4) rfl rfl Try.func25 (by kernel_rfl) rfl #[.string (⟨#[97, 38, 108, 116, 59]⟩ : ByteArray), .int .i64 1, .bool false] rfl (by (try simp only [List.map_toArray, List.map_cons, List.map_nil]); first | done | rfl | (simp only [List.length_drop, List.length_take]; rfl)) ?_; (with_reducible refine (charref_At.calls k (⟨#[97, 38, 108, 116, 59]⟩ : ByteArray) 1 false t129 t130 _ A1.out).mono ?_); rintro e w7 ⟨rfl, hb⟩; refine ⟨_, rfl, ?_⟩; have n0_ := Aside0.mk (below_step (by repeat (first | (with_reducible first | exact HB.out | apply below_alloc | apply pw_below_drewN | apply below_drew1) | exact HB.out)) hb); clear HB; have HB := n0_; clear n0_; (try clear hb); (try clear hb2); (try clear hk); (try clear hi)) | (go_at_call 27; (with_reducible refine (charref_Decode.calls k (⟨#[38, 35, 120, 52, 49]⟩ : ByteArray) true t131 _ A4.out).mono ?_); rintro e w8 ⟨rfl, hb⟩; have n0_ := Aside0.mk (below_step (by repeat (first | (with_reducible first | exact HB.out | apply below_alloc | apply pw_below_drewN | apply below_drew1) | exact HB.out)) hb); clear HB; have HB := n0_; clear n0_; (try clear hb); (try clear hb2); (try clear hk); (try clear hi)) | (go_at_call 23; (with_reducible refine (charref_Number.calls 65 t132 _ A6.out).mono ?_); rintro e w9 ⟨rfl, hb⟩; have n0_ := Aside0.mk (below_step (by repeat (first | (with_reducible first | exact HB.out | apply below_alloc | apply pw_below_drewN | apply below_drew1) | exact HB.out)) hb); clear HB; have HB := n0_; clear n0_; (try clear hb); (try clear hb2); (try clear hk); (try clear hi)))
        go_ret
        exact ⟨by first | rfl | (simp [errW_none, errW_some] <;> rfl) | (simp [*, errW_none, errW_some] <;> rfl), by repeat (first | (with_reducible first | exact HB.out | apply below_alloc | apply pw_below_drewN | apply below_drew1) | exact HB.out)⟩
      · rw [if_neg c5] at H
        have c5b0 : (t131.toList == ([65] : List UInt8)) = false := beq_eq_false_iff_ne.mpr c5
        have c5b1 : (t131.toList != ([65] : List UInt8)) = true := bne_iff_ne.mpr c5
        obtain rfl := Option.some.inj H
        go_enter Try.func20, Try.ntmps20
        go_wp2_with (first | ((with_reducible refine gate_callee (f := 25) rfl ?_); refine goesL_ (some 4) rfl rfl Try.func25 (by kernel_rfl) rfl #[.string (⟨#[97, 38, 108, 116, 59]⟩ : ByteArray), .int .i64 1, .bool false] rfl (by (try simp only [List.map_toArray, List.map_cons, List.map_nil]); first | done | rfl | (simp only [List.length_drop, List.length_take]; rfl)) ?_; (with_reducible refine (charref_At.calls k (⟨#[97, 38, 108, 116, 59]⟩ : ByteArray) 1 false t129 t130 _ A1.out).mono ?_); rintro e w10 ⟨rfl, hb⟩; refine ⟨_, rfl, ?_⟩; have n0_ := Aside0.mk (below_step (by repeat (first | (with_reducible first | exact HB.out | apply below_alloc | apply pw_below_drewN | apply below_drew1) | exact HB.out)) hb); clear HB; have HB := n0_; clear n0_; (try clear hb); (try clear hb2); (try clear hk); (try clear hi)) | (go_at_call 27; (with_reducible refine (charref_Decode.calls k (⟨#[38, 35, 120, 52, 49]⟩ : ByteArray) true t131 _ A4.out).mono ?_); rintro e w11 ⟨rfl, hb⟩; have n0_ := Aside0.mk (below_step (by repeat (first | (with_reducible first | exact HB.out | apply below_alloc | apply pw_below_drewN | apply below_drew1) | exact HB.out)) hb); clear HB; have HB := n0_; clear n0_; (try clear hb); (try clear hb2); (try clear hk); (try clear hi)))
        go_ret
        exact ⟨by first | rfl | (simp [errW_none, errW_some] <;> rfl) | (simp [*, errW_none, errW_some] <;> rfl), by repeat (first | (with_reducible first | exact HB.out | apply below_alloc | apply pw_below_drewN | apply below_drew1) | exact HB.out)⟩
    · rw [if_neg c3] at H
      have c3b0 : (t130 == 4) = false := beq_eq_false_iff_ne.mpr c3
      have c3b1 : (t130 != 4) = true := bne_iff_ne.mpr c3
      obtain rfl := Option.some.inj H
      go_enter Try.func20, Try.ntmps20
      go_wp2_with (first | ((with_reducible refine gate_callee (f := 25) rfl ?_); refine goesL_ (some 4) rfl rfl Try.func25 (by kernel_rfl) rfl #[.string (⟨#[97, 38, 108, 116, 59]⟩ : ByteArray), .int .i64 1, .bool false] rfl (by (try simp only [List.map_toArray, List.map_cons, List.map_nil]); first | done | rfl | (simp only [List.length_drop, List.length_take]; rfl)) ?_; (with_reducible refine (charref_At.calls k (⟨#[97, 38, 108, 116, 59]⟩ : ByteArray) 1 false t129 t130 _ A1.out).mono ?_); rintro e w12 ⟨rfl, hb⟩; refine ⟨_, rfl, ?_⟩; have n0_ := Aside0.mk (below_step (by repeat (first | (with_reducible first | exact HB.out | apply below_alloc | apply pw_below_drewN | apply below_drew1) | exact HB.out)) hb); clear HB; have HB := n0_; clear n0_; (try clear hb); (try clear hb2); (try clear hk); (try clear hi)))
      go_ret
      exact ⟨by first | rfl | (simp [errW_none, errW_some] <;> rfl) | (simp [*, errW_none, errW_some] <;> rfl), by repeat (first | (with_reducible first | exact HB.out | apply below_alloc | apply pw_below_drewN | apply below_drew1) | exact HB.out)⟩
  · rw [if_neg c2] at H
    have c2b0 : (t129.toList == ([60] : List UInt8)) = false := beq_eq_false_iff_ne.mpr c2
    have c2b1 : (t129.toList != ([60] : List UInt8)) = true := bne_iff_ne.mpr c2
    obtain rfl := Option.some.inj H
    go_enter Try.func20, Try.ntmps20
    go_wp2_with (first | ((with_reducible refine gate_callee (f := 25) rfl ?_); refine goesL_ (some 4) rfl rfl Try.func25 (by kernel_rfl) rfl #[.string (⟨#[97, 38, 108, 116, 59]⟩ : ByteArray), .int .i64 1, .bool false] rfl (by (try simp only [List.map_toArray, List.map_cons, List.map_nil]); first | done | rfl | (simp only [List.length_drop, List.length_take]; rfl)) ?_; (with_reducible refine (charref_At.calls k (⟨#[97, 38, 108, 116, 59]⟩ : ByteArray) 1 false t129 t130 _ A1.out).mono ?_); rintro e w13 ⟨rfl, hb⟩; refine ⟨_, rfl, ?_⟩; have n0_ := Aside0.mk (below_step (by repeat (first | (with_reducible first | exact HB.out | apply below_alloc | apply pw_below_drewN | apply below_drew1) | exact HB.out)) hb); clear HB; have HB := n0_; clear n0_; (try clear hb); (try clear hb2); (try clear hk); (try clear hi)))
    go_ret
    exact ⟨by first | rfl | (simp [errW_none, errW_some] <;> rfl) | (simp [*, errW_none, errW_some] <;> rfl), by repeat (first | (with_reducible first | exact HB.out | apply below_alloc | apply pw_below_drewN | apply below_drew1) | exact HB.out)⟩

end Go.Proofs.Ythialihgamlljaa.G
