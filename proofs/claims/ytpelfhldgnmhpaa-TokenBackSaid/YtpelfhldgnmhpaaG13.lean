-- laid by a program of this session's (wip/tools/myprint.py) over the translation
import Derived.Test.YtpelfhldgnmhpaaG0
import Derived.Test.YtpelfhldgnmhpaaG12
namespace Go.Proofs.Ytpelfhldgnmhpaa.G
open Go.RowKit Go.Proofs.YtpelfhldgnmhpaaW.PrintWords Go.Proofs.YtpelfhldgnmhpaaW.PrintLast Go.Proofs.YtpelfhldgnmhpaaW.PrintMore
attribute [local go_sem] max2_int min2_int max_two min_two max_three min_three max_four min_four   -- for this text's walks alone
set_option linter.unusedVariables false
set_option linter.unusedSimpArgs false

/-! HAND charref_Decode: function 22 -/
def charref_Decode.l0 : Nat → ByteArray → Bool → ByteArray → Option ByteArray
  | 0, _, _, _ => none
  | k + 1, x0, x1, out =>
    if Lib.indexByte x0.data.toList 38 < 0 then (if out.size + x0.size ≤ 140737488355328 then some (out ++ x0) else none)
    else (charref_At.f k x0 (Lib.indexByte x0.data.toList 38) x1).bind fun t =>
      (if 0 ≤ Lib.indexByte x0.data.toList 38 then
        (if Lib.indexByte x0.data.toList 38 ≤ (x0.size : Int) then
          (if out.size + (x0.extract 0 (Lib.indexByte x0.data.toList 38).toNat).size ≤ 140737488355328 then
            (if out.size + (x0.extract 0 (Lib.indexByte x0.data.toList 38).toNat).size + t.1.size ≤ 140737488355328 then
              (if 0 ≤ wrap64 (Lib.indexByte x0.data.toList 38 + t.2) then
                (if wrap64 (Lib.indexByte x0.data.toList 38 + t.2) ≤ (x0.size : Int) then
                  charref_Decode.l0 k (x0.extract (wrap64 (Lib.indexByte x0.data.toList 38 + t.2)).toNat x0.size) x1 (out ++ x0.extract 0 (Lib.indexByte x0.data.toList 38).toNat ++ t.1)
                else none) else none) else none) else none) else none) else none)
def charref_Decode.f (k : Nat) (a0 : ByteArray) (a1 : Bool) : Option ByteArray := charref_Decode.l0 k a0 a1 (⟨#[]⟩ : ByteArray)
theorem charref_Decode.mono_l : ∀ k, (∀ y0 y1 y2, LeO (charref_Decode.l0 k y0 y1 y2) (charref_Decode.l0 (k + 1) y0 y1 y2))
  | 0 => fun _ _ _ r h => by simp [charref_Decode.l0] at h
  | k + 1 => by
    have ih0 := charref_Decode.mono_l k
    intro y0 y1 y2
    unfold charref_Decode.l0
    repeat' first
      | (with_reducible exact ih0 _ _ _)
      | (with_reducible exact charref_At.mono _ _ _ _)
      | (with_reducible exact LeO.refl _)
      | (with_reducible exact LeO.none _)
      | (with_reducible refine LeO.ite ?_ ?_)
      | (with_reducible refine LeO.bind ?_ (fun _ => ?_))
theorem charref_Decode.mono : ∀ a0 a1 k, LeO (charref_Decode.f k a0 a1) (charref_Decode.f (k + 1) a0 a1) := fun a0 a1 k => charref_Decode.mono_l k _ _ _
theorem charref_Decode.idx (x : ByteArray) (i : Int) (h : i = Lib.indexByte x.data.toList 38) (w : World) :
    Calls Try.prog 33 #[.string x, .int .u8 38] w fun e w' => e = .returned (.int .i64 i) ∧ w' = w := by
  subst h
  exact Try.strings_IndexByte x 38 w
theorem charref_Decode.cells (a b : ByteArray) : Lib.byteCells a.data.toList ++ Lib.strCells b = Lib.byteCells (a ++ b).data.toList := by
  simp [Lib.byteCells, Lib.strCells]
theorem charref_Decode.len (a : ByteArray) : (Lib.byteCells a.data.toList).length = a.size := by
  rw [Lib.byteCells_length]; simp
theorem charref_Decode.fin (a b : ByteArray) : (⟨(a ++ b).data.toList.toArray⟩ : ByteArray) = a ++ b := by rw [Array.toArray_toList]
set_option maxHeartbeats 4000000 in
set_option maxRecDepth 100000 in
theorem charref_Decode.calls (k : Nat) (a0 : ByteArray) (a1 : Bool) (r : ByteArray) (w : World) (h : charref_Decode.f k a0 a1 = some r) :
    Calls Try.prog 22 #[.string a0, .bool a1] w fun e w' => e = .returned (.string r) ∧ Below w.heap.size w w' := by
  have H := Aside0.mk (show charref_Decode.l0 k a0 a1 (⟨#[]⟩ : ByteArray) = some r from h)
  clear h
  have hF : Aside0 (BX.Fits 61 []) := ⟨⟨by kernel_rfl, by decide⟩⟩
  go_enter Try.func22, Try.ntmps22
  go_wp2
  go_loopg [0] k (fun kq v0 wr => ∃ x out : ByteArray, v0 = .string x ∧ Aside0 (charref_Decode.l0 kq x a1 out = some r) ∧ Aside0 (kq ≤ k) ∧ Aside0 (BX.BX 61 [] w.heap.size w.heap.size (Lib.byteCells out.data.toList) wr) ∧ Aside0 (Below w.heap.size w wr))
  case atStart => exact ⟨a0, ⟨#[]⟩, rfl, H, ⟨Nat.le_refl _⟩, ⟨BX.BX.fresh⟩, ⟨(Below.refl _ _).alloc (Nat.le_refl _) _⟩⟩
  case round =>
    clear H
    obtain ⟨x, out, rfl, HA, HK, HBX, HBL⟩ := hrel
    cases gk with
    | zero => exact absurd HA.out (by simp [charref_Decode.l0])
    | succ k1 =>
      have H := HA.out
      clear HA
      rw [charref_Decode.l0] at H
      obtain ⟨i, hi⟩ : ∃ i, i = Lib.indexByte x.data.toList 38 := ⟨_, rfl⟩
      rw [← hi] at H
      have HI := Aside0.mk hi
      clear hi
      by_cases c0 : i < 0
      · rw [if_pos c0] at H
        by_cases c1 : out.size + x.size ≤ 140737488355328
        · rw [if_pos c1] at H
          obtain rfl := Option.some.inj H
          clear H
          have HC := Aside0.mk c1
          have c0b : decide (i < 0) = true := decide_eq_true c0
          clear c1 c0
          go_wp2_with (first
            | (go_at_call 33; refine (charref_Decode.idx x i HI.out _).mono ?_; rintro e w1 ⟨rfl, rfl⟩)
            | (go_at_call 34; refine (BX.writeString 61 [] hF.out _ _ _ x _ HBX.out (by rw [charref_Decode.len]; exact HC.out) HBL.out.size).mono ?_; rintro e w1 ⟨rfl, hu, hb, _⟩; have HU := Aside0.mk hu.bx; rw [charref_Decode.cells] at HU; have HBB := Aside0.mk (HBL.out.trans hb); clear hu hb)
            | (go_at_call 35; refine (BX.string 61 [] _ _ _ _ HU.out HBB.out.size).mono ?_; rintro e w2 ⟨rfl, hb⟩))
          go_ret
          exact ⟨by rw [← charref_Decode.fin]; rfl, HBB.out.trans hb⟩
        · rw [if_neg c1] at H
          exact absurd H (by simp)
      · rw [if_neg c0] at H
        replace H := Option.bind_eq_some_iff.mp H
        obtain ⟨⟨t1, n1⟩, A0, H⟩ := H
        have A := Aside0.mk A0
        clear A0
        have p0 : 0 ≤ i := by omega
        rw [if_pos p0] at H
        by_cases c2 : i ≤ (x.size : Int)
        · rw [if_pos c2] at H
          by_cases c3 : out.size + (x.extract 0 i.toNat).size ≤ 140737488355328
          · rw [if_pos c3] at H
            by_cases c4 : out.size + (x.extract 0 i.toNat).size + t1.size ≤ 140737488355328
            · rw [if_pos c4] at H
              obtain ⟨j, hj⟩ : ∃ j : Int, wrap64 (i + n1) = j := ⟨_, rfl⟩
              replace H : (if 0 ≤ j then (if j ≤ (x.size : Int) then charref_Decode.l0 k1 (x.extract j.toNat x.size) a1 (out ++ x.extract 0 i.toNat ++ t1) else none) else none) = some r := by rw [← hj]; exact H
              by_cases c5 : 0 ≤ j
              · rw [if_pos c5] at H
                by_cases c6 : j ≤ (x.size : Int)
                · rw [if_pos c6] at H
                  have HA := Aside0.mk H
                  have HC3 := Aside0.mk c3
                  have HC4 := Aside0.mk c4
                  have c0b : decide (i < 0) = false := decide_eq_false c0
                  have c2b := eq_true c2
                  have p0b := eq_true p0
                  have c5b : (0 ≤ wrap64 (i + n1)) = True := eq_true (by rw [hj]; exact c5)
                  have c6b : (wrap64 (i + n1) ≤ (x.size : Int)) = True := eq_true (by rw [hj]; exact c6)
                  have HJ := Aside0.mk hj
                  clear H c3 c4 c0 hj c2 c5 c6 p0
                  go_wp2_with (first
                    | (go_at_call 33; refine (charref_Decode.idx x i HI.out _).mono ?_; rintro e w1 ⟨rfl, rfl⟩)
                    | (go_at_call 36; (with_reducible refine (charref_At.calls k1 x i a1 t1 n1 _ A.out).mono ?_); rintro e w1 ⟨rfl, hb⟩; have HBB := Aside0.mk (below_then HBL.out HBL.out.size hb); have HB2 := Aside0.mk (HBX.out.later hb); clear hb)
                    | (go_at_call 34; (with_reducible refine (BX.writeString 61 [] hF.out _ _ _ (x.extract 0 i.toNat) _ HB2.out (by rw [charref_Decode.len]; exact HC3.out) HBB.out.size).mono ?_); rintro e w2 ⟨rfl, hu, hb, _⟩; have HU := Aside0.mk hu.bx; rw [charref_Decode.cells] at HU; have HBC := Aside0.mk (HBB.out.trans hb); clear hu hb HB2)
                    | (go_at_call 34; (with_reducible refine (BX.writeString 61 [] hF.out _ _ _ t1 _ HU.out (by rw [charref_Decode.len, ByteArray.size_append]; exact HC4.out) HBC.out.size).mono ?_); rintro e w3 ⟨rfl, hu, hb, _⟩; have HV := Aside0.mk hu.bx; rw [charref_Decode.cells] at HV; have HBD := Aside0.mk (HBC.out.trans hb); clear hu hb HU))
                  go_roundg k1
                  case measure => omega
                  case rel => exact ⟨x.extract j.toNat x.size, _, by first | rfl | (rw [← HJ.out]; rfl) | (rw [← HJ.out]), HA, ⟨by have := HK.out; omega⟩, HV, HBD⟩
                · rw [if_neg c6] at H
                  exact absurd H (by simp)
              · rw [if_neg c5] at H
                exact absurd H (by simp)
            · rw [if_neg c4] at H
              exact absurd H (by simp)
          · rw [if_neg c3] at H
            exact absurd H (by simp)
        · rw [if_neg c2] at H
          exact absurd H (by simp)

end Go.Proofs.Ytpelfhldgnmhpaa.G
