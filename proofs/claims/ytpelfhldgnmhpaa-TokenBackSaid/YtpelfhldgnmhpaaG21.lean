-- laid by a program of this session's (wip/tools/myprint.py) over the translation
import Derived.Test.YtpelfhldgnmhpaaG0
import Derived.Test.YtpelfhldgnmhpaaG7
namespace Go.Proofs.Ytpelfhldgnmhpaa.G
open Go.RowKit Go.Proofs.YtpelfhldgnmhpaaW.PrintWords Go.Proofs.YtpelfhldgnmhpaaW.PrintLast Go.Proofs.YtpelfhldgnmhpaaW.PrintMore
attribute [local go_sem] max2_int min2_int max_two min_two max_three min_three max_four min_four   -- for this text's walks alone
set_option linter.unusedVariables false
set_option linter.unusedSimpArgs false

/-! HAND token_reader_upTo: function 40 -/
/-- A world in which the library's own number (internal/bytealg.MaxLen) reads. -/
def HM (w : World) : Prop := ∃ m : Int, w.cell? ⟨0, 0, none⟩ = some (.int .i64 m)
theorem HM.lt {w : World} (h : HM w) : 0 < w.heap.size := by
  obtain ⟨m, h⟩ := h
  unfold World.cell? at h
  rcases Nat.eq_zero_or_pos w.heap.size with e | e
  · rw [Array.getElem?_eq_none (by omega)] at h; simp at h
  · exact e
theorem HM.at_ {w w' : World} (h : HM w) (hb : Below w.heap.size w w') : HM w' := by
  obtain ⟨m, hm⟩ := h
  exact ⟨m, (hb.cell (HM.lt ⟨m, hm⟩)).trans hm⟩
theorem HM.fr {w w' : World} {G : Nat → Prop} (h : HM w) (hb : Fr G w w') (hg : ¬ G 0) : HM w' := by
  obtain ⟨m, hm⟩ := h
  exact ⟨m, (World.cell?_of_block (hb.block 0 (HM.lt ⟨m, hm⟩) hg)).trans hm⟩
theorem HM.far {w : World} {g : Nat} (h : HM w) (hg : 0 ≠ g) {j : Nat} {v : Value} {n : Nat} : HM ((w.setCell ⟨g, j, none⟩ v).drewN n) := by
  obtain ⟨m, hm⟩ := h
  exact ⟨m, (World.cell?_of_block (Below.heap_setCell _ _ _ 0 hg)).trans hm⟩
theorem RD.pos {w : World} {g : Nat} {s : ByteArray} {i : Int} (h : RD w g s i) (hm : HM w) : 0 ≠ g := by
  rintro rfl
  obtain ⟨m, hm⟩ := hm
  rw [h.c0] at hm; cases hm
theorem token_reader.rest_any (g : Nat) (s : ByteArray) (i : Nat) (w : World) (h : RD w g s i) (hi : i ≤ s.size) (hs : s.size ≤ 1000000000000) :
    Calls Try.prog 31 #[.pointer (some ⟨g, 0, none⟩)] w fun e w' => e = .returned (.string (s.extract i s.size)) ∧ ∃ n, w' = w.drewN n := by
  have c0 := h.c0
  have c1 := h.c1
  have h0 : (0 : Int) ≤ i := by omega
  have h1 : (i : Int) ≤ (s.size : Int) := by omega
  have h2 : (s.size : Int) ≤ 1000000000000 := by omega
  clear h
  go_enter Try.func31, Try.ntmps31
  go_wp2
  go_quiet (fail)
  go_wp2
  go_ret
  exact ⟨rfl, _, rfl⟩
/-- Whether the last byte ahead of a place is a stroke, where it lies behind another place. -/
def token_reader.slash (s : ByteArray) (i j : Nat) : Bool := decide (i < j) && s.data.toList.getD (j - 1) 0 == 47
theorem token_reader.slash_eq (s : ByteArray) (i j : Nat) (h : i < j) (hj : j - 1 < s.size) : token_reader.slash s i j = (((s[j - 1]).toNat : Int) == 47) := by
  have h' : j - 1 < s.data.toList.length := by simpa using hj
  have e : s.data.toList.getD (j - 1) 0 = s[j - 1] := by rw [List.getD, List.getElem?_eq_getElem h']; rfl
  unfold token_reader.slash
  rw [e, decide_eq_true h, Bool.true_and, Bool.eq_iff_iff, beq_iff_eq, beq_iff_eq, ← UInt8.toNat_inj]
  have : (47 : UInt8).toNat = 47 := rfl
  omega
set_option maxRecDepth 100000 in
theorem token_reader.gap_any (g : Nat) (s : ByteArray) (i : Nat) (w : World) (h : RD w g s i) (hi : i ≤ s.size) (hs : s.size ≤ 1000000000000) :
    Calls Try.prog 58 #[.pointer (some ⟨g, 0, none⟩)] w fun e w' => e = .returned (.bool (token_reader.slash s i (token_until.to token_until.pG s i))) ∧ RD w' g s ((token_until.to token_until.pG s i : Nat) : Int) ∧ Fr (· = g) w w' := by
  have HR := Aside0.mk h
  have q1 := h.c1
  have hle := token_until.to_le token_until.pG s i hi
  have HLE := Aside0.mk hle
  clear h hle
  go_enter Try.func58, Try.ntmps58
  go_wp2_with fail
  refine (token_reader.untilG g s i w HR.out hi hs).mono ?_
  rintro e w1 ⟨rfl, hr, hf⟩
  obtain ⟨j, hj⟩ : ∃ j, token_until.to token_until.pG s i = j := ⟨_, rfl⟩
  rw [hj] at hr HLE
  have HJ := Aside0.mk hj
  have HR1 := Aside0.mk hr
  have HF := Aside0.mk hf
  have c0 := hr.c0
  have c1 := hr.c1
  have hij := HLE.out.1
  have hjs := HLE.out.2
  clear hr hf HR q1 hj HLE
  have hj9 : (j : Int) ≤ 1000000000000 := by omega
  by_cases hlt : i < j
  · have g1 : decide ((j : Int) > (i : Int)) = true := by simp; omega
    have g4 : (i : Int) < (j : Int) := by omega
    have g5 : (1 : Int) ≤ (j : Int) := by omega
    have g2 : (0 : Int) ≤ (j : Int) - 1 := by omega
    have g3 : (j : Int) - 1 < (s.size : Int) := by omega
    go_wp2
    go_quiet (fail)
    go_wp2
    go_ret
    rw [HJ.out]
    refine ⟨congrArg (fun b => Ending.returned (Value.bool b)) (token_reader.slash_eq s i j hlt (by omega)).symm, HR1.out, HF.out.drewN _⟩
  · have g1 : decide ((j : Int) > (i : Int)) = false := by simp; omega
    have g4 : ¬ (i : Int) < (j : Int) := by omega
    go_wp2
    go_quiet (fail)
    go_wp2
    go_ret
    rw [HJ.out]
    exact ⟨by simp [token_reader.slash, hlt], HR1.out, HF.out.drewN _⟩
/-- What stands ahead of a text, from a place on, or all that is left; whether the text is there; the place behind it. -/
def token_reader.cutTxt (s : ByteArray) (i : Nat) (t : ByteArray) : ByteArray := ⟨(Lib.cut (s.data.toList.drop i) t.data.toList).1.toArray⟩
def token_reader.cutAt (s : ByteArray) (i : Nat) (t : ByteArray) : Nat := i + (Lib.cut (s.data.toList.drop i) t.data.toList).1.length + (if (Lib.cut (s.data.toList.drop i) t.data.toList).2.2 = true then t.size else 0)
theorem token_reader.cut_len (l t : List UInt8) : (Lib.cut l t).1.length + (if (Lib.cut l t).2.2 = true then t.length else 0) ≤ l.length := by
  unfold Lib.cut
  split
  · rename_i h
    have := Lib.index_room l t h
    simp; omega
  · simp
theorem token_reader.cutAt_le (s : ByteArray) (i : Nat) (t : ByteArray) (h : i ≤ s.size) : i ≤ token_reader.cutAt s i t ∧ token_reader.cutAt s i t ≤ s.size := by
  have h1 := token_reader.cut_len (s.data.toList.drop i) t.data.toList
  have e1 : (s.data.toList.drop i).length = s.size - i := by simp
  have e2 : t.data.toList.length = t.size := by simp
  rw [e1, e2] at h1
  unfold token_reader.cutAt
  omega
set_option maxRecDepth 100000 in
theorem token_reader.upTo_any (g : Nat) (s : ByteArray) (i : Nat) (t : ByteArray) (w : World) (h : RD w g s i) (hi : i ≤ s.size) (hs : s.size ≤ 1000000000) (hm : HM w) :
    Calls Try.prog 40 #[.pointer (some ⟨g, 0, none⟩), .string t] w fun e w' => e = .returned (.string (token_reader.cutTxt s i t)) ∧ RD w' g s ((token_reader.cutAt s i t : Nat) : Int) ∧ Fr (· = g) w w' := by
  have HR := Aside0.mk h
  have HMM := Aside0.mk hm
  have hl := token_reader.cut_len (s.data.toList.drop i) t.data.toList
  have e1 : (s.data.toList.drop i).length = s.size - i := by simp
  have e2 : t.data.toList.length = t.size := by simp
  rw [e1, e2] at hl
  clear h hm e1 e2
  have HL := Aside0.mk hl
  clear hl
  go_enter Try.func40, Try.ntmps40
  go_wp2_with fail
  refine (token_reader.rest_any g s i w HR.out hi (by omega)).mono ?_
  rintro e w1 ⟨rfl, n, rfl⟩
  go_wp2_with fail
  obtain ⟨m, hm⟩ := HMM.out
  have hz : (s.extract i s.size).size < 4294967281 := by simp; omega
  have hm' : (w.drewN n).cell? ⟨0, 0, none⟩ = some (.int .i64 m) := hm
  refine (Try.strings_Cut (s.extract i s.size) t m _ hz hm').mono ?_
  rintro e w1 ⟨rfl, n1, rfl⟩
  have e1 : (s.extract i s.size).data.toList = s.data.toList.drop i := by simp [ByteArray.data_extract, List.take_of_length_le]
  rw [e1]
  obtain ⟨⟨b, a, f⟩, hc⟩ : ∃ p, Lib.cut (s.data.toList.drop i) t.data.toList = p := ⟨_, rfl⟩
  have hA : token_reader.cutAt s i t = i + b.length + if f = true then t.size else 0 := by unfold token_reader.cutAt; rw [hc]
  have hT : token_reader.cutTxt s i t = ⟨b.toArray⟩ := by unfold token_reader.cutTxt; rw [hc]
  have hl := HL.out
  rw [hc] at hl ⊢
  have c1 := HR.out.c1
  have f1 := HR.out.f 1
  have HT := Aside0.mk hT
  clear hm' hm hz e1 hc hT
  cases f with
  | true =>
    have hl2 : b.length + t.size ≤ s.size - i := hl
    have HA : Aside0 (token_reader.cutAt s i t = i + b.length + t.size) := ⟨hA⟩
    clear hl hA
    go_wp2
    go_ret
    rw [HA.out, HT.out]
    exact ⟨rfl, (HR.out.set _).set _, ((((Fr.refl _ _).drewN _).own 1 _).own 1 _)⟩
  | false =>
    have hl2 : b.length ≤ s.size - i := hl
    have HA : Aside0 (token_reader.cutAt s i t = i + b.length) := ⟨hA⟩
    clear hl hA
    go_wp2
    go_ret
    rw [HA.out, HT.out]
    exact ⟨rfl, HR.out.set _, (((Fr.refl _ _).drewN _).own 1 _)⟩

end Go.Proofs.Ytpelfhldgnmhpaa.G
