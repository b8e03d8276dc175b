-- laid by a program of this session's (wip/tools/myprint.py) over the translation
import Derived.Test.YtpelfhldgnmhpaaG0
import Derived.Test.YtpelfhldgnmhpaaG7
import Derived.Test.YtpelfhldgnmhpaaG13
import Derived.Test.YtpelfhldgnmhpaaG21
namespace Go.Proofs.Ytpelfhldgnmhpaa.G
open Go.RowKit Go.Proofs.YtpelfhldgnmhpaaW.PrintWords Go.Proofs.YtpelfhldgnmhpaaW.PrintLast Go.Proofs.YtpelfhldgnmhpaaW.PrintMore
attribute [local go_sem] max2_int min2_int max_two min_two max_three min_three max_four min_four   -- for this text's walks alone
set_option linter.unusedVariables false
set_option linter.unusedSimpArgs false

/-! HAND token_reader_value: function 79 -/
/-- Whether a text stands at a place. -/
def token_reader.here (s : ByteArray) (i : Nat) (t : ByteArray) : Bool := Lib.hasPrefix (s.data.toList.drop i) t.data.toList
theorem token_reader.here_le {s : ByteArray} {i : Nat} {t : ByteArray} (hi : i ≤ s.size) (h : token_reader.here s i t = true) : i + t.size ≤ s.size := by
  unfold token_reader.here Lib.hasPrefix at h
  have := (List.isPrefixOf_iff_prefix.1 h).length_le
  have e1 : (s.data.toList.drop i).length = s.size - i := by simp
  have e2 : t.data.toList.length = t.size := by simp
  omega
theorem token_reader.past_yes (g : Nat) (s : ByteArray) (i : Nat) (t : ByteArray) (w : World) (h : RD w g s i) (hi : i ≤ s.size) (hs : s.size ≤ 1000000000) (ht : token_reader.here s i t = true) :
    Calls Try.prog 39 #[.pointer (some ⟨g, 0, none⟩), .string t] w fun e w' => e = .returned (.bool true) ∧ RD w' g s ((i + t.size : Nat) : Int) ∧ Fr (· = g) w w' := by
  have HR := Aside0.mk h
  have hl := token_reader.here_le hi ht
  have HT : Aside0 (Lib.hasPrefix (s.data.toList.drop i) t.data.toList = true) := ⟨ht⟩
  clear h ht
  go_enter Try.func39, Try.ntmps39
  go_wp2_with fail
  refine (token_reader.rest_any g s i w HR.out hi (by omega)).mono ?_
  rintro e w1 ⟨rfl, n, rfl⟩
  go_wp2_with fail
  refine (Try.strings_HasPrefix (s.extract i s.size) t _).mono ?_
  rintro e w1 ⟨rfl, rfl⟩
  have e1 : (s.extract i s.size).data.toList = s.data.toList.drop i := by simp [ByteArray.data_extract, List.take_of_length_le]
  rw [e1, HT.out]
  have c1 := HR.out.c1
  have f1 := HR.out.f 1
  clear e1
  go_wp2
  go_ret
  exact ⟨rfl, HR.out.set _, ((Fr.refl _ _).drewN _).own 1 _⟩
theorem token_reader.past_no (g : Nat) (s : ByteArray) (i : Nat) (t : ByteArray) (w : World) (h : RD w g s i) (hi : i ≤ s.size) (hs : s.size ≤ 1000000000) (ht : token_reader.here s i t = false) :
    Calls Try.prog 39 #[.pointer (some ⟨g, 0, none⟩), .string t] w fun e w' => e = .returned (.bool false) ∧ RD w' g s i ∧ Fr (· = g) w w' := by
  have HR := Aside0.mk h
  have HT : Aside0 (Lib.hasPrefix (s.data.toList.drop i) t.data.toList = false) := ⟨ht⟩
  clear h ht
  go_enter Try.func39, Try.ntmps39
  go_wp2_with fail
  refine (token_reader.rest_any g s i w HR.out hi (by omega)).mono ?_
  rintro e w1 ⟨rfl, n, rfl⟩
  go_wp2_with fail
  refine (Try.strings_HasPrefix (s.extract i s.size) t _).mono ?_
  rintro e w1 ⟨rfl, rfl⟩
  have e1 : (s.extract i s.size).data.toList = s.data.toList.drop i := by simp [ByteArray.data_extract, List.take_of_length_le]
  rw [e1, HT.out]
  clear e1
  go_wp2
  go_ret
  exact ⟨rfl, HR.out, (Fr.refl _ _).drewN _⟩
/-- An attribute's value, behind the spaces: its text ahead of decoding; the place behind it. -/
def token_reader.val2 (s : ByteArray) (j : Nat) : ByteArray × Nat :=
  if token_reader.here s j ⟨#[34]⟩ = true then (token_reader.cutTxt s (j + 1) ⟨#[34]⟩, token_reader.cutAt s (j + 1) ⟨#[34]⟩)
  else if token_reader.here s j ⟨#[39]⟩ = true then (token_reader.cutTxt s (j + 1) ⟨#[39]⟩, token_reader.cutAt s (j + 1) ⟨#[39]⟩)
  else (s.extract j (token_until.to (token_until.pE ⟨#[62]⟩) s j), token_until.to (token_until.pE ⟨#[62]⟩) s j)
def token_reader.val (s : ByteArray) (i : Nat) : ByteArray × Nat := token_reader.val2 s (token_until.to token_until.pN s i)
theorem token_reader.val2_le (s : ByteArray) (j : Nat) (h : j ≤ s.size) : j ≤ (token_reader.val2 s j).2 ∧ (token_reader.val2 s j).2 ≤ s.size := by
  unfold token_reader.val2
  split
  · rename_i h2
    have := token_reader.here_le h h2
    have h3 := token_reader.cutAt_le s (j + 1) ⟨#[34]⟩ this
    exact ⟨by have := h3.1; show j ≤ token_reader.cutAt _ _ _; omega, h3.2⟩
  · split
    · rename_i h2
      have := token_reader.here_le h h2
      have h3 := token_reader.cutAt_le s (j + 1) ⟨#[39]⟩ this
      exact ⟨by have := h3.1; show j ≤ token_reader.cutAt _ _ _; omega, h3.2⟩
    · exact token_until.to_le (token_until.pE ⟨#[62]⟩) s _ h
theorem token_reader.val_le (s : ByteArray) (i : Nat) (h : i ≤ s.size) : i ≤ (token_reader.val s i).2 ∧ (token_reader.val s i).2 ≤ s.size := by
  have h1 := token_until.to_le token_until.pN s i h
  have h2 := token_reader.val2_le s _ h1.2
  unfold token_reader.val
  omega
set_option maxRecDepth 100000 in
theorem token_reader.value_any (k : Nat) (g : Nat) (s : ByteArray) (i : Nat) (r : ByteArray) (w : World) (h : RD w g s i) (hi : i ≤ s.size) (hs : s.size ≤ 1000000000) (hm : HM w) (hd : charref_Decode.f k (token_reader.val s i).1 true = some r) :
    Calls Try.prog 79 #[.pointer (some ⟨g, 0, none⟩)] w fun e w' => e = .returned (.string r) ∧ RD w' g s (((token_reader.val s i).2 : Nat) : Int) ∧ Fr (· = g) w w' := by
  have HR := Aside0.mk h
  have HMM := Aside0.mk hm
  have HP := Aside0.mk (h.pos hm)
  have h1 := token_until.to_le token_until.pN s i hi
  unfold token_reader.val at hd ⊢
  obtain ⟨j, hj⟩ : ∃ j, token_until.to token_until.pN s i = j := ⟨_, rfl⟩
  have HJ := Aside0.mk hj
  rw [hj] at h1 hd ⊢
  have HD := Aside0.mk hd
  obtain ⟨v, hv⟩ : ∃ v, token_reader.val2 s j = v := ⟨_, rfl⟩
  rw [hv] at HD ⊢
  have HV := Aside0.mk hv
  have hjs := h1.2
  clear h hm hd hj h1 hv
  go_enter Try.func79, Try.ntmps79
  go_wp2_with fail
  refine (token_reader.untilN g s i w HR.out hi (by omega)).mono ?_
  rintro e w1 ⟨rfl, hr, hf⟩
  rw [HJ.out] at hr ⊢
  have HR1 := Aside0.mk hr
  have HF1 := Aside0.mk hf
  have HM1 := Aside0.mk (HMM.out.fr hf HP.out)
  clear hr hf
  go_wp2_with fail
  cases h34 : token_reader.here s j ⟨#[34]⟩ with
  | true =>
    obtain rfl : (token_reader.cutTxt s (j + 1) ⟨#[34]⟩, token_reader.cutAt s (j + 1) ⟨#[34]⟩) = v := by rw [← HV.out]; unfold token_reader.val2; rw [if_pos h34]
    refine (token_reader.past_yes g s j ⟨#[34]⟩ _ HR1.out hjs hs h34).mono ?_
    have hl : j + 1 ≤ s.size := token_reader.here_le hjs h34
    clear h34
    rintro e w2 ⟨rfl, hr, hf⟩
    have HR2 : Aside0 (RD w2 g s ((j + 1 : Nat) : Int)) := ⟨hr⟩
    have HF2 := Aside0.mk hf
    have HM2 := Aside0.mk (HM1.out.fr hf HP.out)
    clear hr hf
    go_wp2_with fail
    refine (token_reader.upTo_any g s (j + 1) ⟨#[34]⟩ _ HR2.out hl hs HM2.out).mono ?_
    rintro e w3 ⟨rfl, hr, hf⟩
    have HR3 := Aside0.mk hr
    have HF3 := Aside0.mk hf
    clear hr hf
    go_wp2_with fail
    refine (charref_Decode.calls k _ true r _ HD.out).mono ?_
    rintro e w4 ⟨rfl, hb⟩
    have HB := Aside0.mk hb
    clear hb
    go_wp2
    go_ret
    exact ⟨rfl, HR3.out.keep HB.out, (((HF1.out.trans HF2.out).trans HF3.out).below HB.out)⟩
  | false =>
    refine (token_reader.past_no g s j ⟨#[34]⟩ _ HR1.out hjs hs h34).mono ?_
    have H34 := Aside0.mk h34
    clear h34
    rintro e w2 ⟨rfl, hr, hf⟩
    have HR2 := Aside0.mk hr
    have HF2 := Aside0.mk (HF1.out.trans hf)
    have HM2 := Aside0.mk (HM1.out.fr hf HP.out)
    clear hr hf HR1 HF1 HM1
    go_wp2_with fail
    cases h39 : token_reader.here s j ⟨#[39]⟩ with
    | true =>
      obtain rfl : (token_reader.cutTxt s (j + 1) ⟨#[39]⟩, token_reader.cutAt s (j + 1) ⟨#[39]⟩) = v := by rw [← HV.out]; unfold token_reader.val2; rw [if_neg (by rw [H34.out]; simp), if_pos h39]
      refine (token_reader.past_yes g s j ⟨#[39]⟩ _ HR2.out hjs hs h39).mono ?_
      have hl : j + 1 ≤ s.size := token_reader.here_le hjs h39
      clear h39
      rintro e w3 ⟨rfl, hr, hf⟩
      have HR3 : Aside0 (RD w3 g s ((j + 1 : Nat) : Int)) := ⟨hr⟩
      have HF3 := Aside0.mk (HF2.out.trans hf)
      have HM3 := Aside0.mk (HM2.out.fr hf HP.out)
      clear hr hf
      go_wp2_with fail
      refine (token_reader.upTo_any g s (j + 1) ⟨#[39]⟩ _ HR3.out hl hs HM3.out).mono ?_
      rintro e w4 ⟨rfl, hr, hf⟩
      have HR4 := Aside0.mk hr
      have HF4 := Aside0.mk (HF3.out.trans hf)
      clear hr hf
      go_wp2_with fail
      refine (charref_Decode.calls k _ true r _ HD.out).mono ?_
      rintro e w5 ⟨rfl, hb⟩
      have HB := Aside0.mk hb
      clear hb
      go_wp2
      go_ret
      exact ⟨rfl, HR4.out.keep HB.out, HF4.out.below HB.out⟩
    | false =>
      obtain rfl : (s.extract j (token_until.to (token_until.pE ⟨#[62]⟩) s j), token_until.to (token_until.pE ⟨#[62]⟩) s j) = v := by rw [← HV.out]; unfold token_reader.val2; rw [if_neg (by rw [H34.out]; simp), if_neg (by rw [h39]; simp)]
      refine (token_reader.past_no g s j ⟨#[39]⟩ _ HR2.out hjs hs h39).mono ?_
      clear h39
      rintro e w3 ⟨rfl, hr, hf⟩
      have HR3 := Aside0.mk hr
      have HF3 := Aside0.mk (HF2.out.trans hf)
      clear hr hf
      go_wp2_with fail
      refine (token_reader.untilE g s j ⟨#[62]⟩ _ HR3.out hjs (by omega)).mono ?_
      rintro e w4 ⟨rfl, hr, hf⟩
      have HR4 := Aside0.mk hr
      have HF4 := Aside0.mk (HF3.out.trans hf)
      clear hr hf
      go_wp2_with fail
      refine (charref_Decode.calls k _ true r _ HD.out).mono ?_
      rintro e w5 ⟨rfl, hb⟩
      have HB := Aside0.mk hb
      clear hb
      go_wp2
      go_ret
      exact ⟨rfl, HR4.out.keep HB.out, HF4.out.below HB.out⟩

end Go.Proofs.Ytpelfhldgnmhpaa.G
