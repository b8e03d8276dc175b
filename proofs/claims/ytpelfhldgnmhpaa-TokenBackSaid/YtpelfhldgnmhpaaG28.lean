-- laid by a program of this session's (wip/tools/myprint.py) over the translation
import Derived.Test.YtpelfhldgnmhpaaG0
import Derived.Test.YtpelfhldgnmhpaaG3
import Derived.Test.YtpelfhldgnmhpaaG7
import Derived.Test.YtpelfhldgnmhpaaG21
import Derived.Test.YtpelfhldgnmhpaaG22
import Derived.Test.YtpelfhldgnmhpaaG24
import Derived.Test.YtpelfhldgnmhpaaG27
namespace Go.Proofs.Ytpelfhldgnmhpaa.G
open Go.RowKit Go.Proofs.YtpelfhldgnmhpaaW.PrintWords Go.Proofs.YtpelfhldgnmhpaaW.PrintLast Go.Proofs.YtpelfhldgnmhpaaW.PrintMore
attribute [local go_sem] max2_int min2_int max_two min_two max_three min_three max_four min_four   -- for this text's walks alone
set_option linter.unusedVariables false
set_option linter.unusedSimpArgs false

/-! HAND token_reader_declared: function 41 -/
theorem token_reader.comment_any (k : Nat) (g : Nat) (s : ByteArray) (i : Nat) (r : ByteArray) (e : Int) (w : World) (h : RD w g s i) (hd : token_reader_comment.f k s (i : Int) = some (r, s, e)) :
    Calls Try.prog 67 #[.pointer (some ⟨g, 0, none⟩)] w fun e' w' => e' = .returned (.string r) ∧ RD w' g s e ∧ Fr (· = g) w w' :=
  (token_reader_comment.calls k g s i r s e { w with heap := #[] } w ⟨h, Nat.zero_le _⟩ ⟨rfl, rfl, rfl, Nat.zero_le _, fun k hk => absurd hk (Nat.not_lt_zero _)⟩ hd).mono fun e' w' ⟨he, hI, hB, hK⟩ =>
    ⟨he, hI.1, hB.os, hB.tape, hB.output, hK.1, fun k hk hn => hK.2 k hk hn (by simp)⟩
def token_reader.doctype : ByteArray := ⟨#[100, 111, 99, 116, 121, 112, 101]⟩
theorem token_reader.doctype_list : token_reader.doctype.toList = [100, 111, 99, 116, 121, 112, 101] := by rw [ByteArray.toList_eq]; rfl
/-- Whether a doctype's word stands at a place. -/
def token_reader.isDoc (s : ByteArray) (i : Nat) : Bool := decide (i + 7 ≤ s.size) && (kind_Lower.low (s.extract i (i + 7))).toList == token_reader.doctype.toList
/-- What a declaration is: the token's kind and text, and the place behind. -/
def token_reader.decl (k : Nat) (s : ByteArray) (i : Nat) : Option (Int × ByteArray × Nat) :=
  if token_reader.here s i ⟨#[45, 45]⟩ = true then (token_reader_comment.f k s ((i + 2 : Nat) : Int)).bind fun p => if p.2.1 = s ∧ 0 ≤ p.2.2 then some (4, p.1, p.2.2.toNat) else none
  else if token_reader.isDoc s i = true then some (5, ⟨#[]⟩, token_reader.cutAt s i ⟨#[62]⟩)
  else some (4, token_reader.cutTxt s i ⟨#[62]⟩, token_reader.cutAt s i ⟨#[62]⟩)
set_option maxHeartbeats 1000000 in
set_option maxRecDepth 100000 in
theorem token_reader.declared_any (k : Nat) (g : Nat) (s : ByteArray) (i : Nat) (kd : Int) (r : ByteArray) (e : Nat) (w : World) (h : RD w g s i) (hi : i ≤ s.size) (hs : s.size ≤ 1000000000) (hm : HM w) (hd : token_reader.decl k s i = some (kd, r, e)) :
    Calls Try.prog 41 #[.pointer (some ⟨g, 0, none⟩)] w (TokE w kd ⟨#[]⟩ [] false r (fun w' => RD w' g s e ∧ Fr (· = g) w w')) := by
  have HR := Aside0.mk (h.al (.cells #[.int .i64 0, .string ⟨#[]⟩, .slice none 0 0, .bool false, .string ⟨#[]⟩] 29))
  have HGL := Aside0.mk h.lt
  have HP := Aside0.mk (h.pos hm)
  have HD := Aside0.mk hd
  have HF : Aside0 (Fr (· = g) w (w.alloc (.cells #[.int .i64 0, .string ⟨#[]⟩, .slice none 0 0, .bool false, .string ⟨#[]⟩] 29))) := ⟨(Fr.refl _ w).alloc _⟩
  have HMM := Aside0.mk (hm.at_ ((Below.refl _ _).alloc (Nat.le_refl _) (.cells #[.int .i64 0, .string ⟨#[]⟩, .slice none 0 0, .bool false, .string ⟨#[]⟩] 29)))
  have HT := Aside0.mk (TB.new w 0 ⟨#[]⟩ (.slice none 0 0) false ⟨#[]⟩)
  have hwg : ¬ w.heap.size = g := by have := h.lt; omega
  have hgw : ¬ g = w.heap.size := by have := h.lt; omega
  clear h hm hd
  go_enter Try.func41, Try.ntmps41
  go_wp2_with fail
  cases h45 : token_reader.here s i ⟨#[45, 45]⟩ with
  | true =>
    have hd := HD.out
    unfold token_reader.decl at hd
    rw [if_pos h45] at hd
    obtain ⟨⟨r', s', e'⟩, hc, hd⟩ := Option.bind_eq_some_iff.1 hd
    have hd : (if s' = s ∧ 0 ≤ e' then some ((4 : Int), r', e'.toNat) else none) = some (kd, r, e) := hd
    by_cases hse : s' = s ∧ 0 ≤ e'
    · rw [if_pos hse] at hd
      simp only [Option.some.injEq, Prod.mk.injEq] at hd
      obtain ⟨rfl, rfl, he⟩ := hd
      obtain ⟨rfl, he0⟩ := hse
      obtain rfl : e' = (e : Int) := by omega
      have HC := Aside0.mk hc
      clear hc he he0 HD
      refine (token_reader.past_yes g s' i ⟨#[45, 45]⟩ _ HR.out hi hs h45).mono ?_
      clear h45
      rintro e1 w2 ⟨rfl, hr, hf⟩
      have HR2 : Aside0 (RD w2 g s' ((i + 2 : Nat) : Int)) := ⟨hr⟩
      have HF2 := Aside0.mk (HF.out.trans hf)
      have HT2 := Aside0.mk (HT.out.fr hf hwg)
      clear hr hf HR HF HT
      go_wp2_with fail
      refine (token_reader.comment_any k g s' (i + 2) r' e _ HR2.out HC.out).mono ?_
      rintro e1 w3 ⟨rfl, hr, hf⟩
      have HR3 := Aside0.mk hr
      have HF3 := Aside0.mk (HF2.out.trans hf)
      have HT3 := Aside0.mk (HT2.out.fr hf hwg)
      clear hr hf HR2 HF2 HT2
      have t0 := HT3.out.cell 0
      have t1 := HT3.out.cell 1
      have t2 := HT3.out.cell 2
      have t3 := HT3.out.cell 3
      have t4 := HT3.out.cell 4
      have u0 := HT3.out.free 0
      have u1 := HT3.out.free 1
      have u2 := HT3.out.free 2
      have u3 := HT3.out.free 3
      have u4 := HT3.out.free 4
      simp only [List.getElem?_toArray, List.getElem?_cons_zero, List.getElem?_cons_succ] at t0 t1 t2 t3 t4
      go_wp2
      have hZ := put5_tb HT3.out 4 ⟨#[]⟩ (.slice none 0 0) false r'
      have z0 := hZ.cell 0
      have z1 := hZ.cell 1
      have z2 := hZ.cell 2
      have z3 := hZ.cell 3
      have z4 := hZ.cell 4
      unfold put5 at z0 z1 z2 z3 z4
      exact bodyPost_ret (v := .agg #[.int .i64 4, .string ⟨#[]⟩, .slice none 0 0, .bool false, .string r']) (by simp [results, Try.results41, go_sem, z0, z1, z2, z3, z4]) rfl
        ⟨.slice none 0 0, rfl, Kd.R_nil _ _ _ _ _, (put5_far _ _ _ _ _ _ _ g hgw).trans HR3.out, put5_fr HF3.out _ _ _ _ _ _ (Or.inr (Nat.le_refl _))⟩
    · rw [if_neg hse] at hd; cases hd
  | false =>
    refine (token_reader.past_no g s i ⟨#[45, 45]⟩ _ HR.out hi hs h45).mono ?_
    have H45 := Aside0.mk h45
    clear h45
    rintro e1 w2 ⟨rfl, hr, hf⟩
    have HR2 := Aside0.mk hr
    have HF2 := Aside0.mk (HF.out.trans hf)
    have HT2 := Aside0.mk (HT.out.fr hf hwg)
    have HM2 := Aside0.mk (HMM.out.fr hf HP.out)
    clear hr hf HR HF HT HMM
    go_wp2_with fail
    refine (token_reader.rest_any g s i _ HR2.out hi (by omega)).mono ?_
    rintro e1 w3 ⟨rfl, n3, rfl⟩
    have HR3 : Aside0 (RD (w2.drewN n3) g s i) := ⟨HR2.out⟩
    have HF3 := Aside0.mk (HF2.out.drewN n3)
    have HT3 := Aside0.mk (HT2.out.drN n3)
    have HM3 : Aside0 (HM (w2.drewN n3)) := ⟨HM2.out⟩
    have hxs : (s.extract i s.size).size = s.size - i := by simp
    obtain ⟨nm, hnm⟩ : ∃ x, kind_Lower.low (s.extract i (i + 7)) = x := ⟨_, rfl⟩
    have hl7 : ∀ wx, Calls Try.prog 55 #[.string ((s.extract i s.size).extract 0 7)] wx fun e w' => e = .returned (.string nm) ∧ Below wx.heap.size wx w' := fun wx => by
      have hx : (s.extract i s.size).extract 0 7 = s.extract i (min (i + 7) s.size) := by
        rw [ByteArray.extract_extract]; simp
      rw [hx]
      by_cases h7 : i + 7 ≤ s.size
      · rw [Nat.min_eq_left h7, ← hnm]; exact kind_Lower.any _ _ (by simp; omega)
      · rw [Nat.min_eq_right (by omega), ← hnm]
        have : s.extract i (i + 7) = s.extract i s.size := by
          apply Go.WideShapes.bytes_inj; simp [List.take_of_length_le, show s.size - i ≤ 7 by omega]
        rw [this]; exact kind_Lower.any _ _ (by simp; omega)
    by_cases h7 : i + 7 ≤ s.size
    · have hge : decide (((s.extract i s.size).size : Int) ≥ 7) = true := by rw [hxs]; simp; omega
      have h7' : (7 : Int) ≤ ((s.extract i s.size).size : Int) := by rw [hxs]; omega
      have HNM := Aside0.mk hnm
      clear hnm
      go_wp2_with fail
      refine (hl7 _).mono ?_
      rintro e1 w4 ⟨rfl, hb⟩
      have HR4 := Aside0.mk (HR3.out.keep hb)
      have HF4 := Aside0.mk (HF3.out.below hb)
      have HT4 := Aside0.mk (HT3.out.keep hb)
      have HM4 := Aside0.mk (HM3.out.at_ hb)
      clear hb hl7 HR3 HF3 HT3 HM3 HR2 HF2 HT2 HM2
      by_cases hq : nm.toList = token_reader.doctype.toList
      · have hd := HD.out
        unfold token_reader.decl at hd
        have hiD : token_reader.isDoc s i = true := by
          unfold token_reader.isDoc; rw [HNM.out, hq]; simpa using h7
        rw [if_neg (by rw [H45.out]; simp), if_pos hiD] at hd
        simp only [Option.some.injEq, Prod.mk.injEq] at hd
        obtain ⟨rfl, rfl, rfl⟩ := hd
        rw [token_reader.doctype_list] at hq
        have hq1 : (nm.toList == [100, 111, 99, 116, 121, 112, 101]) = true := beq_iff_eq.mpr hq
        clear hq
        go_wp2_with fail
        refine (token_reader.upTo_any g s i ⟨#[62]⟩ _ HR4.out hi hs HM4.out).mono ?_
        rintro e1 w5 ⟨rfl, hr, hf⟩
        have HR5 := Aside0.mk hr
        have HF5 := Aside0.mk (HF4.out.trans hf)
        have HT5 := Aside0.mk (HT4.out.fr hf hwg)
        clear hr hf HR4 HF4 HT4 HM4
        have t0 := HT5.out.cell 0
        have t1 := HT5.out.cell 1
        have t2 := HT5.out.cell 2
        have t3 := HT5.out.cell 3
        have t4 := HT5.out.cell 4
        have u0 := HT5.out.free 0
        have u1 := HT5.out.free 1
        have u2 := HT5.out.free 2
        have u3 := HT5.out.free 3
        have u4 := HT5.out.free 4
        simp only [List.getElem?_toArray, List.getElem?_cons_zero, List.getElem?_cons_succ] at t0 t1 t2 t3 t4
        go_wp2
        have hZ := put5_tb HT5.out 5 ⟨#[]⟩ (.slice none 0 0) false ⟨#[]⟩
        have z0 := hZ.cell 0
        have z1 := hZ.cell 1
        have z2 := hZ.cell 2
        have z3 := hZ.cell 3
        have z4 := hZ.cell 4
        unfold put5 at z0 z1 z2 z3 z4
        exact bodyPost_ret (v := .agg #[.int .i64 5, .string ⟨#[]⟩, .slice none 0 0, .bool false, .string ⟨#[]⟩]) (by simp [results, Try.results41, go_sem, z0, z1, z2, z3, z4]) rfl
          ⟨.slice none 0 0, rfl, Kd.R_nil _ _ _ _ _, (put5_far _ _ _ _ _ _ _ g hgw).trans HR5.out, put5_fr HF5.out _ _ _ _ _ _ (Or.inr (Nat.le_refl _))⟩
      · have hd := HD.out
        unfold token_reader.decl at hd
        have hiD : token_reader.isDoc s i = false := by
          unfold token_reader.isDoc; rw [HNM.out]; simpa [h7] using hq
        rw [if_neg (by rw [H45.out]; simp), if_neg (by rw [hiD]; simp)] at hd
        simp only [Option.some.injEq, Prod.mk.injEq] at hd
        obtain ⟨rfl, rfl, rfl⟩ := hd
        rw [token_reader.doctype_list] at hq
        have hq1 : (nm.toList == [100, 111, 99, 116, 121, 112, 101]) = false := beq_eq_false_iff_ne.mpr hq
        clear hq
        go_wp2_with fail
        refine (token_reader.upTo_any g s i ⟨#[62]⟩ _ HR4.out hi hs HM4.out).mono ?_
        rintro e1 w5 ⟨rfl, hr, hf⟩
        have HR5 := Aside0.mk hr
        have HF5 := Aside0.mk (HF4.out.trans hf)
        have HT5 := Aside0.mk (HT4.out.fr hf hwg)
        clear hr hf HR4 HF4 HT4 HM4
        have t0 := HT5.out.cell 0
        have t1 := HT5.out.cell 1
        have t2 := HT5.out.cell 2
        have t3 := HT5.out.cell 3
        have t4 := HT5.out.cell 4
        have u0 := HT5.out.free 0
        have u1 := HT5.out.free 1
        have u2 := HT5.out.free 2
        have u3 := HT5.out.free 3
        have u4 := HT5.out.free 4
        simp only [List.getElem?_toArray, List.getElem?_cons_zero, List.getElem?_cons_succ] at t0 t1 t2 t3 t4
        go_wp2
        have hZ := put5_tb HT5.out 4 ⟨#[]⟩ (.slice none 0 0) false (token_reader.cutTxt s i ⟨#[62]⟩)
        have z0 := hZ.cell 0
        have z1 := hZ.cell 1
        have z2 := hZ.cell 2
        have z3 := hZ.cell 3
        have z4 := hZ.cell 4
        unfold put5 at z0 z1 z2 z3 z4
        exact bodyPost_ret (v := .agg #[.int .i64 4, .string ⟨#[]⟩, .slice none 0 0, .bool false, .string (token_reader.cutTxt s i ⟨#[62]⟩)]) (by simp [results, Try.results41, go_sem, z0, z1, z2, z3, z4]) rfl
          ⟨.slice none 0 0, rfl, Kd.R_nil _ _ _ _ _, (put5_far _ _ _ _ _ _ _ g hgw).trans HR5.out, put5_fr HF5.out _ _ _ _ _ _ (Or.inr (Nat.le_refl _))⟩
    · have hd := HD.out
      unfold token_reader.decl at hd
      have hiD : token_reader.isDoc s i = false := by
        unfold token_reader.isDoc; simp [h7]
      rw [if_neg (by rw [H45.out]; simp), if_neg (by rw [hiD]; simp)] at hd
      simp only [Option.some.injEq, Prod.mk.injEq] at hd
      obtain ⟨rfl, rfl, rfl⟩ := hd
      have hge : decide (((s.extract i s.size).size : Int) ≥ 7) = false := by rw [hxs]; simp; omega
      have h7' : ¬ (7 : Int) ≤ ((s.extract i s.size).size : Int) := by rw [hxs]; omega
      clear hl7
      go_wp2_with fail
      refine (token_reader.upTo_any g s i ⟨#[62]⟩ _ HR3.out hi hs HM3.out).mono ?_
      rintro e1 w5 ⟨rfl, hr, hf⟩
      have HR5 := Aside0.mk hr
      have HF5 := Aside0.mk (HF3.out.trans hf)
      have HT5 := Aside0.mk (HT3.out.fr hf hwg)
      clear hr hf HR3 HF3 HT3 HM3 HR2 HF2 HT2 HM2
      have t0 := HT5.out.cell 0
      have t1 := HT5.out.cell 1
      have t2 := HT5.out.cell 2
      have t3 := HT5.out.cell 3
      have t4 := HT5.out.cell 4
      have u0 := HT5.out.free 0
      have u1 := HT5.out.free 1
      have u2 := HT5.out.free 2
      have u3 := HT5.out.free 3
      have u4 := HT5.out.free 4
      simp only [List.getElem?_toArray, List.getElem?_cons_zero, List.getElem?_cons_succ] at t0 t1 t2 t3 t4
      go_wp2
      have hZ := put5_tb HT5.out 4 ⟨#[]⟩ (.slice none 0 0) false (token_reader.cutTxt s i ⟨#[62]⟩)
      have z0 := hZ.cell 0
      have z1 := hZ.cell 1
      have z2 := hZ.cell 2
      have z3 := hZ.cell 3
      have z4 := hZ.cell 4
      unfold put5 at z0 z1 z2 z3 z4
      exact bodyPost_ret (v := .agg #[.int .i64 4, .string ⟨#[]⟩, .slice none 0 0, .bool false, .string (token_reader.cutTxt s i ⟨#[62]⟩)]) (by simp [results, Try.results41, go_sem, z0, z1, z2, z3, z4]) rfl
        ⟨.slice none 0 0, rfl, Kd.R_nil _ _ _ _ _, (put5_far _ _ _ _ _ _ _ g hgw).trans HR5.out, put5_fr HF5.out _ _ _ _ _ _ (Or.inr (Nat.le_refl _))⟩

end Go.Proofs.Ytpelfhldgnmhpaa.G
