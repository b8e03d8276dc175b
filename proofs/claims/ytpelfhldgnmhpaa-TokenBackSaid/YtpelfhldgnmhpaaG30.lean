-- laid by a program of this session's (wip/tools/myprint.py) over the translation
import Derived.Test.YtpelfhldgnmhpaaG0
import Derived.Test.YtpelfhldgnmhpaaG7
import Derived.Test.YtpelfhldgnmhpaaG12
import Derived.Test.YtpelfhldgnmhpaaG13
import Derived.Test.YtpelfhldgnmhpaaG21
import Derived.Test.YtpelfhldgnmhpaaG22
import Derived.Test.YtpelfhldgnmhpaaG24
import Derived.Test.YtpelfhldgnmhpaaG25
import Derived.Test.YtpelfhldgnmhpaaG26
import Derived.Test.YtpelfhldgnmhpaaG28
import Derived.Test.YtpelfhldgnmhpaaG29
namespace Go.Proofs.Ytpelfhldgnmhpaa.G
open Go.RowKit Go.Proofs.YtpelfhldgnmhpaaW.PrintWords Go.Proofs.YtpelfhldgnmhpaaW.PrintLast Go.Proofs.YtpelfhldgnmhpaaW.PrintMore
attribute [local go_sem] max2_int min2_int max_two min_two max_three min_three max_four min_four   -- for this text's walks alone
set_option linter.unusedVariables false
set_option linter.unusedSimpArgs false

/-! HAND token_reader_data: function 23 -/
def token_reader.textV (k : Nat) (s : ByteArray) (i : Nat) : Option TokV := (charref_Decode.f k (s.extract i (token_reader.textTo s i)) false).bind fun r => some ⟨1, ⟨#[]⟩, [], false, r, token_reader.textTo s i⟩
theorem token_reader.textV_any (k : Nat) (g : Nat) (s : ByteArray) (i : Nat) (t : TokV) (w : World) (h : RD w g s i) (hi : i ≤ s.size) (hs : s.size ≤ 1000000000) (hd : token_reader.textV k s i = some t) :
    Calls Try.prog 38 #[.pointer (some ⟨g, 0, none⟩)] w (TokC w g s t) := by
  unfold token_reader.textV at hd
  obtain ⟨r, hr, hd⟩ := Option.bind_eq_some_iff.1 hd
  obtain rfl := Option.some.inj hd
  exact token_reader.text_any k g s i r w h hi hs hr
def token_reader.declV (k : Nat) (s : ByteArray) (i : Nat) : Option TokV := (token_reader.decl k s i).bind fun p => some ⟨p.1, ⟨#[]⟩, [], false, p.2.1, p.2.2⟩
theorem token_reader.declV_any (k : Nat) (g : Nat) (s : ByteArray) (i : Nat) (t : TokV) (w : World) (h : RD w g s i) (hi : i ≤ s.size) (hs : s.size ≤ 1000000000) (hm : HM w) (hd : token_reader.declV k s i = some t) :
    Calls Try.prog 41 #[.pointer (some ⟨g, 0, none⟩)] w (TokC w g s t) := by
  unfold token_reader.declV at hd
  obtain ⟨⟨kd, r, e⟩, hr, hd⟩ := Option.bind_eq_some_iff.1 hd
  obtain rfl := Option.some.inj hd
  exact token_reader.declared_any k g s i kd r e w h hi hs hm hr
def token_reader.cdataW : ByteArray := ⟨#[60, 33, 91, 67, 68, 65, 84, 65, 91]⟩
/-- A comment of what is no better markup. -/
def token_reader.otherV (s : ByteArray) (i : Nat) : TokV := ⟨4, ⟨#[]⟩, [], false, token_reader.cutTxt s i ⟨#[62]⟩, token_reader.cutAt s i ⟨#[62]⟩⟩
def token_reader.byte (s : ByteArray) (i : Nat) : UInt8 := s.data.toList.getD i 0
def token_reader.dataV : Nat → ByteArray → Nat → Bool → Option TokV
  | 0, _, _, _ => none
  | k + 1, s, i, fo =>
    if s.size ≤ i then some (TokV.end_ i)
    else if token_begins.b (s.data.toList.drop i) = false then token_reader.textV k s i
    else if token_reader.here s i ⟨#[60, 47, 62]⟩ = true then token_reader.dataV k s (i + 3) fo
    else if (fo && token_reader.here s i token_reader.cdataW) = true then
      if (token_reader.cutTxt s (i + 9) ⟨#[93, 93, 62]⟩).toList = [] then token_reader.dataV k s (token_reader.cutAt s (i + 9) ⟨#[93, 93, 62]⟩) fo
      else some ⟨1, ⟨#[]⟩, [], false, token_reader.cutTxt s (i + 9) ⟨#[93, 93, 62]⟩, token_reader.cutAt s (i + 9) ⟨#[93, 93, 62]⟩⟩
    else if token_reader.here s i ⟨#[60, 33]⟩ = true then token_reader.declV k s (i + 2)
    else if token_reader.here s i ⟨#[60, 47]⟩ = true then
      if token_begins.letter (token_reader.byte s (i + 2)) = true then token_reader.tagV k s (i + 2) 3 else some (token_reader.otherV s (i + 2))
    else if token_reader.byte s (i + 1) = 63 then some (token_reader.otherV s (i + 1)) else token_reader.tagV k s (i + 1) 2
theorem token_begins.two {s : ByteArray} {i : Nat} (h : token_begins.b (s.data.toList.drop i) = true) : i + 1 < s.size := by
  unfold token_begins.b at h
  split at h
  · rename_i c r he
    have := congrArg List.length he
    simp at this; omega
  · cases h
theorem token_begins.three {s : ByteArray} {i : Nat} (h : token_begins.b (s.data.toList.drop i) = true) (h2 : token_reader.here s i ⟨#[60, 47]⟩ = true) : i + 2 < s.size := by
  unfold token_reader.here Lib.hasPrefix at h2
  obtain ⟨r, hr⟩ := List.isPrefixOf_iff_prefix.1 h2
  have hr : (60 :: 47 :: r : List UInt8) = s.data.toList.drop i := hr
  rw [← hr, token_begins.b_cons] at h
  have hl := congrArg List.length hr
  cases r with
  | nil => simp at h
  | cons a r => simp at hl; omega
set_option maxHeartbeats 4000000 in
set_option maxRecDepth 100000 in
theorem token_reader.data_any (k : Nat) (g : Nat) (s : ByteArray) (i : Nat) (fo : Bool) (t : TokV) (w : World) (h : RD w g s i) (hi : i ≤ s.size) (hs : s.size ≤ 1000000000) (hm : HM w) (hd : token_reader.dataV k s i fo = some t) :
    Calls Try.prog 23 #[.pointer (some ⟨g, 0, none⟩), .bool fo] w (TokC w g s t) := by
  have HR := Aside0.mk (h.al (.cells #[.int .i64 0, .string ⟨#[]⟩, .slice none 0 0, .bool false, .string ⟨#[]⟩] 29))
  have HGL := Aside0.mk h.lt
  have HP := Aside0.mk (h.pos hm)
  have HD := Aside0.mk hd
  have HF : Aside0 (Fr (· = g) w (w.alloc (.cells #[.int .i64 0, .string ⟨#[]⟩, .slice none 0 0, .bool false, .string ⟨#[]⟩] 29))) := ⟨(Fr.refl _ w).alloc _⟩
  have HMM := Aside0.mk (hm.at_ ((Below.refl _ _).alloc (Nat.le_refl _) (.cells #[.int .i64 0, .string ⟨#[]⟩, .slice none 0 0, .bool false, .string ⟨#[]⟩] 29)))
  have HT := Aside0.mk (TB.new w 0 ⟨#[]⟩ (.slice none 0 0) false ⟨#[]⟩)
  have HWG : Aside0 (¬ w.heap.size = g) := ⟨by have := h.lt; omega⟩
  have HGW : Aside0 (¬ g = w.heap.size) := ⟨by have := h.lt; omega⟩
  clear h hm hd
  go_enter Try.func23, Try.ntmps23
  go_wp2
  go_loopg [] k (fun kq wr => ∃ (j : Nat), Aside0 (j ≤ s.size ∧ token_reader.dataV kq s j fo = some t) ∧ Aside0 (RD wr g s j) ∧ Aside0 (Fr (· = g) w wr) ∧ Aside0 (TB wr w.heap.size 0 ⟨#[]⟩ (.slice none 0 0) false ⟨#[]⟩) ∧ Aside0 (HM wr))
  case atStart => exact ⟨i, ⟨hi, HD.out⟩, HR, HF, HT, HMM⟩
  case round =>
    clear HR HF HT HMM HD
    obtain ⟨j, HJ, HR, HF, HT, HMR⟩ := hrel
    have hjs : j ≤ s.size := HJ.out.1
    obtain ⟨kk, rfl⟩ : ∃ m, gk = m + 1 := ⟨gk - 1, by
      rcases gk with _ | m
      · have := HJ.out.2; rw [token_reader.dataV] at this; cases this
      · rfl⟩
    have hd := HJ.out.2
    rw [token_reader.dataV] at hd
    have HD := Aside0.mk hd
    clear hd HJ
    go_wp2_with fail
    by_cases hge : s.size ≤ j
    · refine (token_reader.done_any g s j true (by simp; omega) _ HR.out).mono ?_
      rintro e1 w1 ⟨rfl, n1, rfl⟩
      have hd := HD.out
      rw [if_pos hge] at hd
      obtain rfl := Option.some.inj hd
      have HR5 : Aside0 (RD (wr.drewN n1) g s j) := ⟨HR.out⟩
      have HF5 := Aside0.mk (HF.out.drewN n1)
      have HT5 := Aside0.mk (HT.out.drN n1)
      have hgw := HGW.out
      clear HR HF HT HMR HD hd
      have t0 := HT5.out.cell 0
      have t1 := HT5.out.cell 1
      have t2 := HT5.out.cell 2
      have t3 := HT5.out.cell 3
      have t4 := HT5.out.cell 4
      have u0 := HT5.out.free 0
      have u1 := HT5.out.free 1
      have u2 := HT5.out.free 2
      have u3 := HT5.out.free 3
      have u4 := HT5.out.free 4
      simp only [List.getElem?_toArray, List.getElem?_cons_zero, List.getElem?_cons_succ] at t0 t1 t2 t3 t4
      go_wp2
      have hZ := put5_tb HT5.out 0 ⟨#[]⟩ (.slice none 0 0) false ⟨#[]⟩
      have z0 := hZ.cell 0
      have z1 := hZ.cell 1
      have z2 := hZ.cell 2
      have z3 := hZ.cell 3
      have z4 := hZ.cell 4
      unfold put5 at z0 z1 z2 z3 z4
      exact bodyPost_ret (v := .agg #[.int .i64 0, .string ⟨#[]⟩, .slice none 0 0, .bool false, .string ⟨#[]⟩]) (by simp [results, Try.results23, go_sem, z0, z1, z2, z3, z4]) rfl
        ⟨.slice none 0 0, rfl, Kd.R_nil _ _ _ _ _, (put5_far _ _ _ _ _ _ _ g hgw).trans HR5.out, put5_fr HF5.out _ _ _ _ _ _ (Or.inr (Nat.le_refl _))⟩
    · have hlt : j < s.size := by omega
      refine (token_reader.done_any g s j false (by simp; omega) _ HR.out).mono ?_
      rintro e1 w1 ⟨rfl, n1, rfl⟩
      have hd := HD.out
      rw [if_neg hge] at hd
      have HD := Aside0.mk hd
      have HR1 : Aside0 (RD (wr.drewN n1) g s j) := ⟨HR.out⟩
      clear hd
      go_wp2_with fail
      refine (token_reader.rest_any g s j _ HR1.out hjs (by omega)).mono ?_
      rintro e1 w2 ⟨rfl, n2, rfl⟩
      go_wp2_with fail
      cases hbg : token_begins.b (s.data.toList.drop j) with
      | false =>
        refine (token_begins.any (s.extract j s.size) false _ (by simp; omega) (by rw [← hbg]; congr 1; simp [ByteArray.data_extract, List.take_of_length_le])).mono ?_
        rintro e1 w3 ⟨rfl, n3, rfl⟩
        have hd := HD.out
        rw [if_pos hbg] at hd
        have HD := Aside0.mk hd
        clear hd hbg
        go_wp2_with fail
        refine (token_reader.textV_any kk g s j t _ (HR.out.drN (n1 + n2 + n3)) hjs hs HD.out).mono ?_
        rintro e1 w5 ⟨v, rfl, hO, hR, hF⟩
        obtain ⟨A, cp, rfl, _⟩ := Kd.R_reads hO
        have HR5 := Aside0.mk hR
        have HF5 : Aside0 (Fr (· = g) w w5) := ⟨(HF.out.drewN _).trans hF⟩
        have HT5 : Aside0 (TB w5 w.heap.size 0 ⟨#[]⟩ (.slice none 0 0) false ⟨#[]⟩) := ⟨TB.fr (HT.out.drN _) hF HWG.out⟩
        have HO5 := Aside0.mk (Kd.R_lower hO (Fr.size (HF.out.drewN _)))
        clear hO hR hF HR HF HT HMR HR1
        have t0 := HT5.out.cell 0
        have t1 := HT5.out.cell 1
        have t2 := HT5.out.cell 2
        have t3 := HT5.out.cell 3
        have t4 := HT5.out.cell 4
        have u0 := HT5.out.free 0
        have u1 := HT5.out.free 1
        have u2 := HT5.out.free 2
        have u3 := HT5.out.free 3
        have u4 := HT5.out.free 4
        simp only [List.getElem?_toArray, List.getElem?_cons_zero, List.getElem?_cons_succ] at t0 t1 t2 t3 t4
        go_wp2
        have hZ := put5_tb HT5.out t.kd t.nm (.slice A t.l.length cp) t.c t.tx
        have z0 := hZ.cell 0
        have z1 := hZ.cell 1
        have z2 := hZ.cell 2
        have z3 := hZ.cell 3
        have z4 := hZ.cell 4
        unfold put5 at z0 z1 z2 z3 z4
        exact bodyPost_ret (v := .agg #[.int .i64 t.kd, .string t.nm, .slice A t.l.length cp, .bool t.c, .string t.tx]) (by simp [results, Try.results23, go_sem, z0, z1, z2, z3, z4]) rfl
          ⟨.slice A t.l.length cp, rfl, Kd.R_put5 HO5.out HT5.out _ _ _ _ _, (put5_far _ _ _ _ _ _ _ g HGW.out).trans HR5.out, put5_fr HF5.out _ _ _ _ _ _ (Or.inr (Nat.le_refl _))⟩
      | true =>
        refine (token_begins.any (s.extract j s.size) true _ (by simp; omega) (by rw [← hbg]; congr 1; simp [ByteArray.data_extract, List.take_of_length_le])).mono ?_
        rintro e1 w3 ⟨rfl, n3, rfl⟩
        have hd := HD.out
        rw [if_neg (by rw [hbg]; simp)] at hd
        have HD := Aside0.mk hd
        have HBG := Aside0.mk hbg
        obtain ⟨w4, hw4⟩ : ∃ W, (wr.drewN (n1 + n2)).drewN n3 = W := ⟨_, rfl⟩
        have HR4 : Aside0 (RD w4 g s j) := ⟨by rw [← hw4]; exact HR.out⟩
        have HF4 : Aside0 (Fr (· = g) w w4) := ⟨by rw [← hw4]; exact (HF.out.drewN _).drewN _⟩
        have HT4 : Aside0 (TB w4 w.heap.size 0 ⟨#[]⟩ (.slice none 0 0) false ⟨#[]⟩) := ⟨by rw [← hw4]; exact HT.out⟩
        have HM4 : Aside0 (HM w4) := ⟨by rw [← hw4]; exact HMR.out⟩
        rw [hw4]
        clear hw4 HR HF HT HMR HR1 hd hbg
        go_wp2_with fail
        cases h3 : token_reader.here s j ⟨#[60, 47, 62]⟩ with
        | true =>
          have hd := HD.out
          rw [if_pos h3] at hd
          have HD := Aside0.mk hd
          have hl : j + 3 ≤ s.size := token_reader.here_le hjs h3
          refine (token_reader.past_yes g s j ⟨#[60, 47, 62]⟩ _ HR4.out hjs hs h3).mono ?_
          clear h3 hd
          rintro e1 w5 ⟨rfl, hr, hf⟩
          have hr : RD w5 g s ((j + 3 : Nat) : Int) := hr
          have HR5 := Aside0.mk hr
          have HF5 := Aside0.mk (HF4.out.trans hf)
          have HT5 := Aside0.mk (HT4.out.fr hf HWG.out)
          have HM5 := Aside0.mk (HM4.out.fr hf HP.out)
          clear hr hf HR4 HF4 HT4 HM4
          go_wp2
          go_roundg kk
          case measure => exact Nat.lt_succ_self kk
          case rel => exact ⟨j + 3, ⟨hl, HD.out⟩, HR5, HF5, HT5, HM5⟩
        | false =>
          have hd := HD.out
          rw [if_neg (by rw [h3]; simp)] at hd
          have HD := Aside0.mk hd
          refine (token_reader.past_no g s j ⟨#[60, 47, 62]⟩ _ HR4.out hjs hs h3).mono ?_
          clear h3 hd
          rintro e1 w5 ⟨rfl, hr, hf⟩
          have HR5 := Aside0.mk hr
          have HF5 := Aside0.mk (HF4.out.trans hf)
          have HT5 := Aside0.mk (HT4.out.fr hf HWG.out)
          have HM5 := Aside0.mk (HM4.out.fr hf HP.out)
          clear hr hf HR4 HF4 HT4 HM4
          obtain ⟨b, hb⟩ : ∃ b, (fo && token_reader.here s j token_reader.cdataW) = b := ⟨_, rfl⟩
          obtain ⟨pos, hpos⟩ : ∃ p, (if b = true then j + 9 else j) = p := ⟨_, rfl⟩
          have HB := Aside0.mk hb
          have HPOS := Aside0.mk hpos
          clear hb hpos
          go_upto_region 9 with fail
          go_cut [41] (fun v41 wz => v41 = .bool b ∧ Aside0 (RD wz g s pos) ∧ Aside0 (Fr (· = g) w wz) ∧ Aside0 (TB wz w.heap.size 0 ⟨#[]⟩ (.slice none 0 0) false ⟨#[]⟩) ∧ Aside0 (HM wz))
          case first =>
            cases fo with
            | false =>
              obtain rfl : false = b := HB.out
              obtain rfl : j = pos := HPOS.out
              go_wp2_with fail
              go_meet
              exact ⟨rfl, HR5, HF5, HT5, HM5⟩
            | true =>
              go_wp2_with fail
              cases h9 : token_reader.here s j token_reader.cdataW with
              | true =>
                obtain rfl : true = b := by rw [← HB.out, h9]; rfl
                obtain rfl : j + 9 = pos := HPOS.out
                refine (token_reader.past_yes g s j token_reader.cdataW _ HR5.out hjs hs h9).mono ?_
                clear h9
                rintro e1 w6 ⟨rfl, hr, hf⟩
                have hr : RD w6 g s ((j + 9 : Nat) : Int) := hr
                have HR6 := Aside0.mk hr
                have HF6 := Aside0.mk (HF5.out.trans hf)
                have HT6 := Aside0.mk (HT5.out.fr hf HWG.out)
                have HM6 := Aside0.mk (HM5.out.fr hf HP.out)
                clear hr hf HR5 HF5 HT5 HM5
                go_wp2_with fail
                go_meet
                exact ⟨rfl, HR6, HF6, HT6, HM6⟩
              | false =>
                obtain rfl : false = b := by rw [← HB.out, h9]; rfl
                obtain rfl : j = pos := HPOS.out
                refine (token_reader.past_no g s j token_reader.cdataW _ HR5.out hjs hs h9).mono ?_
                clear h9
                rintro e1 w6 ⟨rfl, hr, hf⟩
                have HR6 := Aside0.mk hr
                have HF6 := Aside0.mk (HF5.out.trans hf)
                have HT6 := Aside0.mk (HT5.out.fr hf HWG.out)
                have HM6 := Aside0.mk (HM5.out.fr hf HP.out)
                clear hr hf HR5 HF5 HT5 HM5
                go_wp2_with fail
                go_meet
                exact ⟨rfl, HR6, HF6, HT6, HM6⟩
          case rest =>
            clear HR5 HF5 HT5 HM5
            obtain ⟨rfl, HR6, HF6, HT6, HM6⟩ := hcut
            cases b with
            | true =>
              obtain rfl : j + 9 = pos := HPOS.out
              have hd := HD.out
              rw [if_pos HB.out] at hd
              have HD := Aside0.mk hd
              have hfo : fo = true := by have := HB.out; simp only [Bool.and_eq_true] at this; exact this.1
              have hl : j + 9 ≤ s.size := by
                have := HB.out; simp only [Bool.and_eq_true] at this
                exact token_reader.here_le hjs this.2
              clear hd hfo
              go_wp2_with fail
              refine (token_reader.upTo_any g s (j + 9) ⟨#[93, 93, 62]⟩ _ HR6.out hl hs HM6.out).mono ?_
              rintro e1 w7 ⟨rfl, hr, hf⟩
              have HR7 := Aside0.mk hr
              have HF7 := Aside0.mk (HF6.out.trans hf)
              have HT7 := Aside0.mk (HT6.out.fr hf HWG.out)
              have HM7 := Aside0.mk (HM6.out.fr hf HP.out)
              clear hr hf HR6 HF6 HT6 HM6
              obtain ⟨tx, htx⟩ : ∃ x, token_reader.cutTxt s (j + 9) ⟨#[93, 93, 62]⟩ = x := ⟨_, rfl⟩
              obtain ⟨ee, hee⟩ : ∃ x, token_reader.cutAt s (j + 9) ⟨#[93, 93, 62]⟩ = x := ⟨_, rfl⟩
              have hel := token_reader.cutAt_le s (j + 9) ⟨#[93, 93, 62]⟩ hl
              have hd := HD.out
              rw [htx, hee] at hd
              rw [hee] at HR7 hel
              rw [htx]
              clear HD htx hee
              by_cases hem : tx.toList = []
              · rw [if_pos hem] at hd
                have HD := Aside0.mk hd
                have HEL := Aside0.mk hel
                have j1 : (tx.toList == []) = true := beq_iff_eq.mpr hem
                have j2 : (tx.toList != []) = false := bne_eq_false_iff_eq.mpr hem
                have j3 : tx.toList.isEmpty = true := by rw [hem]; rfl
                clear hd hem hel
                go_wp2
                go_roundg kk
                case measure => exact Nat.lt_succ_self kk
                case rel => exact ⟨ee, ⟨HEL.out.2, HD.out⟩, HR7, HF7, HT7, HM7⟩
              · rw [if_neg hem] at hd
                obtain rfl := Option.some.inj hd
                have hgw := HGW.out
                have j1 : (tx.toList == []) = false := beq_eq_false_iff_ne.mpr hem
                have j2 : (tx.toList != []) = true := bne_iff_ne.mpr hem
                have j3 : tx.toList.isEmpty = false := by cases hq : tx.toList with | nil => exact absurd hq hem | cons a b => rfl
                clear hd hem hel
                have t0 := HT7.out.cell 0
                have t1 := HT7.out.cell 1
                have t2 := HT7.out.cell 2
                have t3 := HT7.out.cell 3
                have t4 := HT7.out.cell 4
                have u0 := HT7.out.free 0
                have u1 := HT7.out.free 1
                have u2 := HT7.out.free 2
                have u3 := HT7.out.free 3
                have u4 := HT7.out.free 4
                simp only [List.getElem?_toArray, List.getElem?_cons_zero, List.getElem?_cons_succ] at t0 t1 t2 t3 t4
                go_wp2
                have hZ := put5_tb HT7.out 1 ⟨#[]⟩ (.slice none 0 0) false tx
                have z0 := hZ.cell 0
                have z1 := hZ.cell 1
                have z2 := hZ.cell 2
                have z3 := hZ.cell 3
                have z4 := hZ.cell 4
                unfold put5 at z0 z1 z2 z3 z4
                exact bodyPost_ret (v := .agg #[.int .i64 1, .string ⟨#[]⟩, .slice none 0 0, .bool false, .string tx]) (by simp [results, Try.results23, go_sem, z0, z1, z2, z3, z4]) rfl
                  ⟨.slice none 0 0, rfl, Kd.R_nil _ _ _ _ _, (put5_far _ _ _ _ _ _ _ g hgw).trans HR7.out, put5_fr HF7.out _ _ _ _ _ _ (Or.inr (Nat.le_refl _))⟩
            | false =>
              obtain rfl : j = pos := HPOS.out
              have hd := HD.out
              rw [if_neg (by rw [HB.out]; simp)] at hd
              have HD := Aside0.mk hd
              clear hd
              have h2 := token_begins.two HBG.out
              go_wp2_with fail
              cases h33 : token_reader.here s j ⟨#[60, 33]⟩ with
              | true =>
                have hd := HD.out
                rw [if_pos h33] at hd
                have HD := Aside0.mk hd
                have hl : j + 2 ≤ s.size := token_reader.here_le hjs h33
                clear hd
                refine (token_reader.past_yes g s j ⟨#[60, 33]⟩ _ HR6.out hjs hs h33).mono ?_
                clear h33
                rintro e1 w7 ⟨rfl, hr, hf⟩
                have hr : RD w7 g s ((j + 2 : Nat) : Int) := hr
                have HR7 := Aside0.mk hr
                have HF7 := Aside0.mk (HF6.out.trans hf)
                have HT7 := Aside0.mk (HT6.out.fr hf HWG.out)
                have HM7 := Aside0.mk (HM6.out.fr hf HP.out)
                clear hr hf HR6 HF6 HT6 HM6
                go_wp2_with fail
                refine (token_reader.declV_any kk g s (j + 2) t _ HR7.out hl hs HM7.out HD.out).mono ?_
                rintro e1 w8 ⟨v, rfl, hO, hR, hF⟩
                obtain ⟨A, cp, rfl, _⟩ := Kd.R_reads hO
                have HR8 := Aside0.mk hR
                have HF8 : Aside0 (Fr (· = g) w w8) := ⟨HF7.out.trans hF⟩
                have HT8 : Aside0 (TB w8 w.heap.size 0 ⟨#[]⟩ (.slice none 0 0) false ⟨#[]⟩) := ⟨TB.fr HT7.out hF HWG.out⟩
                have HO8 := Aside0.mk (Kd.R_lower hO (Fr.size HF7.out))
                clear hO hR hF HR7 HF7 HT7 HM7
                have t0 := HT8.out.cell 0
                have t1 := HT8.out.cell 1
                have t2 := HT8.out.cell 2
                have t3 := HT8.out.cell 3
                have t4 := HT8.out.cell 4
                have u0 := HT8.out.free 0
                have u1 := HT8.out.free 1
                have u2 := HT8.out.free 2
                have u3 := HT8.out.free 3
                have u4 := HT8.out.free 4
                simp only [List.getElem?_toArray, List.getElem?_cons_zero, List.getElem?_cons_succ] at t0 t1 t2 t3 t4
                go_wp2
                have hZ := put5_tb HT8.out t.kd t.nm (.slice A t.l.length cp) t.c t.tx
                have z0 := hZ.cell 0
                have z1 := hZ.cell 1
                have z2 := hZ.cell 2
                have z3 := hZ.cell 3
                have z4 := hZ.cell 4
                unfold put5 at z0 z1 z2 z3 z4
                exact bodyPost_ret (v := .agg #[.int .i64 t.kd, .string t.nm, .slice A t.l.length cp, .bool t.c, .string t.tx]) (by simp [results, Try.results23, go_sem, z0, z1, z2, z3, z4]) rfl
                  ⟨.slice A t.l.length cp, rfl, Kd.R_put5 HO8.out HT8.out _ _ _ _ _, (put5_far _ _ _ _ _ _ _ g HGW.out).trans HR8.out, put5_fr HF8.out _ _ _ _ _ _ (Or.inr (Nat.le_refl _))⟩
              | false =>
                have hd := HD.out
                rw [if_neg (by rw [h33]; simp)] at hd
                have HD := Aside0.mk hd
                clear hd
                refine (token_reader.past_no g s j ⟨#[60, 33]⟩ _ HR6.out hjs hs h33).mono ?_
                clear h33
                rintro e1 w7 ⟨rfl, hr, hf⟩
                have HR7 := Aside0.mk hr
                have HF7 := Aside0.mk (HF6.out.trans hf)
                have HT7 := Aside0.mk (HT6.out.fr hf HWG.out)
                have HM7 := Aside0.mk (HM6.out.fr hf HP.out)
                clear hr hf HR6 HF6 HT6 HM6
                go_wp2_with fail
                cases h47 : token_reader.here s j ⟨#[60, 47]⟩ with
                | true =>
                  have h3 := token_begins.three HBG.out h47
                  have hd := HD.out
                  rw [if_pos h47] at hd
                  have HD := Aside0.mk hd
                  clear hd
                  refine (token_reader.past_yes g s j ⟨#[60, 47]⟩ _ HR7.out hjs hs h47).mono ?_
                  clear h47
                  rintro e1 w8 ⟨rfl, hr, hf⟩
                  have hr : RD w8 g s ((j + 2 : Nat) : Int) := hr
                  have HR8 := Aside0.mk hr
                  have HF8 := Aside0.mk (HF7.out.trans hf)
                  have HT8 := Aside0.mk (HT7.out.fr hf HWG.out)
                  have HM8 := Aside0.mk (HM7.out.fr hf HP.out)
                  clear hr hf HR7 HF7 HT7 HM7
                  have hbyte : token_reader.byte s (j + 2) = s[j + 2]'h3 := by
                    have h' : j + 2 < s.data.toList.length := by simpa using h3
                    unfold token_reader.byte; rw [List.getD, List.getElem?_eq_getElem h']; rfl
                  obtain ⟨bb, hbb⟩ : ∃ b, token_begins.letter (s[j + 2]'h3) = b := ⟨_, rfl⟩
                  have hd := HD.out
                  rw [hbyte, hbb] at hd
                  have hlet := fun wx => kind_Letter.calls (((s[j + 2]'h3).toNat : Nat) : Int) bb wx (by rw [token_begins.letter_ok, hbb])
                  have HD := Aside0.mk hd
                  have c0 := HR8.out.c0
                  have c1 := HR8.out.c1
                  have g0 : (0 : Int) ≤ (j : Int) + 2 := by omega
                  have g1 : (j : Int) + 2 < (s.size : Int) := by omega
                  clear hd hbyte hbb
                  cases bb with
                  | true =>
                    have hd := HD.out
                    rw [if_pos rfl] at hd
                    have HD := Aside0.mk hd
                    clear hd
                    go_wp2_with fail
                    go_quiet (first | (go_at_call 42; exact Calls.quiet_of ((hlet _).mono (fun e w' h => ⟨h.1, h.2.out⟩))))
                    obtain ⟨w9, hw9⟩ : ∃ W, w8.drewN nq = W := ⟨_, rfl⟩
                    have HR9 : Aside0 (RD w9 g s ((j + 2 : Nat) : Int)) := ⟨by rw [← hw9]; exact HR8.out.drN _⟩
                    have HF9 : Aside0 (Fr (· = g) w w9) := ⟨by rw [← hw9]; exact HF8.out.drewN _⟩
                    have HT9 : Aside0 (TB w9 w.heap.size 0 ⟨#[]⟩ (.slice none 0 0) false ⟨#[]⟩) := ⟨by rw [← hw9]; exact HT8.out.drN _⟩
                    have HM9 : Aside0 (HM w9) := ⟨by rw [← hw9]; exact HM8.out⟩
                    rw [hw9]
                    clear hw9 HR8 HF8 HT8 HM8 c0 c1
                    go_wp2_with fail
                    refine (token_reader.tagV_any kk g s (j + 2) 3 t _ HR9.out (by omega) hs HM9.out HD.out).mono ?_
                    rintro e1 w10 ⟨v, rfl, hO, hR, hF⟩
                    obtain ⟨A, cp, rfl, _⟩ := Kd.R_reads hO
                    have HR10 := Aside0.mk hR
                    have HF10 : Aside0 (Fr (· = g) w w10) := ⟨HF9.out.trans hF⟩
                    have HT10 : Aside0 (TB w10 w.heap.size 0 ⟨#[]⟩ (.slice none 0 0) false ⟨#[]⟩) := ⟨TB.fr HT9.out hF HWG.out⟩
                    have HO10 := Aside0.mk (Kd.R_lower hO (Fr.size HF9.out))
                    clear hO hR hF HR9 HF9 HT9 HM9
                    have t0 := HT10.out.cell 0
                    have t1 := HT10.out.cell 1
                    have t2 := HT10.out.cell 2
                    have t3 := HT10.out.cell 3
                    have t4 := HT10.out.cell 4
                    have u0 := HT10.out.free 0
                    have u1 := HT10.out.free 1
                    have u2 := HT10.out.free 2
                    have u3 := HT10.out.free 3
                    have u4 := HT10.out.free 4
                    simp only [List.getElem?_toArray, List.getElem?_cons_zero, List.getElem?_cons_succ] at t0 t1 t2 t3 t4
                    go_wp2
                    have hZ := put5_tb HT10.out t.kd t.nm (.slice A t.l.length cp) t.c t.tx
                    have z0 := hZ.cell 0
                    have z1 := hZ.cell 1
                    have z2 := hZ.cell 2
                    have z3 := hZ.cell 3
                    have z4 := hZ.cell 4
                    unfold put5 at z0 z1 z2 z3 z4
                    exact bodyPost_ret (v := .agg #[.int .i64 t.kd, .string t.nm, .slice A t.l.length cp, .bool t.c, .string t.tx]) (by simp [results, Try.results23, go_sem, z0, z1, z2, z3, z4]) rfl
                      ⟨.slice A t.l.length cp, rfl, Kd.R_put5 HO10.out HT10.out _ _ _ _ _, (put5_far _ _ _ _ _ _ _ g HGW.out).trans HR10.out, put5_fr HF10.out _ _ _ _ _ _ (Or.inr (Nat.le_refl _))⟩
                  | false =>
                    have hd := HD.out
                    rw [if_neg (by simp)] at hd
                    have HD := Aside0.mk hd
                    clear hd
                    go_wp2_with fail
                    go_quiet (first | (go_at_call 42; exact Calls.quiet_of ((hlet _).mono (fun e w' h => ⟨h.1, h.2.out⟩))))
                    obtain ⟨w9, hw9⟩ : ∃ W, w8.drewN nq = W := ⟨_, rfl⟩
                    have HR9 : Aside0 (RD w9 g s ((j + 2 : Nat) : Int)) := ⟨by rw [← hw9]; exact HR8.out.drN _⟩
                    have HF9 : Aside0 (Fr (· = g) w w9) := ⟨by rw [← hw9]; exact HF8.out.drewN _⟩
                    have HT9 : Aside0 (TB w9 w.heap.size 0 ⟨#[]⟩ (.slice none 0 0) false ⟨#[]⟩) := ⟨by rw [← hw9]; exact HT8.out.drN _⟩
                    have HM9 : Aside0 (HM w9) := ⟨by rw [← hw9]; exact HM8.out⟩
                    rw [hw9]
                    clear hw9 HR8 HF8 HT8 HM8 c0 c1
                    go_wp2_with fail
                    have hd := HD.out
                    obtain rfl := Option.some.inj hd
                    clear hd HD
                    have hgw := HGW.out
                    refine (token_reader.upTo_any g s (j + 2) ⟨#[62]⟩ _ HR9.out (by omega) hs HM9.out).mono ?_
                    rintro e1 w10 ⟨rfl, hr, hf⟩
                    have HR10 := Aside0.mk hr
                    have HF10 := Aside0.mk (HF9.out.trans hf)
                    have HT10 := Aside0.mk (HT9.out.fr hf HWG.out)
                    have HM10 := Aside0.mk (HM9.out.fr hf HP.out)
                    clear hr hf HR9 HF9 HT9 HM9
                    have t0 := HT10.out.cell 0
                    have t1 := HT10.out.cell 1
                    have t2 := HT10.out.cell 2
                    have t3 := HT10.out.cell 3
                    have t4 := HT10.out.cell 4
                    have u0 := HT10.out.free 0
                    have u1 := HT10.out.free 1
                    have u2 := HT10.out.free 2
                    have u3 := HT10.out.free 3
                    have u4 := HT10.out.free 4
                    simp only [List.getElem?_toArray, List.getElem?_cons_zero, List.getElem?_cons_succ] at t0 t1 t2 t3 t4
                    go_wp2
                    have hZ := put5_tb HT10.out 4 ⟨#[]⟩ (.slice none 0 0) false (token_reader.cutTxt s (j + 2) ⟨#[62]⟩)
                    have z0 := hZ.cell 0
                    have z1 := hZ.cell 1
                    have z2 := hZ.cell 2
                    have z3 := hZ.cell 3
                    have z4 := hZ.cell 4
                    unfold put5 at z0 z1 z2 z3 z4
                    exact bodyPost_ret (v := .agg #[.int .i64 4, .string ⟨#[]⟩, .slice none 0 0, .bool false, .string (token_reader.cutTxt s (j + 2) ⟨#[62]⟩)]) (by simp [results, Try.results23, go_sem, z0, z1, z2, z3, z4]) rfl
                      ⟨.slice none 0 0, rfl, Kd.R_nil _ _ _ _ _, (put5_far _ _ _ _ _ _ _ g hgw).trans HR10.out, put5_fr HF10.out _ _ _ _ _ _ (Or.inr (Nat.le_refl _))⟩
                | false =>
                  have hd := HD.out
                  rw [if_neg (by rw [h47]; simp)] at hd
                  have HD := Aside0.mk hd
                  clear hd
                  refine (token_reader.past_no g s j ⟨#[60, 47]⟩ _ HR7.out hjs hs h47).mono ?_
                  clear h47
                  rintro e1 w8 ⟨rfl, hr, hf⟩
                  have HR8 := Aside0.mk hr
                  have HF8 := Aside0.mk (HF7.out.trans hf)
                  have HT8 := Aside0.mk (HT7.out.fr hf HWG.out)
                  have HM8 := Aside0.mk (HM7.out.fr hf HP.out)
                  clear hr hf HR7 HF7 HT7 HM7
                  have hbyte : token_reader.byte s (j + 1) = s[j + 1]'h2 := by
                    have h' : j + 1 < s.data.toList.length := by simpa using h2
                    unfold token_reader.byte; rw [List.getD, List.getElem?_eq_getElem h']; rfl
                  have hd := HD.out
                  rw [hbyte] at hd
                  have HD := Aside0.mk hd
                  have hint := token_begins.int_beq (s[j + 1]'h2) 63
                  have c1 := HR8.out.c1
                  have c0 := HR8.out.c0
                  have f1 := HR8.out.f 1
                  have g0 : (0 : Int) ≤ (j : Int) + 1 := by omega
                  have g1 : (j : Int) + 1 < (s.size : Int) := by omega
                  clear hd hbyte
                  by_cases h63 : s[j + 1]'h2 = 63
                  · have hd := HD.out
                    rw [if_pos h63] at hd
                    have HD := Aside0.mk hd
                    have hc : (((s[j + 1]'h2).toNat : Int) == 63) = true := hint.trans (by simpa using h63)
                    clear hd hint h63
                    go_wp2_with fail
                    go_quiet (fail)
                    obtain ⟨w9, hw9⟩ : ∃ W, (w8.setCell ⟨g, 1, none⟩ (.int .i64 ((j : Int) + 1))).drewN nq = W := ⟨_, rfl⟩
                    have HR9 : Aside0 (RD w9 g s ((j + 1 : Nat) : Int)) := ⟨by rw [← hw9]; exact (HR8.out.set _).drN _⟩
                    have HF9 : Aside0 (Fr (· = g) w w9) := ⟨by rw [← hw9]; exact (HF8.out.own 1 _).drewN _⟩
                    have HT9 : Aside0 (TB w9 w.heap.size 0 ⟨#[]⟩ (.slice none 0 0) false ⟨#[]⟩) := ⟨by rw [← hw9]; exact TB.drN (HT8.out.far _ _ HWG.out) _⟩
                    have HM9 : Aside0 (HM w9) := ⟨by rw [← hw9]; exact HM.far HM8.out HP.out⟩
                    rw [hw9]
                    clear hw9 HR8 HF8 HT8 HM8 c0 c1 f1
                    go_wp2_with fail
                    have hd := HD.out
                    obtain rfl := Option.some.inj hd
                    clear hd HD
                    have hgw := HGW.out
                    refine (token_reader.upTo_any g s (j + 1) ⟨#[62]⟩ _ HR9.out (by omega) hs HM9.out).mono ?_
                    rintro e1 w10 ⟨rfl, hr, hf⟩
                    have HR10 := Aside0.mk hr
                    have HF10 := Aside0.mk (HF9.out.trans hf)
                    have HT10 := Aside0.mk (HT9.out.fr hf HWG.out)
                    have HM10 := Aside0.mk (HM9.out.fr hf HP.out)
                    clear hr hf HR9 HF9 HT9 HM9
                    have t0 := HT10.out.cell 0
                    have t1 := HT10.out.cell 1
                    have t2 := HT10.out.cell 2
                    have t3 := HT10.out.cell 3
                    have t4 := HT10.out.cell 4
                    have u0 := HT10.out.free 0
                    have u1 := HT10.out.free 1
                    have u2 := HT10.out.free 2
                    have u3 := HT10.out.free 3
                    have u4 := HT10.out.free 4
                    simp only [List.getElem?_toArray, List.getElem?_cons_zero, List.getElem?_cons_succ] at t0 t1 t2 t3 t4
                    go_wp2
                    have hZ := put5_tb HT10.out 4 ⟨#[]⟩ (.slice none 0 0) false (token_reader.cutTxt s (j + 1) ⟨#[62]⟩)
                    have z0 := hZ.cell 0
                    have z1 := hZ.cell 1
                    have z2 := hZ.cell 2
                    have z3 := hZ.cell 3
                    have z4 := hZ.cell 4
                    unfold put5 at z0 z1 z2 z3 z4
                    exact bodyPost_ret (v := .agg #[.int .i64 4, .string ⟨#[]⟩, .slice none 0 0, .bool false, .string (token_reader.cutTxt s (j + 1) ⟨#[62]⟩)]) (by simp [results, Try.results23, go_sem, z0, z1, z2, z3, z4]) rfl
                      ⟨.slice none 0 0, rfl, Kd.R_nil _ _ _ _ _, (put5_far _ _ _ _ _ _ _ g hgw).trans HR10.out, put5_fr HF10.out _ _ _ _ _ _ (Or.inr (Nat.le_refl _))⟩
                  · have hd := HD.out
                    rw [if_neg h63] at hd
                    have HD := Aside0.mk hd
                    have hc : (((s[j + 1]'h2).toNat : Int) == 63) = false := hint.trans (by simpa using h63)
                    clear hd hint h63
                    go_wp2_with fail
                    go_quiet (fail)
                    obtain ⟨w9, hw9⟩ : ∃ W, (w8.setCell ⟨g, 1, none⟩ (.int .i64 ((j : Int) + 1))).drewN nq = W := ⟨_, rfl⟩
                    have HR9 : Aside0 (RD w9 g s ((j + 1 : Nat) : Int)) := ⟨by rw [← hw9]; exact (HR8.out.set _).drN _⟩
                    have HF9 : Aside0 (Fr (· = g) w w9) := ⟨by rw [← hw9]; exact (HF8.out.own 1 _).drewN _⟩
                    have HT9 : Aside0 (TB w9 w.heap.size 0 ⟨#[]⟩ (.slice none 0 0) false ⟨#[]⟩) := ⟨by rw [← hw9]; exact TB.drN (HT8.out.far _ _ HWG.out) _⟩
                    have HM9 : Aside0 (HM w9) := ⟨by rw [← hw9]; exact HM.far HM8.out HP.out⟩
                    rw [hw9]
                    clear hw9 HR8 HF8 HT8 HM8 c0 c1 f1
                    go_wp2_with fail
                    refine (token_reader.tagV_any kk g s (j + 1) 2 t _ HR9.out (by omega) hs HM9.out HD.out).mono ?_
                    rintro e1 w10 ⟨v, rfl, hO, hR, hF⟩
                    obtain ⟨A, cp, rfl, _⟩ := Kd.R_reads hO
                    have HR10 := Aside0.mk hR
                    have HF10 : Aside0 (Fr (· = g) w w10) := ⟨HF9.out.trans hF⟩
                    have HT10 : Aside0 (TB w10 w.heap.size 0 ⟨#[]⟩ (.slice none 0 0) false ⟨#[]⟩) := ⟨TB.fr HT9.out hF HWG.out⟩
                    have HO10 := Aside0.mk (Kd.R_lower hO (Fr.size HF9.out))
                    clear hO hR hF HR9 HF9 HT9 HM9
                    have t0 := HT10.out.cell 0
                    have t1 := HT10.out.cell 1
                    have t2 := HT10.out.cell 2
                    have t3 := HT10.out.cell 3
                    have t4 := HT10.out.cell 4
                    have u0 := HT10.out.free 0
                    have u1 := HT10.out.free 1
                    have u2 := HT10.out.free 2
                    have u3 := HT10.out.free 3
                    have u4 := HT10.out.free 4
                    simp only [List.getElem?_toArray, List.getElem?_cons_zero, List.getElem?_cons_succ] at t0 t1 t2 t3 t4
                    go_wp2
                    have hZ := put5_tb HT10.out t.kd t.nm (.slice A t.l.length cp) t.c t.tx
                    have z0 := hZ.cell 0
                    have z1 := hZ.cell 1
                    have z2 := hZ.cell 2
                    have z3 := hZ.cell 3
                    have z4 := hZ.cell 4
                    unfold put5 at z0 z1 z2 z3 z4
                    exact bodyPost_ret (v := .agg #[.int .i64 t.kd, .string t.nm, .slice A t.l.length cp, .bool t.c, .string t.tx]) (by simp [results, Try.results23, go_sem, z0, z1, z2, z3, z4]) rfl
                      ⟨.slice A t.l.length cp, rfl, Kd.R_put5 HO10.out HT10.out _ _ _ _ _, (put5_far _ _ _ _ _ _ _ g HGW.out).trans HR10.out, put5_fr HF10.out _ _ _ _ _ _ (Or.inr (Nat.le_refl _))⟩

end Go.Proofs.Ytpelfhldgnmhpaa.G
