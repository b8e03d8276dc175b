-- laid by a program of this session's (wip/tools/myprint.py) over the translation
import Derived.Test.YtpelfhldgnmhpaaG0
import Derived.Test.YtpelfhldgnmhpaaG7
import Derived.Test.YtpelfhldgnmhpaaG13
import Derived.Test.YtpelfhldgnmhpaaG21
import Derived.Test.YtpelfhldgnmhpaaG24
import Derived.Test.YtpelfhldgnmhpaaG25
namespace Go.Proofs.Ytpelfhldgnmhpaa.G
open Go.RowKit Go.Proofs.YtpelfhldgnmhpaaW.PrintWords Go.Proofs.YtpelfhldgnmhpaaW.PrintLast Go.Proofs.YtpelfhldgnmhpaaW.PrintMore
attribute [local go_sem] max2_int min2_int max_two min_two max_three min_three max_four min_four   -- for this text's walks alone
set_option linter.unusedVariables false
set_option linter.unusedSimpArgs false

/-! HAND token_reader_text: function 38 -/
/-- The first place from one on at which a thing holds, or the end. -/
def seekF (P : Nat → Bool) : Nat → Nat → Nat
  | 0, i => i
  | d + 1, i => if P i = true then i else seekF P d (i + 1)
def seek (P : Nat → Bool) (n i : Nat) : Nat := seekF P (n - i) i
theorem seek_end (P : Nat → Bool) (n i : Nat) (h : ¬ i < n) : seek P n i = i := by
  unfold seek; rw [show n - i = 0 by omega]; rfl
theorem seek_stop (P : Nat → Bool) (n i : Nat) (h : P i = true) : seek P n i = i := by
  unfold seek
  cases n - i with
  | zero => rfl
  | succ d => unfold seekF; rw [if_pos h]
theorem seek_go (P : Nat → Bool) (n i : Nat) (h : i < n) (hp : P i = false) : seek P n i = seek P n (i + 1) := by
  unfold seek
  rw [show n - i = (n - (i + 1)) + 1 by omega]
  rw [seekF, if_neg (by rw [hp]; simp)]
theorem seek_le (P : Nat → Bool) (n : Nat) : ∀ (d i : Nat), n - i = d → i ≤ n → i ≤ seek P n i ∧ seek P n i ≤ n
  | 0, i, hd, hi => by rw [seek_end P n i (by omega)]; omega
  | d + 1, i, hd, hi => by
    cases hp : P i with
    | true => rw [seek_stop P n i hp]; omega
    | false =>
      have := seek_le P n d (i + 1) (by omega) (by omega)
      rw [seek_go P n i (by omega) hp]; omega
/-- Where a text ends that begins at a place: at the next markup, or at the end. -/
def token_reader.textTo (s : ByteArray) (i : Nat) : Nat := seek (fun j => token_begins.b (s.data.toList.drop j)) s.size i
theorem token_reader.textTo_le (s : ByteArray) (i : Nat) (h : i ≤ s.size) : i ≤ token_reader.textTo s i ∧ token_reader.textTo s i ≤ s.size := seek_le _ _ _ i rfl h
set_option maxHeartbeats 1000000 in
set_option maxRecDepth 100000 in
theorem token_reader.text_any (k : Nat) (g : Nat) (s : ByteArray) (i : Nat) (r : ByteArray) (w : World) (h : RD w g s i) (hi : i ≤ s.size) (hs : s.size ≤ 1000000000)
    (hd : charref_Decode.f k (s.extract i (token_reader.textTo s i)) false = some r) :
    Calls Try.prog 38 #[.pointer (some ⟨g, 0, none⟩)] w (TokE w 1 ⟨#[]⟩ [] false r (fun w' => RD w' g s (token_reader.textTo s i : Nat) ∧ Fr (· = g) w w')) := by
  have HR := Aside0.mk (h.al (.cells #[.int .i64 0, .string ⟨#[]⟩, .slice none 0 0, .bool false, .string ⟨#[]⟩] 29))
  have HGL := Aside0.mk h.lt
  have q1 := h.c1
  have hglt := h.lt
  have HD := Aside0.mk hd
  have HF : Aside0 (Fr (· = g) w (w.alloc (.cells #[.int .i64 0, .string ⟨#[]⟩, .slice none 0 0, .bool false, .string ⟨#[]⟩] 29))) := ⟨(Fr.refl _ w).alloc _⟩
  have HT := Aside0.mk (TB.new w 0 ⟨#[]⟩ (.slice none 0 0) false ⟨#[]⟩)
  clear h hd
  go_enter Try.func38, Try.ntmps38
  go_wp2
  go_loopg [] (s.size - i) (fun kq wr => ∃ (j : Nat), Aside0 (i ≤ j ∧ j ≤ s.size ∧ kq + j = s.size ∧ token_reader.textTo s j = token_reader.textTo s i) ∧ Aside0 (RD wr g s j) ∧ Aside0 (Fr (· = g) w wr) ∧ Aside0 (TB wr w.heap.size 0 ⟨#[]⟩ (.slice none 0 0) false ⟨#[]⟩))
  case atStart => exact ⟨i, ⟨Nat.le_refl _, hi, by omega, rfl⟩, HR, HF, HT⟩
  case round =>
    clear HR HF HT q1 hglt
    obtain ⟨j, HJ, HR, HF, HT⟩ := hrel
    have hjs : j ≤ s.size := HJ.out.2.1
    have hij : i ≤ j := HJ.out.1
    go_wp2_with fail
    cases hgo : (decide (j < s.size) && !(token_begins.b (s.data.toList.drop j))) with
    | true =>
      simp only [Bool.and_eq_true, decide_eq_true_eq, Bool.not_eq_true'] at hgo
      obtain ⟨hlt, hbg⟩ := hgo
      have HBG := Aside0.mk hbg
      clear hbg
      refine (token_reader.done_any g s j false (by simp; omega) _ HR.out).mono ?_
      rintro e1 w1 ⟨rfl, n1, rfl⟩
      have hR1 : RD (wr.drewN n1) g s j := HR.out
      have HR1 := Aside0.mk hR1
      clear hR1
      go_wp2_with fail
      refine (token_reader.rest_any g s j _ HR1.out hjs (by omega)).mono ?_
      rintro e1 w2 ⟨rfl, n2, rfl⟩
      go_wp2_with fail
      refine (token_begins.any (s.extract j s.size) false _ (by simp; omega) (by rw [← HBG.out]; congr 1; simp [ByteArray.data_extract, List.take_of_length_le])).mono ?_
      rintro e1 w3 ⟨rfl, n3, rfl⟩
      have c1 := HR.out.c1
      have f1 := HR.out.f 1
      have hj9 : (j : Int) ≤ 1000000000 := by omega
      go_wp2
      go_roundg (s.size - (j + 1))
      case measure => have := HJ.out; omega
      case rel =>
        have hg : (w.heap.size ≠ g) := by have := HGL.out; omega
        refine ⟨j + 1, ⟨by omega, hlt, by omega, ?_⟩, ⟨HR.out.set _⟩, ⟨(HF.out.drewN _).own 1 _⟩, ⟨HT.out.far _ _ hg⟩⟩
        rw [← HJ.out.2.2.2]; unfold token_reader.textTo
        exact (seek_go _ _ j hlt HBG.out).symm
    | false =>
      have hend : token_reader.textTo s j = j := by
        unfold token_reader.textTo
        by_cases hlt : j < s.size
        · exact seek_stop _ _ j (by simpa [hlt] using hgo)
        · exact seek_end _ _ j hlt
      have hTi : token_reader.textTo s i = j := by rw [← HJ.out.2.2.2]; exact hend
      have HTI := Aside0.mk hTi
      have hd := HD.out
      rw [hTi] at hd
      have HD2 := Aside0.mk hd
      clear hend hTi hd HD
      rcases Nat.lt_or_ge j s.size with hlt | hlt
      · have hbg : token_begins.b (s.data.toList.drop j) = true := by simpa [hlt] using hgo
        have HBG := Aside0.mk hbg
        clear hbg hgo
        refine (token_reader.done_any g s j false (by simp; omega) _ HR.out).mono ?_
        rintro e1 w1 ⟨rfl, n1, rfl⟩
        have hR1 : RD (wr.drewN n1) g s j := HR.out
        have HR1 := Aside0.mk hR1
        clear hR1
        go_wp2_with fail
        refine (token_reader.rest_any g s j _ HR1.out hjs (by omega)).mono ?_
        rintro e1 w2 ⟨rfl, n2, rfl⟩
        go_wp2_with fail
        refine (token_begins.any (s.extract j s.size) true _ (by simp; omega) (by rw [← HBG.out]; congr 1; simp [ByteArray.data_extract, List.take_of_length_le])).mono ?_
        rintro e1 w3 ⟨rfl, n3, rfl⟩
        go_upto_region 4 with fail
        obtain ⟨w4, hw4⟩ : ∃ W, wr.drewN (n1 + n2 + n3) = W := ⟨_, rfl⟩
        have HR4 : Aside0 (RD w4 g s j) := ⟨by rw [← hw4]; exact HR.out⟩
        have HF4 : Aside0 (Fr (· = g) w w4) := ⟨by rw [← hw4]; exact HF.out.drewN _⟩
        have HT4 : Aside0 (TB w4 w.heap.size 0 ⟨#[]⟩ (.slice none 0 0) false ⟨#[]⟩) := ⟨by rw [← hw4]; exact HT.out⟩
        rw [hw4]
        clear hw4 HR HF HT
        have c0 := HR4.out.c0
        have c1 := HR4.out.c1
        have g0 : (0 : Int) ≤ (i : Int) := by omega
        have g1 : (i : Int) ≤ (j : Int) := by omega
        have g2 : (j : Int) ≤ (s.size : Int) := by omega
        have hdec : ∀ wx, Calls Try.prog 22 #[.string (s.extract i j), .bool false] wx fun e w' => e = .returned (.string r) ∧ Below wx.heap.size wx w' := fun wx => charref_Decode.calls k _ false r wx HD2.out
        go_cut [] (fun wz => Aside0 (TB wz w.heap.size 1 ⟨#[]⟩ (.slice none 0 0) false r) ∧ Aside0 (RD wz g s j) ∧ Aside0 (Fr (· = g) w wz))
        case first =>
          go_region_with
            (first
              | (go_at_call 22; refine (hdec _).mono ?_; rintro e w5 ⟨rfl, hb⟩; have hq : RD w5 g s (j : Int) := HR4.out.dr.keep hb; have k0 := hq.c0; have k1 := hq.c1; have hT5 : TB w5 w.heap.size 0 ⟨#[]⟩ (.slice none 0 0) false ⟨#[]⟩ := HT4.out.dr.keep hb; have t0 := hT5.cell 0; have t1 := hT5.cell 1; have t2 := hT5.cell 2; have t3 := hT5.cell 3; have t4 := hT5.cell 4; have u0 := hT5.free 0; have u1 := hT5.free 1; have u2 := hT5.free 2; have u3 := hT5.free 3; have u4 := hT5.free 4; have hgw : ¬ w.heap.size = g := (by have := HGL.out; omega); have hgw2 : ¬ g = w.heap.size := (by have := HGL.out; omega); simp only [List.getElem?_toArray, List.getElem?_cons_zero, List.getElem?_cons_succ] at t0 t1 t2 t3 t4; have HQ5 := Aside0.mk hq; clear hq hT5))
          all_goals
            go_wp2_with fail
            go_meet
            refine ⟨⟨put5_tb (show TB w5 w.heap.size 0 ⟨#[]⟩ (.slice none 0 0) false ⟨#[]⟩ from HT4.out.dr.keep hb) 1 ⟨#[]⟩ (.slice none 0 0) false r⟩, ⟨(put5_far w5 w.heap.size 1 ⟨#[]⟩ (.slice none 0 0) false r g hgw2).trans (HR4.out.dr.keep hb)⟩, ⟨put5_fr (HF4.out.drew.below hb) w.heap.size 1 ⟨#[]⟩ (.slice none 0 0) false r (Or.inr (Nat.le_refl _))⟩⟩
        case rest =>
          obtain ⟨HT6, HR6, HF6⟩ := hcut
          have z0 := HT6.out.cell 0
          have z1 := HT6.out.cell 1
          have z2 := HT6.out.cell 2
          have z3 := HT6.out.cell 3
          have z4 := HT6.out.cell 4
          simp only [List.getElem?_toArray, List.getElem?_cons_zero, List.getElem?_cons_succ] at z0 z1 z2 z3 z4
          go_wp2
          rw [HTI.out]
          exact bodyPost_ret (v := .agg #[.int .i64 1, .string ⟨#[]⟩, .slice none 0 0, .bool false, .string r]) (by simp [results, Try.results38, go_sem, z0, z1, z2, z3, z4]) rfl
            ⟨.slice none 0 0, rfl, Kd.R_nil _ _ _ _ _, HR6.out, HF6.out⟩
      · refine (token_reader.done_any g s j true (by simp; omega) _ HR.out).mono ?_
        rintro e1 w1 ⟨rfl, n1, rfl⟩
        go_upto_region 4 with fail
        obtain ⟨w4, hw4⟩ : ∃ W, wr.drewN n1 = W := ⟨_, rfl⟩
        have HR4 : Aside0 (RD w4 g s j) := ⟨by rw [← hw4]; exact HR.out⟩
        have HF4 : Aside0 (Fr (· = g) w w4) := ⟨by rw [← hw4]; exact HF.out.drewN _⟩
        have HT4 : Aside0 (TB w4 w.heap.size 0 ⟨#[]⟩ (.slice none 0 0) false ⟨#[]⟩) := ⟨by rw [← hw4]; exact HT.out⟩
        rw [hw4]
        clear hw4 HR HF HT
        have c0 := HR4.out.c0
        have c1 := HR4.out.c1
        have g0 : (0 : Int) ≤ (i : Int) := by omega
        have g1 : (i : Int) ≤ (j : Int) := by omega
        have g2 : (j : Int) ≤ (s.size : Int) := by omega
        have hdec : ∀ wx, Calls Try.prog 22 #[.string (s.extract i j), .bool false] wx fun e w' => e = .returned (.string r) ∧ Below wx.heap.size wx w' := fun wx => charref_Decode.calls k _ false r wx HD2.out
        go_cut [] (fun wz => Aside0 (TB wz w.heap.size 1 ⟨#[]⟩ (.slice none 0 0) false r) ∧ Aside0 (RD wz g s j) ∧ Aside0 (Fr (· = g) w wz))
        case first =>
          go_region_with
            (first
              | (go_at_call 22; refine (hdec _).mono ?_; rintro e w5 ⟨rfl, hb⟩; have hq : RD w5 g s (j : Int) := HR4.out.dr.keep hb; have k0 := hq.c0; have k1 := hq.c1; have hT5 : TB w5 w.heap.size 0 ⟨#[]⟩ (.slice none 0 0) false ⟨#[]⟩ := HT4.out.dr.keep hb; have t0 := hT5.cell 0; have t1 := hT5.cell 1; have t2 := hT5.cell 2; have t3 := hT5.cell 3; have t4 := hT5.cell 4; have u0 := hT5.free 0; have u1 := hT5.free 1; have u2 := hT5.free 2; have u3 := hT5.free 3; have u4 := hT5.free 4; have hgw : ¬ w.heap.size = g := (by have := HGL.out; omega); have hgw2 : ¬ g = w.heap.size := (by have := HGL.out; omega); simp only [List.getElem?_toArray, List.getElem?_cons_zero, List.getElem?_cons_succ] at t0 t1 t2 t3 t4; have HQ5 := Aside0.mk hq; clear hq hT5))
          all_goals
            go_wp2_with fail
            go_meet
            refine ⟨⟨put5_tb (show TB w5 w.heap.size 0 ⟨#[]⟩ (.slice none 0 0) false ⟨#[]⟩ from HT4.out.dr.keep hb) 1 ⟨#[]⟩ (.slice none 0 0) false r⟩, ⟨(put5_far w5 w.heap.size 1 ⟨#[]⟩ (.slice none 0 0) false r g hgw2).trans (HR4.out.dr.keep hb)⟩, ⟨put5_fr (HF4.out.drew.below hb) w.heap.size 1 ⟨#[]⟩ (.slice none 0 0) false r (Or.inr (Nat.le_refl _))⟩⟩
        case rest =>
          obtain ⟨HT6, HR6, HF6⟩ := hcut
          have z0 := HT6.out.cell 0
          have z1 := HT6.out.cell 1
          have z2 := HT6.out.cell 2
          have z3 := HT6.out.cell 3
          have z4 := HT6.out.cell 4
          simp only [List.getElem?_toArray, List.getElem?_cons_zero, List.getElem?_cons_succ] at z0 z1 z2 z3 z4
          go_wp2
          rw [HTI.out]
          exact bodyPost_ret (v := .agg #[.int .i64 1, .string ⟨#[]⟩, .slice none 0 0, .bool false, .string r]) (by simp [results, Try.results38, go_sem, z0, z1, z2, z3, z4]) rfl
            ⟨.slice none 0 0, rfl, Kd.R_nil _ _ _ _ _, HR6.out, HF6.out⟩

end Go.Proofs.Ytpelfhldgnmhpaa.G
