-- laid by a program of this session's (wip/tools/myprint.py) over the translation
import Derived.Test.YtpelfhldgnmhpaaG0
import Derived.Test.YtpelfhldgnmhpaaG3
import Derived.Test.YtpelfhldgnmhpaaG7
import Derived.Test.YtpelfhldgnmhpaaG13
import Derived.Test.YtpelfhldgnmhpaaG21
import Derived.Test.YtpelfhldgnmhpaaG22
namespace Go.Proofs.Ytpelfhldgnmhpaa.G
open Go.RowKit Go.Proofs.YtpelfhldgnmhpaaW.PrintWords Go.Proofs.YtpelfhldgnmhpaaW.PrintLast Go.Proofs.YtpelfhldgnmhpaaW.PrintMore
attribute [local go_sem] max2_int min2_int max_two min_two max_three min_three max_four min_four   -- for this text's walks alone
set_option linter.unusedVariables false
set_option linter.unusedSimpArgs false

/-! HAND token_reader_attr: function 59 -/
/-- An attribute: where its name ends; its value's text ahead of decoding, where there is one; the place behind it. -/
def token_reader.attrEnd (s : ByteArray) (i : Nat) : Nat := token_until.to (token_until.pE ⟨#[47, 62, 61]⟩) s (i + 1)
def token_reader.low (s : ByteArray) (i j : Nat) : ByteArray := kind_Lower.low (s.extract i j)
/-- An attribute's own block. -/
def AB (w : World) (B : Nat) (a b : ByteArray) : Prop := w.heap[B]? = some (.cells #[.string a, .string b] 41 (0, 0))
theorem AB.new (w : World) (a b : ByteArray) : AB (w.alloc (.cells #[.string a, .string b] 41)) w.heap.size a b := by
  simpa [AB] using heap_alloc_last w (.cells #[.string a, .string b] 41)
theorem AB.set0 {w : World} {B : Nat} {a b : ByteArray} (h : AB w B a b) (c : ByteArray) : AB (w.setCell ⟨B, 0, none⟩ (.string c)) B c b := by
  unfold AB at *; simp [World.setCell, Array.getElem?_modify, h]
theorem AB.set1 {w : World} {B : Nat} {a b : ByteArray} (h : AB w B a b) (c : ByteArray) : AB (w.setCell ⟨B, 1, none⟩ (.string c)) B a c := by
  unfold AB at *; simp [World.setCell, Array.getElem?_modify, h]
theorem AB.lt {w : World} {B : Nat} {a b : ByteArray} (h : AB w B a b) : B < w.heap.size := (Array.getElem?_eq_some_iff.1 h).1
theorem AB.fr {w w' : World} {B : Nat} {a b : ByteArray} {G : Nat → Prop} (h : AB w B a b) (hb : Fr G w w') (hg : ¬ G B) : AB w' B a b := (hb.block B h.lt hg).trans h
theorem AB.c0 {w : World} {B : Nat} {a b : ByteArray} (h : AB w B a b) : w.cell? ⟨B, 0, none⟩ = some (.string a) := Lib.cell_of_heap h 0
theorem AB.c1 {w : World} {B : Nat} {a b : ByteArray} (h : AB w B a b) : w.cell? ⟨B, 1, none⟩ = some (.string b) := Lib.cell_of_heap h 1
theorem AB.f {w : World} {B : Nat} {a b : ByteArray} (h : AB w B a b) (j : Nat) : w.frozen? ⟨B, j, none⟩ = false := Lib.frozen_of_heap h j
theorem RD.far {w : World} {g : Nat} {s : ByteArray} {i : Int} (h : RD w g s i) (a : Addr) (v : Value) (hg : g ≠ a.block) : RD (w.setCell a v) g s i := (Below.heap_setCell _ _ _ _ hg).trans h
/-- An attribute's value and the place behind it. -/
def token_reader.attrV (k : Nat) (s : ByteArray) (m : Nat) : Option (ByteArray × Nat) :=
  if token_reader.here s m ⟨#[61]⟩ = true then (charref_Decode.f k (token_reader.val s (m + 1)).1 true).bind fun r => some (r, (token_reader.val s (m + 1)).2) else some (⟨#[]⟩, m)
set_option maxHeartbeats 1000000 in
set_option maxRecDepth 100000 in
theorem token_reader.attr_any (k : Nat) (g : Nat) (s : ByteArray) (i : Nat) (r : ByteArray) (e : Nat) (w : World) (h : RD w g s i) (hi : i < s.size) (hs : s.size ≤ 1000000000) (hm : HM w) (hd : token_reader.attrV k s (token_until.to token_until.pN s (token_reader.attrEnd s i)) = some (r, e)) :
    Calls Try.prog 59 #[.pointer (some ⟨g, 0, none⟩)] w fun e' w' => e' = .returned (.agg #[.string (token_reader.low s i (token_reader.attrEnd s i)), .string r]) ∧ RD w' g s (e : Int) ∧ Fr (· = g) w w' := by
  have HR := Aside0.mk h
  have HMM := Aside0.mk hm
  have HP := Aside0.mk (h.pos hm)
  have h1 := token_until.to_le (token_until.pE ⟨#[47, 62, 61]⟩) s (i + 1) hi
  unfold token_reader.attrEnd at hd ⊢
  obtain ⟨j, hj⟩ : ∃ j, token_until.to (token_until.pE ⟨#[47, 62, 61]⟩) s (i + 1) = j := ⟨_, rfl⟩
  have HJ := Aside0.mk hj
  rw [hj] at h1 hd ⊢
  have h2 := token_until.to_le token_until.pN s j h1.2
  obtain ⟨m, hmm⟩ : ∃ m, token_until.to token_until.pN s j = m := ⟨_, rfl⟩
  rw [hmm] at hd h2
  have HMJ := Aside0.mk hmm
  have hms := h2.2
  have HD := Aside0.mk hd
  have c1 := h.c1
  have f1 := h.f 1
  have hglt := h.lt
  have hjs := h1.2
  have hij := h1.1
  clear h hm hj h1 hmm h2 hd
  go_enter Try.func59, Try.ntmps59
  go_wp2_with fail
  refine (token_reader.untilE g s (i + 1) ⟨#[47, 62, 61]⟩ _ ?_ hi (by omega)).mono ?_
  · exact (HR.out.set _).keep ((Below.refl _ _).alloc (Nat.le_refl _) _)
  rintro e w1 ⟨rfl, hr, hf⟩
  rw [HJ.out] at hr ⊢
  have HR1 := Aside0.mk hr
  have HF1 : Aside0 (Fr (· = g) w w1) := ⟨((((Fr.refl _ w).own 1 _).alloc _).trans hf)⟩
  have hw1 : w.heap.size < w1.heap.size := by have := hf.size; simp at this; omega
  have hwsz : (w.setCell ⟨g, 1, none⟩ (.int .i64 ((i : Int) + 1))).heap.size = w.heap.size := by simp [World.setCell]
  have HB0 : Aside0 (AB w1 w.heap.size ⟨#[]⟩ ⟨#[]⟩) := ⟨by
    have := AB.new (w.setCell ⟨g, 1, none⟩ (.int .i64 ((i : Int) + 1))) ⟨#[]⟩ ⟨#[]⟩
    rw [hwsz] at this
    exact this.fr hf (by omega)⟩
  clear hwsz
  have HM1 := Aside0.mk (HMM.out.fr HF1.out HP.out)
  have c0 := hr.c0
  have c1 := hr.c1
  have g0 : (0 : Int) ≤ (i : Int) := by omega
  have g1 : (i : Int) ≤ (j : Int) := by omega
  have g2 : (j : Int) ≤ (s.size : Int) := by omega
  have hn1 : ¬ w1.heap.size = g := by omega
  have hn2 : ¬ g = w1.heap.size := by omega
  obtain ⟨nm, hnm⟩ : ∃ r, kind_Lower.low (s.extract i j) = r := ⟨_, rfl⟩
  have HNM := Aside0.mk hnm
  have hlow : ∀ wx, Calls Try.prog 55 #[.string (s.extract i j)] wx fun e w' => e = .returned (.string nm) ∧ Below wx.heap.size wx w' := fun wx => by
    rw [← hnm]; exact kind_Lower.any _ _ (by simp; omega)
  clear hnm
  have hz : (s.extract i j).size ≤ 1000000000000 := by simp; omega
  clear hr hf
  go_upto_region 4 with fail
  go_cut [4] (fun v4 wr => ∃ B, v4 = .pointer (some ⟨B, 0, none⟩) ∧ Aside0 (AB wr B nm ⟨#[]⟩) ∧ Aside0 (w1.heap.size ≤ B) ∧ Aside0 (RD wr g s j) ∧ Aside0 (Fr (· = g) w1 wr))
  case first =>
    go_region_held3 (fun w' => w'.cell? ⟨g, 0, none⟩ = some (.string s) ∧ w'.cell? ⟨g, 1, none⟩ = some (.int .i64 j)) (first | exact ⟨c0, c1⟩ | exact ⟨k0, k1⟩ | go_keep)
      (first
        | (go_at_call 55; refine (hlow _).mono ?_; rintro e w2 ⟨rfl, hb⟩; have hq : RD w2 g s (j : Int) := HR1.out.dr.keep hb; have k0 := hq.c0; have k1 := hq.c1; clear hq)
        | (go_at_call 55; refine (hlow _).mono ?_; rintro e w2 ⟨rfl, hb⟩; have hq : RD w2 g s (j : Int) := (HR1.out.al _).dr.keep hb; have k0 := hq.c0; have k1 := hq.c1; clear hq; have kb : w2.heap[w1.heap.size]? = some (.cells #[.string ⟨#[]⟩, .string ⟨#[]⟩] 41 (0, 0)) := (hb.block _ (by simp)).trans (heap_alloc_last w1 _); have k2 := Lib.cell_of_heap kb 0; have k3 := Lib.cell_of_heap kb 1; have k4 := Lib.frozen_of_heap kb 0; have k5 := Lib.frozen_of_heap kb 1))
    · go_wp2_with fail
      go_meet
      have hq : RD w2 g s (j : Int) := HR1.out.dr.keep hb
      have hF : Fr (· = g) w1 w2 := (Fr.refl _ w1).drew.below hb
      exact ⟨w2.heap.size, rfl, ⟨AB.new _ _ _⟩, ⟨hF.size⟩, ⟨hq.al _⟩, ⟨hF.alloc _⟩⟩
    · go_wp2_with fail
      go_meet
      have hq : RD w2 g s (j : Int) := (HR1.out.al _).dr.keep hb
      have hF : Fr (· = g) w1 w2 := (((Fr.refl _ w1).alloc _).drew).below hb
      have hA : AB w2 w1.heap.size ⟨#[]⟩ ⟨#[]⟩ := kb
      exact ⟨w1.heap.size, rfl, ⟨(hA.set0 _).set1 _⟩, ⟨Nat.le_refl _⟩, ⟨(hq.far _ _ hn2).far _ _ hn2⟩, ⟨(hF.setCell (p := ⟨w1.heap.size, 0, none⟩) (Or.inr (Nat.le_refl _)) _).setCell (p := ⟨w1.heap.size, 1, none⟩) (Or.inr (Nat.le_refl _)) _⟩⟩
  case rest =>
    obtain ⟨B, rfl, HA, HBL, HR2, HF2⟩ := hcut
    have hBg : B ≠ g := by have := HBL.out; omega
    have HM2 := Aside0.mk (HM1.out.fr HF2.out HP.out)
    have HB2 := Aside0.mk (HB0.out.fr HF2.out (by omega))
    have HF := Aside0.mk (HF1.out.trans HF2.out)
    clear HB0 HF1 HF2 HR1 HM1 c0 hn1 hn2 hlow hz
    go_wp2_with fail
    refine (token_reader.untilN g s j _ HR2.out hjs (by omega)).mono ?_
    rintro e1 w3 ⟨rfl, hr, hf⟩
    rw [HMJ.out] at hr
    have HR3 := Aside0.mk hr
    have HM3 := Aside0.mk (HM2.out.fr hf HP.out)
    have HA3 := Aside0.mk (HA.out.fr hf hBg)
    have HB3 := Aside0.mk (HB2.out.fr hf (by omega))
    have HF3 := Aside0.mk (HF.out.trans hf)
    clear hr hf HA HB2 HF HR2 HM2
    go_wp2_with fail
    cases h61 : token_reader.here s m ⟨#[61]⟩ with
    | true =>
      have hd := HD.out
      unfold token_reader.attrV at hd
      rw [if_pos h61] at hd
      obtain ⟨r', hr', hd2⟩ := Option.bind_eq_some_iff.1 hd
      have hl : m + 1 ≤ s.size := token_reader.here_le hms h61
      simp only [Option.some.injEq, Prod.mk.injEq] at hd2
      obtain ⟨rfl, he⟩ := hd2
      have HV := Aside0.mk hr'
      have HE := Aside0.mk he
      clear hd HD hr' he
      refine (token_reader.past_yes g s m ⟨#[61]⟩ _ HR3.out hms hs h61).mono ?_
      clear h61
      rintro e1 w4 ⟨rfl, hr, hf⟩
      have HR4 : Aside0 (RD w4 g s ((m + 1 : Nat) : Int)) := ⟨hr⟩
      have HM4 := Aside0.mk (HM3.out.fr hf HP.out)
      have HA4 := Aside0.mk (HA3.out.fr hf hBg)
      have HB4 := Aside0.mk (HB3.out.fr hf (by omega))
      have HF4 := Aside0.mk (HF3.out.trans hf)
      clear hr hf HA3 HB3 HF3 HR3 HM3
      go_wp2_with fail
      refine (token_reader.value_any k g s (m + 1) r' _ HR4.out hl hs HM4.out HV.out).mono ?_
      rintro e1 w5 ⟨rfl, hr, hf⟩
      rw [HE.out] at hr
      have HR5 := Aside0.mk hr
      have HA5 := Aside0.mk (HA4.out.fr hf hBg)
      have HB5 := Aside0.mk (HB4.out.fr hf (by omega))
      have HF5 := Aside0.mk (HF4.out.trans hf)
      have a0 := HA5.out.c0
      have a1 := HA5.out.c1
      have a2 := HA5.out.f 1
      have b0 := HB5.out.c0
      have b1 := HB5.out.c1
      have b2 := HB5.out.f 0
      have b3 := HB5.out.f 1
      have hBw : ¬ B = w.heap.size := by have := HBL.out; omega
      have hwB : ¬ w.heap.size = B := by have := HBL.out; omega
      clear hr hf HA4 HB4 HF4 HR4 HM4
      go_wp2
      have hnmv : token_reader.low s i j = nm := HNM.out
      have hA6 : AB (((w5.setCell ⟨B, 1, none⟩ (.string r')).setCell ⟨w.heap.size, 0, none⟩ (.string nm)).setCell ⟨w.heap.size, 1, none⟩ (.string r')) w.heap.size nm r' := AB.set1 (AB.set0 ((Below.heap_setCell _ _ _ _ hwB).trans HB5.out) nm) r'
      have q0 := hA6.c0
      have q1 := hA6.c1
      rw [hnmv]
      exact bodyPost_ret (v := .agg #[.string nm, .string r']) (by simp [results, Try.results59, go_sem, q0, q1]) rfl ⟨rfl, (((HR5.out.far _ _ (by exact fun e => hBg e.symm)).far _ _ (by show g ≠ w.heap.size; omega)).far _ _ (by show g ≠ w.heap.size; omega)), (((HF5.out.setCell (p := ⟨B, 1, none⟩) (Or.inr (by show w.heap.size ≤ B; have := HBL.out; omega)) _).setCell (p := ⟨w.heap.size, 0, none⟩) (Or.inr (Nat.le_refl _)) _).setCell (p := ⟨w.heap.size, 1, none⟩) (Or.inr (Nat.le_refl _)) _)⟩
    | false =>
      have hd := HD.out
      unfold token_reader.attrV at hd
      rw [if_neg (by rw [h61]; simp)] at hd
      simp only [Option.some.injEq, Prod.mk.injEq] at hd
      obtain ⟨rfl, rfl⟩ := hd
      refine (token_reader.past_no g s m ⟨#[61]⟩ _ HR3.out hms hs h61).mono ?_
      clear h61 HD
      rintro e1 w4 ⟨rfl, hr, hf⟩
      have HR4 := Aside0.mk hr
      have HA4 := Aside0.mk (HA3.out.fr hf hBg)
      have HB4 := Aside0.mk (HB3.out.fr hf (by omega))
      have HF4 := Aside0.mk (HF3.out.trans hf)
      have a0 := HA4.out.c0
      have a1 := HA4.out.c1
      have b0 := HB4.out.c0
      have b1 := HB4.out.c1
      have b2 := HB4.out.f 0
      have b3 := HB4.out.f 1
      clear hr hf HA3 HB3 HF3 HR3 HM3
      go_wp2
      have hnmv : token_reader.low s i j = nm := HNM.out
      have hA6 : AB ((w4.setCell ⟨w.heap.size, 0, none⟩ (.string nm)).setCell ⟨w.heap.size, 1, none⟩ (.string ⟨#[]⟩)) w.heap.size nm ⟨#[]⟩ := AB.set1 (AB.set0 HB4.out nm) ⟨#[]⟩
      have q0 := hA6.c0
      have q1 := hA6.c1
      rw [hnmv]
      exact bodyPost_ret (v := .agg #[.string nm, .string ⟨#[]⟩]) (by simp [results, Try.results59, go_sem, q0, q1]) rfl ⟨rfl, ((HR4.out.far _ _ (by show g ≠ w.heap.size; omega)).far _ _ (by show g ≠ w.heap.size; omega)), ((HF4.out.setCell (p := ⟨w.heap.size, 0, none⟩) (Or.inr (Nat.le_refl _)) _).setCell (p := ⟨w.heap.size, 1, none⟩) (Or.inr (Nat.le_refl _)) _)⟩

end Go.Proofs.Ytpelfhldgnmhpaa.G
