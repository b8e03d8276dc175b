-- laid by programs of this session's (wip/tools/myprint.py, linear.py, merge.py) over the translation, and by hand
import Derived.Test.YtpelfhldgnmhpaaGA
namespace Go.Proofs.Ytpelfhldgnmhpaa.G
section
open Go.RowKit Go.Proofs.YtpelfhldgnmhpaaW.PrintWords Go.Proofs.YtpelfhldgnmhpaaW.PrintLast Go.Proofs.YtpelfhldgnmhpaaW.PrintMore
attribute [local go_sem] max2_int min2_int max_two min_two max_three min_three max_four min_four
set_option linter.unusedVariables false
set_option linter.unusedSimpArgs false
-- NOT PRINTED: function 99 (bytealg_IndexString)
/-! HAND bytealg_Cutover: function 100 -/
/-! HAND bytealg_hashStr_string: function 103 -/
/-! HAND bytealg_IndexRabinKarp_string: function 101 -/
/-! HAND stringslite_Index: function 96 -/
/-! HAND stringslite_Cut: function 87 -/
/-! HAND strings_Cut: function 66 -/
/-! HAND token_reader_upTo: function 40 -/
/-- A world in which the library's own number (internal/bytealg.MaxLen) reads. -/
def HM (w : World) : Prop := ∃ m : Int, w.cell? ⟨0, 0, none⟩ = some (.int .i64 m)
theorem HM.lt {w : World} (h : HM w) : 0 < w.heap.size := by
 obtain ⟨m, h⟩ := h
 unfold World.cell? at h
 rcases Nat.eq_zero_or_pos w.heap.size with e | e
 ·
  rw [Array.getElem?_eq_none (by omega)] at h; simp at h
 ·
  exact e
theorem HM.at_ {w w' : World} (h : HM w) (hb : Below w.heap.size w w') : HM w' := by
 obtain ⟨m, hm⟩ := h
 exact ⟨m, (hb.cell (HM.lt ⟨m, hm⟩)).trans hm⟩
theorem HM.fr {w w' : World} {G : Nat → Prop} (h : HM w) (hb : Fr G w w') (hg : ¬ G 0) : HM w' := by
 obtain ⟨m, hm⟩ := h
 exact ⟨m, (World.cell?_of_block (hb.block 0 (HM.lt ⟨m, hm⟩) hg)).trans hm⟩
theorem HM.far {w : World} {g : Nat} (h : HM w) (hg : 0 ≠ g) {j : Nat} {v : Value} {n : Nat} : HM ((w.setCell ⟨g, j, none⟩ v).drewN n) := by
 obtain ⟨m, hm⟩ := h
 exact ⟨m, (World.cell?_of_block (Below.heap_setCell _ _ _ 0 hg)).trans hm⟩
theorem RD.pos {w : World} {g : Nat} {s : ByteArray} {i : Int} (h : RD w g s i) (hm : HM w) : 0 ≠ g := by
 rintro rfl
 obtain ⟨m, hm⟩ := hm
 rw [h.c0] at hm; cases hm
theorem token_reader.rest_any (g : Nat) (s : ByteArray) (i : Nat) (w : World) (h : RD w g s i) (hi : i ≤ s.size) (hs : s.size ≤ 1000000000000) :
    Calls Try.prog 31 #[.pointer (some ⟨g, 0, none⟩)] w fun e w' => e = .returned (.string (s.extract i s.size)) ∧ ∃ n, w' = w.drewN n := by
 have c0 := h.c0
 have c1 := h.c1
 have h0 : (0 : Int) ≤ i := by omega
 have h1 : (i : Int) ≤ (s.size : Int) := by omega
 have h2 : (s.size : Int) ≤ 1000000000000 := by omega
 clear h
 go_enter Try.func31, Try.ntmps31
 go_wp2
 go_quiet (fail)
 go_wp2
 go_ret
 exact ⟨rfl, _, rfl⟩
/-- Whether the last byte ahead of a place is a stroke, where it lies behind another place. -/
def token_reader.slash (s : ByteArray) (i j : Nat) : Bool := decide (i < j) && s.data.toList.getD (j - 1) 0 == 47
theorem token_reader.slash_eq (s : ByteArray) (i j : Nat) (h : i < j) (hj : j - 1 < s.size) : token_reader.slash s i j = (((s[j - 1]).toNat : Int) == 47) := by
 have h' : j - 1 < s.data.toList.length := by simpa using hj
 have e : s.data.toList.getD (j - 1) 0 = s[j - 1] := by rw [List.getD, List.getElem?_eq_getElem h']; rfl
 unfold token_reader.slash
 rw [e, decide_eq_true h, Bool.true_and, Bool.eq_iff_iff, beq_iff_eq, beq_iff_eq, ← UInt8.toNat_inj]
 have : (47 : UInt8).toNat = 47 := rfl
 omega
set_option maxRecDepth 100000 in
theorem token_reader.gap_any (g : Nat) (s : ByteArray) (i : Nat) (w : World) (h : RD w g s i) (hi : i ≤ s.size) (hs : s.size ≤ 1000000000000) :
    Calls Try.prog 58 #[.pointer (some ⟨g, 0, none⟩)] w fun e w' => e = .returned (.bool (token_reader.slash s i (token_until.to token_until.pG s i))) ∧ RD w' g s ((token_until.to token_until.pG s i : Nat) : Int) ∧ Fr (· = g) w w' := by
 have HR := Aside0.mk h
 have q1 := h.c1
 have hle := token_until.to_le token_until.pG s i hi
 have HLE := Aside0.mk hle
 clear h hle
 go_enter Try.func58, Try.ntmps58
 go_wp2_with fail
 refine (token_reader.untilG g s i w HR.out hi hs).mono ?_
 rintro e w1 ⟨rfl, hr, hf⟩
 obtain ⟨j, hj⟩ : ∃ j, token_until.to token_until.pG s i = j := ⟨_, rfl⟩
 rw [hj] at hr HLE
 have HJ := Aside0.mk hj
 have HR1 := Aside0.mk hr
 have HF := Aside0.mk hf
 have c0 := hr.c0
 have c1 := hr.c1
 have hij := HLE.out.1
 have hjs := HLE.out.2
 clear hr hf HR q1 hj HLE
 have hj9 : (j : Int) ≤ 1000000000000 := by omega
 by_cases hlt : i < j
 ·
  have g1 : decide ((j : Int) > (i : Int)) = true := by simp; omega
  have g4 : (i : Int) < (j : Int) := by omega
  have g5 : (1 : Int) ≤ (j : Int) := by omega
  have g2 : (0 : Int) ≤ (j : Int) - 1 := by omega
  have g3 : (j : Int) - 1 < (s.size : Int) := by omega
  go_wp2
  go_quiet (fail)
  go_wp2
  go_ret
  rw [HJ.out]
  refine ⟨congrArg (fun b => Ending.returned (Value.bool b)) (token_reader.slash_eq s i j hlt (by omega)).symm, HR1.out, HF.out.drewN _⟩
 ·
  have g1 : decide ((j : Int) > (i : Int)) = false := by simp; omega
  have g4 : ¬ (i : Int) < (j : Int) := by omega
  go_wp2
  go_quiet (fail)
  go_wp2
  go_ret
  rw [HJ.out]
  exact ⟨by simp [token_reader.slash, hlt], HR1.out, HF.out.drewN _⟩
/-- What stands ahead of a text, from a place on, or all that is left; whether the text is there; the place behind it. -/
def token_reader.cutTxt (s : ByteArray) (i : Nat) (t : ByteArray) : ByteArray := ⟨(Lib.cut (s.data.toList.drop i) t.data.toList).1.toArray⟩
def token_reader.cutAt (s : ByteArray) (i : Nat) (t : ByteArray) : Nat := i + (Lib.cut (s.data.toList.drop i) t.data.toList).1.length + (if (Lib.cut (s.data.toList.drop i) t.data.toList).2.2 = true then t.size else 0)
theorem token_reader.cut_len (l t : List UInt8) : (Lib.cut l t).1.length + (if (Lib.cut l t).2.2 = true then t.length else 0) ≤ l.length := by
 unfold Lib.cut
 split
 ·
  rename_i h
  have := Lib.index_room l t h
  simp; omega
 ·
  simp
theorem token_reader.cutAt_le (s : ByteArray) (i : Nat) (t : ByteArray) (h : i ≤ s.size) : i ≤ token_reader.cutAt s i t ∧ token_reader.cutAt s i t ≤ s.size := by
 have h1 := token_reader.cut_len (s.data.toList.drop i) t.data.toList
 have e1 : (s.data.toList.drop i).length = s.size - i := by simp
 have e2 : t.data.toList.length = t.size := by simp
 rw [e1, e2] at h1
 unfold token_reader.cutAt
 omega
set_option maxRecDepth 100000 in
theorem token_reader.upTo_any (g : Nat) (s : ByteArray) (i : Nat) (t : ByteArray) (w : World) (h : RD w g s i) (hi : i ≤ s.size) (hs : s.size ≤ 1000000000) (hm : HM w) :
    Calls Try.prog 40 #[.pointer (some ⟨g, 0, none⟩), .string t] w fun e w' => e = .returned (.string (token_reader.cutTxt s i t)) ∧ RD w' g s ((token_reader.cutAt s i t : Nat) : Int) ∧ Fr (· = g) w w' := by
 have HR := Aside0.mk h
 have HMM := Aside0.mk hm
 have hl := token_reader.cut_len (s.data.toList.drop i) t.data.toList
 have e1 : (s.data.toList.drop i).length = s.size - i := by simp
 have e2 : t.data.toList.length = t.size := by simp
 rw [e1, e2] at hl
 clear h hm e1 e2
 have HL := Aside0.mk hl
 clear hl
 go_enter Try.func40, Try.ntmps40
 go_wp2_with fail
 refine (token_reader.rest_any g s i w HR.out hi (by omega)).mono ?_
 rintro e w1 ⟨rfl, n, rfl⟩
 go_wp2_with fail
 obtain ⟨m, hm⟩ := HMM.out
 have hz : (s.extract i s.size).size < 4294967281 := by simp; omega
 have hm' : (w.drewN n).cell? ⟨0, 0, none⟩ = some (.int .i64 m) := hm
 refine (Try.strings_Cut (s.extract i s.size) t m _ hz hm').mono ?_
 rintro e w1 ⟨rfl, n1, rfl⟩
 have e1 : (s.extract i s.size).data.toList = s.data.toList.drop i := by simp [ByteArray.data_extract, List.take_of_length_le]
 rw [e1]
 obtain ⟨⟨b, a, f⟩, hc⟩ : ∃ p, Lib.cut (s.data.toList.drop i) t.data.toList = p := ⟨_, rfl⟩
 have hA : token_reader.cutAt s i t = i + b.length + if f = true then t.size else 0 := by unfold token_reader.cutAt; rw [hc]
 have hT : token_reader.cutTxt s i t = ⟨b.toArray⟩ := by unfold token_reader.cutTxt; rw [hc]
 have hl := HL.out
 rw [hc] at hl ⊢
 have c1 := HR.out.c1
 have f1 := HR.out.f 1
 have HT := Aside0.mk hT
 clear hm' hm hz e1 hc hT
 cases f with
 | true =>
  have hl2 : b.length + t.size ≤ s.size - i := hl
  have HA : Aside0 (token_reader.cutAt s i t = i + b.length + t.size) := ⟨hA⟩
  clear hl hA
  go_wp2
  go_ret
  rw [HA.out, HT.out]
  exact ⟨rfl, (HR.out.set _).set _, ((((Fr.refl _ _).drewN _).own 1 _).own 1 _)⟩
 | false =>
  have hl2 : b.length ≤ s.size - i := hl
  have HA : Aside0 (token_reader.cutAt s i t = i + b.length) := ⟨hA⟩
  clear hl hA
  go_wp2
  go_ret
  rw [HA.out, HT.out]
  exact ⟨rfl, HR.out.set _, (((Fr.refl _ _).drewN _).own 1 _)⟩
/-! HAND token_reader_value: function 79 -/
/-- Whether a text stands at a place. -/
def token_reader.here (s : ByteArray) (i : Nat) (t : ByteArray) : Bool := Lib.hasPrefix (s.data.toList.drop i) t.data.toList
theorem token_reader.here_le {s : ByteArray} {i : Nat} {t : ByteArray} (hi : i ≤ s.size) (h : token_reader.here s i t = true) : i + t.size ≤ s.size := by
 unfold token_reader.here Lib.hasPrefix at h
 have := (List.isPrefixOf_iff_prefix.1 h).length_le
 have e1 : (s.data.toList.drop i).length = s.size - i := by simp
 have e2 : t.data.toList.length = t.size := by simp
 omega
theorem token_reader.past_yes (g : Nat) (s : ByteArray) (i : Nat) (t : ByteArray) (w : World) (h : RD w g s i) (hi : i ≤ s.size) (hs : s.size ≤ 1000000000) (ht : token_reader.here s i t = true) :
    Calls Try.prog 39 #[.pointer (some ⟨g, 0, none⟩), .string t] w fun e w' => e = .returned (.bool true) ∧ RD w' g s ((i + t.size : Nat) : Int) ∧ Fr (· = g) w w' := by
 have HR := Aside0.mk h
 have hl := token_reader.here_le hi ht
 have HT : Aside0 (Lib.hasPrefix (s.data.toList.drop i) t.data.toList = true) := ⟨ht⟩
 clear h ht
 go_enter Try.func39, Try.ntmps39
 go_wp2_with fail
 refine (token_reader.rest_any g s i w HR.out hi (by omega)).mono ?_
 rintro e w1 ⟨rfl, n, rfl⟩
 go_wp2_with fail
 refine (Try.strings_HasPrefix (s.extract i s.size) t _).mono ?_
 rintro e w1 ⟨rfl, rfl⟩
 have e1 : (s.extract i s.size).data.toList = s.data.toList.drop i := by simp [ByteArray.data_extract, List.take_of_length_le]
 rw [e1, HT.out]
 have c1 := HR.out.c1
 have f1 := HR.out.f 1
 clear e1
 go_wp2
 go_ret
 exact ⟨rfl, HR.out.set _, ((Fr.refl _ _).drewN _).own 1 _⟩
theorem token_reader.past_no (g : Nat) (s : ByteArray) (i : Nat) (t : ByteArray) (w : World) (h : RD w g s i) (hi : i ≤ s.size) (hs : s.size ≤ 1000000000) (ht : token_reader.here s i t = false) :
    Calls Try.prog 39 #[.pointer (some ⟨g, 0, none⟩), .string t] w fun e w' => e = .returned (.bool false) ∧ RD w' g s i ∧ Fr (· = g) w w' := by
 have HR := Aside0.mk h
 have HT : Aside0 (Lib.hasPrefix (s.data.toList.drop i) t.data.toList = false) := ⟨ht⟩
 clear h ht
 go_enter Try.func39, Try.ntmps39
 go_wp2_with fail
 refine (token_reader.rest_any g s i w HR.out hi (by omega)).mono ?_
 rintro e w1 ⟨rfl, n, rfl⟩
 go_wp2_with fail
 refine (Try.strings_HasPrefix (s.extract i s.size) t _).mono ?_
 rintro e w1 ⟨rfl, rfl⟩
 have e1 : (s.extract i s.size).data.toList = s.data.toList.drop i := by simp [ByteArray.data_extract, List.take_of_length_le]
 rw [e1, HT.out]
 clear e1
 go_wp2
 go_ret
 exact ⟨rfl, HR.out, (Fr.refl _ _).drewN _⟩
/-- An attribute's value, behind the spaces: its text ahead of decoding; the place behind it. -/
def token_reader.val2 (s : ByteArray) (j : Nat) : ByteArray × Nat :=
  if token_reader.here s j ⟨#[34]⟩ = true then (token_reader.cutTxt s (j + 1) ⟨#[34]⟩, token_reader.cutAt s (j + 1) ⟨#[34]⟩)
  else if token_reader.here s j ⟨#[39]⟩ = true then (token_reader.cutTxt s (j + 1) ⟨#[39]⟩, token_reader.cutAt s (j + 1) ⟨#[39]⟩)
  else (s.extract j (token_until.to (token_until.pE ⟨#[62]⟩) s j), token_until.to (token_until.pE ⟨#[62]⟩) s j)
def token_reader.val (s : ByteArray) (i : Nat) : ByteArray × Nat := token_reader.val2 s (token_until.to token_until.pN s i)
theorem token_reader.val2_le (s : ByteArray) (j : Nat) (h : j ≤ s.size) : j ≤ (token_reader.val2 s j).2 ∧ (token_reader.val2 s j).2 ≤ s.size := by
 unfold token_reader.val2
 split
 ·
  rename_i h2
  have := token_reader.here_le h h2
  have h3 := token_reader.cutAt_le s (j + 1) ⟨#[34]⟩ this
  exact ⟨by have := h3.1; show j ≤ token_reader.cutAt _ _ _; omega, h3.2⟩
 ·
  split
  ·
   rename_i h2
   have := token_reader.here_le h h2
   have h3 := token_reader.cutAt_le s (j + 1) ⟨#[39]⟩ this
   exact ⟨by have := h3.1; show j ≤ token_reader.cutAt _ _ _; omega, h3.2⟩
  ·
   exact token_until.to_le (token_until.pE ⟨#[62]⟩) s _ h
theorem token_reader.val_le (s : ByteArray) (i : Nat) (h : i ≤ s.size) : i ≤ (token_reader.val s i).2 ∧ (token_reader.val s i).2 ≤ s.size := by
 have h1 := token_until.to_le token_until.pN s i h
 have h2 := token_reader.val2_le s _ h1.2
 unfold token_reader.val
 omega
set_option maxRecDepth 100000 in
theorem token_reader.value_any (k : Nat) (g : Nat) (s : ByteArray) (i : Nat) (r : ByteArray) (w : World) (h : RD w g s i) (hi : i ≤ s.size) (hs : s.size ≤ 1000000000) (hm : HM w) (hd : charref_Decode.f k (token_reader.val s i).1 true = some r) :
    Calls Try.prog 79 #[.pointer (some ⟨g, 0, none⟩)] w fun e w' => e = .returned (.string r) ∧ RD w' g s (((token_reader.val s i).2 : Nat) : Int) ∧ Fr (· = g) w w' := by
 have HR := Aside0.mk h
 have HMM := Aside0.mk hm
 have HP := Aside0.mk (h.pos hm)
 have h1 := token_until.to_le token_until.pN s i hi
 unfold token_reader.val at hd ⊢
 obtain ⟨j, hj⟩ : ∃ j, token_until.to token_until.pN s i = j := ⟨_, rfl⟩
 have HJ := Aside0.mk hj
 rw [hj] at h1 hd ⊢
 have HD := Aside0.mk hd
 obtain ⟨v, hv⟩ : ∃ v, token_reader.val2 s j = v := ⟨_, rfl⟩
 rw [hv] at HD ⊢
 have HV := Aside0.mk hv
 have hjs := h1.2
 clear h hm hd hj h1 hv
 go_enter Try.func79, Try.ntmps79
 go_wp2_with fail
 refine (token_reader.untilN g s i w HR.out hi (by omega)).mono ?_
 rintro e w1 ⟨rfl, hr, hf⟩
 rw [HJ.out] at hr ⊢
 have HR1 := Aside0.mk hr
 have HF1 := Aside0.mk hf
 have HM1 := Aside0.mk (HMM.out.fr hf HP.out)
 clear hr hf
 go_wp2_with fail
 cases h34 : token_reader.here s j ⟨#[34]⟩ with
 | true =>
  obtain rfl : (token_reader.cutTxt s (j + 1) ⟨#[34]⟩, token_reader.cutAt s (j + 1) ⟨#[34]⟩) = v := by rw [← HV.out]; unfold token_reader.val2; rw [if_pos h34]
  refine (token_reader.past_yes g s j ⟨#[34]⟩ _ HR1.out hjs hs h34).mono ?_
  have hl : j + 1 ≤ s.size := token_reader.here_le hjs h34
  clear h34
  rintro e w2 ⟨rfl, hr, hf⟩
  have HR2 : Aside0 (RD w2 g s ((j + 1 : Nat) : Int)) := ⟨hr⟩
  have HF2 := Aside0.mk hf
  have HM2 := Aside0.mk (HM1.out.fr hf HP.out)
  clear hr hf
  go_wp2_with fail
  refine (token_reader.upTo_any g s (j + 1) ⟨#[34]⟩ _ HR2.out hl hs HM2.out).mono ?_
  rintro e w3 ⟨rfl, hr, hf⟩
  have HR3 := Aside0.mk hr
  have HF3 := Aside0.mk hf
  clear hr hf
  go_wp2_with fail
  refine (charref_Decode.calls k _ true r _ HD.out).mono ?_
  rintro e w4 ⟨rfl, hb⟩
  have HB := Aside0.mk hb
  clear hb
  go_wp2
  go_ret
  exact ⟨rfl, HR3.out.keep HB.out, (((HF1.out.trans HF2.out).trans HF3.out).below HB.out)⟩
 | false =>
  refine (token_reader.past_no g s j ⟨#[34]⟩ _ HR1.out hjs hs h34).mono ?_
  have H34 := Aside0.mk h34
  clear h34
  rintro e w2 ⟨rfl, hr, hf⟩
  have HR2 := Aside0.mk hr
  have HF2 := Aside0.mk (HF1.out.trans hf)
  have HM2 := Aside0.mk (HM1.out.fr hf HP.out)
  clear hr hf HR1 HF1 HM1
  go_wp2_with fail
  cases h39 : token_reader.here s j ⟨#[39]⟩ with
  | true =>
   obtain rfl : (token_reader.cutTxt s (j + 1) ⟨#[39]⟩, token_reader.cutAt s (j + 1) ⟨#[39]⟩) = v := by rw [← HV.out]; unfold token_reader.val2; rw [if_neg (by rw [H34.out]; simp), if_pos h39]
   refine (token_reader.past_yes g s j ⟨#[39]⟩ _ HR2.out hjs hs h39).mono ?_
   have hl : j + 1 ≤ s.size := token_reader.here_le hjs h39
   clear h39
   rintro e w3 ⟨rfl, hr, hf⟩
   have HR3 : Aside0 (RD w3 g s ((j + 1 : Nat) : Int)) := ⟨hr⟩
   have HF3 := Aside0.mk (HF2.out.trans hf)
   have HM3 := Aside0.mk (HM2.out.fr hf HP.out)
   clear hr hf
   go_wp2_with fail
   refine (token_reader.upTo_any g s (j + 1) ⟨#[39]⟩ _ HR3.out hl hs HM3.out).mono ?_
   rintro e w4 ⟨rfl, hr, hf⟩
   have HR4 := Aside0.mk hr
   have HF4 := Aside0.mk (HF3.out.trans hf)
   clear hr hf
   go_wp2_with fail
   refine (charref_Decode.calls k _ true r _ HD.out).mono ?_
   rintro e w5 ⟨rfl, hb⟩
   have HB := Aside0.mk hb
   clear hb
   go_wp2
   go_ret
   exact ⟨rfl, HR4.out.keep HB.out, HF4.out.below HB.out⟩
  | false =>
   obtain rfl : (s.extract j (token_until.to (token_until.pE ⟨#[62]⟩) s j), token_until.to (token_until.pE ⟨#[62]⟩) s j) = v := by rw [← HV.out]; unfold token_reader.val2; rw [if_neg (by rw [H34.out]; simp), if_neg (by rw [h39]; simp)]
   refine (token_reader.past_no g s j ⟨#[39]⟩ _ HR2.out hjs hs h39).mono ?_
   clear h39
   rintro e w3 ⟨rfl, hr, hf⟩
   have HR3 := Aside0.mk hr
   have HF3 := Aside0.mk (HF2.out.trans hf)
   clear hr hf
   go_wp2_with fail
   refine (token_reader.untilE g s j ⟨#[62]⟩ _ HR3.out hjs (by omega)).mono ?_
   rintro e w4 ⟨rfl, hr, hf⟩
   have HR4 := Aside0.mk hr
   have HF4 := Aside0.mk (HF3.out.trans hf)
   clear hr hf
   go_wp2_with fail
   refine (charref_Decode.calls k _ true r _ HD.out).mono ?_
   rintro e w5 ⟨rfl, hb⟩
   have HB := Aside0.mk hb
   clear hb
   go_wp2
   go_ret
   exact ⟨rfl, HR4.out.keep HB.out, HF4.out.below HB.out⟩
/-! HAND token_reader_attr: function 59 -/
/-- An attribute: where its name ends; its value's text ahead of decoding, where there is one; the place behind it. -/
def token_reader.attrEnd (s : ByteArray) (i : Nat) : Nat := token_until.to (token_until.pE ⟨#[47, 62, 61]⟩) s (i + 1)
def token_reader.low (s : ByteArray) (i j : Nat) : ByteArray := kind_Lower.low (s.extract i j)
/-- An attribute's own block. -/
def AB (w : World) (B : Nat) (a b : ByteArray) : Prop := w.heap[B]? = some (.cells #[.string a, .string b] 41 (0, 0))
theorem AB.new (w : World) (a b : ByteArray) : AB (w.alloc (.cells #[.string a, .string b] 41)) w.heap.size a b := by
 simpa [AB] using heap_alloc_last w (.cells #[.string a, .string b] 41)
theorem AB.set0 {w : World} {B : Nat} {a b : ByteArray} (h : AB w B a b) (c : ByteArray) : AB (w.setCell ⟨B, 0, none⟩ (.string c)) B c b := by
 unfold AB at *; simp [World.setCell, Array.getElem?_modify, h]
theorem AB.set1 {w : World} {B : Nat} {a b : ByteArray} (h : AB w B a b) (c : ByteArray) : AB (w.setCell ⟨B, 1, none⟩ (.string c)) B a c := by
 unfold AB at *; simp [World.setCell, Array.getElem?_modify, h]
theorem AB.lt {w : World} {B : Nat} {a b : ByteArray} (h : AB w B a b) : B < w.heap.size := (Array.getElem?_eq_some_iff.1 h).1
theorem AB.fr {w w' : World} {B : Nat} {a b : ByteArray} {G : Nat → Prop} (h : AB w B a b) (hb : Fr G w w') (hg : ¬ G B) : AB w' B a b := (hb.block B h.lt hg).trans h
theorem AB.c0 {w : World} {B : Nat} {a b : ByteArray} (h : AB w B a b) : w.cell? ⟨B, 0, none⟩ = some (.string a) := Lib.cell_of_heap h 0
theorem AB.c1 {w : World} {B : Nat} {a b : ByteArray} (h : AB w B a b) : w.cell? ⟨B, 1, none⟩ = some (.string b) := Lib.cell_of_heap h 1
theorem AB.f {w : World} {B : Nat} {a b : ByteArray} (h : AB w B a b) (j : Nat) : w.frozen? ⟨B, j, none⟩ = false := Lib.frozen_of_heap h j
theorem RD.far {w : World} {g : Nat} {s : ByteArray} {i : Int} (h : RD w g s i) (a : Addr) (v : Value) (hg : g ≠ a.block) : RD (w.setCell a v) g s i := (Below.heap_setCell _ _ _ _ hg).trans h
/-- An attribute's value and the place behind it. -/
def token_reader.attrV (k : Nat) (s : ByteArray) (m : Nat) : Option (ByteArray × Nat) :=
  if token_reader.here s m ⟨#[61]⟩ = true then (charref_Decode.f k (token_reader.val s (m + 1)).1 true).bind fun r => some (r, (token_reader.val s (m + 1)).2) else some (⟨#[]⟩, m)
set_option maxHeartbeats 1000000 in
set_option maxRecDepth 100000 in
theorem token_reader.attr_any (k : Nat) (g : Nat) (s : ByteArray) (i : Nat) (r : ByteArray) (e : Nat) (w : World) (h : RD w g s i) (hi : i < s.size) (hs : s.size ≤ 1000000000) (hm : HM w) (hd : token_reader.attrV k s (token_until.to token_until.pN s (token_reader.attrEnd s i)) = some (r, e)) :
    Calls Try.prog 59 #[.pointer (some ⟨g, 0, none⟩)] w fun e' w' => e' = .returned (.agg #[.string (token_reader.low s i (token_reader.attrEnd s i)), .string r]) ∧ RD w' g s (e : Int) ∧ Fr (· = g) w w' := by
 have HR := Aside0.mk h
 have HMM := Aside0.mk hm
 have HP := Aside0.mk (h.pos hm)
 have h1 := token_until.to_le (token_until.pE ⟨#[47, 62, 61]⟩) s (i + 1) hi
 unfold token_reader.attrEnd at hd ⊢
 obtain ⟨j, hj⟩ : ∃ j, token_until.to (token_until.pE ⟨#[47, 62, 61]⟩) s (i + 1) = j := ⟨_, rfl⟩
 have HJ := Aside0.mk hj
 rw [hj] at h1 hd ⊢
 have h2 := token_until.to_le token_until.pN s j h1.2
 obtain ⟨m, hmm⟩ : ∃ m, token_until.to token_until.pN s j = m := ⟨_, rfl⟩
 rw [hmm] at hd h2
 have HMJ := Aside0.mk hmm
 have hms := h2.2
 have HD := Aside0.mk hd
 have c1 := h.c1
 have f1 := h.f 1
 have hglt := h.lt
 have hjs := h1.2
 have hij := h1.1
 clear h hm hj h1 hmm h2 hd
 go_enter Try.func59, Try.ntmps59
 go_wp2_with fail
 refine (token_reader.untilE g s (i + 1) ⟨#[47, 62, 61]⟩ _ ?_ hi (by omega)).mono ?_
 ·
  exact (HR.out.set _).keep ((Below.refl _ _).alloc (Nat.le_refl _) _)
 rintro e w1 ⟨rfl, hr, hf⟩
 rw [HJ.out] at hr ⊢
 have HR1 := Aside0.mk hr
 have HF1 : Aside0 (Fr (· = g) w w1) := ⟨((((Fr.refl _ w).own 1 _).alloc _).trans hf)⟩
 have hw1 : w.heap.size < w1.heap.size := by have := hf.size; simp at this; omega
 have hwsz : (w.setCell ⟨g, 1, none⟩ (.int .i64 ((i : Int) + 1))).heap.size = w.heap.size := by simp [World.setCell]
 have HB0 : Aside0 (AB w1 w.heap.size ⟨#[]⟩ ⟨#[]⟩) := ⟨by
   have := AB.new (w.setCell ⟨g, 1, none⟩ (.int .i64 ((i : Int) + 1))) ⟨#[]⟩ ⟨#[]⟩
   rw [hwsz] at this
   exact this.fr hf (by omega)⟩
 clear hwsz
 have HM1 := Aside0.mk (HMM.out.fr HF1.out HP.out)
 have c0 := hr.c0
 have c1 := hr.c1
 have g0 : (0 : Int) ≤ (i : Int) := by omega
 have g1 : (i : Int) ≤ (j : Int) := by omega
 have g2 : (j : Int) ≤ (s.size : Int) := by omega
 have hn1 : ¬ w1.heap.size = g := by omega
 have hn2 : ¬ g = w1.heap.size := by omega
 obtain ⟨nm, hnm⟩ : ∃ r, kind_Lower.low (s.extract i j) = r := ⟨_, rfl⟩
 have HNM := Aside0.mk hnm
 have hlow : ∀ wx, Calls Try.prog 55 #[.string (s.extract i j)] wx fun e w' => e = .returned (.string nm) ∧ Below wx.heap.size wx w' := fun wx => by
   rw [← hnm]; exact kind_Lower.any _ _ (by simp; omega)
 clear hnm
 have hz : (s.extract i j).size ≤ 1000000000000 := by simp; omega
 clear hr hf
 go_upto_region 4 with fail
 go_cut [4] (fun v4 wr => ∃ B, v4 = .pointer (some ⟨B, 0, none⟩) ∧ Aside0 (AB wr B nm ⟨#[]⟩) ∧ Aside0 (w1.heap.size ≤ B) ∧ Aside0 (RD wr g s j) ∧ Aside0 (Fr (· = g) w1 wr))
 case first =>
  go_region_held3 (fun w' => w'.cell? ⟨g, 0, none⟩ = some (.string s) ∧ w'.cell? ⟨g, 1, none⟩ = some (.int .i64 j)) (first | exact ⟨c0, c1⟩ | exact ⟨k0, k1⟩ | go_keep)
    (first
      | (go_at_call 55; refine (hlow _).mono ?_; rintro e w2 ⟨rfl, hb⟩; have hq : RD w2 g s (j : Int) := HR1.out.dr.keep hb; have k0 := hq.c0; have k1 := hq.c1; clear hq)
      | (go_at_call 55; refine (hlow _).mono ?_; rintro e w2 ⟨rfl, hb⟩; have hq : RD w2 g s (j : Int) := (HR1.out.al _).dr.keep hb; have k0 := hq.c0; have k1 := hq.c1; clear hq; have kb : w2.heap[w1.heap.size]? = some (.cells #[.string ⟨#[]⟩, .string ⟨#[]⟩] 41 (0, 0)) := (hb.block _ (by simp)).trans (heap_alloc_last w1 _); have k2 := Lib.cell_of_heap kb 0; have k3 := Lib.cell_of_heap kb 1; have k4 := Lib.frozen_of_heap kb 0; have k5 := Lib.frozen_of_heap kb 1))
  ·
   go_wp2_with fail
   go_meet
   have hq : RD w2 g s (j : Int) := HR1.out.dr.keep hb
   have hF : Fr (· = g) w1 w2 := (Fr.refl _ w1).drew.below hb
   exact ⟨w2.heap.size, rfl, ⟨AB.new _ _ _⟩, ⟨hF.size⟩, ⟨hq.al _⟩, ⟨hF.alloc _⟩⟩
  ·
   go_wp2_with fail
   go_meet
   have hq : RD w2 g s (j : Int) := (HR1.out.al _).dr.keep hb
   have hF : Fr (· = g) w1 w2 := (((Fr.refl _ w1).alloc _).drew).below hb
   have hA : AB w2 w1.heap.size ⟨#[]⟩ ⟨#[]⟩ := kb
   exact ⟨w1.heap.size, rfl, ⟨(hA.set0 _).set1 _⟩, ⟨Nat.le_refl _⟩, ⟨(hq.far _ _ hn2).far _ _ hn2⟩, ⟨(hF.setCell (p := ⟨w1.heap.size, 0, none⟩) (Or.inr (Nat.le_refl _)) _).setCell (p := ⟨w1.heap.size, 1, none⟩) (Or.inr (Nat.le_refl _)) _⟩⟩
 case rest =>
  obtain ⟨B, rfl, HA, HBL, HR2, HF2⟩ := hcut
  have hBg : B ≠ g := by have := HBL.out; omega
  have HM2 := Aside0.mk (HM1.out.fr HF2.out HP.out)
  have HB2 := Aside0.mk (HB0.out.fr HF2.out (by omega))
  have HF := Aside0.mk (HF1.out.trans HF2.out)
  clear HB0 HF1 HF2 HR1 HM1 c0 hn1 hn2 hlow hz
  go_wp2_with fail
  refine (token_reader.untilN g s j _ HR2.out hjs (by omega)).mono ?_
  rintro e1 w3 ⟨rfl, hr, hf⟩
  rw [HMJ.out] at hr
  have HR3 := Aside0.mk hr
  have HM3 := Aside0.mk (HM2.out.fr hf HP.out)
  have HA3 := Aside0.mk (HA.out.fr hf hBg)
  have HB3 := Aside0.mk (HB2.out.fr hf (by omega))
  have HF3 := Aside0.mk (HF.out.trans hf)
  clear hr hf HA HB2 HF HR2 HM2
  go_wp2_with fail
  cases h61 : token_reader.here s m ⟨#[61]⟩ with
  | true =>
   have hd := HD.out
   unfold token_reader.attrV at hd
   rw [if_pos h61] at hd
   obtain ⟨r', hr', hd2⟩ := Option.bind_eq_some_iff.1 hd
   have hl : m + 1 ≤ s.size := token_reader.here_le hms h61
   simp only [Option.some.injEq, Prod.mk.injEq] at hd2
   obtain ⟨rfl, he⟩ := hd2
   have HV := Aside0.mk hr'
   have HE := Aside0.mk he
   clear hd HD hr' he
   refine (token_reader.past_yes g s m ⟨#[61]⟩ _ HR3.out hms hs h61).mono ?_
   clear h61
   rintro e1 w4 ⟨rfl, hr, hf⟩
   have HR4 : Aside0 (RD w4 g s ((m + 1 : Nat) : Int)) := ⟨hr⟩
   have HM4 := Aside0.mk (HM3.out.fr hf HP.out)
   have HA4 := Aside0.mk (HA3.out.fr hf hBg)
   have HB4 := Aside0.mk (HB3.out.fr hf (by omega))
   have HF4 := Aside0.mk (HF3.out.trans hf)
   clear hr hf HA3 HB3 HF3 HR3 HM3
   go_wp2_with fail
   refine (token_reader.value_any k g s (m + 1) r' _ HR4.out hl hs HM4.out HV.out).mono ?_
   rintro e1 w5 ⟨rfl, hr, hf⟩
   rw [HE.out] at hr
   have HR5 := Aside0.mk hr
   have HA5 := Aside0.mk (HA4.out.fr hf hBg)
   have HB5 := Aside0.mk (HB4.out.fr hf (by omega))
   have HF5 := Aside0.mk (HF4.out.trans hf)
   have a0 := HA5.out.c0
   have a1 := HA5.out.c1
   have a2 := HA5.out.f 1
   have b0 := HB5.out.c0
   have b1 := HB5.out.c1
   have b2 := HB5.out.f 0
   have b3 := HB5.out.f 1
   have hBw : ¬ B = w.heap.size := by have := HBL.out; omega
   have hwB : ¬ w.heap.size = B := by have := HBL.out; omega
   clear hr hf HA4 HB4 HF4 HR4 HM4
   go_wp2
   have hnmv : token_reader.low s i j = nm := HNM.out
   have hA6 : AB (((w5.setCell ⟨B, 1, none⟩ (.string r')).setCell ⟨w.heap.size, 0, none⟩ (.string nm)).setCell ⟨w.heap.size, 1, none⟩ (.string r')) w.heap.size nm r' := AB.set1 (AB.set0 ((Below.heap_setCell _ _ _ _ hwB).trans HB5.out) nm) r'
   have q0 := hA6.c0
   have q1 := hA6.c1
   rw [hnmv]
   exact bodyPost_ret (v := .agg #[.string nm, .string r']) (by simp [results, Try.results59, go_sem, q0, q1]) rfl ⟨rfl, (((HR5.out.far _ _ (by exact fun e => hBg e.symm)).far _ _ (by show g ≠ w.heap.size; omega)).far _ _ (by show g ≠ w.heap.size; omega)), (((HF5.out.setCell (p := ⟨B, 1, none⟩) (Or.inr (by show w.heap.size ≤ B; have := HBL.out; omega)) _).setCell (p := ⟨w.heap.size, 0, none⟩) (Or.inr (Nat.le_refl _)) _).setCell (p := ⟨w.heap.size, 1, none⟩) (Or.inr (Nat.le_refl _)) _)⟩
  | false =>
   have hd := HD.out
   unfold token_reader.attrV at hd
   rw [if_neg (by rw [h61]; simp)] at hd
   simp only [Option.some.injEq, Prod.mk.injEq] at hd
   obtain ⟨rfl, rfl⟩ := hd
   refine (token_reader.past_no g s m ⟨#[61]⟩ _ HR3.out hms hs h61).mono ?_
   clear h61 HD
   rintro e1 w4 ⟨rfl, hr, hf⟩
   have HR4 := Aside0.mk hr
   have HA4 := Aside0.mk (HA3.out.fr hf hBg)
   have HB4 := Aside0.mk (HB3.out.fr hf (by omega))
   have HF4 := Aside0.mk (HF3.out.trans hf)
   have a0 := HA4.out.c0
   have a1 := HA4.out.c1
   have b0 := HB4.out.c0
   have b1 := HB4.out.c1
   have b2 := HB4.out.f 0
   have b3 := HB4.out.f 1
   clear hr hf HA3 HB3 HF3 HR3 HM3
   go_wp2
   have hnmv : token_reader.low s i j = nm := HNM.out
   have hA6 : AB ((w4.setCell ⟨w.heap.size, 0, none⟩ (.string nm)).setCell ⟨w.heap.size, 1, none⟩ (.string ⟨#[]⟩)) w.heap.size nm ⟨#[]⟩ := AB.set1 (AB.set0 HB4.out nm) ⟨#[]⟩
   have q0 := hA6.c0
   have q1 := hA6.c1
   rw [hnmv]
   exact bodyPost_ret (v := .agg #[.string nm, .string ⟨#[]⟩]) (by simp [results, Try.results59, go_sem, q0, q1]) rfl ⟨rfl, ((HR4.out.far _ _ (by show g ≠ w.heap.size; omega)).far _ _ (by show g ≠ w.heap.size; omega)), ((HF4.out.setCell (p := ⟨w.heap.size, 0, none⟩) (Or.inr (Nat.le_refl _)) _).setCell (p := ⟨w.heap.size, 1, none⟩) (Or.inr (Nat.le_refl _)) _)⟩
/-! HAND token_reader_tag: function 32 -/
theorem token_reader_tag.info : (Try.prog.info? 41).map (fun i => (i.zero, i.size, i.bytes)) = some (some (.agg #[.string ⟨#[]⟩, .string ⟨#[]⟩]), 2, 32) := by kernel_rfl
/-- Whether an attribute of that name is there. -/
def token_reader.hasName (l : List S41) (nm : ByteArray) : Bool := l.any fun a => a.f0.toList == nm.toList
/-- A tag's attributes from a place on: none, where it does not end; the place behind. -/
def token_reader_tag.l : Nat → ByteArray → Nat → List S41 → Option (Option (List S41 × Bool) × Nat)
  | 0, _, _, _ => none
  | k + 1, s, i, l =>
    if s.size ≤ token_until.to token_until.pG s i then some (none, token_until.to token_until.pG s i)
    else if token_reader.here s (token_until.to token_until.pG s i) ⟨#[62]⟩ = true then some (some (l, token_reader.slash s i (token_until.to token_until.pG s i)), token_until.to token_until.pG s i + 1)
    else (token_reader.attrV k s (token_until.to token_until.pN s (token_reader.attrEnd s (token_until.to token_until.pG s i)))).bind fun p =>
      (token_Get.f k l (token_reader.low s (token_until.to token_until.pG s i) (token_reader.attrEnd s (token_until.to token_until.pG s i)))).bind fun q =>
        token_reader_tag.l k s p.2 (if q.2 = true then l else l ++ [⟨token_reader.low s (token_until.to token_until.pG s i) (token_reader.attrEnd s (token_until.to token_until.pG s i)), p.1⟩])
theorem token_reader.attrV_le (s : ByteArray) (q : Nat) (hq : q < s.size) {k : Nat} {v : ByteArray} {e : Nat} (h : token_reader.attrV k s (token_until.to token_until.pN s (token_reader.attrEnd s q)) = some (v, e)) : q + 1 ≤ e ∧ e ≤ s.size := by
 have h1 := token_until.to_le (token_until.pE ⟨#[47, 62, 61]⟩) s (q + 1) hq
 have h2 := token_until.to_le token_until.pN s (token_reader.attrEnd s q) h1.2
 have h1' : q + 1 ≤ token_reader.attrEnd s q := h1.1
 unfold token_reader.attrV at h
 split at h
 ·
  rename_i h61
  have h3 : token_until.to token_until.pN s (token_reader.attrEnd s q) + 1 ≤ s.size := token_reader.here_le h2.2 h61
  obtain ⟨r, _, h⟩ := Option.bind_eq_some_iff.1 h
  simp only [Option.some.injEq, Prod.mk.injEq] at h
  obtain ⟨_, rfl⟩ := h
  have h4 := token_reader.val_le s _ h3
  exact ⟨by have := h4.1; omega, h4.2⟩
 ·
  simp only [Option.some.injEq, Prod.mk.injEq] at h
  obtain ⟨_, rfl⟩ := h
  exact ⟨by omega, h2.2⟩
/-- A token's own block. -/
def TB (w : World) (B : Nat) (k : Int) (nm : ByteArray) (v : Value) (c : Bool) (tx : ByteArray) : Prop := w.heap[B]? = some (.cells #[.int .i64 k, .string nm, v, .bool c, .string tx] 29 (0, 0))
section
variable {w w' : World} {B : Nat} {k : Int} {nm : ByteArray} {v : Value} {c : Bool} {tx : ByteArray}
theorem TB.new (w : World) (k : Int) (nm : ByteArray) (v : Value) (c : Bool) (tx : ByteArray) : TB (w.alloc (.cells #[.int .i64 k, .string nm, v, .bool c, .string tx] 29)) w.heap.size k nm v c tx := by
 simpa [TB] using heap_alloc_last w (.cells #[.int .i64 k, .string nm, v, .bool c, .string tx] 29)
theorem TB.lt (h : TB w B k nm v c tx) : B < w.heap.size := (Array.getElem?_eq_some_iff.1 h).1
theorem TB.fr {G : Nat → Prop} (h : TB w B k nm v c tx) (hb : Fr G w w') (hg : ¬ G B) : TB w' B k nm v c tx := (hb.block B h.lt hg).trans h
theorem TB.keep (h : TB w B k nm v c tx) (hb : Below w.heap.size w w') : TB w' B k nm v c tx := (hb.block B h.lt).trans h
theorem TB.dr (h : TB w B k nm v c tx) : TB w.drew B k nm v c tx := h
theorem TB.drN (h : TB w B k nm v c tx) (n : Nat) : TB (w.drewN n) B k nm v c tx := h
theorem TB.far (h : TB w B k nm v c tx) (a : Addr) (u : Value) (hg : B ≠ a.block) : TB (w.setCell a u) B k nm v c tx := (Below.heap_setCell _ _ _ _ hg).trans h
theorem TB.cell (h : TB w B k nm v c tx) (j : Nat) : w.cell? ⟨B, j, none⟩ = #[Value.int .i64 k, .string nm, v, .bool c, .string tx][j]? := Lib.cell_of_heap h j
theorem TB.free (h : TB w B k nm v c tx) (j : Nat) : w.frozen? ⟨B, j, none⟩ = false := Lib.frozen_of_heap h j
theorem TB.set0 (h : TB w B k nm v c tx) (x : Int) : TB (w.setCell ⟨B, 0, none⟩ (.int .i64 x)) B x nm v c tx := by
 unfold TB at *; simp [World.setCell, Array.getElem?_modify, h]
theorem TB.set1 (h : TB w B k nm v c tx) (x : ByteArray) : TB (w.setCell ⟨B, 1, none⟩ (.string x)) B k x v c tx := by
 unfold TB at *; simp [World.setCell, Array.getElem?_modify, h]
theorem TB.set2 (h : TB w B k nm v c tx) (x : Value) : TB (w.setCell ⟨B, 2, none⟩ x) B k nm x c tx := by
 unfold TB at *; simp [World.setCell, Array.getElem?_modify, h]
theorem TB.set3 (h : TB w B k nm v c tx) (x : Bool) : TB (w.setCell ⟨B, 3, none⟩ (.bool x)) B k nm v x tx := by
 unfold TB at *; simp [World.setCell, Array.getElem?_modify, h]
theorem TB.set4 (h : TB w B k nm v c tx) (x : ByteArray) : TB (w.setCell ⟨B, 4, none⟩ (.string x)) B k nm v c x := by
 unfold TB at *; simp [World.setCell, Array.getElem?_modify, h]
end
/-- A whole token laid into a block. -/
def put5 (w : World) (B : Nat) (k : Int) (nm : ByteArray) (v : Value) (c : Bool) (tx : ByteArray) : World := ((((w.setCell ⟨B, 0, none⟩ (.int .i64 k)).setCell ⟨B, 1, none⟩ (.string nm)).setCell ⟨B, 2, none⟩ v).setCell ⟨B, 3, none⟩ (.bool c)).setCell ⟨B, 4, none⟩ (.string tx)
theorem put5_far (w : World) (B : Nat) (k : Int) (nm : ByteArray) (v : Value) (c : Bool) (tx : ByteArray) (j : Nat) (h : j ≠ B) : (put5 w B k nm v c tx).heap[j]? = w.heap[j]? := by
 unfold put5
 rw [Below.heap_setCell _ _ _ _ h, Below.heap_setCell _ _ _ _ h, Below.heap_setCell _ _ _ _ h, Below.heap_setCell _ _ _ _ h, Below.heap_setCell _ _ _ _ h]
theorem put5_tb {w : World} {B : Nat} {k0 : Int} {nm0 : ByteArray} {v0 : Value} {c0 : Bool} {tx0 : ByteArray} (h : TB w B k0 nm0 v0 c0 tx0) (k : Int) (nm : ByteArray) (v : Value) (c : Bool) (tx : ByteArray) : TB (put5 w B k nm v c tx) B k nm v c tx := ((((h.set0 k).set1 nm).set2 v).set3 c).set4 tx
theorem put5_fr {G : Nat → Prop} {w w1 : World} (h : Fr G w w1) (B : Nat) (k : Int) (nm : ByteArray) (v : Value) (c : Bool) (tx : ByteArray) (hB : G B ∨ w.heap.size ≤ B) : Fr G w (put5 w1 B k nm v c tx) :=
  ((((h.setCell (p := ⟨B, 0, none⟩) hB _).setCell (p := ⟨B, 1, none⟩) hB _).setCell (p := ⟨B, 2, none⟩) hB _).setCell (p := ⟨B, 3, none⟩) hB _).setCell (p := ⟨B, 4, none⟩) hB _
theorem RD.keep5 {w : World} {g : Nat} {s : ByteArray} {i : Int} {B : Nat} (h : RD w g s i) (hne : g ≠ B) (k : Int) (nm : ByteArray) (v : Value) (c : Bool) (tx : ByteArray) : (put5 w B k nm v c tx).cell? ⟨g, 0, none⟩ = some (.string s) ∧ (put5 w B k nm v c tx).cell? ⟨g, 1, none⟩ = some (.int .i64 i) :=
  have h2 : RD (put5 w B k nm v c tx) g s i := (put5_far w B k nm v c tx g hne).trans h
  ⟨h2.c0, h2.c1⟩
/-- A token that is handed back. -/
def TokE (w : World) (k : Int) (nm : ByteArray) (l : List S41) (c : Bool) (tx : ByteArray) (P : World → Prop) (e : Ending) (w' : World) : Prop :=
  ∃ v : Value, e = .returned (.agg #[.int .i64 k, .string nm, v, .bool c, .string tx]) ∧ Kd.R k41 41 w' w.heap.size (fun _ => True) v l ∧ P w'
def token_reader_tag.kind (kd : Int) (r : Option (List S41 × Bool)) : Int := match r with | none => 0 | some _ => kd
def token_reader_tag.name (nm : ByteArray) (r : Option (List S41 × Bool)) : ByteArray := match r with | none => ⟨#[]⟩ | some _ => nm
def token_reader_tag.attrs (kd : Int) (r : Option (List S41 × Bool)) : List S41 := match r with | none => [] | some p => if kd = 3 then [] else p.1
def token_reader_tag.closed (kd : Int) (r : Option (List S41 × Bool)) : Bool := match r with | none => false | some p => if kd = 3 then false else p.2
theorem Kd.R_fr {α : Type} {d : Kd α} {e base : Nat} {ok : Nat → Prop} {w w1 : World} {v : Value} {xs : List α} {G : Nat → Prop} (h : d.R e w base ok v xs) (hf : Fr G w w1) (hok : ∀ k, ok k → ¬ G k) : d.R e w1 base ok v xs := Kd.R_step h fun k ho hk => hf.block k hk (hok k ho)
set_option maxHeartbeats 1000000 in
set_option maxRecDepth 100000 in
theorem token_reader.tag_any (k : Nat) (g : Nat) (s : ByteArray) (i : Nat) (kd : Int) (r : Option (List S41 × Bool)) (e : Nat) (w : World) (h : RD w g s i) (hi : i ≤ s.size) (hs : s.size ≤ 1000000000) (hm : HM w)
    (hd : token_reader_tag.l k s (token_until.to (token_until.pE ⟨#[47, 62]⟩) s i) [] = some (r, e)) :
    Calls Try.prog 32 #[.pointer (some ⟨g, 0, none⟩), .int .i64 kd] w (TokE w (token_reader_tag.kind kd r) (token_reader_tag.name (token_reader.low s i (token_until.to (token_until.pE ⟨#[47, 62]⟩) s i)) r) (token_reader_tag.attrs kd r) (token_reader_tag.closed kd r) ⟨#[]⟩ (fun w' => RD w' g s e ∧ Fr (· = g) w w')) := by
 have HR := Aside0.mk h
 have HP := Aside0.mk (h.pos hm)
 have HGL := Aside0.mk h.lt
 have HMM := Aside0.mk hm
 have h1 := token_until.to_le (token_until.pE ⟨#[47, 62]⟩) s i hi
 obtain ⟨j, hj⟩ : ∃ j, token_until.to (token_until.pE ⟨#[47, 62]⟩) s i = j := ⟨_, rfl⟩
 rw [hj] at h1 hd ⊢
 obtain ⟨nm, hnm⟩ : ∃ r, token_reader.low s i j = r := ⟨_, rfl⟩
 have hlow : ∀ wx, Calls Try.prog 55 #[.string (s.extract i j)] wx fun e w' => e = .returned (.string nm) ∧ Below wx.heap.size wx w' := fun wx => by
   rw [← hnm]; exact kind_Lower.any _ _ (by simp; omega)
 rw [hnm]
 have HJ := Aside0.mk hj
 have HD := Aside0.mk hd
 have HJS := Aside0.mk h1
 clear h hm hj h1 hd hnm
 go_enter Try.func32, Try.ntmps32
 go_wp2_with fail
 refine (token_reader.untilE g s i ⟨#[47, 62]⟩ _ (HR.out.al _) hi (by omega)).mono ?_
 rintro e1 w1 ⟨rfl, hr, hf⟩
 rw [HJ.out] at hr ⊢
 have HR1 := Aside0.mk hr
 have HF1 : Aside0 (Fr (· = g) w w1) := ⟨((Fr.refl _ w).alloc _).trans hf⟩
 have HT1 : Aside0 (TB w1 w.heap.size 0 ⟨#[]⟩ (.slice none 0 0) false ⟨#[]⟩) := ⟨(TB.new w 0 ⟨#[]⟩ (.slice none 0 0) false ⟨#[]⟩).fr hf (by have := HGL.out; omega)⟩
 have HM1 := Aside0.mk (HMM.out.fr HF1.out HP.out)
 clear hr hf
 go_wp2_with fail
 refine (hlow _).mono ?_
 rintro e1 w2 ⟨rfl, hb⟩
 have HR2 := Aside0.mk (HR1.out.keep hb)
 have HF2 := Aside0.mk (HF1.out.below hb)
 have HT2 := Aside0.mk (HT1.out.keep hb)
 have HM2 := Aside0.mk (HM1.out.at_ hb)
 clear hb HR1 HF1 HT1 HM1 hlow HR
 go_wp2_with fail
 obtain ⟨w3, hw3⟩ : ∃ W, w2.alloc (.cells #[.int .i64 kd, .string nm, .slice none 0 0, .bool false, .string ⟨#[]⟩] 29) = W := ⟨_, rfl⟩
 obtain ⟨tb, htb⟩ : ∃ n, w2.heap.size = n := ⟨_, rfl⟩
 have HTB : Aside0 (TB w3 tb kd nm (.slice none 0 0) false ⟨#[]⟩) := ⟨by rw [← hw3, ← htb]; exact TB.new _ _ _ _ _ _⟩
 have HR3 : Aside0 (RD w3 g s j) := ⟨by rw [← hw3]; exact HR2.out.al _⟩
 have HF3 : Aside0 (Fr (· = g) w w3) := ⟨by rw [← hw3]; exact HF2.out.alloc _⟩
 have HT3 : Aside0 (TB w3 w.heap.size 0 ⟨#[]⟩ (.slice none 0 0) false ⟨#[]⟩) := ⟨by rw [← hw3]; exact HT2.out.keep ((Below.refl _ _).alloc (Nat.le_refl _) _)⟩
 have HM3 : Aside0 (HM w3) := ⟨by rw [← hw3]; exact HM2.out.at_ ((Below.refl _ _).alloc (Nat.le_refl _) _)⟩
 have HBL : Aside0 (w.heap.size < tb) := ⟨by rw [← htb]; exact HT2.out.lt⟩
 rw [hw3, htb]
 clear hw3 htb HR2 HF2 HT2 HM2
 go_loopg [] k (fun kq wr => ∃ (p : Nat) (l : List S41) (v : Value), Aside0 (p ≤ s.size ∧ l.length ≤ p ∧ token_reader_tag.l kq s p l = some (r, e)) ∧ Aside0 (TB wr tb kd nm v false ⟨#[]⟩) ∧ Aside0 (Kd.R k41 41 wr w.heap.size (fun k => k ≠ g) v l) ∧ Aside0 (RD wr g s p) ∧ Aside0 (Fr (· = g) w wr) ∧ Aside0 (TB wr w.heap.size 0 ⟨#[]⟩ (.slice none 0 0) false ⟨#[]⟩) ∧ Aside0 (HM wr))
 case atStart => exact ⟨j, [], _, ⟨HJS.out.2, Nat.zero_le _, HD.out⟩, HTB, ⟨Kd.R_nil _ _ _ _ _⟩, HR3, HF3, HT3, HM3⟩
 case round =>
  clear HTB HR3 HF3 HT3 HM3 HD HJS HJ
  obtain ⟨p, l, v, HL, HTB, HO, HR, HF, HT, HM⟩ := hrel
  obtain ⟨A, cp, rfl, hlc, _⟩ := Kd.R_reads HO.out
  obtain ⟨kk, rfl⟩ : ∃ m, gk = m + 1 := ⟨gk - 1, by
    rcases gk with _ | m
    · have := HL.out.2.2; rw [token_reader_tag.l] at this; cases this
    · rfl⟩
  have hps := HL.out.1
  have hpp := token_until.to_le token_until.pG s p hps
  have hq := HL.out.2.2
  rw [token_reader_tag.l] at hq
  obtain ⟨q, hqq⟩ : ∃ q, token_until.to token_until.pG s p = q := ⟨_, rfl⟩
  obtain ⟨st, hst⟩ : ∃ b, token_reader.slash s p q = b := ⟨_, rfl⟩
  rw [hqq] at hq hpp
  rw [hst] at hq
  have HQQ := Aside0.mk hqq
  have HST := Aside0.mk hst
  have HQ := Aside0.mk hq
  have HPL : Aside0 (l.length ≤ p) := ⟨HL.out.2.1⟩
  have hpq := hpp.1
  have hqs := hpp.2
  clear hq hqq hst hpp HL
  go_wp2_with fail
  refine (token_reader.gap_any g s p _ HR.out hps (by omega)).mono ?_
  rintro e1 w4 ⟨rfl, hr, hf⟩
  rw [HQQ.out] at hr ⊢
  rw [HST.out]
  have HR4 := Aside0.mk hr
  have HF4 := Aside0.mk (HF.out.trans hf)
  have htg : ¬ tb = g := by have := HBL.out; have := HGL.out; omega
  have HTB4 := Aside0.mk (HTB.out.fr hf htg)
  have HT4 := Aside0.mk (HT.out.fr hf (by have := HGL.out; omega))
  have HO4 := Aside0.mk (Kd.R_fr HO.out hf (fun _ h => h))
  have HM4 := Aside0.mk (HM.out.fr hf HP.out)
  clear hr hf HR HF HTB HT HO HM
  go_wp2_with fail
  by_cases hge : s.size ≤ q
  ·
   have hq := HQ.out
   rw [if_pos hge] at hq
   simp only [Option.some.injEq, Prod.mk.injEq] at hq
   obtain ⟨rfl, rfl⟩ := hq
   refine (token_reader.done_any g s q true (by simp; omega) _ HR4.out).mono ?_
   rintro e1 w5 ⟨rfl, n, rfl⟩
   have t0 := HT4.out.cell 0
   have t1 := HT4.out.cell 1
   have t2 := HT4.out.cell 2
   have t3 := HT4.out.cell 3
   have t4 := HT4.out.cell 4
   have u0 := HT4.out.free 0
   have u1 := HT4.out.free 1
   have u2 := HT4.out.free 2
   have u3 := HT4.out.free 3
   have u4 := HT4.out.free 4
   simp only [List.getElem?_toArray, List.getElem?_cons_zero, List.getElem?_cons_succ] at t0 t1 t2 t3 t4
   go_wp2
   have hZ := put5_tb (w := w4.drewN n) HT4.out 0 ⟨#[]⟩ (.slice none 0 0) false ⟨#[]⟩
   have z0 := hZ.cell 0
   have z1 := hZ.cell 1
   have z2 := hZ.cell 2
   have z3 := hZ.cell 3
   have z4 := hZ.cell 4
   unfold put5 at z0 z1 z2 z3 z4
   exact bodyPost_ret (v := .agg #[.int .i64 0, .string ⟨#[]⟩, .slice none 0 0, .bool false, .string ⟨#[]⟩]) (by simp [results, Try.results32, go_sem, z0, z1, z2, z3, z4]) rfl
     ⟨.slice none 0 0, rfl, Kd.R_nil _ _ _ _ _, (put5_far _ _ _ _ _ _ _ g (by have := HGL.out; omega)).trans HR4.out, put5_fr (HF4.out.drewN n) _ _ _ _ _ _ (Or.inr (Nat.le_refl _))⟩
  ·
   have hlt : q < s.size := by omega
   refine (token_reader.done_any g s q false (by simp; omega) _ HR4.out).mono ?_
   rintro e1 w5 ⟨rfl, n, rfl⟩
   have HR5 : Aside0 (RD (w4.drewN n) g s q) := ⟨HR4.out⟩
   have HF5 := Aside0.mk (HF4.out.drewN n)
   have HTB5 : Aside0 (TB (w4.drewN n) tb kd nm (.slice A l.length cp) false ⟨#[]⟩) := ⟨HTB4.out⟩
   have HT5 : Aside0 (TB (w4.drewN n) w.heap.size 0 ⟨#[]⟩ (.slice none 0 0) false ⟨#[]⟩) := ⟨HT4.out⟩
   have HO5 : Aside0 (Kd.R k41 41 (w4.drewN n) w.heap.size (fun k => k ≠ g) (.slice A l.length cp) l) := ⟨Kd.R_drewN HO4.out n⟩
   have HM5 : Aside0 (HM (w4.drewN n)) := ⟨HM4.out⟩
   obtain ⟨w5, hw5⟩ : ∃ W, w4.drewN n = W := ⟨_, rfl⟩
   rw [hw5] at HR5 HF5 HTB5 HT5 HO5 HM5 ⊢
   clear hw5 HR4 HF4 HTB4 HT4 HO4 HM4
   go_wp2_with fail
   cases h62 : token_reader.here s q ⟨#[62]⟩ with
   | true =>
    have hq := HQ.out
    rw [if_neg hge, if_pos h62] at hq
    simp only [Option.some.injEq, Prod.mk.injEq] at hq
    obtain ⟨rfl, rfl⟩ := hq
    refine (token_reader.past_yes g s q ⟨#[62]⟩ _ HR5.out hqs hs h62).mono ?_
    clear h62
    rintro e1 w6 ⟨rfl, hr, hf⟩
    have HR6 : Aside0 (RD w6 g s ((q + 1 : Nat) : Int)) := ⟨hr⟩
    have HF6 := Aside0.mk (HF5.out.trans hf)
    have HTB6 := Aside0.mk (HTB5.out.fr hf htg)
    have HT6 := Aside0.mk (HT5.out.fr hf (by have := HGL.out; omega))
    have HO6 := Aside0.mk (Kd.R_fr HO5.out hf (fun _ h => h))
    clear hr hf HR5 HF5 HTB5 HT5 HO5 HM5
    have t0 := HT6.out.cell 0
    have t1 := HT6.out.cell 1
    have t2 := HT6.out.cell 2
    have t3 := HT6.out.cell 3
    have t4 := HT6.out.cell 4
    have u0 := HT6.out.free 0
    have u1 := HT6.out.free 1
    have u2 := HT6.out.free 2
    have u3 := HT6.out.free 3
    have u4 := HT6.out.free 4
    have x0 := HTB6.out.cell 0
    have x1 := HTB6.out.cell 1
    have x2 := HTB6.out.cell 2
    have x3 := HTB6.out.cell 3
    have x4 := HTB6.out.cell 4
    have y2 := HTB6.out.free 2
    have y3 := HTB6.out.free 3
    simp only [List.getElem?_toArray, List.getElem?_cons_zero, List.getElem?_cons_succ] at t0 t1 t2 t3 t4 x0 x1 x2 x3 x4
    have hne1 : ¬ tb = w.heap.size := by have := HBL.out; omega
    have hne2 : ¬ w.heap.size = tb := by have := HBL.out; omega
    by_cases hk : kd = 3
    ·
     subst hk
     go_wp2
     have hT : TB (((w6.setCell ⟨tb, 3, none⟩ (.bool st)).setCell ⟨tb, 2, none⟩ (.slice none 0 0)).setCell ⟨tb, 3, none⟩ (.bool false)) w.heap.size 0 ⟨#[]⟩ (.slice none 0 0) false ⟨#[]⟩ := ((HT6.out.far _ _ hne2).far _ _ hne2).far _ _ hne2
     have hZ := put5_tb hT 3 nm (.slice none 0 0) false ⟨#[]⟩
     have z0 := hZ.cell 0
     have z1 := hZ.cell 1
     have z2 := hZ.cell 2
     have z3 := hZ.cell 3
     have z4 := hZ.cell 4
     unfold put5 at z0 z1 z2 z3 z4
     have hF : Fr (· = g) w (((w6.setCell ⟨tb, 3, none⟩ (.bool st)).setCell ⟨tb, 2, none⟩ (.slice none 0 0)).setCell ⟨tb, 3, none⟩ (.bool false)) :=
       ((HF6.out.setCell (p := ⟨tb, 3, none⟩) (Or.inr (Nat.le_of_lt HBL.out)) _).setCell (p := ⟨tb, 2, none⟩) (Or.inr (Nat.le_of_lt HBL.out)) _).setCell (p := ⟨tb, 3, none⟩) (Or.inr (Nat.le_of_lt HBL.out)) _
     have hgt : g ≠ tb := fun e => htg e.symm
     exact bodyPost_ret (v := .agg #[.int .i64 3, .string nm, .slice none 0 0, .bool false, .string ⟨#[]⟩]) (by simp [results, Try.results32, go_sem, z0, z1, z2, z3, z4]) rfl
       ⟨.slice none 0 0, rfl, Kd.R_nil _ _ _ _ _, (put5_far _ _ _ _ _ _ _ g (by have := HGL.out; omega)).trans (((HR6.out.far _ _ hgt).far _ _ hgt).far _ _ hgt), put5_fr hF _ _ _ _ _ _ (Or.inr (Nat.le_refl _))⟩
    ·
     have hkb : (kd == 3) = false := by simp [hk]
     have HK := Aside0.mk hk
     clear hk
     go_wp2
     have hT : TB (w6.setCell ⟨tb, 3, none⟩ (.bool st)) w.heap.size 0 ⟨#[]⟩ (.slice none 0 0) false ⟨#[]⟩ := HT6.out.far _ _ hne2
     have hZ := put5_tb hT kd nm (.slice A l.length cp) st ⟨#[]⟩
     have z0 := hZ.cell 0
     have z1 := hZ.cell 1
     have z2 := hZ.cell 2
     have z3 := hZ.cell 3
     have z4 := hZ.cell 4
     unfold put5 at z0 z1 z2 z3 z4
     have hF : Fr (· = g) w (w6.setCell ⟨tb, 3, none⟩ (.bool st)) := HF6.out.setCell (p := ⟨tb, 3, none⟩) (Or.inr (Nat.le_of_lt HBL.out)) _
     have hO : Kd.R k41 41 (put5 (w6.setCell ⟨tb, 3, none⟩ (.bool st)) w.heap.size kd nm (.slice A l.length cp) st ⟨#[]⟩) w.heap.size (fun _ => True) (.slice A l.length cp) l := by
      have h1 := Kd.R_set HO6.out HTB6.out (by decide) 3 (.bool st)
      have h2 := Kd.R_set h1 hT (by decide) 0 (.int .i64 kd)
      have h3 := Kd.R_set h2 (hT.set0 kd) (by decide) 1 (.string nm)
      have h4 := Kd.R_set h3 ((hT.set0 kd).set1 nm) (by decide) 2 (.slice A l.length cp)
      have h5 := Kd.R_set h4 (((hT.set0 kd).set1 nm).set2 _) (by decide) 3 (.bool st)
      exact Kd.R_mono (Kd.R_set h5 ((((hT.set0 kd).set1 nm).set2 _).set3 st) (by decide) 4 (.string ⟨#[]⟩)) (fun _ _ => trivial)
     have e1 : token_reader_tag.attrs kd (some (l, st)) = l := by unfold token_reader_tag.attrs; exact if_neg HK.out
     have e2 : token_reader_tag.closed kd (some (l, st)) = st := by unfold token_reader_tag.closed; exact if_neg HK.out
     rw [e1, e2]
     exact bodyPost_ret (v := .agg #[.int .i64 kd, .string nm, .slice A l.length cp, .bool st, .string ⟨#[]⟩]) (by simp [results, Try.results32, go_sem, z0, z1, z2, z3, z4]) rfl
       ⟨.slice A l.length cp, rfl, hO, (put5_far _ _ _ _ _ _ _ g (by have := HGL.out; omega)).trans (HR6.out.far _ _ (fun e => htg e.symm)), put5_fr hF _ _ _ _ _ _ (Or.inr (Nat.le_refl _))⟩
   | false =>
    have hq := HQ.out
    rw [if_neg hge, if_neg (by rw [h62]; simp)] at hq
    obtain ⟨⟨vv, ee⟩, hav, hq⟩ := Option.bind_eq_some_iff.1 hq
    obtain ⟨⟨gr, gb⟩, hget, hq⟩ := Option.bind_eq_some_iff.1 hq
    obtain ⟨an, han⟩ : ∃ x, token_reader.low s q (token_reader.attrEnd s q) = x := ⟨_, rfl⟩
    rw [han] at hget hq
    have HAN := Aside0.mk han
    have HAV := Aside0.mk hav
    have HGET := Aside0.mk hget
    have hq : token_reader_tag.l kk s ee (if gb = true then l else l ++ [⟨an, vv⟩]) = some (r, e) := hq
    have HEE : Aside0 (q + 1 ≤ ee ∧ ee ≤ s.size) := ⟨token_reader.attrV_le s q hlt hav⟩
    have HQ2 := Aside0.mk hq
    clear hq hget hav han HQ
    refine (token_reader.past_no g s q ⟨#[62]⟩ _ HR5.out hqs hs h62).mono ?_
    clear h62
    rintro e1 w6 ⟨rfl, hr, hf⟩
    have HR6 := Aside0.mk hr
    have HF6 := Aside0.mk (HF5.out.trans hf)
    have HTB6 := Aside0.mk (HTB5.out.fr hf htg)
    have HT6 := Aside0.mk (HT5.out.fr hf (by have := HGL.out; omega))
    have HO6 := Aside0.mk (Kd.R_fr HO5.out hf (fun _ h => h))
    have HM6 := Aside0.mk (HM5.out.fr hf HP.out)
    clear hr hf HR5 HF5 HTB5 HT5 HO5 HM5
    go_wp2_with fail
    refine (token_reader.attr_any kk g s q vv ee _ HR6.out hlt hs HM6.out HAV.out).mono ?_
    rintro e1 w7 ⟨rfl, hr, hf⟩
    rw [HAN.out]
    have HR7 := Aside0.mk hr
    have HF7 := Aside0.mk (HF6.out.trans hf)
    have HTB7 := Aside0.mk (HTB6.out.fr hf htg)
    have HT7 := Aside0.mk (HT6.out.fr hf (by have := HGL.out; omega))
    have HO7 := Aside0.mk (Kd.R_fr HO6.out hf (fun _ h => h))
    have HM7 := Aside0.mk (HM6.out.fr hf HP.out)
    clear hr hf HR6 HF6 HTB6 HT6 HO6 HM6
    go_upto_region 8 with fail
    obtain ⟨ab, hab⟩ : ∃ n, w7.heap.size = n := ⟨_, rfl⟩
    obtain ⟨w8, hw8⟩ : ∃ W, w7.alloc (.cells #[.string an, .string vv] 41) = W := ⟨_, rfl⟩
    have bal : Below w7.heap.size w7 w8 := by rw [← hw8]; exact (Below.refl _ _).alloc (Nat.le_refl _) _
    have HA8 : Aside0 (AB w8 ab an vv) := ⟨by rw [← hw8, ← hab]; exact AB.new _ _ _⟩
    have HR8 := Aside0.mk (HR7.out.keep bal)
    have HF8 := Aside0.mk (HF7.out.below bal)
    have HTB8 := Aside0.mk (HTB7.out.keep bal)
    have HT8 := Aside0.mk (HT7.out.keep bal)
    have HO8 := Aside0.mk (Kd.R_below HO7.out bal)
    have HM8 := Aside0.mk (HM7.out.at_ bal)
    have HABL : Aside0 (tb < ab ∧ w.heap.size < ab ∧ g < ab) := ⟨by have := HTB7.out.lt; have := HT7.out.lt; have := HR7.out.lt; omega⟩
    rw [hw8, hab]
    clear hab hw8 bal HR7 HF7 HTB7 HT7 HO7 HM7
    have x2 := HTB8.out.cell 2
    have y2 := HTB8.out.free 2
    have a0 := HA8.out.c0
    have a1 := HA8.out.c1
    simp only [List.getElem?_toArray, List.getElem?_cons_zero, List.getElem?_cons_succ] at x2
    obtain ⟨_, _, hv8, _, hC8⟩ := Kd.R_reads HO8.out
    injection hv8 with hv8a _ hv8c
    subst hv8a hv8c
    have HC8 := Aside0.mk hC8
    have HLC := Aside0.mk hlc
    clear hC8 hlc
    go_wp2_with fail
    refine (token_Get.calls kk A cp l an gr gb _ HC8.out HLC.out HGET.out).mono ?_
    rintro e1 w9 ⟨rfl, bgl⟩
    have HA9 : Aside0 (AB w9 ab an vv) := ⟨(bgl.block ab HA8.out.lt).trans HA8.out⟩
    have HR9 := Aside0.mk (HR8.out.keep bgl)
    have HF9 := Aside0.mk (HF8.out.below bgl)
    have HTB9 := Aside0.mk (HTB8.out.keep bgl)
    have HT9 := Aside0.mk (HT8.out.keep bgl)
    have HO9 := Aside0.mk (Kd.R_below HO8.out bgl)
    have HM9 := Aside0.mk (HM8.out.at_ bgl)
    clear bgl HA8 HR8 HF8 HTB8 HT8 HO8 HM8 HC8 HGET x2 y2 a0 a1
    have x2 := HTB9.out.cell 2
    have y2 := HTB9.out.free 2
    have a0 := HA9.out.c0
    have a1 := HA9.out.c1
    simp only [List.getElem?_toArray, List.getElem?_cons_zero, List.getElem?_cons_succ] at x2
    cases gb with
    | true =>
     go_wp2
     go_roundg kk
     case measure => exact Nat.lt_succ_self kk
     case rel => exact ⟨ee, l, _, ⟨HEE.out.2, by have := HPL.out; have := HEE.out; omega, HQ2.out⟩, HTB9, HO9, HR9, HF9, HT9, HM9⟩
    | false =>
     go_wp2_with (first
       | (at_builtin; refine Kd.R_append k41 (w0 := w9) w.heap.size rfl (.tmp 38) (.tmp 40) 27 41 (.agg #[(.string ⟨#[]⟩), (.string ⟨#[]⟩)]) 32 rfl Try.underlying27 token_reader_tag.info rfl (by decide) (by omega) (.slice A l.length cp) l (⟨an, vv⟩ : S41) [.string an, .string vv] (fun k => k ≠ g) (fun _ => False) rfl (by first | (go_simp; done) | (go_simp; rfl)) ?aP (fun _ hk => hk.elim) ?aF ?aO ?aB ?aS ?aL ?_; (case aP => exact k41_mkM _ _ _ (⟨an, vv⟩ : S41)); (case aF => exact fun k hk => by have := HR9.out.lt; omega); (case aO => exact HO9.out); (case aB => exact Below.refl _ _); (case aS => exact HF9.out.size); (case aL => (have := HPL.out; omega)); intro v1 w10 hO10 hB10 hg10 hat10; obtain ⟨A1, c1, hv1, hl1, hC1⟩ := Kd.R_reads hO10; subst hv1; have HTA := Aside0.mk (show TB w10 tb kd nm (.slice A l.length cp) false ⟨#[]⟩ from (hg10.block tb HTB9.out.lt (Kd.R_ne HO9.out HTB9.out (by decide))).trans HTB9.out); have HO10 := Aside0.mk hO10; have HB10 := Aside0.mk hB10; have HG10 := Aside0.mk hg10; clear hO10 hB10 hg10 hat10 hl1 hC1 x2 y2 a0 a1; have x2 := HTA.out.cell 2; have y2 := HTA.out.free 2; simp only [List.getElem?_toArray, List.getElem?_cons_zero, List.getElem?_cons_succ] at x2))
     have hb10 := HB10.out
     have hF10 : Fr (· = g) w w10 := ⟨hb10.os.trans HF9.out.os, hb10.tape.trans HF9.out.tape, hb10.output.trans HF9.out.output, Nat.le_trans HF9.out.size hb10.size, fun k hk hn => (hb10.block k hk).trans (HF9.out.block k hk hn)⟩
     have hT10 : TB w10 w.heap.size 0 ⟨#[]⟩ (.slice none 0 0) false ⟨#[]⟩ := (HG10.out.block _ HT9.out.lt (Kd.R_ne HO9.out HT9.out (by decide))).trans HT9.out
     have hR10 : RD w10 g s ee := (hb10.block g HGL.out).trans HR9.out
     have hM10 : HM w10 := by
      obtain ⟨m, hm⟩ := HM9.out
      exact ⟨m, (World.cell?_of_block (hb10.block 0 HMM.out.lt)).trans hm⟩
     have hO10 := HO10.out
     rw [List.length_append, List.length_singleton] at hO10
     have hgt : g ≠ tb := fun e => htg e.symm
     have hne2 : ¬ w.heap.size = tb := by have := HBL.out; omega
     go_roundg kk
     case measure => exact Nat.lt_succ_self kk
     case rel =>
      refine ⟨ee, l ++ [⟨an, vv⟩], _, ⟨HEE.out.2, ?_, HQ2.out⟩, ⟨HTA.out.set2 _⟩, ⟨Kd.R_set hO10 HTA.out (by decide) 2 _⟩, ⟨hR10.far _ _ hgt⟩, ⟨hF10.setCell (p := ⟨tb, 2, none⟩) (Or.inr (Nat.le_of_lt HBL.out)) _⟩, ⟨hT10.far _ _ hne2⟩, ⟨?_⟩⟩
      ·
       rw [List.length_append, List.length_singleton]; have := HPL.out; have := HEE.out; omega
      ·
       obtain ⟨m, hm⟩ := hM10
       exact ⟨m, (World.cell?_of_block (Below.heap_setCell _ _ _ 0 (by show 0 ≠ tb; have := HBL.out; omega))).trans hm⟩
/-! HAND token_begins: function 37 -/
def token_begins.letter (c : UInt8) : Bool := (65 ≤ c.toNat && c.toNat ≤ 90) || (97 ≤ c.toNat && c.toNat ≤ 122)
theorem token_begins.letter_ok (c : UInt8) : kind_Letter.f (c.toNat : Int) = some (token_begins.letter c) := by
 have : ∀ n : Fin 256, kind_Letter.f ((UInt8.ofNat n.val).toNat : Int) = some (token_begins.letter (UInt8.ofNat n.val)) := by decide +kernel
 have h := this ⟨c.toNat, c.toNat_lt⟩
 simpa using h
/-- Whether a text begins with markup. -/
def token_begins.b : List UInt8 → Bool
  | 60 :: c :: r => c == 33 || (c == 63 || (if c = 47 then !r.isEmpty else token_begins.letter c))
  | _ => false
theorem token_begins.b_cons (c0 c : UInt8) (r : List UInt8) : token_begins.b (c0 :: c :: r) = (c0 == 60 && (c == 33 || (c == 63 || (if c = 47 then !r.isEmpty else token_begins.letter c)))) := by
 by_cases h : c0 = 60
 ·
  subst h; rw [token_begins.b]; simp
 ·
  have : (c0 == 60) = false := by simpa using h
  rw [this, Bool.false_and]
  unfold token_begins.b
  split
  ·
   rename_i h2; simp only [List.cons.injEq] at h2; exact absurd h2.1 h
  ·
   rfl
theorem token_begins.int_beq (c : UInt8) (n : UInt8) : ((c.toNat : Int) == (n.toNat : Int)) = (c == n) := by
 rw [Bool.eq_iff_iff, beq_iff_eq, beq_iff_eq, ← UInt8.toNat_inj]; omega
set_option maxRecDepth 100000 in
theorem token_begins.any (s : ByteArray) (b : Bool) (w : World) (hs : s.size ≤ 1000000000) (hb : token_begins.b s.data.toList = b) :
    Calls Try.prog 37 #[.string s] w fun e w' => e = .returned (.bool b) ∧ ∃ n, w' = w.drewN n := by
 by_cases h2 : s.size < 2
 ·
  have hb' : b = false := by
   rw [← hb]
   unfold token_begins.b
   split
   ·
    rename_i c r h
    have := congrArg List.length h
    simp at this
    omega
   ·
    rfl
  subst hb'
  have g : decide ((s.size : Int) < 2) = true := by simp; omega
  clear hb
  go_enter Try.func37, Try.ntmps37
  go_wp2
  go_ret
  exact ⟨rfl, 0, rfl⟩
 ·
  have g : decide ((s.size : Int) < 2) = false := by simp; omega
  have hl : 2 ≤ s.data.toList.length := by simp; omega
  obtain ⟨c0, c, r, hr⟩ : ∃ c0 c r, s.data.toList = c0 :: c :: r := by
   rcases hx : s.data.toList with _ | ⟨c0, _ | ⟨c, r⟩⟩
   ·
    rw [hx] at hl; simp at hl
   ·
    rw [hx] at hl; simp at hl
   ·
    exact ⟨_, _, _, rfl⟩
  have p0 : 0 < s.size := by omega
  have p1 : 1 < s.size := by omega
  have e0 : s[0]'p0 = c0 := by
   have : s.data.toList[0]'(by omega) = c0 := by simp only [hr]; rfl
   exact this
  have e1 : s[1]'p1 = c := by
   have : s.data.toList[1]'(by omega) = c := by simp only [hr]; rfl
   exact this
  have hsz : s.size = r.length + 2 := by have := congrArg List.length hr; simpa using this
  rw [hr, token_begins.b_cons] at hb
  have g0 : (0 : Int) < (s.size : Int) := by omega
  have g1 : (1 : Int) < (s.size : Int) := by omega
  have HSZ := Aside0.mk hsz
  have E0 := Aside0.mk e0
  have E1 := Aside0.mk e1
  have HL := Aside0.mk (token_begins.letter_ok c)
  by_cases hc0 : c0 = 60
  ·
   have hne : (((s[0]'p0).toNat : Int) != 60) = false := by
    rw [e0, hc0]; rfl
   have hcb : (c0 == 60) = true := by simpa using hc0
   rw [hcb, Bool.true_and] at hb
   have k33 := token_begins.int_beq c 33
   have k63 := token_begins.int_beq c 63
   have k47 := token_begins.int_beq c 47
   rw [← e1] at k33 k63 k47
   have HB := Aside0.mk hb
   clear hb hr e0 hsz hc0 hcb
   by_cases c33 : c = 33
   ·
    have j33 : (((s[1]'p1).toNat : Int) == 33) = true := k33.trans (by rw [e1]; simpa using c33)
    obtain rfl : true = b := by rw [← HB.out]; simp [c33]
    clear k33 k63 k47 e1 c33
    go_enter Try.func37, Try.ntmps37
    go_wp2
    go_ret
    exact ⟨rfl, 0, rfl⟩
   ·
    have j33 : (((s[1]'p1).toNat : Int) == 33) = false := k33.trans (by rw [e1]; simpa using c33)
    by_cases c63 : c = 63
    ·
     have j63 : (((s[1]'p1).toNat : Int) == 63) = true := k63.trans (by rw [e1]; simpa using c63)
     obtain rfl : true = b := by rw [← HB.out]; simp [c63]
     clear k33 k63 k47 e1 c63 c33
     go_enter Try.func37, Try.ntmps37
     go_wp2
     go_ret
     exact ⟨rfl, 0, rfl⟩
    ·
     have j63 : (((s[1]'p1).toNat : Int) == 63) = false := k63.trans (by rw [e1]; simpa using c63)
     by_cases c47 : c = 47
     ·
      have j47 : (((s[1]'p1).toNat : Int) == 47) = true := k47.trans (by rw [e1]; simpa using c47)
      obtain rfl : decide ((s.size : Int) > 2) = b := by
       rw [← HB.out]
       have : (c == 33) = false := by simpa using c33
       rw [this, Bool.false_or]
       have : (c == 63) = false := by simpa using c63
       rw [this, Bool.false_or, if_pos c47]
       have := HSZ.out
       cases r with
       | nil => simp at this ⊢; omega
       | cons a r => simp at this ⊢; omega
      clear k33 k63 k47 e1 c63 c33 c47
      go_enter Try.func37, Try.ntmps37
      go_wp2
      go_ret
      exact ⟨rfl, 0, rfl⟩
     ·
      have j47 : (((s[1]'p1).toNat : Int) == 47) = false := k47.trans (by rw [e1]; simpa using c47)
      obtain rfl : token_begins.letter c = b := by
       rw [← HB.out]
       have : (c == 33) = false := by simpa using c33
       rw [this, Bool.false_or]
       have : (c == 63) = false := by simpa using c63
       rw [this, Bool.false_or, if_neg c47]
      have hlt := kind_Letter.calls (c.toNat : Int) (token_begins.letter c) w HL.out
      rw [← e1] at hlt ⊢
      have HLT := Aside0.mk hlt
      clear k33 k63 k47 e1 c63 c33 c47 hlt
      go_enter Try.func37, Try.ntmps37
      go_wp2_with (first | (go_at_call 42; refine HLT.out.mono ?_; rintro e w1 ⟨rfl, ⟨n1, rfl⟩⟩))
      go_ret
      exact ⟨rfl, n1, rfl⟩
  ·
   have hb' : b = false := by
    rw [← hb]
    have : (c0 == 60) = false := by simpa using hc0
    rw [this, Bool.false_and]
   subst hb'
   have hne : (((s[0]'p0).toNat : Int) != 60) = true := by
    rw [e0, bne_iff_ne]; intro h; exact hc0 (UInt8.toNat_inj.1 (by have : (60 : UInt8).toNat = 60 := rfl; omega))
   clear hb hr e0 e1 hsz hc0
   go_enter Try.func37, Try.ntmps37
   go_wp2
   go_ret
   exact ⟨rfl, 0, rfl⟩
/-! HAND token_reader_text: function 38 -/
/-- The first place from one on at which a thing holds, or the end. -/
def seekF (P : Nat → Bool) : Nat → Nat → Nat
  | 0, i => i
  | d + 1, i => if P i = true then i else seekF P d (i + 1)
def seek (P : Nat → Bool) (n i : Nat) : Nat := seekF P (n - i) i
theorem seek_end (P : Nat → Bool) (n i : Nat) (h : ¬ i < n) : seek P n i = i := by
 unfold seek; rw [show n - i = 0 by omega]; rfl
theorem seek_stop (P : Nat → Bool) (n i : Nat) (h : P i = true) : seek P n i = i := by
 unfold seek
 cases n - i with
 | zero => rfl
 | succ d => unfold seekF; rw [if_pos h]
theorem seek_go (P : Nat → Bool) (n i : Nat) (h : i < n) (hp : P i = false) : seek P n i = seek P n (i + 1) := by
 unfold seek
 rw [show n - i = (n - (i + 1)) + 1 by omega]
 rw [seekF, if_neg (by rw [hp]; simp)]
theorem seek_le (P : Nat → Bool) (n : Nat) : ∀ (d i : Nat), n - i = d → i ≤ n → i ≤ seek P n i ∧ seek P n i ≤ n
  | 0, i, hd, hi => by rw [seek_end P n i (by omega)]; omega
  | d + 1, i, hd, hi => by
    cases hp : P i with
    | true => rw [seek_stop P n i hp]; omega
    | false =>
      have := seek_le P n d (i + 1) (by omega) (by omega)
      rw [seek_go P n i (by omega) hp]; omega
/-- Where a text ends that begins at a place: at the next markup, or at the end. -/
def token_reader.textTo (s : ByteArray) (i : Nat) : Nat := seek (fun j => token_begins.b (s.data.toList.drop j)) s.size i
theorem token_reader.textTo_le (s : ByteArray) (i : Nat) (h : i ≤ s.size) : i ≤ token_reader.textTo s i ∧ token_reader.textTo s i ≤ s.size := seek_le _ _ _ i rfl h
set_option maxHeartbeats 1000000 in
set_option maxRecDepth 100000 in
theorem token_reader.text_any (k : Nat) (g : Nat) (s : ByteArray) (i : Nat) (r : ByteArray) (w : World) (h : RD w g s i) (hi : i ≤ s.size) (hs : s.size ≤ 1000000000)
    (hd : charref_Decode.f k (s.extract i (token_reader.textTo s i)) false = some r) :
    Calls Try.prog 38 #[.pointer (some ⟨g, 0, none⟩)] w (TokE w 1 ⟨#[]⟩ [] false r (fun w' => RD w' g s (token_reader.textTo s i : Nat) ∧ Fr (· = g) w w')) := by
 have HR := Aside0.mk (h.al (.cells #[.int .i64 0, .string ⟨#[]⟩, .slice none 0 0, .bool false, .string ⟨#[]⟩] 29))
 have HGL := Aside0.mk h.lt
 have q1 := h.c1
 have hglt := h.lt
 have HD := Aside0.mk hd
 have HF : Aside0 (Fr (· = g) w (w.alloc (.cells #[.int .i64 0, .string ⟨#[]⟩, .slice none 0 0, .bool false, .string ⟨#[]⟩] 29))) := ⟨(Fr.refl _ w).alloc _⟩
 have HT := Aside0.mk (TB.new w 0 ⟨#[]⟩ (.slice none 0 0) false ⟨#[]⟩)
 clear h hd
 go_enter Try.func38, Try.ntmps38
 go_wp2
 go_loopg [] (s.size - i) (fun kq wr => ∃ (j : Nat), Aside0 (i ≤ j ∧ j ≤ s.size ∧ kq + j = s.size ∧ token_reader.textTo s j = token_reader.textTo s i) ∧ Aside0 (RD wr g s j) ∧ Aside0 (Fr (· = g) w wr) ∧ Aside0 (TB wr w.heap.size 0 ⟨#[]⟩ (.slice none 0 0) false ⟨#[]⟩))
 case atStart => exact ⟨i, ⟨Nat.le_refl _, hi, by omega, rfl⟩, HR, HF, HT⟩
 case round =>
  clear HR HF HT q1 hglt
  obtain ⟨j, HJ, HR, HF, HT⟩ := hrel
  have hjs : j ≤ s.size := HJ.out.2.1
  have hij : i ≤ j := HJ.out.1
  go_wp2_with fail
  cases hgo : (decide (j < s.size) && !(token_begins.b (s.data.toList.drop j))) with
  | true =>
   simp only [Bool.and_eq_true, decide_eq_true_eq, Bool.not_eq_true'] at hgo
   obtain ⟨hlt, hbg⟩ := hgo
   have HBG := Aside0.mk hbg
   clear hbg
   refine (token_reader.done_any g s j false (by simp; omega) _ HR.out).mono ?_
   rintro e1 w1 ⟨rfl, n1, rfl⟩
   have hR1 : RD (wr.drewN n1) g s j := HR.out
   have HR1 := Aside0.mk hR1
   clear hR1
   go_wp2_with fail
   refine (token_reader.rest_any g s j _ HR1.out hjs (by omega)).mono ?_
   rintro e1 w2 ⟨rfl, n2, rfl⟩
   go_wp2_with fail
   refine (token_begins.any (s.extract j s.size) false _ (by simp; omega) (by rw [← HBG.out]; congr 1; simp [ByteArray.data_extract, List.take_of_length_le])).mono ?_
   rintro e1 w3 ⟨rfl, n3, rfl⟩
   have c1 := HR.out.c1
   have f1 := HR.out.f 1
   have hj9 : (j : Int) ≤ 1000000000 := by omega
   go_wp2
   go_roundg (s.size - (j + 1))
   case measure => have := HJ.out; omega
   case rel =>
    have hg : (w.heap.size ≠ g) := by have := HGL.out; omega
    refine ⟨j + 1, ⟨by omega, hlt, by omega, ?_⟩, ⟨HR.out.set _⟩, ⟨(HF.out.drewN _).own 1 _⟩, ⟨HT.out.far _ _ hg⟩⟩
    rw [← HJ.out.2.2.2]; unfold token_reader.textTo
    exact (seek_go _ _ j hlt HBG.out).symm
  | false =>
   have hend : token_reader.textTo s j = j := by
    unfold token_reader.textTo
    by_cases hlt : j < s.size
    ·
     exact seek_stop _ _ j (by simpa [hlt] using hgo)
    ·
     exact seek_end _ _ j hlt
   have hTi : token_reader.textTo s i = j := by rw [← HJ.out.2.2.2]; exact hend
   have HTI := Aside0.mk hTi
   have hd := HD.out
   rw [hTi] at hd
   have HD2 := Aside0.mk hd
   clear hend hTi hd HD
   rcases Nat.lt_or_ge j s.size with hlt | hlt
   ·
    have hbg : token_begins.b (s.data.toList.drop j) = true := by simpa [hlt] using hgo
    have HBG := Aside0.mk hbg
    clear hbg hgo
    refine (token_reader.done_any g s j false (by simp; omega) _ HR.out).mono ?_
    rintro e1 w1 ⟨rfl, n1, rfl⟩
    have hR1 : RD (wr.drewN n1) g s j := HR.out
    have HR1 := Aside0.mk hR1
    clear hR1
    go_wp2_with fail
    refine (token_reader.rest_any g s j _ HR1.out hjs (by omega)).mono ?_
    rintro e1 w2 ⟨rfl, n2, rfl⟩
    go_wp2_with fail
    refine (token_begins.any (s.extract j s.size) true _ (by simp; omega) (by rw [← HBG.out]; congr 1; simp [ByteArray.data_extract, List.take_of_length_le])).mono ?_
    rintro e1 w3 ⟨rfl, n3, rfl⟩
    go_upto_region 4 with fail
    obtain ⟨w4, hw4⟩ : ∃ W, wr.drewN (n1 + n2 + n3) = W := ⟨_, rfl⟩
    have HR4 : Aside0 (RD w4 g s j) := ⟨by rw [← hw4]; exact HR.out⟩
    have HF4 : Aside0 (Fr (· = g) w w4) := ⟨by rw [← hw4]; exact HF.out.drewN _⟩
    have HT4 : Aside0 (TB w4 w.heap.size 0 ⟨#[]⟩ (.slice none 0 0) false ⟨#[]⟩) := ⟨by rw [← hw4]; exact HT.out⟩
    rw [hw4]
    clear hw4 HR HF HT
    have c0 := HR4.out.c0
    have c1 := HR4.out.c1
    have g0 : (0 : Int) ≤ (i : Int) := by omega
    have g1 : (i : Int) ≤ (j : Int) := by omega
    have g2 : (j : Int) ≤ (s.size : Int) := by omega
    have hdec : ∀ wx, Calls Try.prog 22 #[.string (s.extract i j), .bool false] wx fun e w' => e = .returned (.string r) ∧ Below wx.heap.size wx w' := fun wx => charref_Decode.calls k _ false r wx HD2.out
    go_cut [] (fun wz => Aside0 (TB wz w.heap.size 1 ⟨#[]⟩ (.slice none 0 0) false r) ∧ Aside0 (RD wz g s j) ∧ Aside0 (Fr (· = g) w wz))
    case first =>
     go_region_with
       (first
         | (go_at_call 22; refine (hdec _).mono ?_; rintro e w5 ⟨rfl, hb⟩; have hq : RD w5 g s (j : Int) := HR4.out.dr.keep hb; have k0 := hq.c0; have k1 := hq.c1; have hT5 : TB w5 w.heap.size 0 ⟨#[]⟩ (.slice none 0 0) false ⟨#[]⟩ := HT4.out.dr.keep hb; have t0 := hT5.cell 0; have t1 := hT5.cell 1; have t2 := hT5.cell 2; have t3 := hT5.cell 3; have t4 := hT5.cell 4; have u0 := hT5.free 0; have u1 := hT5.free 1; have u2 := hT5.free 2; have u3 := hT5.free 3; have u4 := hT5.free 4; have hgw : ¬ w.heap.size = g := (by have := HGL.out; omega); have hgw2 : ¬ g = w.heap.size := (by have := HGL.out; omega); simp only [List.getElem?_toArray, List.getElem?_cons_zero, List.getElem?_cons_succ] at t0 t1 t2 t3 t4; have HQ5 := Aside0.mk hq; clear hq hT5))
     all_goals
       go_wp2_with fail
       go_meet
       refine ⟨⟨put5_tb (show TB w5 w.heap.size 0 ⟨#[]⟩ (.slice none 0 0) false ⟨#[]⟩ from HT4.out.dr.keep hb) 1 ⟨#[]⟩ (.slice none 0 0) false r⟩, ⟨(put5_far w5 w.heap.size 1 ⟨#[]⟩ (.slice none 0 0) false r g hgw2).trans (HR4.out.dr.keep hb)⟩, ⟨put5_fr (HF4.out.drew.below hb) w.heap.size 1 ⟨#[]⟩ (.slice none 0 0) false r (Or.inr (Nat.le_refl _))⟩⟩
    case rest =>
     obtain ⟨HT6, HR6, HF6⟩ := hcut
     have z0 := HT6.out.cell 0
     have z1 := HT6.out.cell 1
     have z2 := HT6.out.cell 2
     have z3 := HT6.out.cell 3
     have z4 := HT6.out.cell 4
     simp only [List.getElem?_toArray, List.getElem?_cons_zero, List.getElem?_cons_succ] at z0 z1 z2 z3 z4
     go_wp2
     rw [HTI.out]
     exact bodyPost_ret (v := .agg #[.int .i64 1, .string ⟨#[]⟩, .slice none 0 0, .bool false, .string r]) (by simp [results, Try.results38, go_sem, z0, z1, z2, z3, z4]) rfl
       ⟨.slice none 0 0, rfl, Kd.R_nil _ _ _ _ _, HR6.out, HF6.out⟩
   ·
    refine (token_reader.done_any g s j true (by simp; omega) _ HR.out).mono ?_
    rintro e1 w1 ⟨rfl, n1, rfl⟩
    go_upto_region 4 with fail
    obtain ⟨w4, hw4⟩ : ∃ W, wr.drewN n1 = W := ⟨_, rfl⟩
    have HR4 : Aside0 (RD w4 g s j) := ⟨by rw [← hw4]; exact HR.out⟩
    have HF4 : Aside0 (Fr (· = g) w w4) := ⟨by rw [← hw4]; exact HF.out.drewN _⟩
    have HT4 : Aside0 (TB w4 w.heap.size 0 ⟨#[]⟩ (.slice none 0 0) false ⟨#[]⟩) := ⟨by rw [← hw4]; exact HT.out⟩
    rw [hw4]
    clear hw4 HR HF HT
    have c0 := HR4.out.c0
    have c1 := HR4.out.c1
    have g0 : (0 : Int) ≤ (i : Int) := by omega
    have g1 : (i : Int) ≤ (j : Int) := by omega
    have g2 : (j : Int) ≤ (s.size : Int) := by omega
    have hdec : ∀ wx, Calls Try.prog 22 #[.string (s.extract i j), .bool false] wx fun e w' => e = .returned (.string r) ∧ Below wx.heap.size wx w' := fun wx => charref_Decode.calls k _ false r wx HD2.out
    go_cut [] (fun wz => Aside0 (TB wz w.heap.size 1 ⟨#[]⟩ (.slice none 0 0) false r) ∧ Aside0 (RD wz g s j) ∧ Aside0 (Fr (· = g) w wz))
    case first =>
     go_region_with
       (first
         | (go_at_call 22; refine (hdec _).mono ?_; rintro e w5 ⟨rfl, hb⟩; have hq : RD w5 g s (j : Int) := HR4.out.dr.keep hb; have k0 := hq.c0; have k1 := hq.c1; have hT5 : TB w5 w.heap.size 0 ⟨#[]⟩ (.slice none 0 0) false ⟨#[]⟩ := HT4.out.dr.keep hb; have t0 := hT5.cell 0; have t1 := hT5.cell 1; have t2 := hT5.cell 2; have t3 := hT5.cell 3; have t4 := hT5.cell 4; have u0 := hT5.free 0; have u1 := hT5.free 1; have u2 := hT5.free 2; have u3 := hT5.free 3; have u4 := hT5.free 4; have hgw : ¬ w.heap.size = g := (by have := HGL.out; omega); have hgw2 : ¬ g = w.heap.size := (by have := HGL.out; omega); simp only [List.getElem?_toArray, List.getElem?_cons_zero, List.getElem?_cons_succ] at t0 t1 t2 t3 t4; have HQ5 := Aside0.mk hq; clear hq hT5))
     all_goals
       go_wp2_with fail
       go_meet
       refine ⟨⟨put5_tb (show TB w5 w.heap.size 0 ⟨#[]⟩ (.slice none 0 0) false ⟨#[]⟩ from HT4.out.dr.keep hb) 1 ⟨#[]⟩ (.slice none 0 0) false r⟩, ⟨(put5_far w5 w.heap.size 1 ⟨#[]⟩ (.slice none 0 0) false r g hgw2).trans (HR4.out.dr.keep hb)⟩, ⟨put5_fr (HF4.out.drew.below hb) w.heap.size 1 ⟨#[]⟩ (.slice none 0 0) false r (Or.inr (Nat.le_refl _))⟩⟩
    case rest =>
     obtain ⟨HT6, HR6, HF6⟩ := hcut
     have z0 := HT6.out.cell 0
     have z1 := HT6.out.cell 1
     have z2 := HT6.out.cell 2
     have z3 := HT6.out.cell 3
     have z4 := HT6.out.cell 4
     simp only [List.getElem?_toArray, List.getElem?_cons_zero, List.getElem?_cons_succ] at z0 z1 z2 z3 z4
     go_wp2
     rw [HTI.out]
     exact bodyPost_ret (v := .agg #[.int .i64 1, .string ⟨#[]⟩, .slice none 0 0, .bool false, .string r]) (by simp [results, Try.results38, go_sem, z0, z1, z2, z3, z4]) rfl
       ⟨.slice none 0 0, rfl, Kd.R_nil _ _ _ _ _, HR6.out, HF6.out⟩
/-! ### token_reader_comment: function 67 -/
mutual
def token_reader_comment.j0 : Nat → Bool → ByteArray → Int → Option (ByteArray × ByteArray × Int)
  | 0, _, _, _ => none
  | k + 1, x16, x1000, x1001 => if x16 = true then (some ((⟨#[]⟩ : ByteArray), x1000, x1001)) else ((token_reader_rest.f x1000 x1001).bind fun bt146 => (token_reader_comment.l0 k bt146.1 (bt146.1.size : Int) 0 bt146.2.1 bt146.2.2))
def token_reader_comment.l0 : Nat → ByteArray → Int → Int → ByteArray → Int → Option (ByteArray × ByteArray × Int)
  | 0, _, _, _, _, _ => none
  | k + 1, x3, x20, x21, x1000, x1001 => if x21 < x20 then ((some (([(⟨#[45, 45, 62]⟩ : ByteArray), (⟨#[45, 45, 33, 62]⟩ : ByteArray)] : List ByteArray) : List ByteArray)).bind fun y149 => (token_reader_comment.l1 k x3 x21 x20 x21 y149 (y149.length : Int) 0 x1000 x1001)) else ((some (([(⟨#[45, 45, 33]⟩ : ByteArray), (⟨#[45, 45]⟩ : ByteArray), (⟨#[45]⟩ : ByteArray)] : List ByteArray) : List ByteArray)).bind fun y154 => (token_reader_comment.l2 k x3 y154 (y154.length : Int) 0 x1000 (x1000.size : Int)))
def token_reader_comment.l1 : Nat → ByteArray → Int → Int → Int → List ByteArray → Int → Int → ByteArray → Int → Option (ByteArray × ByteArray × Int)
  | 0, _, _, _, _, _, _, _, _, _ => none
  | k + 1, x3, x4, x20, x21, x24, x25, x26, x1000, x1001 => if x26 < x25 then (if 0 ≤ x26 then (if x26 < (x24.length : Int) then (if 0 ≤ x4 then (if x4 ≤ (x3.size : Int) then ((strings_HasPrefix.f (x3.extract (x4 : Int).toNat x3.size) (rdOf ByteArray.empty x24 x26)).bind fun t153 => (if t153 = true then (some (x3.extract 0 (x4 : Int).toNat, x1000, wrap64 (x1001 + (wrap64 (x4 + ((rdOf ByteArray.empty x24 x26).size : Int)))))) else (token_reader_comment.l1 k x3 x4 x20 x21 x24 x25 (wrap64 (x26 + 1)) x1000 x1001))) else (none)) else (none)) else (none)) else (none)) else (token_reader_comment.l0 k x3 x20 (wrap64 (x21 + 1)) x1000 x1001)
def token_reader_comment.l2 : Nat → ByteArray → List ByteArray → Int → Int → ByteArray → Int → Option (ByteArray × ByteArray × Int)
  | 0, _, _, _, _, _, _ => none
  | k + 1, x3, x59, x60, x61, x1000, x1001 => if x61 < x60 then (if 0 ≤ x61 then (if x61 < (x59.length : Int) then ((strings_CutSuffix.f x3 (rdOf ByteArray.empty x59 x61)).bind fun bt158 => (if bt158.2 = true then (some (bt158.1, x1000, x1001)) else (token_reader_comment.l2 k x3 x59 x60 (wrap64 (x61 + 1)) x1000 x1001))) else (none)) else (none)) else (some (x3, x1000, x1001))
end
def token_reader_comment.f (k : Nat) (s0_0 : ByteArray) (s0_1 : Int) : Option (ByteArray × ByteArray × Int) := (token_reader_past.f s0_0 s0_1 (⟨#[62]⟩ : ByteArray)).bind fun bt140 => (if bt140.1 = true then (token_reader_comment.j0 k true bt140.2.1 bt140.2.2) else ((token_reader_past.f bt140.2.1 bt140.2.2 (⟨#[45, 62]⟩ : ByteArray)).bind fun bt143 => (token_reader_comment.j0 k bt143.1 bt143.2.1 bt143.2.2)))
theorem token_reader_comment.mono_l : ∀ k, (∀ y0 y1 y2, LeO (token_reader_comment.j0 k y0 y1 y2) (token_reader_comment.j0 (k + 1) y0 y1 y2)) ∧ (∀ y0 y1 y2 y3 y4, LeO (token_reader_comment.l0 k y0 y1 y2 y3 y4) (token_reader_comment.l0 (k + 1) y0 y1 y2 y3 y4)) ∧ (∀ y0 y1 y2 y3 y4 y5 y6 y7 y8, LeO (token_reader_comment.l1 k y0 y1 y2 y3 y4 y5 y6 y7 y8) (token_reader_comment.l1 (k + 1) y0 y1 y2 y3 y4 y5 y6 y7 y8)) ∧ (∀ y0 y1 y2 y3 y4 y5, LeO (token_reader_comment.l2 k y0 y1 y2 y3 y4 y5) (token_reader_comment.l2 (k + 1) y0 y1 y2 y3 y4 y5))
  | 0 => ⟨fun _ _ _ r h => by simp [token_reader_comment.j0] at h, fun _ _ _ _ _ r h => by simp [token_reader_comment.l0] at h, fun _ _ _ _ _ _ _ _ _ r h => by simp [token_reader_comment.l1] at h, fun _ _ _ _ _ _ r h => by simp [token_reader_comment.l2] at h⟩
  | k + 1 => by
    obtain ⟨ih0, ih1, ih2, ih3⟩ := token_reader_comment.mono_l k
    refine ⟨?_, ?_, ?_, ?_⟩
    · intro y0 y1 y2
      unfold token_reader_comment.j0
      repeat' first
      | (with_reducible exact ih0 _ _ _)
      | (with_reducible exact ih1 _ _ _ _ _)
      | (with_reducible exact ih2 _ _ _ _ _ _ _ _ _)
      | (with_reducible exact ih3 _ _ _ _ _ _)
      | (with_reducible exact LeO.refl _)
      | (with_reducible exact LeO.none _)
      | (with_reducible refine LeO.ite ?_ ?_)
      | (with_reducible refine LeO.bind ?_ (fun _ => ?_))
      | exact ih0 _ _ _
      | exact ih1 _ _ _ _ _
      | exact ih2 _ _ _ _ _ _ _ _ _
      | exact ih3 _ _ _ _ _ _
      | exact LeO.none _
      | refine LeO.ite ?_ ?_
      | refine LeO.bind ?_ (fun _ => ?_)
    · intro y0 y1 y2 y3 y4
      unfold token_reader_comment.l0
      repeat' first
      | (with_reducible exact ih0 _ _ _)
      | (with_reducible exact ih1 _ _ _ _ _)
      | (with_reducible exact ih2 _ _ _ _ _ _ _ _ _)
      | (with_reducible exact ih3 _ _ _ _ _ _)
      | (with_reducible exact LeO.refl _)
      | (with_reducible exact LeO.none _)
      | (with_reducible refine LeO.ite ?_ ?_)
      | (with_reducible refine LeO.bind ?_ (fun _ => ?_))
      | exact ih0 _ _ _
      | exact ih1 _ _ _ _ _
      | exact ih2 _ _ _ _ _ _ _ _ _
      | exact ih3 _ _ _ _ _ _
      | exact LeO.none _
      | refine LeO.ite ?_ ?_
      | refine LeO.bind ?_ (fun _ => ?_)
    · intro y0 y1 y2 y3 y4 y5 y6 y7 y8
      unfold token_reader_comment.l1
      repeat' first
      | (with_reducible exact ih0 _ _ _)
      | (with_reducible exact ih1 _ _ _ _ _)
      | (with_reducible exact ih2 _ _ _ _ _ _ _ _ _)
      | (with_reducible exact ih3 _ _ _ _ _ _)
      | (with_reducible exact LeO.refl _)
      | (with_reducible exact LeO.none _)
      | (with_reducible refine LeO.ite ?_ ?_)
      | (with_reducible refine LeO.bind ?_ (fun _ => ?_))
      | exact ih0 _ _ _
      | exact ih1 _ _ _ _ _
      | exact ih2 _ _ _ _ _ _ _ _ _
      | exact ih3 _ _ _ _ _ _
      | exact LeO.none _
      | refine LeO.ite ?_ ?_
      | refine LeO.bind ?_ (fun _ => ?_)
    · intro y0 y1 y2 y3 y4 y5
      unfold token_reader_comment.l2
      repeat' first
      | (with_reducible exact ih0 _ _ _)
      | (with_reducible exact ih1 _ _ _ _ _)
      | (with_reducible exact ih2 _ _ _ _ _ _ _ _ _)
      | (with_reducible exact ih3 _ _ _ _ _ _)
      | (with_reducible exact LeO.refl _)
      | (with_reducible exact LeO.none _)
      | (with_reducible refine LeO.ite ?_ ?_)
      | (with_reducible refine LeO.bind ?_ (fun _ => ?_))
      | exact ih0 _ _ _
      | exact ih1 _ _ _ _ _
      | exact ih2 _ _ _ _ _ _ _ _ _
      | exact ih3 _ _ _ _ _ _
      | exact LeO.none _
      | refine LeO.ite ?_ ?_
      | refine LeO.bind ?_ (fun _ => ?_)
theorem token_reader_comment.mono : ∀ a0 a1 k, LeO (token_reader_comment.f k a0 a1) (token_reader_comment.f (k + 1) a0 a1) := by
 intro a0 a1 k
 obtain ⟨ih0, ih1, ih2, ih3⟩ := token_reader_comment.mono_l k
 unfold token_reader_comment.f
 repeat' first
     | (with_reducible exact ih0 _ _ _)
     | (with_reducible exact ih1 _ _ _ _ _)
     | (with_reducible exact ih2 _ _ _ _ _ _ _ _ _)
     | (with_reducible exact ih3 _ _ _ _ _ _)
     | (with_reducible exact LeO.refl _)
     | (with_reducible exact LeO.none _)
     | (with_reducible refine LeO.ite ?_ ?_)
     | (with_reducible refine LeO.bind ?_ (fun _ => ?_))
     | exact ih0 _ _ _
     | exact ih1 _ _ _ _ _
     | exact ih2 _ _ _ _ _ _ _ _ _
     | exact ih3 _ _ _ _ _ _
     | exact LeO.none _
     | refine LeO.ite ?_ ?_
     | refine LeO.bind ?_ (fun _ => ?_)
set_option maxHeartbeats 8000000 in
set_option maxRecDepth 100000 in
theorem token_reader_comment.calls (k : Nat) (g : Nat) (s0_0 : ByteArray) (s0_1 : Int) (r1 : ByteArray) (r2 : ByteArray) (r3 : Int) (w0 w : World) (hI : IsS48 w0 w g s0_0 s0_1) (hB : Below w0.heap.size w0 w) (h : token_reader_comment.f k s0_0 s0_1 = some (r1, r2, r3)) :
    Calls Try.prog 67 #[.pointer (some ⟨g, 0, none⟩)] w fun e w' => e = .returned (.string r1) ∧ IsS48 w0 w' g r2 r3 ∧ Below w0.heap.size w0 w' ∧ KeepBut w w' g none := by
 have HI0 := Aside0.mk hI
 have HK := Aside0.mk (KeepBut.refl w g none)
 have HL := Aside0.mk hB.size
 clear hI
 have HW0 := Aside0.mk hB.size
 have HB := Aside0.mk hB
 clear hB
 have H : ((token_reader_past.f s0_0 s0_1 (⟨#[62]⟩ : ByteArray)).bind fun bt140 => (if bt140.1 = true then (token_reader_comment.j0 k true bt140.2.1 bt140.2.2) else ((token_reader_past.f bt140.2.1 bt140.2.2 (⟨#[45, 62]⟩ : ByteArray)).bind fun bt143 => (token_reader_comment.j0 k bt143.1 bt143.2.1 bt143.2.2)))) = some (r1, r2, r3) := h
 clear h
 have HC2 := Aside0.mk H
 clear H
 go_enter Try.func67, Try.ntmps67
 go_upto_region 1 with (fail)
 go_cut [16] (fun v16 wc => ∃ (kq : Nat) (x16_1 : Bool) (x1000_1 : ByteArray) (x1001_1 : Int), v16 = .bool x16_1 ∧ Aside0 (token_reader_comment.j0 kq x16_1 x1000_1 x1001_1 = some (r1, r2, r3)) ∧ Aside0 (kq ≤ k) ∧ Aside0 (IsS48 w0 wc g x1000_1 x1001_1) ∧ Aside0 (KeepBut w wc g none) ∧ Aside0 (Below w0.heap.size w0 wc))
 case first =>
  have H := HC2.out
  clear HC2
  replace H := Option.bind_eq_some_iff.mp H
  obtain ⟨⟨t140, t141, t142⟩, A30, H⟩ := H
  replace H : (if t140 = true then (token_reader_comment.j0 k true t141 t142) else ((token_reader_past.f t141 t142 (⟨#[45, 62]⟩ : ByteArray)).bind fun bt143 => (token_reader_comment.j0 k bt143.1 bt143.2.1 bt143.2.2))) = some (r1, r2, r3) := H
  have A3 := Aside0.mk A30
  clear A30
  by_cases c4 : t140 = true
  ·
   subst c4
   have H1 : (token_reader_comment.j0 k true t141 t142) = some (r1, r2, r3) := by rw [if_pos rfl] at H; exact H
   clear H
   have H := H1
   clear H1
   have H' := Aside0.mk H
   clear H
   go_wp2_with (first | ((with_reducible refine gate_callee (f := 39) rfl ?_); refine goesL_ (some 12) rfl rfl Try.func39 (by kernel_rfl) rfl #[.pointer (some ⟨g, 0, none⟩), .string (⟨#[62]⟩ : ByteArray)] rfl (by (try simp only [List.map_toArray, List.map_cons, List.map_nil]); first | done | rfl | (simp only [List.length_drop, List.length_take]; rfl)) ?_; (with_reducible refine (token_reader_past.calls g s0_0 s0_1 (⟨#[62]⟩ : ByteArray) true t141 t142 w0 _ ?side1 ?side2 A3.out).mono ?_); (case side1 => repeat (first | (with_reducible first | exact HI0.out | apply IsS48.alloc | apply IsS48.drewN | apply IsS48.drew | apply IsS48.set_0 | apply IsS48.set_1) | exact HI0.out)); (case side2 => repeat (first | (with_reducible first | exact HB.out | apply below_alloc | apply pw_below_drewN | apply below_drew1 | refine below_set ?_ (IsS48.ge HI0.out)) | exact HB.out)); rintro e w5 ⟨rfl, hi, hb, hk⟩; refine ⟨_, rfl, ?_⟩; have n0_ := Aside0.mk (KeepBut.trans (by repeat (first | (with_reducible first | exact HK.out | apply KeepBut.set_ | apply keep_drewN | apply keep_drew | apply keep_alloc) | exact HK.out)) hk (.inl rfl)); have n1_ := Aside0.mk (hb); have n2_ := Aside0.mk (hi); clear HK; clear HB; clear HI0; have HK := n0_; have HB := n1_; have HI0 := n2_; clear n0_ n1_ n2_; (try clear hb); (try clear hb2); (try clear hk); (try clear hi)))
   go_meet
   case rel => exact ⟨_, (true), (t141), (t142), (by first | rfl | (simp; done) | (simp [*]; done)), H', ⟨by first | omega | exact Nat.le_refl _⟩, ⟨by repeat (first | (with_reducible first | exact HI0.out | apply IsS48.alloc | apply IsS48.drewN | apply IsS48.drew | apply IsS48.set_0 | apply IsS48.set_1) | exact HI0.out)⟩, ⟨by repeat (first | (with_reducible first | exact HK.out | apply KeepBut.set_ | apply keep_drewN | apply keep_drew | apply keep_alloc) | exact HK.out)⟩, ⟨by repeat (first | (with_reducible first | exact HB.out | apply below_alloc | apply pw_below_drewN | apply below_drew1 | refine below_set ?_ (IsS48.ge HI0.out)) | exact HB.out)⟩⟩
  ·
   replace c4 := Bool.eq_false_iff.mpr c4
   subst c4
   have H1 : ((token_reader_past.f t141 t142 (⟨#[45, 62]⟩ : ByteArray)).bind fun bt143 => (token_reader_comment.j0 k bt143.1 bt143.2.1 bt143.2.2)) = some (r1, r2, r3) := by rw [if_neg (show ¬ (false = true) by decide)] at H; exact H
   clear H
   have H := H1
   clear H1
   replace H := Option.bind_eq_some_iff.mp H
   obtain ⟨⟨t143, t144, t145⟩, A60, H⟩ := H
   replace H : (token_reader_comment.j0 k t143 t144 t145) = some (r1, r2, r3) := H
   have A6 := Aside0.mk A60
   clear A60
   have H' := Aside0.mk H
   clear H
   go_wp2_with (first | ((with_reducible refine gate_callee (f := 39) rfl ?_); refine goesL_ (some 12) rfl rfl Try.func39 (by kernel_rfl) rfl #[.pointer (some ⟨g, 0, none⟩), .string (⟨#[62]⟩ : ByteArray)] rfl (by (try simp only [List.map_toArray, List.map_cons, List.map_nil]); first | done | rfl | (simp only [List.length_drop, List.length_take]; rfl)) ?_; (with_reducible refine (token_reader_past.calls g s0_0 s0_1 (⟨#[62]⟩ : ByteArray) false t141 t142 w0 _ ?side1 ?side2 A3.out).mono ?_); (case side1 => repeat (first | (with_reducible first | exact HI0.out | apply IsS48.alloc | apply IsS48.drewN | apply IsS48.drew | apply IsS48.set_0 | apply IsS48.set_1) | exact HI0.out)); (case side2 => repeat (first | (with_reducible first | exact HB.out | apply below_alloc | apply pw_below_drewN | apply below_drew1 | refine below_set ?_ (IsS48.ge HI0.out)) | exact HB.out)); rintro e w7 ⟨rfl, hi, hb, hk⟩; refine ⟨_, rfl, ?_⟩; have n0_ := Aside0.mk (KeepBut.trans (by repeat (first | (with_reducible first | exact HK.out | apply KeepBut.set_ | apply keep_drewN | apply keep_drew | apply keep_alloc) | exact HK.out)) hk (.inl rfl)); have n1_ := Aside0.mk (hb); have n2_ := Aside0.mk (hi); clear HK; clear HB; clear HI0; have HK := n0_; have HB := n1_; have HI0 := n2_; clear n0_ n1_ n2_; (try clear hb); (try clear hb2); (try clear hk); (try clear hi)) | (go_at_call 39; (with_reducible refine (token_reader_past.calls g t141 t142 (⟨#[45, 62]⟩ : ByteArray) t143 t144 t145 w0 _ ?side1 ?side2 A6.out).mono ?_); (case side1 => repeat (first | (with_reducible first | exact HI0.out | apply IsS48.alloc | apply IsS48.drewN | apply IsS48.drew | apply IsS48.set_0 | apply IsS48.set_1) | exact HI0.out)); (case side2 => repeat (first | (with_reducible first | exact HB.out | apply below_alloc | apply pw_below_drewN | apply below_drew1 | refine below_set ?_ (IsS48.ge HI0.out)) | exact HB.out)); rintro e w8 ⟨rfl, hi, hb, hk⟩; have n0_ := Aside0.mk (KeepBut.trans (by repeat (first | (with_reducible first | exact HK.out | apply KeepBut.set_ | apply keep_drewN | apply keep_drew | apply keep_alloc) | exact HK.out)) hk (.inl rfl)); have n1_ := Aside0.mk (hb); have n2_ := Aside0.mk (hi); clear HK; clear HB; clear HI0; have HK := n0_; have HB := n1_; have HI0 := n2_; clear n0_ n1_ n2_; (try clear hb); (try clear hb2); (try clear hk); (try clear hi)))
   go_meet
   case rel => exact ⟨_, (t143), (t144), (t145), (by first | rfl | (simp; done) | (simp [*]; done)), H', ⟨by first | omega | exact Nat.le_refl _⟩, ⟨by repeat (first | (with_reducible first | exact HI0.out | apply IsS48.alloc | apply IsS48.drewN | apply IsS48.drew | apply IsS48.set_0 | apply IsS48.set_1) | exact HI0.out)⟩, ⟨by repeat (first | (with_reducible first | exact HK.out | apply KeepBut.set_ | apply keep_drewN | apply keep_drew | apply keep_alloc) | exact HK.out)⟩, ⟨by repeat (first | (with_reducible first | exact HB.out | apply below_alloc | apply pw_below_drewN | apply below_drew1 | refine below_set ?_ (IsS48.ge HI0.out)) | exact HB.out)⟩⟩
 case rest =>
  clear HC2
  try clear p2
  try clear c3
  try clear c4
  try clear c6
  obtain ⟨kq, x16_1, x1000_1, x1001_1, rfl, HA, HJ1, HI0, HK, HB⟩ := hcut
  cases kq with
  | zero => exact absurd HA.out (by simp [token_reader_comment.j0])
  | succ kj1 =>
   have H := HA.out
   clear HA
   simp only [token_reader_comment.j0] at H
   by_cases c9 : x16_1 = true
   ·
    subst c9
    have H1 : (some ((⟨#[]⟩ : ByteArray), x1000_1, x1001_1)) = some (r1, r2, r3) := by rw [if_pos rfl] at H; exact H
    clear H
    have H := H1
    clear H1
    simp only [Option.some.injEq, Prod.mk.injEq] at H
    obtain ⟨rfl, rfl, rfl⟩ := H
    go_wp2
    go_ret
    exact ⟨by first | rfl | (simp [errW_none, errW_some] <;> rfl) | (simp [*, errW_none, errW_some] <;> rfl), by repeat (first | (with_reducible first | exact HI0.out | apply IsS48.alloc | apply IsS48.drewN | apply IsS48.drew | apply IsS48.set_0 | apply IsS48.set_1) | exact HI0.out), by repeat (first | (with_reducible first | exact HB.out | apply below_alloc | apply pw_below_drewN | apply below_drew1 | refine below_set ?_ (IsS48.ge HI0.out)) | exact HB.out), by repeat (first | (with_reducible first | exact HK.out | apply KeepBut.set_ | apply keep_drewN | apply keep_drew | apply keep_alloc) | exact HK.out)⟩
   ·
    replace c9 := Bool.eq_false_iff.mpr c9
    subst c9
    have H1 : ((token_reader_rest.f x1000_1 x1001_1).bind fun bt146 => (token_reader_comment.l0 kj1 bt146.1 (bt146.1.size : Int) 0 bt146.2.1 bt146.2.2)) = some (r1, r2, r3) := by rw [if_neg (show ¬ (false = true) by decide)] at H; exact H
    clear H
    have H := H1
    clear H1
    replace H := Option.bind_eq_some_iff.mp H
    obtain ⟨⟨t146, t147, t148⟩, A100, H⟩ := H
    replace H : (token_reader_comment.l0 kj1 t146 (t146.size : Int) 0 t147 t148) = some (r1, r2, r3) := H
    have A10 := Aside0.mk A100
    clear A100
    have H' := Aside0.mk H
    clear H
    go_wp2_with (first | ((with_reducible refine gate_callee (f := 31) rfl ?_); refine goesL_ (some 18) rfl rfl Try.func31 (by kernel_rfl) rfl #[.pointer (some ⟨g, 0, none⟩)] rfl (by (try simp only [List.map_toArray, List.map_cons, List.map_nil]); first | done | rfl | (simp only [List.length_drop, List.length_take]; rfl)) ?_; (with_reducible refine (token_reader_rest.calls g x1000_1 x1001_1 t146 t147 t148 w0 _ ?side1 ?side2 A10.out).mono ?_); (case side1 => repeat (first | (with_reducible first | exact HI0.out | apply IsS48.alloc | apply IsS48.drewN | apply IsS48.drew | apply IsS48.set_0 | apply IsS48.set_1) | exact HI0.out)); (case side2 => repeat (first | (with_reducible first | exact HB.out | apply below_alloc | apply pw_below_drewN | apply below_drew1 | refine below_set ?_ (IsS48.ge HI0.out)) | exact HB.out)); rintro e w11 ⟨rfl, hi, hb, hk⟩; refine ⟨_, rfl, ?_⟩; have n0_ := Aside0.mk (KeepBut.trans (by repeat (first | (with_reducible first | exact HK.out | apply KeepBut.set_ | apply keep_drewN | apply keep_drew | apply keep_alloc) | exact HK.out)) hk (.inl rfl)); have n1_ := Aside0.mk (hb); have n2_ := Aside0.mk (hi); clear HK; clear HB; clear HI0; have HK := n0_; have HB := n1_; have HI0 := n2_; clear n0_ n1_ n2_; (try clear hb); (try clear hb2); (try clear hk); (try clear hi)))
    go_loopg [21] kj1 (fun kq v21 w' => ∃ (x21_2 : Int) (x1001_2 : Int), v21 = .int .i64 x21_2 ∧ Aside0 (token_reader_comment.l0 kq t146 (t146.size : Int) x21_2 t147 x1001_2 = some (r1, r2, r3)) ∧ Aside0 (kq ≤ kj1) ∧ Aside0 (IsS48 w0 w' g t147 x1001_2) ∧ Aside0 (KeepBut w w' g none) ∧ Aside0 (Below w0.heap.size w0 w'))
    case atStart => exact ⟨(0), (t148), (by first | rfl | (simp; done) | (simp [*]; done)), H', ⟨Nat.le_refl _⟩, ⟨by repeat (first | (with_reducible first | exact HI0.out | apply IsS48.alloc | apply IsS48.drewN | apply IsS48.drew | apply IsS48.set_0 | apply IsS48.set_1) | exact HI0.out)⟩, ⟨by repeat (first | (with_reducible first | exact HK.out | apply KeepBut.set_ | apply keep_drewN | apply keep_drew | apply keep_alloc) | exact HK.out)⟩, ⟨by repeat (first | (with_reducible first | exact HB.out | apply below_alloc | apply pw_below_drewN | apply below_drew1 | refine below_set ?_ (IsS48.ge HI0.out)) | exact HB.out)⟩⟩
    case round =>
     clear H'
     try clear p2
     try clear c3
     try clear c4
     try clear c6
     try clear c9
     try clear p2
     obtain ⟨x21_2, x1001_2, rfl, HA, HK2, HI0, HK, HB⟩ := hrel
     cases gk with
     | zero => exact absurd HA.out (by simp [token_reader_comment.l0])
     | succ k2 =>
      have H := HA.out
      clear HA
      simp only [token_reader_comment.l0] at H
      by_cases c12 : x21_2 < (t146.size : Int)
      ·
       rw [if_pos c12] at H
       have c12b0 : decide (x21_2 < (t146.size : Int)) = true := decide_eq_true c12
       clear c12
       obtain ⟨y149, hy149⟩ : ∃ y_ : List ByteArray, y_ = (([(⟨#[45, 45, 62]⟩ : ByteArray), (⟨#[45, 45, 33, 62]⟩ : ByteArray)] : List ByteArray)) := ⟨_, rfl⟩
       replace H : (token_reader_comment.l1 k2 t146 x21_2 (t146.size : Int) x21_2 y149 (y149.length : Int) 0 t147 x1001_2) = some (r1, r2, r3) := by first | (rw [hy149]; with_reducible exact H) | (have H2_ := (Option.bind_some _ _).symm.trans H; rw [hy149]; with_reducible exact H2_) | (have H2_ := (Option.bind_some _ _).symm.trans H; with_reducible exact H2_) | with_reducible exact H | (rw [hy149]; exact H) | exact H
       have Ny149 := Aside0.mk hy149
       clear hy149
       have H' := Aside0.mk H
       clear H
       go_wp2_with (first | ((with_reducible refine gate_dst (N := 24) rfl ?_); refine Kd.R_lit Kd.string _ 9 ?hg (N := 24) ?hd (xs := ([(⟨#[45, 45, 62]⟩ : ByteArray), (⟨#[45, 45, 33, 62]⟩ : ByteArray)] : List ByteArray)) (inner := [.string (⟨#[45, 45, 62]⟩ : ByteArray), .string (⟨#[45, 45, 33, 62]⟩ : ByteArray)]) (ok := fun _ => True) (okp := fun _ => True) ?hr ?hp (fun _ hk => hk) trivial (Below.refl _ _) (Nat.le_refl _) (by simp) ?_; (case hd => rfl); (case hg => rfl); (case hr => first | (go_simp; done) | (go_simp; rfl)); (case hp => exact (Reps.one (show Kd.M Kd.string _ _ _ (⟨#[45, 45, 62]⟩ : ByteArray) [.string (⟨#[45, 45, 62]⟩ : ByteArray)] from rfl) (Reps.one (show Kd.M Kd.string _ _ _ (⟨#[45, 45, 33, 62]⟩ : ByteArray) [.string (⟨#[45, 45, 33, 62]⟩ : ByteArray)] from rfl) (Reps.none _ _)))); intro v150 w13 ho14 hb hg_ hnew_; clear hg_ hnew_; (first | rw [← Ny149.out] at ho14 | (simp only [Int.reduceToNat] at ho14; rw [← Ny149.out] at ho14)); have n0_ := Aside0.mk (Kd.R_lower ho14 (keep_size (w := w) (g := g) (row := none) (by repeat (first | (with_reducible first | exact HK.out | apply KeepBut.set_ | apply keep_drewN | apply keep_drew | apply keep_alloc) | exact HK.out)))); have n1_ := Aside0.mk (IsS48.below (by repeat (first | (with_reducible first | exact HI0.out | apply IsS48.alloc | apply IsS48.drewN | apply IsS48.drew | apply IsS48.set_0 | apply IsS48.set_1) | exact HI0.out)) hb); have n2_ := Aside0.mk (KeepBut.trans (by repeat (first | (with_reducible first | exact HK.out | apply KeepBut.set_ | apply keep_drewN | apply keep_drew | apply keep_alloc) | exact HK.out)) (KeepBut.of_below hb g none) (.inl rfl)); have n3_ := Aside0.mk (below_step (by repeat (first | (with_reducible first | exact HB.out | apply below_alloc | apply pw_below_drewN | apply below_drew1 | refine below_set ?_ (IsS48.ge HI0.out)) | exact HB.out)) hb); clear HI0; clear HK; clear HB; have HO151 := n0_; have HI0 := n1_; have HK := n2_; have HB := n3_; clear n0_ n1_ n2_ n3_; clear hb ho14; obtain ⟨Ao15, co15, eo15⟩ := Kd.R_slice HO151.out; subst eo15))
       go_loopg [26] k2 (fun kq v26 w' => ∃ (x26_3 : Int) (x1001_3 : Int), v26 = .int .i64 x26_3 ∧ Aside0 (token_reader_comment.l1 kq t146 x21_2 (t146.size : Int) x21_2 y149 (y149.length : Int) x26_3 t147 x1001_3 = some (r1, r2, r3)) ∧ Aside0 (kq ≤ k2) ∧ Aside0 (Kd.R Kd.string 9 w' w.heap.size (fun _ => True) (.slice Ao15 y149.length co15) y149) ∧ Aside0 (IsS48 w0 w' g t147 x1001_3) ∧ Aside0 (KeepBut w w' g none) ∧ Aside0 (Below w0.heap.size w0 w'))
       case atStart => exact ⟨(0), (x1001_2), (by first | rfl | (simp; done) | (simp [*]; done)), H', ⟨Nat.le_refl _⟩, ⟨by (with_reducible repeat (first | apply Kd.R_alloc | apply Kd.R_drewN | apply Kd.R_drew)); exact HO151.out⟩, ⟨by repeat (first | (with_reducible first | exact HI0.out | apply IsS48.alloc | apply IsS48.drewN | apply IsS48.drew | apply IsS48.set_0 | apply IsS48.set_1) | exact HI0.out)⟩, ⟨by repeat (first | (with_reducible first | exact HK.out | apply KeepBut.set_ | apply keep_drewN | apply keep_drew | apply keep_alloc) | exact HK.out)⟩, ⟨by repeat (first | (with_reducible first | exact HB.out | apply below_alloc | apply pw_below_drewN | apply below_drew1 | refine below_set ?_ (IsS48.ge HI0.out)) | exact HB.out)⟩⟩
       case round =>
        clear H'
        try clear c1
        try clear p2
        try clear c3
        try clear c4
        try clear c6
        try clear c9
        try clear c12
        try clear c12b0
        try clear p2
        obtain ⟨x26_3, x1001_3, rfl, HA, HK3, HO_24, HI0, HK, HB⟩ := hrel
        cases gk with
        | zero => exact absurd HA.out (by simp [token_reader_comment.l1])
        | succ k3 =>
         have H := HA.out
         clear HA
         simp only [token_reader_comment.l1] at H
         by_cases c16 : x26_3 < (y149.length : Int)
         ·
          rw [if_pos c16] at H
          have c16b0 : decide (x26_3 < (y149.length : Int)) = true := decide_eq_true c16
          clear c16
          by_cases c17 : 0 ≤ x26_3
          ·
           rw [if_pos c17] at H
           have c17b0 : decide (0 ≤ x26_3) = true := decide_eq_true c17
           clear c17
           by_cases c18 : x26_3 < (y149.length : Int)
           ·
            rw [if_pos c18] at H
            have c18b0 : decide (x26_3 < (y149.length : Int)) = true := decide_eq_true c18
            clear c18
            by_cases c19 : 0 ≤ x21_2
            ·
             rw [if_pos c19] at H
             have c19b0 := eq_true c19
             have c19b1 : decide (0 ≤ x21_2) = true := decide_eq_true c19
             clear c19
             by_cases c20 : x21_2 ≤ (t146.size : Int)
             ·
              rw [if_pos c20] at H
              have c20b0 := eq_true c20
              have c20b1 : decide (x21_2 ≤ (t146.size : Int)) = true := decide_eq_true c20
              clear c20
              replace H := Option.bind_eq_some_iff.mp H
              obtain ⟨t153, A210, H⟩ := H
              replace H : (if t153 = true then (some (t146.extract 0 (x21_2 : Int).toNat, t147, wrap64 (x1001_3 + (wrap64 (x21_2 + ((rdOf ByteArray.empty y149 x26_3).size : Int)))))) else (token_reader_comment.l1 k3 t146 x21_2 (t146.size : Int) x21_2 y149 (y149.length : Int) (wrap64 (x26_3 + 1)) t147 x1001_3)) = some (r1, r2, r3) := H
              have A21 := Aside0.mk A210
              clear A210
              by_cases c22 : t153 = true
              ·
               subst c22
               have H1 : (some (t146.extract 0 (x21_2 : Int).toNat, t147, wrap64 (x1001_3 + (wrap64 (x21_2 + ((rdOf ByteArray.empty y149 x26_3).size : Int)))))) = some (r1, r2, r3) := by rw [if_pos rfl] at H; exact H
               clear H
               have H := H1
               clear H1
               have c23b0 := eq_true (of_decide_eq_true (by first | (with_reducible assumption) | assumption) : 0 ≤ x21_2)
               have c24b0 := eq_true (of_decide_eq_true (by first | (with_reducible assumption) | assumption) : x21_2 ≤ (t146.size : Int))
               simp only [Option.some.injEq, Prod.mk.injEq] at H
               obtain ⟨rfl, rfl, rfl⟩ := H
               have p152 : 0 ≤ (x26_3 : Int) := of_decide_eq_true (by first | (with_reducible assumption) | assumption)
               have q152 : x26_3 < (y149.length : Int) := of_decide_eq_true (by first | (with_reducible assumption) | assumption)
               obtain ⟨ad152, e152, hx152_0⟩ := Kd.at_string (Kd.R_reads' HO_24.out).2.2 x26_3 p152 q152
               cases e152
               replace p152 := eq_true p152
               replace q152 := eq_true q152
               go_wp2_with (first | ((with_reducible refine gate_callee (f := 65) rfl ?_); refine goesL_ (some 34) rfl rfl Try.func65 (by kernel_rfl) rfl #[.string (t146.extract (x21_2 : Int).toNat t146.size), .string (rdOf ByteArray.empty y149 x26_3)] rfl (by (try simp only [List.map_toArray, List.map_cons, List.map_nil]); first | done | rfl | (simp only [List.length_drop, List.length_take]; rfl)) ?_; (with_reducible refine (strings_HasPrefix.calls (t146.extract (x21_2 : Int).toNat t146.size) (rdOf ByteArray.empty y149 x26_3) true _ A21.out).mono ?_); rintro e w' ⟨rfl, ⟨nd, rfl⟩⟩; refine ⟨_, rfl, ?_⟩; (try (rw [drewN_self wr]; generalize hq_ : World.drewN wr _ = wr; have n0_ : Aside0 (Kd.R Kd.string 9 wr w.heap.size (fun _ => True) (.slice (some ad152) y149.length co15) y149) := ⟨by rw [← hq_]; exact (by (with_reducible repeat (first | apply Kd.R_alloc | apply Kd.R_drewN | apply Kd.R_drew)); exact HO_24.out)⟩; have n1_ : Aside0 (IsS48 w0 wr g t147 x1001_3) := ⟨by rw [← hq_]; exact (by repeat (first | (with_reducible first | exact HI0.out | apply IsS48.alloc | apply IsS48.drewN | apply IsS48.drew | apply IsS48.set_0 | apply IsS48.set_1) | exact HI0.out))⟩; have n2_ : Aside0 (KeepBut w wr g none) := ⟨by rw [← hq_]; exact (by repeat (first | (with_reducible first | exact HK.out | apply KeepBut.set_ | apply keep_drewN | apply keep_drew | apply keep_alloc) | exact HK.out))⟩; have n3_ : Aside0 (Below w0.heap.size w0 wr) := ⟨by rw [← hq_]; exact (by repeat (first | (with_reducible first | exact HB.out | apply below_alloc | apply pw_below_drewN | apply below_drew1 | refine below_set ?_ (IsS48.ge HI0.out)) | exact HB.out))⟩; clear HO_24 HI0 HK HB hq_; have HO_24 := n0_; have HI0 := n1_; have HK := n2_; have HB := n3_; clear n0_ n1_ n2_ n3_)); obtain ⟨HGz25, hgz25⟩ := HI0.out; have hcz25_0 := cellS48_0 HGz25; have hcz25_1 := cellS48_1 HGz25; have hfz25_0 := blk_frozen HGz25 0; have hfz25_1 := blk_frozen HGz25 1; clear HGz25 hgz25))
               go_ret
               exact ⟨by first | rfl | (simp [errW_none, errW_some] <;> rfl) | (simp [*, errW_none, errW_some] <;> rfl), by repeat (first | (with_reducible first | exact HI0.out | apply IsS48.alloc | apply IsS48.drewN | apply IsS48.drew | apply IsS48.set_0 | apply IsS48.set_1) | exact HI0.out), by repeat (first | (with_reducible first | exact HB.out | apply below_alloc | apply pw_below_drewN | apply below_drew1 | refine below_set ?_ (IsS48.ge HI0.out)) | exact HB.out), by repeat (first | (with_reducible first | exact HK.out | apply KeepBut.set_ | apply keep_drewN | apply keep_drew | apply keep_alloc) | exact HK.out)⟩
              ·
               replace c22 := Bool.eq_false_iff.mpr c22
               subst c22
               have H1 : (token_reader_comment.l1 k3 t146 x21_2 (t146.size : Int) x21_2 y149 (y149.length : Int) (wrap64 (x26_3 + 1)) t147 x1001_3) = some (r1, r2, r3) := by rw [if_neg (show ¬ (false = true) by decide)] at H; exact H
               clear H
               have H := H1
               clear H1
               have H' := Aside0.mk H
               clear H
               have p152 : 0 ≤ (x26_3 : Int) := of_decide_eq_true (by first | (with_reducible assumption) | assumption)
               have q152 : x26_3 < (y149.length : Int) := of_decide_eq_true (by first | (with_reducible assumption) | assumption)
               obtain ⟨ad152, e152, hx152_0⟩ := Kd.at_string (Kd.R_reads' HO_24.out).2.2 x26_3 p152 q152
               cases e152
               replace p152 := eq_true p152
               replace q152 := eq_true q152
               go_wp2_with (first | ((with_reducible refine gate_callee (f := 65) rfl ?_); refine goesL_ (some 34) rfl rfl Try.func65 (by kernel_rfl) rfl #[.string (t146.extract (x21_2 : Int).toNat t146.size), .string (rdOf ByteArray.empty y149 x26_3)] rfl (by (try simp only [List.map_toArray, List.map_cons, List.map_nil]); first | done | rfl | (simp only [List.length_drop, List.length_take]; rfl)) ?_; (with_reducible refine (strings_HasPrefix.calls (t146.extract (x21_2 : Int).toNat t146.size) (rdOf ByteArray.empty y149 x26_3) false _ A21.out).mono ?_); rintro e w' ⟨rfl, ⟨nd, rfl⟩⟩; refine ⟨_, rfl, ?_⟩))
               go_roundg k3
               case measure => have := HJ1.out; have := HK2.out; have := HK3.out; omega
               case rel => exact ⟨(wrap64 (x26_3 + 1)), (x1001_3), (by first | rfl | (simp; done) | (simp [*]; done)), H', ⟨by have := HJ1.out; have := HK2.out; have := HK3.out; omega⟩, ⟨by (with_reducible repeat (first | apply Kd.R_alloc | apply Kd.R_drewN | apply Kd.R_drew)); exact HO_24.out⟩, ⟨by repeat (first | (with_reducible first | exact HI0.out | apply IsS48.alloc | apply IsS48.drewN | apply IsS48.drew | apply IsS48.set_0 | apply IsS48.set_1) | exact HI0.out)⟩, ⟨by repeat (first | (with_reducible first | exact HK.out | apply KeepBut.set_ | apply keep_drewN | apply keep_drew | apply keep_alloc) | exact HK.out)⟩, ⟨by repeat (first | (with_reducible first | exact HB.out | apply below_alloc | apply pw_below_drewN | apply below_drew1 | refine below_set ?_ (IsS48.ge HI0.out)) | exact HB.out)⟩⟩
             ·
              rw [if_neg c20] at H
              exact absurd H (by simp)
            ·
             rw [if_neg c19] at H
             exact absurd H (by simp)
           ·
            rw [if_neg c18] at H
            exact absurd H (by simp)
          ·
           rw [if_neg c17] at H
           exact absurd H (by simp)
         ·
          rw [if_neg c16] at H
          have c16b0 : decide (x26_3 < (y149.length : Int)) = false := decide_eq_false c16
          clear c16
          have H' := Aside0.mk H
          clear H
          go_wp2
          go_roundg k3
          case measure => have := HJ1.out; have := HK2.out; have := HK3.out; omega
          case rel => exact ⟨(wrap64 (x21_2 + 1)), (x1001_3), (by first | rfl | (simp; done) | (simp [*]; done)), H', ⟨by have := HJ1.out; have := HK2.out; have := HK3.out; omega⟩, ⟨by repeat (first | (with_reducible first | exact HI0.out | apply IsS48.alloc | apply IsS48.drewN | apply IsS48.drew | apply IsS48.set_0 | apply IsS48.set_1) | exact HI0.out)⟩, ⟨by repeat (first | (with_reducible first | exact HK.out | apply KeepBut.set_ | apply keep_drewN | apply keep_drew | apply keep_alloc) | exact HK.out)⟩, ⟨by repeat (first | (with_reducible first | exact HB.out | apply below_alloc | apply pw_below_drewN | apply below_drew1 | refine below_set ?_ (IsS48.ge HI0.out)) | exact HB.out)⟩⟩
      ·
       rw [if_neg c12] at H
       have c12b0 : decide (x21_2 < (t146.size : Int)) = false := decide_eq_false c12
       clear c12
       obtain ⟨y154, hy154⟩ : ∃ y_ : List ByteArray, y_ = (([(⟨#[45, 45, 33]⟩ : ByteArray), (⟨#[45, 45]⟩ : ByteArray), (⟨#[45]⟩ : ByteArray)] : List ByteArray)) := ⟨_, rfl⟩
       replace H : (token_reader_comment.l2 k2 t146 y154 (y154.length : Int) 0 t147 (t147.size : Int)) = some (r1, r2, r3) := by first | (rw [hy154]; with_reducible exact H) | (have H2_ := (Option.bind_some _ _).symm.trans H; rw [hy154]; with_reducible exact H2_) | (have H2_ := (Option.bind_some _ _).symm.trans H; with_reducible exact H2_) | with_reducible exact H | (rw [hy154]; exact H) | exact H
       have Ny154 := Aside0.mk hy154
       clear hy154
       have H' := Aside0.mk H
       clear H
       obtain ⟨HGz26, hgz26⟩ := HI0.out
       have hcz26_0 := cellS48_0 HGz26
       have hcz26_1 := cellS48_1 HGz26
       have hfz26_0 := blk_frozen HGz26 0
       have hfz26_1 := blk_frozen HGz26 1
       clear HGz26 hgz26
       go_wp2_with (first | ((with_reducible refine gate_dst (N := 59) rfl ?_); refine Kd.R_lit Kd.string _ 9 ?hg (N := 59) ?hd (xs := ([(⟨#[45, 45, 33]⟩ : ByteArray), (⟨#[45, 45]⟩ : ByteArray), (⟨#[45]⟩ : ByteArray)] : List ByteArray)) (inner := [.string (⟨#[45, 45, 33]⟩ : ByteArray), .string (⟨#[45, 45]⟩ : ByteArray), .string (⟨#[45]⟩ : ByteArray)]) (ok := fun _ => True) (okp := fun _ => True) ?hr ?hp (fun _ hk => hk) trivial (Below.refl _ _) (Nat.le_refl _) (by simp) ?_; (case hd => rfl); (case hg => rfl); (case hr => first | (go_simp; done) | (go_simp; rfl)); (case hp => exact (Reps.one (show Kd.M Kd.string _ _ _ (⟨#[45, 45, 33]⟩ : ByteArray) [.string (⟨#[45, 45, 33]⟩ : ByteArray)] from rfl) (Reps.one (show Kd.M Kd.string _ _ _ (⟨#[45, 45]⟩ : ByteArray) [.string (⟨#[45, 45]⟩ : ByteArray)] from rfl) (Reps.one (show Kd.M Kd.string _ _ _ (⟨#[45]⟩ : ByteArray) [.string (⟨#[45]⟩ : ByteArray)] from rfl) (Reps.none _ _))))); intro v155 w27 ho28 hb hg_ hnew_; clear hg_ hnew_; (first | rw [← Ny154.out] at ho28 | (simp only [Int.reduceToNat] at ho28; rw [← Ny154.out] at ho28)); have n0_ := Aside0.mk (Kd.R_lower ho28 (keep_size (w := w) (g := g) (row := none) (by repeat (first | (with_reducible first | exact HK.out | apply KeepBut.set_ | apply keep_drewN | apply keep_drew | apply keep_alloc) | exact HK.out)))); have n1_ := Aside0.mk (IsS48.below (show IsS48 w0 (wr.setCell ⟨g, 1, none⟩ (.int .i64 (t147.size : Int))) g t147 (t147.size : Int) from by repeat (first | (with_reducible first | exact HI0.out | apply IsS48.alloc | apply IsS48.drewN | apply IsS48.drew | apply IsS48.set_0 | apply IsS48.set_1) | exact HI0.out)) hb); have n2_ := Aside0.mk (KeepBut.trans (by repeat (first | (with_reducible first | exact HK.out | apply KeepBut.set_ | apply keep_drewN | apply keep_drew | apply keep_alloc) | exact HK.out)) (KeepBut.of_below hb g none) (.inl rfl)); have n3_ := Aside0.mk (below_step (by repeat (first | (with_reducible first | exact HB.out | apply below_alloc | apply pw_below_drewN | apply below_drew1 | refine below_set ?_ (IsS48.ge HI0.out)) | exact HB.out)) hb); clear HI0; clear HK; clear HB; have HO156 := n0_; have HI0 := n1_; have HK := n2_; have HB := n3_; clear n0_ n1_ n2_ n3_; clear hb ho28; obtain ⟨Ao29, co29, eo29⟩ := Kd.R_slice HO156.out; subst eo29))
       go_loopg [61] k2 (fun kq v61 w' => ∃ (x61_3 : Int), v61 = .int .i64 x61_3 ∧ Aside0 (token_reader_comment.l2 kq t146 y154 (y154.length : Int) x61_3 t147 (t147.size : Int) = some (r1, r2, r3)) ∧ Aside0 (kq ≤ k2) ∧ Aside0 (Kd.R Kd.string 9 w' w.heap.size (fun _ => True) (.slice Ao29 y154.length co29) y154) ∧ Aside0 (IsS48 w0 w' g t147 (t147.size : Int)) ∧ Aside0 (KeepBut w w' g none) ∧ Aside0 (Below w0.heap.size w0 w'))
       case atStart => exact ⟨(0), (by first | rfl | (simp; done) | (simp [*]; done)), H', ⟨Nat.le_refl _⟩, ⟨by (with_reducible repeat (first | apply Kd.R_alloc | apply Kd.R_drewN | apply Kd.R_drew)); exact HO156.out⟩, ⟨by repeat (first | (with_reducible first | exact HI0.out | apply IsS48.alloc | apply IsS48.drewN | apply IsS48.drew | apply IsS48.set_0 | apply IsS48.set_1) | exact HI0.out)⟩, ⟨by repeat (first | (with_reducible first | exact HK.out | apply KeepBut.set_ | apply keep_drewN | apply keep_drew | apply keep_alloc) | exact HK.out)⟩, ⟨by repeat (first | (with_reducible first | exact HB.out | apply below_alloc | apply pw_below_drewN | apply below_drew1 | refine below_set ?_ (IsS48.ge HI0.out)) | exact HB.out)⟩⟩
       case round =>
        clear H'
        try clear c1
        try clear p1
        try clear q1
        try clear hx1
        try clear c2
        try clear p2
        try clear c3
        try clear c4
        try clear c6
        try clear p6
        try clear c9
        try clear c12
        try clear c12b0
        try clear p15
        try clear q15
        try clear hx15
        try clear c16
        try clear c16b0
        try clear c17
        try clear c17b0
        try clear c18
        try clear c18b0
        try clear c19
        try clear c19b0
        try clear c19b1
        try clear c20
        try clear c20b0
        try clear c20b1
        try clear c22
        try clear c23
        try clear c23b0
        try clear c24
        try clear c24b0
        try clear hcz25_0
        try clear hcz25_1
        try clear hcz26_0
        try clear hcz26_1
        try clear hfz25_0
        try clear hfz25_1
        try clear hfz26_0
        try clear hfz26_1
        try clear hx152_0
        try clear p152
        try clear p2
        try clear q152
        obtain ⟨x61_3, rfl, HA, HK3, HO_59, HI0, HK, HB⟩ := hrel
        cases gk with
        | zero => exact absurd HA.out (by simp [token_reader_comment.l2])
        | succ k3 =>
         have H := HA.out
         clear HA
         simp only [token_reader_comment.l2] at H
         by_cases c30 : x61_3 < (y154.length : Int)
         ·
          rw [if_pos c30] at H
          have c30b0 : decide (x61_3 < (y154.length : Int)) = true := decide_eq_true c30
          clear c30
          by_cases c31 : 0 ≤ x61_3
          ·
           rw [if_pos c31] at H
           have c31b0 : decide (0 ≤ x61_3) = true := decide_eq_true c31
           clear c31
           by_cases c32 : x61_3 < (y154.length : Int)
           ·
            rw [if_pos c32] at H
            have c32b0 : decide (x61_3 < (y154.length : Int)) = true := decide_eq_true c32
            clear c32
            replace H := Option.bind_eq_some_iff.mp H
            obtain ⟨⟨t158, t159⟩, A330, H⟩ := H
            replace H : (if t159 = true then (some (t158, t147, (t147.size : Int))) else (token_reader_comment.l2 k3 t146 y154 (y154.length : Int) (wrap64 (x61_3 + 1)) t147 (t147.size : Int))) = some (r1, r2, r3) := H
            have A33 := Aside0.mk A330
            clear A330
            by_cases c34 : t159 = true
            ·
             subst c34
             have H1 : (some (t158, t147, (t147.size : Int))) = some (r1, r2, r3) := by rw [if_pos rfl] at H; exact H
             clear H
             have H := H1
             clear H1
             simp only [Option.some.injEq, Prod.mk.injEq] at H
             obtain ⟨rfl, rfl, rfl⟩ := H
             have p157 : 0 ≤ (x61_3 : Int) := of_decide_eq_true (by first | (with_reducible assumption) | assumption)
             have q157 : x61_3 < (y154.length : Int) := of_decide_eq_true (by first | (with_reducible assumption) | assumption)
             obtain ⟨ad157, e157, hx157_0⟩ := Kd.at_string (Kd.R_reads' HO_59.out).2.2 x61_3 p157 q157
             cases e157
             replace p157 := eq_true p157
             replace q157 := eq_true q157
             go_wp2_with (first | ((with_reducible refine gate_callee (f := 88) rfl ?_); refine goesL_ (some 68) rfl rfl Try.func88 (by kernel_rfl) rfl #[.string t146, .string (rdOf ByteArray.empty y154 x61_3)] rfl (by (try simp only [List.map_toArray, List.map_cons, List.map_nil]); first | done | rfl | (simp only [List.length_drop, List.length_take]; rfl)) ?_; (with_reducible refine (strings_CutSuffix.calls t146 (rdOf ByteArray.empty y154 x61_3) t158 true _ A33.out).mono ?_); rintro e w' ⟨rfl, ⟨nd, rfl⟩⟩; refine ⟨_, rfl, ?_⟩))
             go_ret
             exact ⟨by first | rfl | (simp [errW_none, errW_some] <;> rfl) | (simp [*, errW_none, errW_some] <;> rfl), by repeat (first | (with_reducible first | exact HI0.out | apply IsS48.alloc | apply IsS48.drewN | apply IsS48.drew | apply IsS48.set_0 | apply IsS48.set_1) | exact HI0.out), by repeat (first | (with_reducible first | exact HB.out | apply below_alloc | apply pw_below_drewN | apply below_drew1 | refine below_set ?_ (IsS48.ge HI0.out)) | exact HB.out), by repeat (first | (with_reducible first | exact HK.out | apply KeepBut.set_ | apply keep_drewN | apply keep_drew | apply keep_alloc) | exact HK.out)⟩
            ·
             replace c34 := Bool.eq_false_iff.mpr c34
             subst c34
             have H1 : (token_reader_comment.l2 k3 t146 y154 (y154.length : Int) (wrap64 (x61_3 + 1)) t147 (t147.size : Int)) = some (r1, r2, r3) := by rw [if_neg (show ¬ (false = true) by decide)] at H; exact H
             clear H
             have H := H1
             clear H1
             have H' := Aside0.mk H
             clear H
             have p157 : 0 ≤ (x61_3 : Int) := of_decide_eq_true (by first | (with_reducible assumption) | assumption)
             have q157 : x61_3 < (y154.length : Int) := of_decide_eq_true (by first | (with_reducible assumption) | assumption)
             obtain ⟨ad157, e157, hx157_0⟩ := Kd.at_string (Kd.R_reads' HO_59.out).2.2 x61_3 p157 q157
             cases e157
             replace p157 := eq_true p157
             replace q157 := eq_true q157
             go_wp2_with (first | ((with_reducible refine gate_callee (f := 88) rfl ?_); refine goesL_ (some 68) rfl rfl Try.func88 (by kernel_rfl) rfl #[.string t146, .string (rdOf ByteArray.empty y154 x61_3)] rfl (by (try simp only [List.map_toArray, List.map_cons, List.map_nil]); first | done | rfl | (simp only [List.length_drop, List.length_take]; rfl)) ?_; (with_reducible refine (strings_CutSuffix.calls t146 (rdOf ByteArray.empty y154 x61_3) t158 false _ A33.out).mono ?_); rintro e w' ⟨rfl, ⟨nd, rfl⟩⟩; refine ⟨_, rfl, ?_⟩))
             go_roundg k3
             case measure => have := HJ1.out; have := HK2.out; have := HK3.out; omega
             case rel => exact ⟨(wrap64 (x61_3 + 1)), (by first | rfl | (simp; done) | (simp [*]; done)), H', ⟨by have := HJ1.out; have := HK2.out; have := HK3.out; omega⟩, ⟨by (with_reducible repeat (first | apply Kd.R_alloc | apply Kd.R_drewN | apply Kd.R_drew)); exact HO_59.out⟩, ⟨by repeat (first | (with_reducible first | exact HI0.out | apply IsS48.alloc | apply IsS48.drewN | apply IsS48.drew | apply IsS48.set_0 | apply IsS48.set_1) | exact HI0.out)⟩, ⟨by repeat (first | (with_reducible first | exact HK.out | apply KeepBut.set_ | apply keep_drewN | apply keep_drew | apply keep_alloc) | exact HK.out)⟩, ⟨by repeat (first | (with_reducible first | exact HB.out | apply below_alloc | apply pw_below_drewN | apply below_drew1 | refine below_set ?_ (IsS48.ge HI0.out)) | exact HB.out)⟩⟩
           ·
            rw [if_neg c32] at H
            exact absurd H (by simp)
          ·
           rw [if_neg c31] at H
           exact absurd H (by simp)
         ·
          rw [if_neg c30] at H
          have c30b0 : decide (x61_3 < (y154.length : Int)) = false := decide_eq_false c30
          clear c30
          simp only [Option.some.injEq, Prod.mk.injEq] at H
          obtain ⟨rfl, rfl, rfl⟩ := H
          go_wp2
          go_ret
          exact ⟨by first | rfl | (simp [errW_none, errW_some] <;> rfl) | (simp [*, errW_none, errW_some] <;> rfl), by repeat (first | (with_reducible first | exact HI0.out | apply IsS48.alloc | apply IsS48.drewN | apply IsS48.drew | apply IsS48.set_0 | apply IsS48.set_1) | exact HI0.out), by repeat (first | (with_reducible first | exact HB.out | apply below_alloc | apply pw_below_drewN | apply below_drew1 | refine below_set ?_ (IsS48.ge HI0.out)) | exact HB.out), by repeat (first | (with_reducible first | exact HK.out | apply KeepBut.set_ | apply keep_drewN | apply keep_drew | apply keep_alloc) | exact HK.out)⟩
/-! HAND token_reader_declared: function 41 -/
theorem token_reader.comment_any (k : Nat) (g : Nat) (s : ByteArray) (i : Nat) (r : ByteArray) (e : Int) (w : World) (h : RD w g s i) (hd : token_reader_comment.f k s (i : Int) = some (r, s, e)) :
    Calls Try.prog 67 #[.pointer (some ⟨g, 0, none⟩)] w fun e' w' => e' = .returned (.string r) ∧ RD w' g s e ∧ Fr (· = g) w w' :=
  (token_reader_comment.calls k g s i r s e { w with heap := #[] } w ⟨h, Nat.zero_le _⟩ ⟨rfl, rfl, rfl, Nat.zero_le _, fun k hk => absurd hk (Nat.not_lt_zero _)⟩ hd).mono fun e' w' ⟨he, hI, hB, hK⟩ =>
    ⟨he, hI.1, hB.os, hB.tape, hB.output, hK.1, fun k hk hn => hK.2 k hk hn (by simp)⟩
def token_reader.doctype : ByteArray := ⟨#[100, 111, 99, 116, 121, 112, 101]⟩
theorem token_reader.doctype_list : token_reader.doctype.toList = [100, 111, 99, 116, 121, 112, 101] := by rw [ByteArray.toList_eq]; rfl
/-- Whether a doctype's word stands at a place. -/
def token_reader.isDoc (s : ByteArray) (i : Nat) : Bool := decide (i + 7 ≤ s.size) && (kind_Lower.low (s.extract i (i + 7))).toList == token_reader.doctype.toList
/-- What a declaration is: the token's kind and text, and the place behind. -/
def token_reader.decl (k : Nat) (s : ByteArray) (i : Nat) : Option (Int × ByteArray × Nat) :=
  if token_reader.here s i ⟨#[45, 45]⟩ = true then (token_reader_comment.f k s ((i + 2 : Nat) : Int)).bind fun p => if p.2.1 = s ∧ 0 ≤ p.2.2 then some (4, p.1, p.2.2.toNat) else none
  else if token_reader.isDoc s i = true then some (5, ⟨#[]⟩, token_reader.cutAt s i ⟨#[62]⟩)
  else some (4, token_reader.cutTxt s i ⟨#[62]⟩, token_reader.cutAt s i ⟨#[62]⟩)
set_option maxHeartbeats 1000000 in
set_option maxRecDepth 100000 in
theorem token_reader.declared_any (k : Nat) (g : Nat) (s : ByteArray) (i : Nat) (kd : Int) (r : ByteArray) (e : Nat) (w : World) (h : RD w g s i) (hi : i ≤ s.size) (hs : s.size ≤ 1000000000) (hm : HM w) (hd : token_reader.decl k s i = some (kd, r, e)) :
    Calls Try.prog 41 #[.pointer (some ⟨g, 0, none⟩)] w (TokE w kd ⟨#[]⟩ [] false r (fun w' => RD w' g s e ∧ Fr (· = g) w w')) := by
 have HR := Aside0.mk (h.al (.cells #[.int .i64 0, .string ⟨#[]⟩, .slice none 0 0, .bool false, .string ⟨#[]⟩] 29))
 have HGL := Aside0.mk h.lt
 have HP := Aside0.mk (h.pos hm)
 have HD := Aside0.mk hd
 have HF : Aside0 (Fr (· = g) w (w.alloc (.cells #[.int .i64 0, .string ⟨#[]⟩, .slice none 0 0, .bool false, .string ⟨#[]⟩] 29))) := ⟨(Fr.refl _ w).alloc _⟩
 have HMM := Aside0.mk (hm.at_ ((Below.refl _ _).alloc (Nat.le_refl _) (.cells #[.int .i64 0, .string ⟨#[]⟩, .slice none 0 0, .bool false, .string ⟨#[]⟩] 29)))
 have HT := Aside0.mk (TB.new w 0 ⟨#[]⟩ (.slice none 0 0) false ⟨#[]⟩)
 have hwg : ¬ w.heap.size = g := by have := h.lt; omega
 have hgw : ¬ g = w.heap.size := by have := h.lt; omega
 clear h hm hd
 go_enter Try.func41, Try.ntmps41
 go_wp2_with fail
 cases h45 : token_reader.here s i ⟨#[45, 45]⟩ with
 | true =>
  have hd := HD.out
  unfold token_reader.decl at hd
  rw [if_pos h45] at hd
  obtain ⟨⟨r', s', e'⟩, hc, hd⟩ := Option.bind_eq_some_iff.1 hd
  have hd : (if s' = s ∧ 0 ≤ e' then some ((4 : Int), r', e'.toNat) else none) = some (kd, r, e) := hd
  by_cases hse : s' = s ∧ 0 ≤ e'
  ·
   rw [if_pos hse] at hd
   simp only [Option.some.injEq, Prod.mk.injEq] at hd
   obtain ⟨rfl, rfl, he⟩ := hd
   obtain ⟨rfl, he0⟩ := hse
   obtain rfl : e' = (e : Int) := by omega
   have HC := Aside0.mk hc
   clear hc he he0 HD
   refine (token_reader.past_yes g s' i ⟨#[45, 45]⟩ _ HR.out hi hs h45).mono ?_
   clear h45
   rintro e1 w2 ⟨rfl, hr, hf⟩
   have HR2 : Aside0 (RD w2 g s' ((i + 2 : Nat) : Int)) := ⟨hr⟩
   have HF2 := Aside0.mk (HF.out.trans hf)
   have HT2 := Aside0.mk (HT.out.fr hf hwg)
   clear hr hf HR HF HT
   go_wp2_with fail
   refine (token_reader.comment_any k g s' (i + 2) r' e _ HR2.out HC.out).mono ?_
   rintro e1 w3 ⟨rfl, hr, hf⟩
   have HR3 := Aside0.mk hr
   have HF3 := Aside0.mk (HF2.out.trans hf)
   have HT3 := Aside0.mk (HT2.out.fr hf hwg)
   clear hr hf HR2 HF2 HT2
   have t0 := HT3.out.cell 0
   have t1 := HT3.out.cell 1
   have t2 := HT3.out.cell 2
   have t3 := HT3.out.cell 3
   have t4 := HT3.out.cell 4
   have u0 := HT3.out.free 0
   have u1 := HT3.out.free 1
   have u2 := HT3.out.free 2
   have u3 := HT3.out.free 3
   have u4 := HT3.out.free 4
   simp only [List.getElem?_toArray, List.getElem?_cons_zero, List.getElem?_cons_succ] at t0 t1 t2 t3 t4
   go_wp2
   have hZ := put5_tb HT3.out 4 ⟨#[]⟩ (.slice none 0 0) false r'
   have z0 := hZ.cell 0
   have z1 := hZ.cell 1
   have z2 := hZ.cell 2
   have z3 := hZ.cell 3
   have z4 := hZ.cell 4
   unfold put5 at z0 z1 z2 z3 z4
   exact bodyPost_ret (v := .agg #[.int .i64 4, .string ⟨#[]⟩, .slice none 0 0, .bool false, .string r']) (by simp [results, Try.results41, go_sem, z0, z1, z2, z3, z4]) rfl
     ⟨.slice none 0 0, rfl, Kd.R_nil _ _ _ _ _, (put5_far _ _ _ _ _ _ _ g hgw).trans HR3.out, put5_fr HF3.out _ _ _ _ _ _ (Or.inr (Nat.le_refl _))⟩
  ·
   rw [if_neg hse] at hd; cases hd
 | false =>
  refine (token_reader.past_no g s i ⟨#[45, 45]⟩ _ HR.out hi hs h45).mono ?_
  have H45 := Aside0.mk h45
  clear h45
  rintro e1 w2 ⟨rfl, hr, hf⟩
  have HR2 := Aside0.mk hr
  have HF2 := Aside0.mk (HF.out.trans hf)
  have HT2 := Aside0.mk (HT.out.fr hf hwg)
  have HM2 := Aside0.mk (HMM.out.fr hf HP.out)
  clear hr hf HR HF HT HMM
  go_wp2_with fail
  refine (token_reader.rest_any g s i _ HR2.out hi (by omega)).mono ?_
  rintro e1 w3 ⟨rfl, n3, rfl⟩
  have HR3 : Aside0 (RD (w2.drewN n3) g s i) := ⟨HR2.out⟩
  have HF3 := Aside0.mk (HF2.out.drewN n3)
  have HT3 := Aside0.mk (HT2.out.drN n3)
  have HM3 : Aside0 (HM (w2.drewN n3)) := ⟨HM2.out⟩
  have hxs : (s.extract i s.size).size = s.size - i := by simp
  obtain ⟨nm, hnm⟩ : ∃ x, kind_Lower.low (s.extract i (i + 7)) = x := ⟨_, rfl⟩
  have hl7 : ∀ wx, Calls Try.prog 55 #[.string ((s.extract i s.size).extract 0 7)] wx fun e w' => e = .returned (.string nm) ∧ Below wx.heap.size wx w' := fun wx => by
    have hx : (s.extract i s.size).extract 0 7 = s.extract i (min (i + 7) s.size) := by
      rw [ByteArray.extract_extract]; simp
    rw [hx]
    by_cases h7 : i + 7 ≤ s.size
    · rw [Nat.min_eq_left h7, ← hnm]; exact kind_Lower.any _ _ (by simp; omega)
    · rw [Nat.min_eq_right (by omega), ← hnm]
      have : s.extract i (i + 7) = s.extract i s.size := by
        apply Go.WideShapes.bytes_inj; simp [List.take_of_length_le, show s.size - i ≤ 7 by omega]
      rw [this]; exact kind_Lower.any _ _ (by simp; omega)
  by_cases h7 : i + 7 ≤ s.size
  ·
   have hge : decide (((s.extract i s.size).size : Int) ≥ 7) = true := by rw [hxs]; simp; omega
   have h7' : (7 : Int) ≤ ((s.extract i s.size).size : Int) := by rw [hxs]; omega
   have HNM := Aside0.mk hnm
   clear hnm
   go_wp2_with fail
   refine (hl7 _).mono ?_
   rintro e1 w4 ⟨rfl, hb⟩
   have HR4 := Aside0.mk (HR3.out.keep hb)
   have HF4 := Aside0.mk (HF3.out.below hb)
   have HT4 := Aside0.mk (HT3.out.keep hb)
   have HM4 := Aside0.mk (HM3.out.at_ hb)
   clear hb hl7 HR3 HF3 HT3 HM3 HR2 HF2 HT2 HM2
   by_cases hq : nm.toList = token_reader.doctype.toList
   ·
    have hd := HD.out
    unfold token_reader.decl at hd
    have hiD : token_reader.isDoc s i = true := by
     unfold token_reader.isDoc; rw [HNM.out, hq]; simpa using h7
    rw [if_neg (by rw [H45.out]; simp), if_pos hiD] at hd
    simp only [Option.some.injEq, Prod.mk.injEq] at hd
    obtain ⟨rfl, rfl, rfl⟩ := hd
    rw [token_reader.doctype_list] at hq
    have hq1 : (nm.toList == [100, 111, 99, 116, 121, 112, 101]) = true := beq_iff_eq.mpr hq
    clear hq
    go_wp2_with fail
    refine (token_reader.upTo_any g s i ⟨#[62]⟩ _ HR4.out hi hs HM4.out).mono ?_
    rintro e1 w5 ⟨rfl, hr, hf⟩
    have HR5 := Aside0.mk hr
    have HF5 := Aside0.mk (HF4.out.trans hf)
    have HT5 := Aside0.mk (HT4.out.fr hf hwg)
    clear hr hf HR4 HF4 HT4 HM4
    have t0 := HT5.out.cell 0
    have t1 := HT5.out.cell 1
    have t2 := HT5.out.cell 2
    have t3 := HT5.out.cell 3
    have t4 := HT5.out.cell 4
    have u0 := HT5.out.free 0
    have u1 := HT5.out.free 1
    have u2 := HT5.out.free 2
    have u3 := HT5.out.free 3
    have u4 := HT5.out.free 4
    simp only [List.getElem?_toArray, List.getElem?_cons_zero, List.getElem?_cons_succ] at t0 t1 t2 t3 t4
    go_wp2
    have hZ := put5_tb HT5.out 5 ⟨#[]⟩ (.slice none 0 0) false ⟨#[]⟩
    have z0 := hZ.cell 0
    have z1 := hZ.cell 1
    have z2 := hZ.cell 2
    have z3 := hZ.cell 3
    have z4 := hZ.cell 4
    unfold put5 at z0 z1 z2 z3 z4
    exact bodyPost_ret (v := .agg #[.int .i64 5, .string ⟨#[]⟩, .slice none 0 0, .bool false, .string ⟨#[]⟩]) (by simp [results, Try.results41, go_sem, z0, z1, z2, z3, z4]) rfl
      ⟨.slice none 0 0, rfl, Kd.R_nil _ _ _ _ _, (put5_far _ _ _ _ _ _ _ g hgw).trans HR5.out, put5_fr HF5.out _ _ _ _ _ _ (Or.inr (Nat.le_refl _))⟩
   ·
    have hd := HD.out
    unfold token_reader.decl at hd
    have hiD : token_reader.isDoc s i = false := by
     unfold token_reader.isDoc; rw [HNM.out]; simpa [h7] using hq
    rw [if_neg (by rw [H45.out]; simp), if_neg (by rw [hiD]; simp)] at hd
    simp only [Option.some.injEq, Prod.mk.injEq] at hd
    obtain ⟨rfl, rfl, rfl⟩ := hd
    rw [token_reader.doctype_list] at hq
    have hq1 : (nm.toList == [100, 111, 99, 116, 121, 112, 101]) = false := beq_eq_false_iff_ne.mpr hq
    clear hq
    go_wp2_with fail
    refine (token_reader.upTo_any g s i ⟨#[62]⟩ _ HR4.out hi hs HM4.out).mono ?_
    rintro e1 w5 ⟨rfl, hr, hf⟩
    have HR5 := Aside0.mk hr
    have HF5 := Aside0.mk (HF4.out.trans hf)
    have HT5 := Aside0.mk (HT4.out.fr hf hwg)
    clear hr hf HR4 HF4 HT4 HM4
    have t0 := HT5.out.cell 0
    have t1 := HT5.out.cell 1
    have t2 := HT5.out.cell 2
    have t3 := HT5.out.cell 3
    have t4 := HT5.out.cell 4
    have u0 := HT5.out.free 0
    have u1 := HT5.out.free 1
    have u2 := HT5.out.free 2
    have u3 := HT5.out.free 3
    have u4 := HT5.out.free 4
    simp only [List.getElem?_toArray, List.getElem?_cons_zero, List.getElem?_cons_succ] at t0 t1 t2 t3 t4
    go_wp2
    have hZ := put5_tb HT5.out 4 ⟨#[]⟩ (.slice none 0 0) false (token_reader.cutTxt s i ⟨#[62]⟩)
    have z0 := hZ.cell 0
    have z1 := hZ.cell 1
    have z2 := hZ.cell 2
    have z3 := hZ.cell 3
    have z4 := hZ.cell 4
    unfold put5 at z0 z1 z2 z3 z4
    exact bodyPost_ret (v := .agg #[.int .i64 4, .string ⟨#[]⟩, .slice none 0 0, .bool false, .string (token_reader.cutTxt s i ⟨#[62]⟩)]) (by simp [results, Try.results41, go_sem, z0, z1, z2, z3, z4]) rfl
      ⟨.slice none 0 0, rfl, Kd.R_nil _ _ _ _ _, (put5_far _ _ _ _ _ _ _ g hgw).trans HR5.out, put5_fr HF5.out _ _ _ _ _ _ (Or.inr (Nat.le_refl _))⟩
  ·
   have hd := HD.out
   unfold token_reader.decl at hd
   have hiD : token_reader.isDoc s i = false := by
    unfold token_reader.isDoc; simp [h7]
   rw [if_neg (by rw [H45.out]; simp), if_neg (by rw [hiD]; simp)] at hd
   simp only [Option.some.injEq, Prod.mk.injEq] at hd
   obtain ⟨rfl, rfl, rfl⟩ := hd
   have hge : decide (((s.extract i s.size).size : Int) ≥ 7) = false := by rw [hxs]; simp; omega
   have h7' : ¬ (7 : Int) ≤ ((s.extract i s.size).size : Int) := by rw [hxs]; omega
   clear hl7
   go_wp2_with fail
   refine (token_reader.upTo_any g s i ⟨#[62]⟩ _ HR3.out hi hs HM3.out).mono ?_
   rintro e1 w5 ⟨rfl, hr, hf⟩
   have HR5 := Aside0.mk hr
   have HF5 := Aside0.mk (HF3.out.trans hf)
   have HT5 := Aside0.mk (HT3.out.fr hf hwg)
   clear hr hf HR3 HF3 HT3 HM3 HR2 HF2 HT2 HM2
   have t0 := HT5.out.cell 0
   have t1 := HT5.out.cell 1
   have t2 := HT5.out.cell 2
   have t3 := HT5.out.cell 3
   have t4 := HT5.out.cell 4
   have u0 := HT5.out.free 0
   have u1 := HT5.out.free 1
   have u2 := HT5.out.free 2
   have u3 := HT5.out.free 3
   have u4 := HT5.out.free 4
   simp only [List.getElem?_toArray, List.getElem?_cons_zero, List.getElem?_cons_succ] at t0 t1 t2 t3 t4
   go_wp2
   have hZ := put5_tb HT5.out 4 ⟨#[]⟩ (.slice none 0 0) false (token_reader.cutTxt s i ⟨#[62]⟩)
   have z0 := hZ.cell 0
   have z1 := hZ.cell 1
   have z2 := hZ.cell 2
   have z3 := hZ.cell 3
   have z4 := hZ.cell 4
   unfold put5 at z0 z1 z2 z3 z4
   exact bodyPost_ret (v := .agg #[.int .i64 4, .string ⟨#[]⟩, .slice none 0 0, .bool false, .string (token_reader.cutTxt s i ⟨#[62]⟩)]) (by simp [results, Try.results41, go_sem, z0, z1, z2, z3, z4]) rfl
     ⟨.slice none 0 0, rfl, Kd.R_nil _ _ _ _ _, (put5_far _ _ _ _ _ _ _ g hgw).trans HR5.out, put5_fr HF5.out _ _ _ _ _ _ (Or.inr (Nat.le_refl _))⟩
/-! HAND token_reader_raw: function 21 -/
theorem Kd.R_put5 {w : World} {base : Nat} {ok : Nat → Prop} {v : Value} {l : List S41} {B : Nat} {k0 : Int} {nm0 : ByteArray} {v0 : Value} {c0 : Bool} {tx0 : ByteArray} (h : Kd.R k41 41 w base ok v l) (hT : TB w B k0 nm0 v0 c0 tx0) (k : Int) (nm : ByteArray) (v2 : Value) (c : Bool) (tx : ByteArray) :
    Kd.R k41 41 (put5 w B k nm v2 c tx) base ok v l := by
 have h2 := Kd.R_set h hT (by decide) 0 (.int .i64 k)
 have h3 := Kd.R_set h2 (hT.set0 k) (by decide) 1 (.string nm)
 have h4 := Kd.R_set h3 ((hT.set0 k).set1 nm) (by decide) 2 v2
 have h5 := Kd.R_set h4 (((hT.set0 k).set1 nm).set2 v2) (by decide) 3 (.bool c)
 exact Kd.R_set h5 ((((hT.set0 k).set1 nm).set2 v2).set3 c) (by decide) 4 (.string tx)
/-- Whether a text begins with the end tag of a name. -/
def token_closes.b (t name : ByteArray) : Bool :=
  Lib.hasPrefix t.data.toList [60, 47] && (decide (2 + name.size < t.size) && ((kind_Lower.low (t.extract 2 (2 + name.size))).toList == (kind_Lower.low name).toList && token_until.pE ⟨#[47, 62]⟩ (t.data.toList.getD (2 + name.size) 0)))
set_option maxHeartbeats 1000000 in
set_option maxRecDepth 100000 in
theorem token_closes.any (t name : ByteArray) (b : Bool) (w : World) (ht : t.size ≤ 1000000000) (hn : name.size ≤ 1000000000) (hb : token_closes.b t name = b) :
    Calls Try.prog 30 #[.string t, .string name] w fun e w' => e = .returned (.bool b) ∧ Below w.heap.size w w' := by
 unfold token_closes.b at hb
 cases hp : Lib.hasPrefix t.data.toList [60, 47] with
 | false =>
  obtain rfl : false = b := by rw [← hb, hp]; rfl
  have HP := Aside0.mk hp
  clear hp hb
  go_enter Try.func30, Try.ntmps30
  go_wp2_with fail
  refine (Try.strings_CutPrefix t ⟨#[60, 47]⟩ _).mono ?_
  rintro e1 w1 ⟨rfl, rfl⟩
  have e2 : (⟨#[60, 47]⟩ : ByteArray).data.toList = [60, 47] := rfl
  rw [e2, HP.out]
  clear e2
  go_wp2
  go_ret
  exact ⟨rfl, Below.refl _ _⟩
 | true =>
  rw [hp, Bool.true_and] at hb
  have HP := Aside0.mk hp
  have hl2 : 2 ≤ t.size := by
   unfold Lib.hasPrefix at hp
   have := (List.isPrefixOf_iff_prefix.1 hp).length_le
   simpa using this
  have htr : (⟨(Lib.trimPrefix t.data.toList [60, 47]).toArray⟩ : ByteArray) = t.extract 2 t.size := by
   unfold Lib.trimPrefix
   rw [if_pos hp]
   apply Go.WideShapes.bytes_inj; simp [List.take_of_length_le]
  have HTR := Aside0.mk htr
  have hus : (t.extract 2 t.size).size = t.size - 2 := by simp
  clear hp htr
  by_cases hlen : 2 + name.size < t.size
  ·
   have hb2 : ((kind_Lower.low (t.extract 2 (2 + name.size))).toList == (kind_Lower.low name).toList && token_until.pE ⟨#[47, 62]⟩ (t.data.toList.getD (2 + name.size) 0)) = b := by rw [← hb, decide_eq_true hlen, Bool.true_and]
   obtain ⟨x, hx⟩ : ∃ x, kind_Lower.low (t.extract 2 (2 + name.size)) = x := ⟨_, rfl⟩
   obtain ⟨y, hy⟩ : ∃ y, kind_Lower.low name = y := ⟨_, rfl⟩
   have hex : (t.extract 2 t.size).extract 0 name.size = t.extract 2 (2 + name.size) := by
    apply Go.WideShapes.bytes_inj; simp [List.take_take]; omega
   have hlx : ∀ wx, Calls Try.prog 55 #[.string ((t.extract 2 t.size).extract 0 name.size)] wx fun e w' => e = .returned (.string x) ∧ Below wx.heap.size wx w' := fun wx => by
     rw [hex, ← hx]; exact kind_Lower.any _ _ (by simp; omega)
   have hly : ∀ wx, Calls Try.prog 55 #[.string name] wx fun e w' => e = .returned (.string y) ∧ Below wx.heap.size wx w' := fun wx => by
     rw [← hy]; exact kind_Lower.any _ _ (by omega)
   rw [hx, hy] at hb2
   have HB := Aside0.mk hb2
   have h0 : decide (((t.extract 2 t.size).size : Int) ≤ (name.size : Int)) = false := by rw [hus]; simp; omega
   have h1 : (name.size : Int) ≤ ((t.extract 2 t.size).size : Int) := by rw [hus]; omega
   have h2 : (name.size : Int) < ((t.extract 2 t.size).size : Int) := by rw [hus]; omega
   have hidx : name.size < (t.extract 2 t.size).size := by rw [hus]; omega
   have hget : (t.extract 2 t.size)[name.size]'hidx = t.data.toList.getD (2 + name.size) 0 := by
    have h3 : 2 + name.size < t.data.toList.length := by simpa using hlen
    rw [List.getD, List.getElem?_eq_getElem h3]
    show ((t.extract 2 t.size).data)[name.size]'_ = _
    simp [ByteArray.data_extract]
   have HG := Aside0.mk hget
   clear hb hb2 hex hx hy hget
   go_enter Try.func30, Try.ntmps30
   go_wp2_with fail
   refine (Try.strings_CutPrefix t ⟨#[60, 47]⟩ _).mono ?_
   rintro e1 w1 ⟨rfl, rfl⟩
   have e2 : (⟨#[60, 47]⟩ : ByteArray).data.toList = [60, 47] := rfl
   rw [e2, HP.out, HTR.out]
   clear e2
   go_wp2_with fail
   refine (hlx _).mono ?_
   rintro e1 w2 ⟨rfl, hb1⟩
   have HB1 := Aside0.mk hb1
   clear hb1
   go_wp2_with fail
   refine (hly _).mono ?_
   rintro e1 w3 ⟨rfl, hb2⟩
   have HB2 := Aside0.mk hb2
   clear hb2 hlx hly
   by_cases hxy : x.toList = y.toList
   ·
    have j1 : (x.toList == y.toList) = true := beq_iff_eq.mpr hxy
    have j2 : (x.toList != y.toList) = false := bne_eq_false_iff_eq.mpr hxy
    obtain ⟨c, hc⟩ : ∃ c, (t.extract 2 t.size)[name.size]'hidx = c := ⟨_, rfl⟩
    have hone := fun wx => token_until.oneE ⟨#[47, 62]⟩ c wx
    have hcb : token_until.pE ⟨#[47, 62]⟩ c = b := by rw [← HB.out, j1, Bool.true_and, ← hc, HG.out]
    rw [hcb] at hone
    rw [← hc] at hone
    clear hcb hc hxy
    go_wp2_with fail
    refine (hone _).mono ?_
    rintro e1 w4 ⟨rfl, n4, rfl⟩
    go_wp2
    go_ret
    exact ⟨rfl, Below.drN (HB1.out.trans (HB2.out.mono HB1.out.size)) _⟩
   ·
    have j1 : (x.toList == y.toList) = false := beq_eq_false_iff_ne.mpr hxy
    have j2 : (x.toList != y.toList) = true := bne_iff_ne.mpr hxy
    obtain rfl : false = b := by rw [← HB.out, j1]; rfl
    clear hxy
    go_wp2
    go_ret
    exact ⟨rfl, HB1.out.trans (HB2.out.mono HB1.out.size)⟩
  ·
   obtain rfl : false = b := by rw [← hb, decide_eq_false hlen]; rfl
   have h0 : decide (((t.extract 2 t.size).size : Int) ≤ (name.size : Int)) = true := by rw [hus]; simp; omega
   clear hb
   go_enter Try.func30, Try.ntmps30
   go_wp2_with fail
   refine (Try.strings_CutPrefix t ⟨#[60, 47]⟩ _).mono ?_
   rintro e1 w1 ⟨rfl, rfl⟩
   have e2 : (⟨#[60, 47]⟩ : ByteArray).data.toList = [60, 47] := rfl
   rw [e2, HP.out, HTR.out]
   clear e2
   go_wp2
   go_ret
   exact ⟨rfl, Below.refl _ _⟩
/-- A token's fields and the place behind it. -/
structure TokV where
  kd : Int
  nm : ByteArray
  l : List S41
  c : Bool
  tx : ByteArray
  e : Nat
def TokV.end_ (e : Nat) : TokV := ⟨0, ⟨#[]⟩, [], false, ⟨#[]⟩, e⟩
/-- A tag from its name on. -/
def token_reader.tagV (k : Nat) (s : ByteArray) (i : Nat) (kd : Int) : Option TokV :=
  (token_reader_tag.l k s (token_until.to (token_until.pE ⟨#[47, 62]⟩) s i) []).bind fun p => some ⟨token_reader_tag.kind kd p.1, token_reader_tag.name (token_reader.low s i (token_until.to (token_until.pE ⟨#[47, 62]⟩) s i)) p.1, token_reader_tag.attrs kd p.1, token_reader_tag.closed kd p.1, ⟨#[]⟩, p.2⟩
/-- A reader's call that hands back a token. -/
def TokC (w : World) (g : Nat) (s : ByteArray) (t : TokV) (e : Ending) (w' : World) : Prop := TokE w t.kd t.nm t.l t.c t.tx (fun w' => RD w' g s t.e ∧ Fr (· = g) w w') e w'
theorem token_reader.tagV_any (k : Nat) (g : Nat) (s : ByteArray) (i : Nat) (kd : Int) (t : TokV) (w : World) (h : RD w g s i) (hi : i ≤ s.size) (hs : s.size ≤ 1000000000) (hm : HM w) (hd : token_reader.tagV k s i kd = some t) :
    Calls Try.prog 32 #[.pointer (some ⟨g, 0, none⟩), .int .i64 kd] w (TokC w g s t) := by
 unfold token_reader.tagV at hd
 obtain ⟨⟨r, e⟩, hl, hd⟩ := Option.bind_eq_some_iff.1 hd
 obtain rfl := Option.some.inj hd
 exact token_reader.tag_any k g s i kd r e w h hi hs hm hl
def token_reader.rawTo (s name : ByteArray) (i : Nat) : Nat := seek (fun j => token_closes.b (s.extract j s.size) name) s.size i
theorem token_reader.rawTo_le (s name : ByteArray) (i : Nat) (h : i ≤ s.size) : i ≤ token_reader.rawTo s name i ∧ token_reader.rawTo s name i ≤ s.size := seek_le _ _ _ i rfl h
theorem token_closes.two {s name : ByteArray} {i : Nat} (hi : i ≤ s.size) (h : token_closes.b (s.extract i s.size) name = true) : i + 2 ≤ s.size := by
 unfold token_closes.b at h
 simp only [Bool.and_eq_true, decide_eq_true_eq] at h
 have := h.2.1
 simp at this; omega
def token_reader.rawV (k : Nat) (s name : ByteArray) (i : Nat) : Option TokV :=
  if i < token_reader.rawTo s name i then some ⟨1, ⟨#[]⟩, [], false, s.extract i (token_reader.rawTo s name i), token_reader.rawTo s name i⟩
  else token_reader.tagV k s (i + 2) 3
set_option maxHeartbeats 2000000 in
set_option maxRecDepth 100000 in
theorem token_reader.raw_any (k : Nat) (g : Nat) (s name : ByteArray) (i : Nat) (t : TokV) (w : World) (h : RD w g s i) (hi : i < s.size) (hs : s.size ≤ 1000000000) (hnm : name.size ≤ 1000000000) (hm : HM w) (hd : token_reader.rawV k s name i = some t) :
    Calls Try.prog 21 #[.pointer (some ⟨g, 0, none⟩), .string name] w (TokC w g s t) := by
 have HR := Aside0.mk (h.al (.cells #[.int .i64 0, .string ⟨#[]⟩, .slice none 0 0, .bool false, .string ⟨#[]⟩] 29))
 have HGL := Aside0.mk h.lt
 have HP := Aside0.mk (h.pos hm)
 have HD := Aside0.mk hd
 have q1 := h.c1
 have hglt := h.lt
 have HF : Aside0 (Fr (· = g) w (w.alloc (.cells #[.int .i64 0, .string ⟨#[]⟩, .slice none 0 0, .bool false, .string ⟨#[]⟩] 29))) := ⟨(Fr.refl _ w).alloc _⟩
 have HMM := Aside0.mk (hm.at_ ((Below.refl _ _).alloc (Nat.le_refl _) (.cells #[.int .i64 0, .string ⟨#[]⟩, .slice none 0 0, .bool false, .string ⟨#[]⟩] 29)))
 have HT := Aside0.mk (TB.new w 0 ⟨#[]⟩ (.slice none 0 0) false ⟨#[]⟩)
 have HWG : Aside0 (¬ w.heap.size = g) := ⟨by have := h.lt; omega⟩
 have HGW : Aside0 (¬ g = w.heap.size) := ⟨by have := h.lt; omega⟩
 clear h hm hd
 go_enter Try.func21, Try.ntmps21
 go_wp2
 go_loopg [] (s.size - i) (fun kq wr => ∃ (j : Nat), Aside0 (i ≤ j ∧ j ≤ s.size ∧ kq + j = s.size ∧ token_reader.rawTo s name j = token_reader.rawTo s name i) ∧ Aside0 (RD wr g s j) ∧ Aside0 (Fr (· = g) w wr) ∧ Aside0 (TB wr w.heap.size 0 ⟨#[]⟩ (.slice none 0 0) false ⟨#[]⟩) ∧ Aside0 (HM wr))
 case atStart => exact ⟨i, ⟨Nat.le_refl _, by omega, by omega, rfl⟩, HR, HF, HT, HMM⟩
 case round =>
  clear HR HF HT q1 hglt HMM
  obtain ⟨j, HJ, HR, HF, HT, HMR⟩ := hrel
  have hjs : j ≤ s.size := HJ.out.2.1
  have hij : i ≤ j := HJ.out.1
  go_wp2_with fail
  cases hgo : (decide (j < s.size) && !(token_closes.b (s.extract j s.size) name)) with
  | true =>
   simp only [Bool.and_eq_true, decide_eq_true_eq, Bool.not_eq_true'] at hgo
   obtain ⟨hlt, hbg⟩ := hgo
   have HBG := Aside0.mk hbg
   clear hbg
   refine (token_reader.done_any g s j false (by simp; omega) _ HR.out).mono ?_
   rintro e1 w1 ⟨rfl, n1, rfl⟩
   have hR1 : RD (wr.drewN n1) g s j := HR.out
   have HR1 := Aside0.mk hR1
   clear hR1
   go_wp2_with fail
   refine (token_reader.rest_any g s j _ HR1.out hjs (by omega)).mono ?_
   rintro e1 w2 ⟨rfl, n2, rfl⟩
   go_wp2_with fail
   refine (token_closes.any (s.extract j s.size) name false _ (by simp; omega) hnm HBG.out).mono ?_
   rintro e1 w3 ⟨rfl, hb⟩
   have hR3 : RD w3 g s j := RD.keep (w := wr.drewN (n1 + n2)) HR1.out hb
   have hF3 : Fr (· = g) w w3 := (HF.out.drewN (n1 + n2)).below hb
   have hT3 : TB w3 w.heap.size 0 ⟨#[]⟩ (.slice none 0 0) false ⟨#[]⟩ := (HT.out.drN (n1 + n2)).keep hb
   have hM3 : HM w3 := HM.at_ (w := wr.drewN (n1 + n2)) HMR.out hb
   have HR3 := Aside0.mk hR3
   have HF3 := Aside0.mk hF3
   have HT3 := Aside0.mk hT3
   have HM3 := Aside0.mk hM3
   have c1 := hR3.c1
   have f1 := hR3.f 1
   have hj9 : (j : Int) ≤ 1000000000 := by omega
   clear hR3 hF3 hT3 hM3 hb HR1
   go_wp2
   go_roundg (s.size - (j + 1))
   case measure => have := HJ.out; omega
   case rel =>
    have hg : (w.heap.size ≠ g) := HWG.out
    refine ⟨j + 1, ⟨by omega, hlt, by omega, ?_⟩, ⟨HR3.out.set _⟩, ⟨HF3.out.own 1 _⟩, ⟨HT3.out.far _ _ hg⟩, ⟨?_⟩⟩
    ·
     rw [← HJ.out.2.2.2]; unfold token_reader.rawTo
     exact (seek_go _ _ j hlt HBG.out).symm
    ·
     obtain ⟨m, hm⟩ := HM3.out
     exact ⟨m, (World.cell?_of_block (Below.heap_setCell _ _ _ 0 HP.out)).trans hm⟩
  | false =>
   have hend : token_reader.rawTo s name j = j := by
    unfold token_reader.rawTo
    by_cases hlt : j < s.size
    ·
     exact seek_stop _ _ j (by simpa [hlt] using hgo)
    ·
     exact seek_end _ _ j hlt
   have hTi : token_reader.rawTo s name i = j := by rw [← HJ.out.2.2.2]; exact hend
   have hd := HD.out
   unfold token_reader.rawV at hd
   rw [hTi] at hd
   have HD2 := Aside0.mk hd
   clear hend hTi hd HD
   rcases Nat.lt_or_ge j s.size with hlt | hge
   ·
    have hbg : token_closes.b (s.extract j s.size) name = true := by simpa [hlt] using hgo
    have HBG := Aside0.mk hbg
    clear hbg hgo
    refine (token_reader.done_any g s j false (by simp; omega) _ HR.out).mono ?_
    rintro e1 w1 ⟨rfl, n1, rfl⟩
    have hR1 : RD (wr.drewN n1) g s j := HR.out
    have HR1 := Aside0.mk hR1
    clear hR1
    go_wp2_with fail
    refine (token_reader.rest_any g s j _ HR1.out hjs (by omega)).mono ?_
    rintro e1 w2 ⟨rfl, n2, rfl⟩
    go_wp2_with fail
    refine (token_closes.any (s.extract j s.size) name true _ (by simp; omega) hnm HBG.out).mono ?_
    rintro e1 w4 ⟨rfl, hb⟩
    have hR4 : RD w4 g s j := RD.keep (w := wr.drewN (n1 + n2)) HR1.out hb
    have HR4 := Aside0.mk hR4
    have HF4 : Aside0 (Fr (· = g) w w4) := ⟨(HF.out.drewN (n1 + n2)).below hb⟩
    have HT4 : Aside0 (TB w4 w.heap.size 0 ⟨#[]⟩ (.slice none 0 0) false ⟨#[]⟩) := ⟨(HT.out.drN (n1 + n2)).keep hb⟩
    have HM4 : Aside0 (HM w4) := ⟨HM.at_ (w := wr.drewN (n1 + n2)) HMR.out hb⟩
    clear hR4 hb HR1 HR HF HT HMR
    go_upto_region 4 with fail
    by_cases hij2 : i < j
    ·
     skip
     have c0 := HR4.out.c0
     have c1 := HR4.out.c1
     have gq : decide ((j : Int) > (i : Int)) = true := by simp; omega
     have gq2 : (i : Int) < (j : Int) := by omega
     have g0 : (0 : Int) ≤ (i : Int) := by omega
     have g1 : (i : Int) ≤ (j : Int) := by omega
     have g2 : (j : Int) ≤ (s.size : Int) := by omega
     have t0 := HT4.out.cell 0
     have t1 := HT4.out.cell 1
     have t2 := HT4.out.cell 2
     have t3 := HT4.out.cell 3
     have t4 := HT4.out.cell 4
     have u0 := HT4.out.free 0
     have u1 := HT4.out.free 1
     have u2 := HT4.out.free 2
     have u3 := HT4.out.free 3
     have u4 := HT4.out.free 4
     simp only [List.getElem?_toArray, List.getElem?_cons_zero, List.getElem?_cons_succ] at t0 t1 t2 t3 t4
     have hgw := HGW.out
     have hwg := HWG.out
     have hd := HD2.out
     rw [if_pos (show i < j by omega)] at hd
     obtain rfl := Option.some.inj hd
     clear hd HD2
     go_upto_region 5 with fail
     go_still_tail 11, (by kernel_rfl)
     change wpList _ _ _ _ _ w4.drew
     go_wp2
     have hZ := put5_tb HT4.out 1 ⟨#[]⟩ (.slice none 0 0) false (s.extract i j)
     have z0 := hZ.cell 0
     have z1 := hZ.cell 1
     have z2 := hZ.cell 2
     have z3 := hZ.cell 3
     have z4 := hZ.cell 4
     unfold put5 at z0 z1 z2 z3 z4
     exact bodyPost_ret (v := .agg #[.int .i64 1, .string ⟨#[]⟩, .slice none 0 0, .bool false, .string (s.extract i j)]) (by simp [results, Try.results21, go_sem, z0, z1, z2, z3, z4]) rfl
       ⟨.slice none 0 0, rfl, Kd.R_nil _ _ _ _ _, RD.dr ((put5_far _ _ _ _ _ _ _ g hgw).trans HR4.out), Fr.drew (put5_fr HF4.out _ _ _ _ _ _ (Or.inr (Nat.le_refl _)))⟩
    ·
     obtain rfl : i = j := by omega
     have hd := HD2.out
     rw [if_neg (by omega)] at hd
     have HD3 := Aside0.mk hd
     have h2 := token_closes.two hjs HBG.out
     have c1 := HR4.out.c1
     have f1 := HR4.out.f 1
     have gq : decide ((i : Int) > (i : Int)) = false := by simp
     have g3 : (i : Int) ≤ 1000000000 := by omega
     clear hd HD2
     go_wp2_with fail
     refine (token_reader.tagV_any k g s (i + 2) 3 t _ ?_ h2 hs ?_ HD3.out).mono ?_
     ·
      exact HR4.out.set _
     ·
      obtain ⟨m, hm⟩ := HM4.out
      exact ⟨m, (World.cell?_of_block (Below.heap_setCell _ _ _ 0 HP.out)).trans hm⟩
     rintro e1 w5 ⟨v, rfl, hO, hR, hF⟩
     obtain ⟨A, cp, rfl, _⟩ := Kd.R_reads hO
     have HR5 := Aside0.mk hR
     have HF5 : Aside0 (Fr (· = g) w w5) := ⟨(HF4.out.own 1 _).trans hF⟩
     have HT5 : Aside0 (TB w5 w.heap.size 0 ⟨#[]⟩ (.slice none 0 0) false ⟨#[]⟩) := ⟨TB.fr (HT4.out.far _ _ HWG.out) hF HWG.out⟩
     have HO5 := Aside0.mk (Kd.R_lower hO (Fr.size (HF4.out.own 1 _)))
     clear hO hR hF HR4 HF4 HT4 HM4
     have t0 := HT5.out.cell 0
     have t1 := HT5.out.cell 1
     have t2 := HT5.out.cell 2
     have t3 := HT5.out.cell 3
     have t4 := HT5.out.cell 4
     have u0 := HT5.out.free 0
     have u1 := HT5.out.free 1
     have u2 := HT5.out.free 2
     have u3 := HT5.out.free 3
     have u4 := HT5.out.free 4
     simp only [List.getElem?_toArray, List.getElem?_cons_zero, List.getElem?_cons_succ] at t0 t1 t2 t3 t4
     go_wp2
     have hZ := put5_tb HT5.out t.kd t.nm (.slice A t.l.length cp) t.c t.tx
     have z0 := hZ.cell 0
     have z1 := hZ.cell 1
     have z2 := hZ.cell 2
     have z3 := hZ.cell 3
     have z4 := hZ.cell 4
     unfold put5 at z0 z1 z2 z3 z4
     exact bodyPost_ret (v := .agg #[.int .i64 t.kd, .string t.nm, .slice A t.l.length cp, .bool t.c, .string t.tx]) (by simp [results, Try.results21, go_sem, z0, z1, z2, z3, z4]) rfl
       ⟨.slice A t.l.length cp, rfl, Kd.R_put5 HO5.out HT5.out _ _ _ _ _, (put5_far _ _ _ _ _ _ _ g HGW.out).trans HR5.out, put5_fr HF5.out _ _ _ _ _ _ (Or.inr (Nat.le_refl _))⟩
   ·
    have hij2 : i < j := by omega
    refine (token_reader.done_any g s j true (by simp; omega) _ HR.out).mono ?_
    rintro e1 w1 ⟨rfl, n1, rfl⟩
    obtain ⟨w4, hw4⟩ : ∃ W, wr.drewN n1 = W := ⟨_, rfl⟩
    have HR4 : Aside0 (RD w4 g s j) := ⟨by rw [← hw4]; exact HR.out⟩
    have HF4 : Aside0 (Fr (· = g) w w4) := ⟨by rw [← hw4]; exact HF.out.drewN _⟩
    have HT4 : Aside0 (TB w4 w.heap.size 0 ⟨#[]⟩ (.slice none 0 0) false ⟨#[]⟩) := ⟨by rw [← hw4]; exact HT.out⟩
    rw [hw4]
    clear hw4 HR HF HT HMR
    go_upto_region 4 with fail
    have c0 := HR4.out.c0
    have c1 := HR4.out.c1
    have gq : decide ((j : Int) > (i : Int)) = true := by simp; omega
    have gq2 : (i : Int) < (j : Int) := by omega
    have g0 : (0 : Int) ≤ (i : Int) := by omega
    have g1 : (i : Int) ≤ (j : Int) := by omega
    have g2 : (j : Int) ≤ (s.size : Int) := by omega
    have t0 := HT4.out.cell 0
    have t1 := HT4.out.cell 1
    have t2 := HT4.out.cell 2
    have t3 := HT4.out.cell 3
    have t4 := HT4.out.cell 4
    have u0 := HT4.out.free 0
    have u1 := HT4.out.free 1
    have u2 := HT4.out.free 2
    have u3 := HT4.out.free 3
    have u4 := HT4.out.free 4
    simp only [List.getElem?_toArray, List.getElem?_cons_zero, List.getElem?_cons_succ] at t0 t1 t2 t3 t4
    have hgw := HGW.out
    have hwg := HWG.out
    have hd := HD2.out
    rw [if_pos (show i < j by omega)] at hd
    obtain rfl := Option.some.inj hd
    clear hd HD2
    go_upto_region 5 with fail
    go_still_tail 11, (by kernel_rfl)
    change wpList _ _ _ _ _ w4.drew
    go_wp2
    have hZ := put5_tb HT4.out 1 ⟨#[]⟩ (.slice none 0 0) false (s.extract i j)
    have z0 := hZ.cell 0
    have z1 := hZ.cell 1
    have z2 := hZ.cell 2
    have z3 := hZ.cell 3
    have z4 := hZ.cell 4
    unfold put5 at z0 z1 z2 z3 z4
    exact bodyPost_ret (v := .agg #[.int .i64 1, .string ⟨#[]⟩, .slice none 0 0, .bool false, .string (s.extract i j)]) (by simp [results, Try.results21, go_sem, z0, z1, z2, z3, z4]) rfl
      ⟨.slice none 0 0, rfl, Kd.R_nil _ _ _ _ _, RD.dr ((put5_far _ _ _ _ _ _ _ g hgw).trans HR4.out), Fr.drew (put5_fr HF4.out _ _ _ _ _ _ (Or.inr (Nat.le_refl _)))⟩
/-! HAND token_reader_data: function 23 -/
def token_reader.textV (k : Nat) (s : ByteArray) (i : Nat) : Option TokV := (charref_Decode.f k (s.extract i (token_reader.textTo s i)) false).bind fun r => some ⟨1, ⟨#[]⟩, [], false, r, token_reader.textTo s i⟩
theorem token_reader.textV_any (k : Nat) (g : Nat) (s : ByteArray) (i : Nat) (t : TokV) (w : World) (h : RD w g s i) (hi : i ≤ s.size) (hs : s.size ≤ 1000000000) (hd : token_reader.textV k s i = some t) :
    Calls Try.prog 38 #[.pointer (some ⟨g, 0, none⟩)] w (TokC w g s t) := by
 unfold token_reader.textV at hd
 obtain ⟨r, hr, hd⟩ := Option.bind_eq_some_iff.1 hd
 obtain rfl := Option.some.inj hd
 exact token_reader.text_any k g s i r w h hi hs hr
def token_reader.declV (k : Nat) (s : ByteArray) (i : Nat) : Option TokV := (token_reader.decl k s i).bind fun p => some ⟨p.1, ⟨#[]⟩, [], false, p.2.1, p.2.2⟩
theorem token_reader.declV_any (k : Nat) (g : Nat) (s : ByteArray) (i : Nat) (t : TokV) (w : World) (h : RD w g s i) (hi : i ≤ s.size) (hs : s.size ≤ 1000000000) (hm : HM w) (hd : token_reader.declV k s i = some t) :
    Calls Try.prog 41 #[.pointer (some ⟨g, 0, none⟩)] w (TokC w g s t) := by
 unfold token_reader.declV at hd
 obtain ⟨⟨kd, r, e⟩, hr, hd⟩ := Option.bind_eq_some_iff.1 hd
 obtain rfl := Option.some.inj hd
 exact token_reader.declared_any k g s i kd r e w h hi hs hm hr
def token_reader.cdataW : ByteArray := ⟨#[60, 33, 91, 67, 68, 65, 84, 65, 91]⟩
/-- A comment of what is no better markup. -/
def token_reader.otherV (s : ByteArray) (i : Nat) : TokV := ⟨4, ⟨#[]⟩, [], false, token_reader.cutTxt s i ⟨#[62]⟩, token_reader.cutAt s i ⟨#[62]⟩⟩
def token_reader.byte (s : ByteArray) (i : Nat) : UInt8 := s.data.toList.getD i 0
def token_reader.dataV : Nat → ByteArray → Nat → Bool → Option TokV
  | 0, _, _, _ => none
  | k + 1, s, i, fo =>
    if s.size ≤ i then some (TokV.end_ i)
    else if token_begins.b (s.data.toList.drop i) = false then token_reader.textV k s i
    else if token_reader.here s i ⟨#[60, 47, 62]⟩ = true then token_reader.dataV k s (i + 3) fo
    else if (fo && token_reader.here s i token_reader.cdataW) = true then
      if (token_reader.cutTxt s (i + 9) ⟨#[93, 93, 62]⟩).toList = [] then token_reader.dataV k s (token_reader.cutAt s (i + 9) ⟨#[93, 93, 62]⟩) fo
      else some ⟨1, ⟨#[]⟩, [], false, token_reader.cutTxt s (i + 9) ⟨#[93, 93, 62]⟩, token_reader.cutAt s (i + 9) ⟨#[93, 93, 62]⟩⟩
    else if token_reader.here s i ⟨#[60, 33]⟩ = true then token_reader.declV k s (i + 2)
    else if token_reader.here s i ⟨#[60, 47]⟩ = true then
      if token_begins.letter (token_reader.byte s (i + 2)) = true then token_reader.tagV k s (i + 2) 3 else some (token_reader.otherV s (i + 2))
    else if token_reader.byte s (i + 1) = 63 then some (token_reader.otherV s (i + 1)) else token_reader.tagV k s (i + 1) 2
theorem token_begins.two {s : ByteArray} {i : Nat} (h : token_begins.b (s.data.toList.drop i) = true) : i + 1 < s.size := by
 unfold token_begins.b at h
 split at h
 ·
  rename_i c r he
  have := congrArg List.length he
  simp at this; omega
 ·
  cases h
theorem token_begins.three {s : ByteArray} {i : Nat} (h : token_begins.b (s.data.toList.drop i) = true) (h2 : token_reader.here s i ⟨#[60, 47]⟩ = true) : i + 2 < s.size := by
 unfold token_reader.here Lib.hasPrefix at h2
 obtain ⟨r, hr⟩ := List.isPrefixOf_iff_prefix.1 h2
 have hr : (60 :: 47 :: r : List UInt8) = s.data.toList.drop i := hr
 rw [← hr, token_begins.b_cons] at h
 have hl := congrArg List.length hr
 cases r with
 | nil => simp at h
 | cons a r => simp at hl; omega
set_option maxHeartbeats 4000000 in
set_option maxRecDepth 100000 in
theorem token_reader.data_any (k : Nat) (g : Nat) (s : ByteArray) (i : Nat) (fo : Bool) (t : TokV) (w : World) (h : RD w g s i) (hi : i ≤ s.size) (hs : s.size ≤ 1000000000) (hm : HM w) (hd : token_reader.dataV k s i fo = some t) :
    Calls Try.prog 23 #[.pointer (some ⟨g, 0, none⟩), .bool fo] w (TokC w g s t) := by
 have HR := Aside0.mk (h.al (.cells #[.int .i64 0, .string ⟨#[]⟩, .slice none 0 0, .bool false, .string ⟨#[]⟩] 29))
 have HGL := Aside0.mk h.lt
 have HP := Aside0.mk (h.pos hm)
 have HD := Aside0.mk hd
 have HF : Aside0 (Fr (· = g) w (w.alloc (.cells #[.int .i64 0, .string ⟨#[]⟩, .slice none 0 0, .bool false, .string ⟨#[]⟩] 29))) := ⟨(Fr.refl _ w).alloc _⟩
 have HMM := Aside0.mk (hm.at_ ((Below.refl _ _).alloc (Nat.le_refl _) (.cells #[.int .i64 0, .string ⟨#[]⟩, .slice none 0 0, .bool false, .string ⟨#[]⟩] 29)))
 have HT := Aside0.mk (TB.new w 0 ⟨#[]⟩ (.slice none 0 0) false ⟨#[]⟩)
 have HWG : Aside0 (¬ w.heap.size = g) := ⟨by have := h.lt; omega⟩
 have HGW : Aside0 (¬ g = w.heap.size) := ⟨by have := h.lt; omega⟩
 clear h hm hd
 go_enter Try.func23, Try.ntmps23
 go_wp2
 go_loopg [] k (fun kq wr => ∃ (j : Nat), Aside0 (j ≤ s.size ∧ token_reader.dataV kq s j fo = some t) ∧ Aside0 (RD wr g s j) ∧ Aside0 (Fr (· = g) w wr) ∧ Aside0 (TB wr w.heap.size 0 ⟨#[]⟩ (.slice none 0 0) false ⟨#[]⟩) ∧ Aside0 (HM wr))
 case atStart => exact ⟨i, ⟨hi, HD.out⟩, HR, HF, HT, HMM⟩
 case round =>
  clear HR HF HT HMM HD
  obtain ⟨j, HJ, HR, HF, HT, HMR⟩ := hrel
  have hjs : j ≤ s.size := HJ.out.1
  obtain ⟨kk, rfl⟩ : ∃ m, gk = m + 1 := ⟨gk - 1, by
    rcases gk with _ | m
    · have := HJ.out.2; rw [token_reader.dataV] at this; cases this
    · rfl⟩
  have hd := HJ.out.2
  rw [token_reader.dataV] at hd
  have HD := Aside0.mk hd
  clear hd HJ
  go_wp2_with fail
  by_cases hge : s.size ≤ j
  ·
   refine (token_reader.done_any g s j true (by simp; omega) _ HR.out).mono ?_
   rintro e1 w1 ⟨rfl, n1, rfl⟩
   have hd := HD.out
   rw [if_pos hge] at hd
   obtain rfl := Option.some.inj hd
   have HR5 : Aside0 (RD (wr.drewN n1) g s j) := ⟨HR.out⟩
   have HF5 := Aside0.mk (HF.out.drewN n1)
   have HT5 := Aside0.mk (HT.out.drN n1)
   have hgw := HGW.out
   clear HR HF HT HMR HD hd
   have t0 := HT5.out.cell 0
   have t1 := HT5.out.cell 1
   have t2 := HT5.out.cell 2
   have t3 := HT5.out.cell 3
   have t4 := HT5.out.cell 4
   have u0 := HT5.out.free 0
   have u1 := HT5.out.free 1
   have u2 := HT5.out.free 2
   have u3 := HT5.out.free 3
   have u4 := HT5.out.free 4
   simp only [List.getElem?_toArray, List.getElem?_cons_zero, List.getElem?_cons_succ] at t0 t1 t2 t3 t4
   go_wp2
   have hZ := put5_tb HT5.out 0 ⟨#[]⟩ (.slice none 0 0) false ⟨#[]⟩
   have z0 := hZ.cell 0
   have z1 := hZ.cell 1
   have z2 := hZ.cell 2
   have z3 := hZ.cell 3
   have z4 := hZ.cell 4
   unfold put5 at z0 z1 z2 z3 z4
   exact bodyPost_ret (v := .agg #[.int .i64 0, .string ⟨#[]⟩, .slice none 0 0, .bool false, .string ⟨#[]⟩]) (by simp [results, Try.results23, go_sem, z0, z1, z2, z3, z4]) rfl
     ⟨.slice none 0 0, rfl, Kd.R_nil _ _ _ _ _, (put5_far _ _ _ _ _ _ _ g hgw).trans HR5.out, put5_fr HF5.out _ _ _ _ _ _ (Or.inr (Nat.le_refl _))⟩
  ·
   have hlt : j < s.size := by omega
   refine (token_reader.done_any g s j false (by simp; omega) _ HR.out).mono ?_
   rintro e1 w1 ⟨rfl, n1, rfl⟩
   have hd := HD.out
   rw [if_neg hge] at hd
   have HD := Aside0.mk hd
   have HR1 : Aside0 (RD (wr.drewN n1) g s j) := ⟨HR.out⟩
   clear hd
   go_wp2_with fail
   refine (token_reader.rest_any g s j _ HR1.out hjs (by omega)).mono ?_
   rintro e1 w2 ⟨rfl, n2, rfl⟩
   go_wp2_with fail
   cases hbg : token_begins.b (s.data.toList.drop j) with
   | false =>
    refine (token_begins.any (s.extract j s.size) false _ (by simp; omega) (by rw [← hbg]; congr 1; simp [ByteArray.data_extract, List.take_of_length_le])).mono ?_
    rintro e1 w3 ⟨rfl, n3, rfl⟩
    have hd := HD.out
    rw [if_pos hbg] at hd
    have HD := Aside0.mk hd
    clear hd hbg
    go_wp2_with fail
    refine (token_reader.textV_any kk g s j t _ (HR.out.drN (n1 + n2 + n3)) hjs hs HD.out).mono ?_
    rintro e1 w5 ⟨v, rfl, hO, hR, hF⟩
    obtain ⟨A, cp, rfl, _⟩ := Kd.R_reads hO
    have HR5 := Aside0.mk hR
    have HF5 : Aside0 (Fr (· = g) w w5) := ⟨(HF.out.drewN _).trans hF⟩
    have HT5 : Aside0 (TB w5 w.heap.size 0 ⟨#[]⟩ (.slice none 0 0) false ⟨#[]⟩) := ⟨TB.fr (HT.out.drN _) hF HWG.out⟩
    have HO5 := Aside0.mk (Kd.R_lower hO (Fr.size (HF.out.drewN _)))
    clear hO hR hF HR HF HT HMR HR1
    have t0 := HT5.out.cell 0
    have t1 := HT5.out.cell 1
    have t2 := HT5.out.cell 2
    have t3 := HT5.out.cell 3
    have t4 := HT5.out.cell 4
    have u0 := HT5.out.free 0
    have u1 := HT5.out.free 1
    have u2 := HT5.out.free 2
    have u3 := HT5.out.free 3
    have u4 := HT5.out.free 4
    simp only [List.getElem?_toArray, List.getElem?_cons_zero, List.getElem?_cons_succ] at t0 t1 t2 t3 t4
    go_wp2
    have hZ := put5_tb HT5.out t.kd t.nm (.slice A t.l.length cp) t.c t.tx
    have z0 := hZ.cell 0
    have z1 := hZ.cell 1
    have z2 := hZ.cell 2
    have z3 := hZ.cell 3
    have z4 := hZ.cell 4
    unfold put5 at z0 z1 z2 z3 z4
    exact bodyPost_ret (v := .agg #[.int .i64 t.kd, .string t.nm, .slice A t.l.length cp, .bool t.c, .string t.tx]) (by simp [results, Try.results23, go_sem, z0, z1, z2, z3, z4]) rfl
      ⟨.slice A t.l.length cp, rfl, Kd.R_put5 HO5.out HT5.out _ _ _ _ _, (put5_far _ _ _ _ _ _ _ g HGW.out).trans HR5.out, put5_fr HF5.out _ _ _ _ _ _ (Or.inr (Nat.le_refl _))⟩
   | true =>
    refine (token_begins.any (s.extract j s.size) true _ (by simp; omega) (by rw [← hbg]; congr 1; simp [ByteArray.data_extract, List.take_of_length_le])).mono ?_
    rintro e1 w3 ⟨rfl, n3, rfl⟩
    have hd := HD.out
    rw [if_neg (by rw [hbg]; simp)] at hd
    have HD := Aside0.mk hd
    have HBG := Aside0.mk hbg
    obtain ⟨w4, hw4⟩ : ∃ W, (wr.drewN (n1 + n2)).drewN n3 = W := ⟨_, rfl⟩
    have HR4 : Aside0 (RD w4 g s j) := ⟨by rw [← hw4]; exact HR.out⟩
    have HF4 : Aside0 (Fr (· = g) w w4) := ⟨by rw [← hw4]; exact (HF.out.drewN _).drewN _⟩
    have HT4 : Aside0 (TB w4 w.heap.size 0 ⟨#[]⟩ (.slice none 0 0) false ⟨#[]⟩) := ⟨by rw [← hw4]; exact HT.out⟩
    have HM4 : Aside0 (HM w4) := ⟨by rw [← hw4]; exact HMR.out⟩
    rw [hw4]
    clear hw4 HR HF HT HMR HR1 hd hbg
    go_wp2_with fail
    cases h3 : token_reader.here s j ⟨#[60, 47, 62]⟩ with
    | true =>
     have hd := HD.out
     rw [if_pos h3] at hd
     have HD := Aside0.mk hd
     have hl : j + 3 ≤ s.size := token_reader.here_le hjs h3
     refine (token_reader.past_yes g s j ⟨#[60, 47, 62]⟩ _ HR4.out hjs hs h3).mono ?_
     clear h3 hd
     rintro e1 w5 ⟨rfl, hr, hf⟩
     have hr : RD w5 g s ((j + 3 : Nat) : Int) := hr
     have HR5 := Aside0.mk hr
     have HF5 := Aside0.mk (HF4.out.trans hf)
     have HT5 := Aside0.mk (HT4.out.fr hf HWG.out)
     have HM5 := Aside0.mk (HM4.out.fr hf HP.out)
     clear hr hf HR4 HF4 HT4 HM4
     go_wp2
     go_roundg kk
     case measure => exact Nat.lt_succ_self kk
     case rel => exact ⟨j + 3, ⟨hl, HD.out⟩, HR5, HF5, HT5, HM5⟩
    | false =>
     have hd := HD.out
     rw [if_neg (by rw [h3]; simp)] at hd
     have HD := Aside0.mk hd
     refine (token_reader.past_no g s j ⟨#[60, 47, 62]⟩ _ HR4.out hjs hs h3).mono ?_
     clear h3 hd
     rintro e1 w5 ⟨rfl, hr, hf⟩
     have HR5 := Aside0.mk hr
     have HF5 := Aside0.mk (HF4.out.trans hf)
     have HT5 := Aside0.mk (HT4.out.fr hf HWG.out)
     have HM5 := Aside0.mk (HM4.out.fr hf HP.out)
     clear hr hf HR4 HF4 HT4 HM4
     obtain ⟨b, hb⟩ : ∃ b, (fo && token_reader.here s j token_reader.cdataW) = b := ⟨_, rfl⟩
     obtain ⟨pos, hpos⟩ : ∃ p, (if b = true then j + 9 else j) = p := ⟨_, rfl⟩
     have HB := Aside0.mk hb
     have HPOS := Aside0.mk hpos
     clear hb hpos
     go_upto_region 9 with fail
     go_cut [41] (fun v41 wz => v41 = .bool b ∧ Aside0 (RD wz g s pos) ∧ Aside0 (Fr (· = g) w wz) ∧ Aside0 (TB wz w.heap.size 0 ⟨#[]⟩ (.slice none 0 0) false ⟨#[]⟩) ∧ Aside0 (HM wz))
     case first =>
      cases fo with
      | false =>
       obtain rfl : false = b := HB.out
       obtain rfl : j = pos := HPOS.out
       go_wp2_with fail
       go_meet
       exact ⟨rfl, HR5, HF5, HT5, HM5⟩
      | true =>
       go_wp2_with fail
       cases h9 : token_reader.here s j token_reader.cdataW with
       | true =>
        obtain rfl : true = b := by rw [← HB.out, h9]; rfl
        obtain rfl : j + 9 = pos := HPOS.out
        refine (token_reader.past_yes g s j token_reader.cdataW _ HR5.out hjs hs h9).mono ?_
        clear h9
        rintro e1 w6 ⟨rfl, hr, hf⟩
        have hr : RD w6 g s ((j + 9 : Nat) : Int) := hr
        have HR6 := Aside0.mk hr
        have HF6 := Aside0.mk (HF5.out.trans hf)
        have HT6 := Aside0.mk (HT5.out.fr hf HWG.out)
        have HM6 := Aside0.mk (HM5.out.fr hf HP.out)
        clear hr hf HR5 HF5 HT5 HM5
        go_wp2_with fail
        go_meet
        exact ⟨rfl, HR6, HF6, HT6, HM6⟩
       | false =>
        obtain rfl : false = b := by rw [← HB.out, h9]; rfl
        obtain rfl : j = pos := HPOS.out
        refine (token_reader.past_no g s j token_reader.cdataW _ HR5.out hjs hs h9).mono ?_
        clear h9
        rintro e1 w6 ⟨rfl, hr, hf⟩
        have HR6 := Aside0.mk hr
        have HF6 := Aside0.mk (HF5.out.trans hf)
        have HT6 := Aside0.mk (HT5.out.fr hf HWG.out)
        have HM6 := Aside0.mk (HM5.out.fr hf HP.out)
        clear hr hf HR5 HF5 HT5 HM5
        go_wp2_with fail
        go_meet
        exact ⟨rfl, HR6, HF6, HT6, HM6⟩
     case rest =>
      clear HR5 HF5 HT5 HM5
      obtain ⟨rfl, HR6, HF6, HT6, HM6⟩ := hcut
      cases b with
      | true =>
       obtain rfl : j + 9 = pos := HPOS.out
       have hd := HD.out
       rw [if_pos HB.out] at hd
       have HD := Aside0.mk hd
       have hfo : fo = true := by have := HB.out; simp only [Bool.and_eq_true] at this; exact this.1
       have hl : j + 9 ≤ s.size := by
        have := HB.out; simp only [Bool.and_eq_true] at this
        exact token_reader.here_le hjs this.2
       clear hd hfo
       go_wp2_with fail
       refine (token_reader.upTo_any g s (j + 9) ⟨#[93, 93, 62]⟩ _ HR6.out hl hs HM6.out).mono ?_
       rintro e1 w7 ⟨rfl, hr, hf⟩
       have HR7 := Aside0.mk hr
       have HF7 := Aside0.mk (HF6.out.trans hf)
       have HT7 := Aside0.mk (HT6.out.fr hf HWG.out)
       have HM7 := Aside0.mk (HM6.out.fr hf HP.out)
       clear hr hf HR6 HF6 HT6 HM6
       obtain ⟨tx, htx⟩ : ∃ x, token_reader.cutTxt s (j + 9) ⟨#[93, 93, 62]⟩ = x := ⟨_, rfl⟩
       obtain ⟨ee, hee⟩ : ∃ x, token_reader.cutAt s (j + 9) ⟨#[93, 93, 62]⟩ = x := ⟨_, rfl⟩
       have hel := token_reader.cutAt_le s (j + 9) ⟨#[93, 93, 62]⟩ hl
       have hd := HD.out
       rw [htx, hee] at hd
       rw [hee] at HR7 hel
       rw [htx]
       clear HD htx hee
       by_cases hem : tx.toList = []
       ·
        rw [if_pos hem] at hd
        have HD := Aside0.mk hd
        have HEL := Aside0.mk hel
        have j1 : (tx.toList == []) = true := beq_iff_eq.mpr hem
        have j2 : (tx.toList != []) = false := bne_eq_false_iff_eq.mpr hem
        have j3 : tx.toList.isEmpty = true := by rw [hem]; rfl
        clear hd hem hel
        go_wp2
        go_roundg kk
        case measure => exact Nat.lt_succ_self kk
        case rel => exact ⟨ee, ⟨HEL.out.2, HD.out⟩, HR7, HF7, HT7, HM7⟩
       ·
        rw [if_neg hem] at hd
        obtain rfl := Option.some.inj hd
        have hgw := HGW.out
        have j1 : (tx.toList == []) = false := beq_eq_false_iff_ne.mpr hem
        have j2 : (tx.toList != []) = true := bne_iff_ne.mpr hem
        have j3 : tx.toList.isEmpty = false := by cases hq : tx.toList with | nil => exact absurd hq hem | cons a b => rfl
        clear hd hem hel
        have t0 := HT7.out.cell 0
        have t1 := HT7.out.cell 1
        have t2 := HT7.out.cell 2
        have t3 := HT7.out.cell 3
        have t4 := HT7.out.cell 4
        have u0 := HT7.out.free 0
        have u1 := HT7.out.free 1
        have u2 := HT7.out.free 2
        have u3 := HT7.out.free 3
        have u4 := HT7.out.free 4
        simp only [List.getElem?_toArray, List.getElem?_cons_zero, List.getElem?_cons_succ] at t0 t1 t2 t3 t4
        go_wp2
        have hZ := put5_tb HT7.out 1 ⟨#[]⟩ (.slice none 0 0) false tx
        have z0 := hZ.cell 0
        have z1 := hZ.cell 1
        have z2 := hZ.cell 2
        have z3 := hZ.cell 3
        have z4 := hZ.cell 4
        unfold put5 at z0 z1 z2 z3 z4
        exact bodyPost_ret (v := .agg #[.int .i64 1, .string ⟨#[]⟩, .slice none 0 0, .bool false, .string tx]) (by simp [results, Try.results23, go_sem, z0, z1, z2, z3, z4]) rfl
          ⟨.slice none 0 0, rfl, Kd.R_nil _ _ _ _ _, (put5_far _ _ _ _ _ _ _ g hgw).trans HR7.out, put5_fr HF7.out _ _ _ _ _ _ (Or.inr (Nat.le_refl _))⟩
      | false =>
       obtain rfl : j = pos := HPOS.out
       have hd := HD.out
       rw [if_neg (by rw [HB.out]; simp)] at hd
       have HD := Aside0.mk hd
       clear hd
       have h2 := token_begins.two HBG.out
       go_wp2_with fail
       cases h33 : token_reader.here s j ⟨#[60, 33]⟩ with
       | true =>
        have hd := HD.out
        rw [if_pos h33] at hd
        have HD := Aside0.mk hd
        have hl : j + 2 ≤ s.size := token_reader.here_le hjs h33
        clear hd
        refine (token_reader.past_yes g s j ⟨#[60, 33]⟩ _ HR6.out hjs hs h33).mono ?_
        clear h33
        rintro e1 w7 ⟨rfl, hr, hf⟩
        have hr : RD w7 g s ((j + 2 : Nat) : Int) := hr
        have HR7 := Aside0.mk hr
        have HF7 := Aside0.mk (HF6.out.trans hf)
        have HT7 := Aside0.mk (HT6.out.fr hf HWG.out)
        have HM7 := Aside0.mk (HM6.out.fr hf HP.out)
        clear hr hf HR6 HF6 HT6 HM6
        go_wp2_with fail
        refine (token_reader.declV_any kk g s (j + 2) t _ HR7.out hl hs HM7.out HD.out).mono ?_
        rintro e1 w8 ⟨v, rfl, hO, hR, hF⟩
        obtain ⟨A, cp, rfl, _⟩ := Kd.R_reads hO
        have HR8 := Aside0.mk hR
        have HF8 : Aside0 (Fr (· = g) w w8) := ⟨HF7.out.trans hF⟩
        have HT8 : Aside0 (TB w8 w.heap.size 0 ⟨#[]⟩ (.slice none 0 0) false ⟨#[]⟩) := ⟨TB.fr HT7.out hF HWG.out⟩
        have HO8 := Aside0.mk (Kd.R_lower hO (Fr.size HF7.out))
        clear hO hR hF HR7 HF7 HT7 HM7
        have t0 := HT8.out.cell 0
        have t1 := HT8.out.cell 1
        have t2 := HT8.out.cell 2
        have t3 := HT8.out.cell 3
        have t4 := HT8.out.cell 4
        have u0 := HT8.out.free 0
        have u1 := HT8.out.free 1
        have u2 := HT8.out.free 2
        have u3 := HT8.out.free 3
        have u4 := HT8.out.free 4
        simp only [List.getElem?_toArray, List.getElem?_cons_zero, List.getElem?_cons_succ] at t0 t1 t2 t3 t4
        go_wp2
        have hZ := put5_tb HT8.out t.kd t.nm (.slice A t.l.length cp) t.c t.tx
        have z0 := hZ.cell 0
        have z1 := hZ.cell 1
        have z2 := hZ.cell 2
        have z3 := hZ.cell 3
        have z4 := hZ.cell 4
        unfold put5 at z0 z1 z2 z3 z4
        exact bodyPost_ret (v := .agg #[.int .i64 t.kd, .string t.nm, .slice A t.l.length cp, .bool t.c, .string t.tx]) (by simp [results, Try.results23, go_sem, z0, z1, z2, z3, z4]) rfl
          ⟨.slice A t.l.length cp, rfl, Kd.R_put5 HO8.out HT8.out _ _ _ _ _, (put5_far _ _ _ _ _ _ _ g HGW.out).trans HR8.out, put5_fr HF8.out _ _ _ _ _ _ (Or.inr (Nat.le_refl _))⟩
       | false =>
        have hd := HD.out
        rw [if_neg (by rw [h33]; simp)] at hd
        have HD := Aside0.mk hd
        clear hd
        refine (token_reader.past_no g s j ⟨#[60, 33]⟩ _ HR6.out hjs hs h33).mono ?_
        clear h33
        rintro e1 w7 ⟨rfl, hr, hf⟩
        have HR7 := Aside0.mk hr
        have HF7 := Aside0.mk (HF6.out.trans hf)
        have HT7 := Aside0.mk (HT6.out.fr hf HWG.out)
        have HM7 := Aside0.mk (HM6.out.fr hf HP.out)
        clear hr hf HR6 HF6 HT6 HM6
        go_wp2_with fail
        cases h47 : token_reader.here s j ⟨#[60, 47]⟩ with
        | true =>
         have h3 := token_begins.three HBG.out h47
         have hd := HD.out
         rw [if_pos h47] at hd
         have HD := Aside0.mk hd
         clear hd
         refine (token_reader.past_yes g s j ⟨#[60, 47]⟩ _ HR7.out hjs hs h47).mono ?_
         clear h47
         rintro e1 w8 ⟨rfl, hr, hf⟩
         have hr : RD w8 g s ((j + 2 : Nat) : Int) := hr
         have HR8 := Aside0.mk hr
         have HF8 := Aside0.mk (HF7.out.trans hf)
         have HT8 := Aside0.mk (HT7.out.fr hf HWG.out)
         have HM8 := Aside0.mk (HM7.out.fr hf HP.out)
         clear hr hf HR7 HF7 HT7 HM7
         have hbyte : token_reader.byte s (j + 2) = s[j + 2]'h3 := by
          have h' : j + 2 < s.data.toList.length := by simpa using h3
          unfold token_reader.byte; rw [List.getD, List.getElem?_eq_getElem h']; rfl
         obtain ⟨bb, hbb⟩ : ∃ b, token_begins.letter (s[j + 2]'h3) = b := ⟨_, rfl⟩
         have hd := HD.out
         rw [hbyte, hbb] at hd
         have hlet := fun wx => kind_Letter.calls (((s[j + 2]'h3).toNat : Nat) : Int) bb wx (by rw [token_begins.letter_ok, hbb])
         have HD := Aside0.mk hd
         have c0 := HR8.out.c0
         have c1 := HR8.out.c1
         have g0 : (0 : Int) ≤ (j : Int) + 2 := by omega
         have g1 : (j : Int) + 2 < (s.size : Int) := by omega
         clear hd hbyte hbb
         cases bb with
         | true =>
          have hd := HD.out
          rw [if_pos rfl] at hd
          have HD := Aside0.mk hd
          clear hd
          go_wp2_with fail
          go_quiet (first | (go_at_call 42; exact Calls.quiet_of ((hlet _).mono (fun e w' h => ⟨h.1, h.2.out⟩))))
          obtain ⟨w9, hw9⟩ : ∃ W, w8.drewN nq = W := ⟨_, rfl⟩
          have HR9 : Aside0 (RD w9 g s ((j + 2 : Nat) : Int)) := ⟨by rw [← hw9]; exact HR8.out.drN _⟩
          have HF9 : Aside0 (Fr (· = g) w w9) := ⟨by rw [← hw9]; exact HF8.out.drewN _⟩
          have HT9 : Aside0 (TB w9 w.heap.size 0 ⟨#[]⟩ (.slice none 0 0) false ⟨#[]⟩) := ⟨by rw [← hw9]; exact HT8.out.drN _⟩
          have HM9 : Aside0 (HM w9) := ⟨by rw [← hw9]; exact HM8.out⟩
          rw [hw9]
          clear hw9 HR8 HF8 HT8 HM8 c0 c1
          go_wp2_with fail
          refine (token_reader.tagV_any kk g s (j + 2) 3 t _ HR9.out (by omega) hs HM9.out HD.out).mono ?_
          rintro e1 w10 ⟨v, rfl, hO, hR, hF⟩
          obtain ⟨A, cp, rfl, _⟩ := Kd.R_reads hO
          have HR10 := Aside0.mk hR
          have HF10 : Aside0 (Fr (· = g) w w10) := ⟨HF9.out.trans hF⟩
          have HT10 : Aside0 (TB w10 w.heap.size 0 ⟨#[]⟩ (.slice none 0 0) false ⟨#[]⟩) := ⟨TB.fr HT9.out hF HWG.out⟩
          have HO10 := Aside0.mk (Kd.R_lower hO (Fr.size HF9.out))
          clear hO hR hF HR9 HF9 HT9 HM9
          have t0 := HT10.out.cell 0
          have t1 := HT10.out.cell 1
          have t2 := HT10.out.cell 2
          have t3 := HT10.out.cell 3
          have t4 := HT10.out.cell 4
          have u0 := HT10.out.free 0
          have u1 := HT10.out.free 1
          have u2 := HT10.out.free 2
          have u3 := HT10.out.free 3
          have u4 := HT10.out.free 4
          simp only [List.getElem?_toArray, List.getElem?_cons_zero, List.getElem?_cons_succ] at t0 t1 t2 t3 t4
          go_wp2
          have hZ := put5_tb HT10.out t.kd t.nm (.slice A t.l.length cp) t.c t.tx
          have z0 := hZ.cell 0
          have z1 := hZ.cell 1
          have z2 := hZ.cell 2
          have z3 := hZ.cell 3
          have z4 := hZ.cell 4
          unfold put5 at z0 z1 z2 z3 z4
          exact bodyPost_ret (v := .agg #[.int .i64 t.kd, .string t.nm, .slice A t.l.length cp, .bool t.c, .string t.tx]) (by simp [results, Try.results23, go_sem, z0, z1, z2, z3, z4]) rfl
            ⟨.slice A t.l.length cp, rfl, Kd.R_put5 HO10.out HT10.out _ _ _ _ _, (put5_far _ _ _ _ _ _ _ g HGW.out).trans HR10.out, put5_fr HF10.out _ _ _ _ _ _ (Or.inr (Nat.le_refl _))⟩
         | false =>
          have hd := HD.out
          rw [if_neg (by simp)] at hd
          have HD := Aside0.mk hd
          clear hd
          go_wp2_with fail
          go_quiet (first | (go_at_call 42; exact Calls.quiet_of ((hlet _).mono (fun e w' h => ⟨h.1, h.2.out⟩))))
          obtain ⟨w9, hw9⟩ : ∃ W, w8.drewN nq = W := ⟨_, rfl⟩
          have HR9 : Aside0 (RD w9 g s ((j + 2 : Nat) : Int)) := ⟨by rw [← hw9]; exact HR8.out.drN _⟩
          have HF9 : Aside0 (Fr (· = g) w w9) := ⟨by rw [← hw9]; exact HF8.out.drewN _⟩
          have HT9 : Aside0 (TB w9 w.heap.size 0 ⟨#[]⟩ (.slice none 0 0) false ⟨#[]⟩) := ⟨by rw [← hw9]; exact HT8.out.drN _⟩
          have HM9 : Aside0 (HM w9) := ⟨by rw [← hw9]; exact HM8.out⟩
          rw [hw9]
          clear hw9 HR8 HF8 HT8 HM8 c0 c1
          go_wp2_with fail
          have hd := HD.out
          obtain rfl := Option.some.inj hd
          clear hd HD
          have hgw := HGW.out
          refine (token_reader.upTo_any g s (j + 2) ⟨#[62]⟩ _ HR9.out (by omega) hs HM9.out).mono ?_
          rintro e1 w10 ⟨rfl, hr, hf⟩
          have HR10 := Aside0.mk hr
          have HF10 := Aside0.mk (HF9.out.trans hf)
          have HT10 := Aside0.mk (HT9.out.fr hf HWG.out)
          have HM10 := Aside0.mk (HM9.out.fr hf HP.out)
          clear hr hf HR9 HF9 HT9 HM9
          have t0 := HT10.out.cell 0
          have t1 := HT10.out.cell 1
          have t2 := HT10.out.cell 2
          have t3 := HT10.out.cell 3
          have t4 := HT10.out.cell 4
          have u0 := HT10.out.free 0
          have u1 := HT10.out.free 1
          have u2 := HT10.out.free 2
          have u3 := HT10.out.free 3
          have u4 := HT10.out.free 4
          simp only [List.getElem?_toArray, List.getElem?_cons_zero, List.getElem?_cons_succ] at t0 t1 t2 t3 t4
          go_wp2
          have hZ := put5_tb HT10.out 4 ⟨#[]⟩ (.slice none 0 0) false (token_reader.cutTxt s (j + 2) ⟨#[62]⟩)
          have z0 := hZ.cell 0
          have z1 := hZ.cell 1
          have z2 := hZ.cell 2
          have z3 := hZ.cell 3
          have z4 := hZ.cell 4
          unfold put5 at z0 z1 z2 z3 z4
          exact bodyPost_ret (v := .agg #[.int .i64 4, .string ⟨#[]⟩, .slice none 0 0, .bool false, .string (token_reader.cutTxt s (j + 2) ⟨#[62]⟩)]) (by simp [results, Try.results23, go_sem, z0, z1, z2, z3, z4]) rfl
            ⟨.slice none 0 0, rfl, Kd.R_nil _ _ _ _ _, (put5_far _ _ _ _ _ _ _ g hgw).trans HR10.out, put5_fr HF10.out _ _ _ _ _ _ (Or.inr (Nat.le_refl _))⟩
        | false =>
         have hd := HD.out
         rw [if_neg (by rw [h47]; simp)] at hd
         have HD := Aside0.mk hd
         clear hd
         refine (token_reader.past_no g s j ⟨#[60, 47]⟩ _ HR7.out hjs hs h47).mono ?_
         clear h47
         rintro e1 w8 ⟨rfl, hr, hf⟩
         have HR8 := Aside0.mk hr
         have HF8 := Aside0.mk (HF7.out.trans hf)
         have HT8 := Aside0.mk (HT7.out.fr hf HWG.out)
         have HM8 := Aside0.mk (HM7.out.fr hf HP.out)
         clear hr hf HR7 HF7 HT7 HM7
         have hbyte : token_reader.byte s (j + 1) = s[j + 1]'h2 := by
          have h' : j + 1 < s.data.toList.length := by simpa using h2
          unfold token_reader.byte; rw [List.getD, List.getElem?_eq_getElem h']; rfl
         have hd := HD.out
         rw [hbyte] at hd
         have HD := Aside0.mk hd
         have hint := token_begins.int_beq (s[j + 1]'h2) 63
         have c1 := HR8.out.c1
         have c0 := HR8.out.c0
         have f1 := HR8.out.f 1
         have g0 : (0 : Int) ≤ (j : Int) + 1 := by omega
         have g1 : (j : Int) + 1 < (s.size : Int) := by omega
         clear hd hbyte
         by_cases h63 : s[j + 1]'h2 = 63
         ·
          have hd := HD.out
          rw [if_pos h63] at hd
          have HD := Aside0.mk hd
          have hc : (((s[j + 1]'h2).toNat : Int) == 63) = true := hint.trans (by simpa using h63)
          clear hd hint h63
          go_wp2_with fail
          go_quiet (fail)
          obtain ⟨w9, hw9⟩ : ∃ W, (w8.setCell ⟨g, 1, none⟩ (.int .i64 ((j : Int) + 1))).drewN nq = W := ⟨_, rfl⟩
          have HR9 : Aside0 (RD w9 g s ((j + 1 : Nat) : Int)) := ⟨by rw [← hw9]; exact (HR8.out.set _).drN _⟩
          have HF9 : Aside0 (Fr (· = g) w w9) := ⟨by rw [← hw9]; exact (HF8.out.own 1 _).drewN _⟩
          have HT9 : Aside0 (TB w9 w.heap.size 0 ⟨#[]⟩ (.slice none 0 0) false ⟨#[]⟩) := ⟨by rw [← hw9]; exact TB.drN (HT8.out.far _ _ HWG.out) _⟩
          have HM9 : Aside0 (HM w9) := ⟨by rw [← hw9]; exact HM.far HM8.out HP.out⟩
          rw [hw9]
          clear hw9 HR8 HF8 HT8 HM8 c0 c1 f1
          go_wp2_with fail
          have hd := HD.out
          obtain rfl := Option.some.inj hd
          clear hd HD
          have hgw := HGW.out
          refine (token_reader.upTo_any g s (j + 1) ⟨#[62]⟩ _ HR9.out (by omega) hs HM9.out).mono ?_
          rintro e1 w10 ⟨rfl, hr, hf⟩
          have HR10 := Aside0.mk hr
          have HF10 := Aside0.mk (HF9.out.trans hf)
          have HT10 := Aside0.mk (HT9.out.fr hf HWG.out)
          have HM10 := Aside0.mk (HM9.out.fr hf HP.out)
          clear hr hf HR9 HF9 HT9 HM9
          have t0 := HT10.out.cell 0
          have t1 := HT10.out.cell 1
          have t2 := HT10.out.cell 2
          have t3 := HT10.out.cell 3
          have t4 := HT10.out.cell 4
          have u0 := HT10.out.free 0
          have u1 := HT10.out.free 1
          have u2 := HT10.out.free 2
          have u3 := HT10.out.free 3
          have u4 := HT10.out.free 4
          simp only [List.getElem?_toArray, List.getElem?_cons_zero, List.getElem?_cons_succ] at t0 t1 t2 t3 t4
          go_wp2
          have hZ := put5_tb HT10.out 4 ⟨#[]⟩ (.slice none 0 0) false (token_reader.cutTxt s (j + 1) ⟨#[62]⟩)
          have z0 := hZ.cell 0
          have z1 := hZ.cell 1
          have z2 := hZ.cell 2
          have z3 := hZ.cell 3
          have z4 := hZ.cell 4
          unfold put5 at z0 z1 z2 z3 z4
          exact bodyPost_ret (v := .agg #[.int .i64 4, .string ⟨#[]⟩, .slice none 0 0, .bool false, .string (token_reader.cutTxt s (j + 1) ⟨#[62]⟩)]) (by simp [results, Try.results23, go_sem, z0, z1, z2, z3, z4]) rfl
            ⟨.slice none 0 0, rfl, Kd.R_nil _ _ _ _ _, (put5_far _ _ _ _ _ _ _ g hgw).trans HR10.out, put5_fr HF10.out _ _ _ _ _ _ (Or.inr (Nat.le_refl _))⟩
         ·
          have hd := HD.out
          rw [if_neg h63] at hd
          have HD := Aside0.mk hd
          have hc : (((s[j + 1]'h2).toNat : Int) == 63) = false := hint.trans (by simpa using h63)
          clear hd hint h63
          go_wp2_with fail
          go_quiet (fail)
          obtain ⟨w9, hw9⟩ : ∃ W, (w8.setCell ⟨g, 1, none⟩ (.int .i64 ((j : Int) + 1))).drewN nq = W := ⟨_, rfl⟩
          have HR9 : Aside0 (RD w9 g s ((j + 1 : Nat) : Int)) := ⟨by rw [← hw9]; exact (HR8.out.set _).drN _⟩
          have HF9 : Aside0 (Fr (· = g) w w9) := ⟨by rw [← hw9]; exact (HF8.out.own 1 _).drewN _⟩
          have HT9 : Aside0 (TB w9 w.heap.size 0 ⟨#[]⟩ (.slice none 0 0) false ⟨#[]⟩) := ⟨by rw [← hw9]; exact TB.drN (HT8.out.far _ _ HWG.out) _⟩
          have HM9 : Aside0 (HM w9) := ⟨by rw [← hw9]; exact HM.far HM8.out HP.out⟩
          rw [hw9]
          clear hw9 HR8 HF8 HT8 HM8 c0 c1 f1
          go_wp2_with fail
          refine (token_reader.tagV_any kk g s (j + 1) 2 t _ HR9.out (by omega) hs HM9.out HD.out).mono ?_
          rintro e1 w10 ⟨v, rfl, hO, hR, hF⟩
          obtain ⟨A, cp, rfl, _⟩ := Kd.R_reads hO
          have HR10 := Aside0.mk hR
          have HF10 : Aside0 (Fr (· = g) w w10) := ⟨HF9.out.trans hF⟩
          have HT10 : Aside0 (TB w10 w.heap.size 0 ⟨#[]⟩ (.slice none 0 0) false ⟨#[]⟩) := ⟨TB.fr HT9.out hF HWG.out⟩
          have HO10 := Aside0.mk (Kd.R_lower hO (Fr.size HF9.out))
          clear hO hR hF HR9 HF9 HT9 HM9
          have t0 := HT10.out.cell 0
          have t1 := HT10.out.cell 1
          have t2 := HT10.out.cell 2
          have t3 := HT10.out.cell 3
          have t4 := HT10.out.cell 4
          have u0 := HT10.out.free 0
          have u1 := HT10.out.free 1
          have u2 := HT10.out.free 2
          have u3 := HT10.out.free 3
          have u4 := HT10.out.free 4
          simp only [List.getElem?_toArray, List.getElem?_cons_zero, List.getElem?_cons_succ] at t0 t1 t2 t3 t4
          go_wp2
          have hZ := put5_tb HT10.out t.kd t.nm (.slice A t.l.length cp) t.c t.tx
          have z0 := hZ.cell 0
          have z1 := hZ.cell 1
          have z2 := hZ.cell 2
          have z3 := hZ.cell 3
          have z4 := hZ.cell 4
          unfold put5 at z0 z1 z2 z3 z4
          exact bodyPost_ret (v := .agg #[.int .i64 t.kd, .string t.nm, .slice A t.l.length cp, .bool t.c, .string t.tx]) (by simp [results, Try.results23, go_sem, z0, z1, z2, z3, z4]) rfl
            ⟨.slice A t.l.length cp, rfl, Kd.R_put5 HO10.out HT10.out _ _ _ _ _, (put5_far _ _ _ _ _ _ _ g HGW.out).trans HR10.out, put5_fr HF10.out _ _ _ _ _ _ (Or.inr (Nat.le_refl _))⟩
/-! HAND token_Next: function 11 -/
/-- What a token is told as: at one that is none the place is the end. -/
def TokV.fin (s : ByteArray) (t : TokV) : TokV := if t.kd = 0 then { t with e := s.size } else t
/-- A text of references, decoded. -/
def TokV.dec (k : Nat) (t : TokV) : Option TokV := (charref_Decode.f k t.tx false).bind fun r => some { t with tx := r }
def token_Next.v (k : Nat) (s : ByteArray) (i : Nat) (mode : Int) (name : ByteArray) (fo : Bool) : Option TokV :=
  if mode = 2 then token_reader.rawV k s name i
  else if mode = 1 then (token_reader.rawV k s name i).bind fun t => t.dec k
  else token_reader.dataV k s i fo
/-- The next token. -/
def token_Next.V (k : Nat) (s : ByteArray) (at_ : Int) (mode : Int) (name : ByteArray) (fo : Bool) : Option TokV :=
  if s.size ≤ 1000000000 ∧ name.size ≤ 1000000000 then
    if at_ < 0 ∨ (s.size : Int) ≤ at_ then some (TokV.end_ s.size)
    else if mode = 3 then some ⟨1, ⟨#[]⟩, [], false, s.extract at_.toNat s.size, s.size⟩
    else (token_Next.v k s at_.toNat mode name fo).bind fun t => some (t.fin s)
  else none
/-- A token and a place that are handed back. -/
def NextE (w : World) (t : TokV) (e : Ending) (w' : World) : Prop :=
  ∃ v : Value, e = .returned (.tuple #[.agg #[.int .i64 t.kd, .string t.nm, v, .bool t.c, .string t.tx], .int .i64 (t.e : Int)]) ∧ Kd.R k41 41 w' w.heap.size (fun _ => True) v t.l ∧ Below w.heap.size w w'
theorem Fr.new_below {w w0 w1 : World} {g : Nat} (h0 : Below w.heap.size w w0) (h : Fr (· = g) w0 w1) (hg : w.heap.size ≤ g) : Below w.heap.size w w1 := Fr.to_below h0 h h0.size (fun i hi => by subst hi; exact hg)
set_option maxHeartbeats 4000000 in
set_option maxRecDepth 100000 in
theorem token_Next.any (k : Nat) (s : ByteArray) (at_ mode : Int) (name : ByteArray) (fo : Bool) (t : TokV) (w : World) (hm : HM w) (hd : token_Next.V k s at_ mode name fo = some t) :
    Calls Try.prog 11 #[.string s, .int .i64 at_, .int .i64 mode, .string name, .bool fo] w (NextE w t) := by
 unfold token_Next.V at hd
 by_cases hsz : s.size ≤ 1000000000 ∧ name.size ≤ 1000000000
 ·
  rw [if_pos hsz] at hd
  obtain ⟨hs, hn⟩ := hsz
  have HZ := Aside0.mk (TB.new w 0 ⟨#[]⟩ (.slice none 0 0) false ⟨#[]⟩)
  have HBW := Aside0.mk ((Below.refl w.heap.size w).alloc (Nat.le_refl _) (.cells #[.int .i64 0, .string ⟨#[]⟩, .slice none 0 0, .bool false, .string ⟨#[]⟩] 29))
  by_cases ha : at_ < 0 ∨ (s.size : Int) ≤ at_
  ·
   rw [if_pos ha] at hd
   obtain rfl := Option.some.inj hd
   clear hd hm
   by_cases h0 : at_ < 0
   ·
    have d0 : decide (at_ < 0) = true := by simpa using h0
    clear ha
    go_enter Try.func11, Try.ntmps11
    go_wp2
    have z0 := HZ.out.cell 0
    have z1 := HZ.out.cell 1
    have z2 := HZ.out.cell 2
    have z3 := HZ.out.cell 3
    have z4 := HZ.out.cell 4
    exact bodyPost_ret (v := .tuple #[.agg #[.int .i64 0, .string ⟨#[]⟩, .slice none 0 0, .bool false, .string ⟨#[]⟩], .int .i64 (s.size : Int)]) (by simp [results, Try.results11, go_sem, z0, z1, z2, z3, z4]) rfl ⟨.slice none 0 0, rfl, Kd.R_nil _ _ _ _ _, HBW.out⟩
   ·
    have d0 : decide (at_ < 0) = false := by simpa using h0
    have d1 : decide (at_ ≥ (s.size : Int)) = true := by simp; omega
    clear ha
    go_enter Try.func11, Try.ntmps11
    go_wp2
    have z0 := HZ.out.cell 0
    have z1 := HZ.out.cell 1
    have z2 := HZ.out.cell 2
    have z3 := HZ.out.cell 3
    have z4 := HZ.out.cell 4
    exact bodyPost_ret (v := .tuple #[.agg #[.int .i64 0, .string ⟨#[]⟩, .slice none 0 0, .bool false, .string ⟨#[]⟩], .int .i64 (s.size : Int)]) (by simp [results, Try.results11, go_sem, z0, z1, z2, z3, z4]) rfl ⟨.slice none 0 0, rfl, Kd.R_nil _ _ _ _ _, HBW.out⟩
  ·
   rw [if_neg ha] at hd
   obtain ⟨i, rfl⟩ : ∃ i : Nat, at_ = i := ⟨at_.toNat, by omega⟩
   rw [Int.toNat_natCast] at hd
   have hlt : i < s.size := by omega
   have d0 : decide ((i : Int) < 0) = false := by simp
   have d1 : decide ((i : Int) ≥ (s.size : Int)) = false := by simp; omega
   have hm1 := hm
   clear ha
   obtain ⟨w3, hw3⟩ : ∃ W, ((w.alloc (.cells #[.int .i64 0, .string ⟨#[]⟩, .slice none 0 0, .bool false, .string ⟨#[]⟩] 29)).alloc (.cells #[.string s, .int .i64 (i : Int)] 48)).alloc (.cells #[.int .i64 0, .string ⟨#[]⟩, .slice none 0 0, .bool false, .string ⟨#[]⟩] 29) = W := ⟨_, rfl⟩
   have HB3 : Aside0 (Below w.heap.size w w3) := ⟨by rw [← hw3]; exact (((Below.refl _ _).alloc (Nat.le_refl _) _).alloc (by simp) _).alloc (by simp; omega) _⟩
   have HZ3 : Aside0 (TB w3 w.heap.size 0 ⟨#[]⟩ (.slice none 0 0) false ⟨#[]⟩) := ⟨by rw [← hw3]; exact (HZ.out.keep ((Below.refl _ _).alloc (Nat.le_refl _) _)).keep ((Below.refl _ _).alloc (Nat.le_refl _) _)⟩
   have HR3 : Aside0 (RD w3 (w.heap.size + 1) s i) := ⟨by
     rw [← hw3]
     refine RD.al ?_ _
     show _ = _
     rw [show w.heap.size + 1 = (w.alloc (.cells #[.int .i64 0, .string ⟨#[]⟩, .slice none 0 0, .bool false, .string ⟨#[]⟩] 29)).heap.size by simp]
     exact heap_alloc_last _ _⟩
   have HT3 : Aside0 (TB w3 (w.heap.size + 2) 0 ⟨#[]⟩ (.slice none 0 0) false ⟨#[]⟩) := ⟨by
     have := TB.new ((w.alloc (.cells #[.int .i64 0, .string ⟨#[]⟩, .slice none 0 0, .bool false, .string ⟨#[]⟩] 29)).alloc (.cells #[.string s, .int .i64 (i : Int)] 48)) 0 ⟨#[]⟩ (.slice none 0 0) false ⟨#[]⟩
     rw [hw3] at this
     simpa using this⟩
   have HM3 : Aside0 (HM w3) := ⟨hm.at_ HB3.out⟩
   have HW3 := Aside0.mk hw3
   clear hw3 hm hm1 HZ HBW
   go_enter Try.func11, Try.ntmps11
   go_upto_region 5 with fail
   rw [HW3.out]
   clear HW3
   by_cases m3 : mode = 3
   ·
    rw [if_pos m3] at hd
    obtain rfl := Option.some.inj hd
    subst m3
    have t0 := HZ3.out.cell 0
    have t1 := HZ3.out.cell 1
    have t2 := HZ3.out.cell 2
    have t3 := HZ3.out.cell 3
    have t4 := HZ3.out.cell 4
    have u0 := HZ3.out.free 0
    have u1 := HZ3.out.free 1
    have u2 := HZ3.out.free 2
    have u3 := HZ3.out.free 3
    have u4 := HZ3.out.free 4
    simp only [List.getElem?_toArray, List.getElem?_cons_zero, List.getElem?_cons_succ] at t0 t1 t2 t3 t4
    have g0 : (0 : Int) ≤ (i : Int) := by omega
    have g1 : (i : Int) ≤ (s.size : Int) := by omega
    have g2 : (s.size : Int) ≤ 1000000000 := by omega
    go_wp2
    have hZ := put5_tb HZ3.out 1 ⟨#[]⟩ (.slice none 0 0) false (s.extract i s.size)
    have z0 := hZ.cell 0
    have z1 := hZ.cell 1
    have z2 := hZ.cell 2
    have z3 := hZ.cell 3
    have z4 := hZ.cell 4
    unfold put5 at z0 z1 z2 z3 z4
    exact bodyPost_ret (v := .tuple #[.agg #[.int .i64 1, .string ⟨#[]⟩, .slice none 0 0, .bool false, .string (s.extract i s.size)], .int .i64 (s.size : Int)]) (by simp [results, Try.results11, go_sem, z0, z1, z2, z3, z4]) rfl
      ⟨.slice none 0 0, rfl, Kd.R_nil _ _ _ _ _, Fr.to_below HB3.out (put5_fr (G := fun k => k = w.heap.size) (Fr.refl _ w3) w.heap.size _ _ _ _ _ (Or.inl rfl)) HB3.out.size (fun i hi => by subst hi; exact Nat.le_refl _)⟩
   ·
    rw [if_neg m3] at hd
    obtain ⟨t0, ht0, hd⟩ := Option.bind_eq_some_iff.1 hd
    obtain rfl := Option.some.inj hd
    have HV := Aside0.mk ht0
    have k3 : (mode == 3) = false := by simpa using m3
    clear hd ht0 m3
    go_upto_block 0 with fail
    go_cut [] (fun wz => ∃ A cp, Aside0 (TB wz (w.heap.size + 2) t0.kd t0.nm (.slice A t0.l.length cp) t0.c t0.tx) ∧ Aside0 (Kd.R k41 41 wz w.heap.size (fun _ => True) (.slice A t0.l.length cp) t0.l) ∧ Aside0 (RD wz (w.heap.size + 1) s t0.e) ∧ Aside0 (TB wz w.heap.size 0 ⟨#[]⟩ (.slice none 0 0) false ⟨#[]⟩) ∧ Aside0 (Below w.heap.size w wz))
    case first =>
     by_cases m2 : mode = 2
     ·
      have hv := HV.out
      unfold token_Next.v at hv
      rw [if_pos m2] at hv
      have HV := Aside0.mk hv
      have k2 : (mode == 2) = true := by simpa using m2
      clear hv m2
      go_wp2_with fail
      refine (token_reader.raw_any k (w.heap.size + 1) s name i t0 _ HR3.out hlt hs hn HM3.out HV.out).mono ?_
      rintro e1 w4 ⟨v, rfl, hO, hR, hF⟩
      obtain ⟨A, cp, rfl, _⟩ := Kd.R_reads hO
      have HR4 := Aside0.mk hR
      have HB4 : Aside0 (Below w.heap.size w w4) := ⟨Fr.new_below HB3.out hF (by omega)⟩
      have HZ4 := Aside0.mk (HZ3.out.fr hF (by omega))
      have HT4 := Aside0.mk (HT3.out.fr hF (by omega))
      have HO4 := Aside0.mk (Kd.R_lower hO HB3.out.size)
      clear hO hR hF
      have x0 := HT4.out.cell 0
      have x1 := HT4.out.cell 1
      have x2 := HT4.out.cell 2
      have x3 := HT4.out.cell 3
      have x4 := HT4.out.cell 4
      have y0 := HT4.out.free 0
      have y1 := HT4.out.free 1
      have y2 := HT4.out.free 2
      have y3 := HT4.out.free 3
      have y4 := HT4.out.free 4
      simp only [List.getElem?_toArray, List.getElem?_cons_zero, List.getElem?_cons_succ] at x0 x1 x2 x3 x4
      go_wp2_with fail
      go_meet
      exact ⟨A, cp, ⟨put5_tb HT4.out _ _ _ _ _⟩, ⟨Kd.R_put5 HO4.out HT4.out _ _ _ _ _⟩, ⟨(put5_far _ _ _ _ _ _ _ _ (by omega)).trans HR4.out⟩, ⟨(put5_far _ _ _ _ _ _ _ _ (by omega)).trans HZ4.out⟩, ⟨Fr.to_below HB4.out (put5_fr (G := fun k => k = w.heap.size + 2) (Fr.refl _ w4) (w.heap.size + 2) _ _ _ _ _ (Or.inl rfl)) HB4.out.size (fun i hi => by subst hi; omega)⟩⟩
     ·
      have k2 : (mode == 2) = false := by simpa using m2
      by_cases m1 : mode = 1
      ·
       have hv := HV.out
       unfold token_Next.v at hv
       rw [if_neg (by simpa using k2), if_pos m1] at hv
       obtain ⟨t1, ht1, hv⟩ := Option.bind_eq_some_iff.1 hv
       unfold TokV.dec at hv
       obtain ⟨r, hr, hv⟩ := Option.bind_eq_some_iff.1 hv
       obtain rfl := Option.some.inj hv
       have HV := Aside0.mk ht1
       have HDD := Aside0.mk hr
       have k1 : (mode == 1) = true := by simpa using m1
       clear hv m1 ht1 hr
       go_wp2_with fail
       refine (token_reader.raw_any k (w.heap.size + 1) s name i t1 _ HR3.out hlt hs hn HM3.out HV.out).mono ?_
       rintro e1 w4 ⟨v, rfl, hO, hR, hF⟩
       obtain ⟨A, cp, rfl, _⟩ := Kd.R_reads hO
       have HR4 := Aside0.mk hR
       have HB4 : Aside0 (Below w.heap.size w w4) := ⟨Fr.new_below HB3.out hF (by omega)⟩
       have HZ4 := Aside0.mk (HZ3.out.fr hF (by omega))
       have HT4 := Aside0.mk (HT3.out.fr hF (by omega))
       have HO4 := Aside0.mk (Kd.R_lower hO HB3.out.size)
       clear hO hR hF
       have x0 := HT4.out.cell 0
       have x1 := HT4.out.cell 1
       have x2 := HT4.out.cell 2
       have x3 := HT4.out.cell 3
       have x4 := HT4.out.cell 4
       have y0 := HT4.out.free 0
       have y1 := HT4.out.free 1
       have y2 := HT4.out.free 2
       have y3 := HT4.out.free 3
       have y4 := HT4.out.free 4
       simp only [List.getElem?_toArray, List.getElem?_cons_zero, List.getElem?_cons_succ] at x0 x1 x2 x3 x4
       go_wp2_with fail
       refine (charref_Decode.calls k t1.tx false r _ HDD.out).mono ?_
       rintro e1 w6 ⟨rfl, hb⟩
       have hp5 : TB (put5 w4 (w.heap.size + 2) t1.kd t1.nm (.slice A t1.l.length cp) t1.c t1.tx) (w.heap.size + 2) t1.kd t1.nm (.slice A t1.l.length cp) t1.c t1.tx := put5_tb HT4.out _ _ _ _ _
       have HT6 : Aside0 (TB w6 (w.heap.size + 2) t1.kd t1.nm (.slice A t1.l.length cp) t1.c t1.tx) := ⟨hp5.keep hb⟩
       have HO6 : Aside0 (Kd.R k41 41 w6 w.heap.size (fun _ => True) (.slice A t1.l.length cp) t1.l) := ⟨Kd.R_below (Kd.R_put5 HO4.out HT4.out t1.kd t1.nm (.slice A t1.l.length cp) t1.c t1.tx) hb⟩
       have HR6 : Aside0 (RD w6 (w.heap.size + 1) s t1.e) := ⟨RD.keep (w := put5 w4 (w.heap.size + 2) t1.kd t1.nm (.slice A t1.l.length cp) t1.c t1.tx) ((put5_far _ _ _ _ _ _ _ _ (by omega)).trans HR4.out) hb⟩
       have HZ6 : Aside0 (TB w6 w.heap.size 0 ⟨#[]⟩ (.slice none 0 0) false ⟨#[]⟩) := ⟨TB.keep (w := put5 w4 (w.heap.size + 2) t1.kd t1.nm (.slice A t1.l.length cp) t1.c t1.tx) ((put5_far _ _ _ _ _ _ _ _ (by omega)).trans HZ4.out) hb⟩
       have HB5 : Below w.heap.size w (put5 w4 (w.heap.size + 2) t1.kd t1.nm (.slice A t1.l.length cp) t1.c t1.tx) := Fr.to_below HB4.out (put5_fr (G := fun k => k = w.heap.size + 2) (Fr.refl _ w4) (w.heap.size + 2) _ _ _ _ _ (Or.inl rfl)) HB4.out.size (fun i hi => by subst hi; omega)
       have HB6 : Aside0 (Below w.heap.size w w6) := ⟨HB5.trans (hb.mono HB5.size)⟩
       have v4 := HT6.out.cell 4
       have v5 := HT6.out.free 4
       simp only [List.getElem?_toArray, List.getElem?_cons_zero, List.getElem?_cons_succ] at v4
       clear hb hp5 HB5 HT4 HO4 HR4 HZ4 HB4 x0 x1 x2 x3 x4 y0 y1 y2 y3 y4
       go_wp2_with fail
       go_meet
       exact ⟨A, cp, ⟨HT6.out.set4 r⟩, ⟨Kd.R_set HO6.out HT6.out (by decide) 4 _⟩, ⟨HR6.out.far _ _ (by show w.heap.size + 1 ≠ w.heap.size + 2; omega)⟩, ⟨HZ6.out.far _ _ (by show w.heap.size ≠ w.heap.size + 2; omega)⟩, ⟨HB6.out.setCell (p := ⟨w.heap.size + 2, 4, none⟩) (by show w.heap.size ≤ w.heap.size + 2; omega) _⟩⟩
      ·
       have hv := HV.out
       unfold token_Next.v at hv
       rw [if_neg (by simpa using k2), if_neg m1] at hv
       have HV := Aside0.mk hv
       have k1 : (mode == 1) = false := by simpa using m1
       clear hv m1
       go_wp2_with fail
       refine (token_reader.data_any k (w.heap.size + 1) s i fo t0 _ HR3.out (by omega) hs HM3.out HV.out).mono ?_
       rintro e1 w4 ⟨v, rfl, hO, hR, hF⟩
       obtain ⟨A, cp, rfl, _⟩ := Kd.R_reads hO
       have HR4 := Aside0.mk hR
       have HB4 : Aside0 (Below w.heap.size w w4) := ⟨Fr.new_below HB3.out hF (by omega)⟩
       have HZ4 := Aside0.mk (HZ3.out.fr hF (by omega))
       have HT4 := Aside0.mk (HT3.out.fr hF (by omega))
       have HO4 := Aside0.mk (Kd.R_lower hO HB3.out.size)
       clear hO hR hF
       have x0 := HT4.out.cell 0
       have x1 := HT4.out.cell 1
       have x2 := HT4.out.cell 2
       have x3 := HT4.out.cell 3
       have x4 := HT4.out.cell 4
       have y0 := HT4.out.free 0
       have y1 := HT4.out.free 1
       have y2 := HT4.out.free 2
       have y3 := HT4.out.free 3
       have y4 := HT4.out.free 4
       simp only [List.getElem?_toArray, List.getElem?_cons_zero, List.getElem?_cons_succ] at x0 x1 x2 x3 x4
       go_wp2_with fail
       go_meet
       exact ⟨A, cp, ⟨put5_tb HT4.out _ _ _ _ _⟩, ⟨Kd.R_put5 HO4.out HT4.out _ _ _ _ _⟩, ⟨(put5_far _ _ _ _ _ _ _ _ (by omega)).trans HR4.out⟩, ⟨(put5_far _ _ _ _ _ _ _ _ (by omega)).trans HZ4.out⟩, ⟨Fr.to_below HB4.out (put5_fr (G := fun k => k = w.heap.size + 2) (Fr.refl _ w4) (w.heap.size + 2) _ _ _ _ _ (Or.inl rfl)) HB4.out.size (fun i hi => by subst hi; omega)⟩⟩
    case rest =>
     obtain ⟨A, cp, HT5, HO5, HR5, HZ5, HB5⟩ := hcut
     have x0 := HT5.out.cell 0
     have x1 := HT5.out.cell 1
     have x2 := HT5.out.cell 2
     have x3 := HT5.out.cell 3
     have x4 := HT5.out.cell 4
     have t0_ := HZ5.out.cell 0
     have t1 := HZ5.out.cell 1
     have t2 := HZ5.out.cell 2
     have t3 := HZ5.out.cell 3
     have t4 := HZ5.out.cell 4
     have u0 := HZ5.out.free 0
     have u1 := HZ5.out.free 1
     have u2 := HZ5.out.free 2
     have u3 := HZ5.out.free 3
     have u4 := HZ5.out.free 4
     have c1 := HR5.out.c1
     simp only [List.getElem?_toArray, List.getElem?_cons_zero, List.getElem?_cons_succ] at t0_ t1 t2 t3 t4 x0 x1 x2 x3 x4
     by_cases hk : t0.kd = 0
     ·
      have hkb : (t0.kd == 0) = true := by simpa using hk
      have hfin : t0.fin s = { t0 with e := s.size } := by unfold TokV.fin; rw [if_pos hk]
      have HFIN := Aside0.mk hfin
      clear hk hfin
      go_wp2
      have hZ := put5_tb HZ5.out t0.kd t0.nm (.slice A t0.l.length cp) t0.c t0.tx
      have z0 := hZ.cell 0
      have z1 := hZ.cell 1
      have z2 := hZ.cell 2
      have z3 := hZ.cell 3
      have z4 := hZ.cell 4
      unfold put5 at z0 z1 z2 z3 z4
      rw [HFIN.out]
      exact bodyPost_ret (v := .tuple #[.agg #[.int .i64 t0.kd, .string t0.nm, .slice A t0.l.length cp, .bool t0.c, .string t0.tx], .int .i64 (s.size : Int)]) (by simp [results, Try.results11, go_sem, z0, z1, z2, z3, z4]) rfl
        ⟨.slice A t0.l.length cp, rfl, Kd.R_put5 HO5.out HZ5.out _ _ _ _ _, Fr.to_below HB5.out (put5_fr (G := fun k => k = w.heap.size) (Fr.refl _ wc) w.heap.size _ _ _ _ _ (Or.inl rfl)) HB5.out.size (fun i hi => by subst hi; exact Nat.le_refl _)⟩
     ·
      have hkb : (t0.kd == 0) = false := by simpa using hk
      have hfin : t0.fin s = t0 := by unfold TokV.fin; rw [if_neg hk]
      have HFIN := Aside0.mk hfin
      clear hk hfin
      go_upto_region 16 with fail
      go_region
      all_goals
        go_wp2
        have hZ := put5_tb HZ5.out t0.kd t0.nm (.slice A t0.l.length cp) t0.c t0.tx
        have z0 := hZ.cell 0
        have z1 := hZ.cell 1
        have z2 := hZ.cell 2
        have z3 := hZ.cell 3
        have z4 := hZ.cell 4
        unfold put5 at z0 z1 z2 z3 z4
        rw [HFIN.out]
        exact bodyPost_ret (v := .tuple #[.agg #[.int .i64 t0.kd, .string t0.nm, .slice A t0.l.length cp, .bool t0.c, .string t0.tx], .int .i64 (t0.e : Int)]) (by simp [results, Try.results11, go_sem, z0, z1, z2, z3, z4]) rfl
          ⟨.slice A t0.l.length cp, rfl, Kd.R_drew (Kd.R_put5 HO5.out HZ5.out _ _ _ _ _), Below.drew (Fr.to_below HB5.out (put5_fr (G := fun k => k = w.heap.size) (Fr.refl _ wc) w.heap.size _ _ _ _ _ (Or.inl rfl)) HB5.out.size (fun i hi => by subst hi; exact Nat.le_refl _))⟩
 ·
  rw [if_neg hsz] at hd; cases hd
theorem LeO.of {α : Type} {a b : Option α} (h : LeO a b) : LeO a b := h
theorem token_reader.attrV_mono (s : ByteArray) (m k : Nat) : LeO (token_reader.attrV k s m) (token_reader.attrV (k + 1) s m) := by
 unfold token_reader.attrV
 exact LeO.ite (LeO.bind (charref_Decode.mono _ _ k) (fun _ => LeO.refl _)) (LeO.refl _)
theorem token_reader_tag.l_mono : ∀ k s i l, LeO (token_reader_tag.l k s i l) (token_reader_tag.l (k + 1) s i l)
  | 0, _, _, _ => fun r h => by rw [token_reader_tag.l] at h; cases h
  | k + 1, s, i, l => by
    unfold token_reader_tag.l
    exact LeO.ite (LeO.refl _) (LeO.ite (LeO.refl _) (LeO.bind (token_reader.attrV_mono _ _ k) (fun _ => LeO.bind (token_Get.mono _ _ k) (fun _ => token_reader_tag.l_mono k _ _ _))))
theorem token_reader.tagV_mono (s : ByteArray) (i : Nat) (kd : Int) (k : Nat) : LeO (token_reader.tagV k s i kd) (token_reader.tagV (k + 1) s i kd) := by
 unfold token_reader.tagV
 exact LeO.bind (token_reader_tag.l_mono k _ _ _) (fun _ => LeO.refl _)
theorem token_reader.rawV_mono (s name : ByteArray) (i k : Nat) : LeO (token_reader.rawV k s name i) (token_reader.rawV (k + 1) s name i) := by
 unfold token_reader.rawV
 exact LeO.ite (LeO.refl _) (token_reader.tagV_mono _ _ _ k)
theorem token_reader.textV_mono (s : ByteArray) (i k : Nat) : LeO (token_reader.textV k s i) (token_reader.textV (k + 1) s i) := by
 unfold token_reader.textV
 exact LeO.bind (charref_Decode.mono _ _ k) (fun _ => LeO.refl _)
theorem token_reader.declV_mono (s : ByteArray) (i k : Nat) : LeO (token_reader.declV k s i) (token_reader.declV (k + 1) s i) := by
 unfold token_reader.declV token_reader.decl
 exact LeO.bind (LeO.ite (LeO.bind (token_reader_comment.mono _ _ k) (fun _ => LeO.refl _)) (LeO.refl _)) (fun _ => LeO.refl _)
theorem token_reader.dataV_mono : ∀ k s i fo, LeO (token_reader.dataV k s i fo) (token_reader.dataV (k + 1) s i fo)
  | 0, _, _, _ => fun r h => by rw [token_reader.dataV] at h; cases h
  | k + 1, s, i, fo => by
    unfold token_reader.dataV
    exact LeO.ite (LeO.refl _) (LeO.ite (token_reader.textV_mono _ _ k) (LeO.ite (token_reader.dataV_mono k _ _ _) (LeO.ite (LeO.ite (token_reader.dataV_mono k _ _ _) (LeO.refl _)) (LeO.ite (token_reader.declV_mono _ _ k) (LeO.ite (LeO.ite (token_reader.tagV_mono _ _ _ k) (LeO.refl _)) (LeO.ite (LeO.refl _) (token_reader.tagV_mono _ _ _ k)))))))
theorem token_Next.V_mono (s : ByteArray) (a m : Int) (name : ByteArray) (fo : Bool) (k : Nat) : LeO (token_Next.V k s a m name fo) (token_Next.V (k + 1) s a m name fo) := by
 unfold token_Next.V token_Next.v TokV.dec
 exact LeO.ite (LeO.ite (LeO.refl _) (LeO.ite (LeO.refl _) (LeO.bind (LeO.ite (token_reader.rawV_mono _ _ _ k) (LeO.ite (LeO.bind (token_reader.rawV_mono _ _ _ k) (fun _ => LeO.bind (charref_Decode.mono _ _ k) (fun _ => LeO.refl _))) (token_reader.dataV_mono k _ _ _))) (fun _ => LeO.refl _)))) (LeO.refl _)
def TokV.tuple (t : TokV) : Int × ByteArray × List S41 × Bool × ByteArray × Int := (t.kd, t.nm, t.l, t.c, t.tx, (t.e : Int))
def token_Next.f (k : Nat) (a0 : ByteArray) (a1 : Int) (a2 : Int) (a3 : ByteArray) (a4 : Bool) : Option (Int × ByteArray × List S41 × Bool × ByteArray × Int) := (token_Next.V k a0 a1 a2 a3 a4).bind fun t => some t.tuple
theorem token_Next.mono : ∀ a0 a1 a2 a3 a4 k, LeO (token_Next.f k a0 a1 a2 a3 a4) (token_Next.f (k + 1) a0 a1 a2 a3 a4) := fun _ _ _ _ _ k => LeO.bind (token_Next.V_mono _ _ _ _ _ k) (fun _ => LeO.refl _)
theorem token_Next.calls (k : Nat) (a0 : ByteArray) (a1 : Int) (a2 : Int) (a3 : ByteArray) (a4 : Bool) (r1 : Int) (r2 : ByteArray) (r3 : List S41) (r4 : Bool) (r5 : ByteArray) (r6 : Int) (w : World) (hm : HM w) (h : token_Next.f k a0 a1 a2 a3 a4 = some (r1, r2, r3, r4, r5, r6)) :
    Calls Try.prog 11 #[.string a0, .int .i64 a1, .int .i64 a2, .string a3, .bool a4] w fun e w' => ∃ v2_ : Value, e = .returned (.tuple #[.agg #[.int .i64 r1, .string r2, v2_, .bool r4, .string r5], .int .i64 r6]) ∧ Kd.R k41 41 w' w.heap.size (fun _ => True) v2_ r3 ∧ Below w.heap.size w w' := by
 unfold token_Next.f at h
 obtain ⟨t, ht, h⟩ := Option.bind_eq_some_iff.1 h
 have h : (t.kd, t.nm, t.l, t.c, t.tx, (t.e : Int)) = (r1, r2, r3, r4, r5, r6) := Option.some.inj h
 simp only [Prod.mk.injEq] at h
 obtain ⟨rfl, rfl, rfl, rfl, rfl, rfl⟩ := h
 exact token_Next.any k a0 a1 a2 a3 a4 t w hm ht
end
end Go.Proofs.Ytpelfhldgnmhpaa.G
