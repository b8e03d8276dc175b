/- What a start tag with quoted values, and an end tag, are read as. Condition: a text has at most 400000 bytes. -/
import Derived.Test.YtpelfhldgnmhpaaPureBackT
namespace Go.Proofs.Ytpelfhldgnmhpaa.Pure
open Go.RowKit Go.Proofs.Ytpelfhldgnmhpaa.G Go.Proofs.YtpelfhldgnmhpaaW.PrintWords Go.Proofs.YtpelfhldgnmhpaaW.PrintLast Go.Proofs.Ytpelfhldgnmhpaa.Spec
set_option linter.unusedVariables false
set_option linter.unusedSimpArgs false

theorem small_head {nm : ByteArray} (hn : smallL nm.data.toList = true) (hp : 0 < nm.size) : ∃ x r, nm.data.toList = x :: r ∧ 97 ≤ x.toNat ∧ x.toNat ≤ 122 := by
  cases h : nm.data.toList with
  | nil => have : nm.data.toList.length = nm.size := by simp
           rw [h] at this; simp at this; omega
  | cons x r => exact ⟨x, r, rfl, small_mem hn x (by rw [h]; exact List.mem_cons_self)⟩
theorem data_start (s : ByteArray) (fo : Bool) (x : UInt8) (r : List UInt8) (hd : s.data.toList = 60 :: x :: r) (hx : 97 ≤ x.toNat ∧ x.toNat ≤ 122) : dataT s 0 false = tagT s 1 2 := by
  have d0 : s.data.toList.drop 0 = 60 :: x :: r := hd
  have hsz := drop_size d0 (by simp)
  have hp : ∀ t : List UInt8, token_reader.here s 0 ⟨t.toArray⟩ = t.isPrefixOf (60 :: x :: r) := fun t => hereL d0 t
  have n : ∀ d : UInt8, d.toNat < 97 → (d == x) = false := fun d hd => beq_eq_false_iff_ne.2 fun e => by rw [← e] at hx; omega
  have hl : token_begins.letter x = true := by unfold token_begins.letter; simp [hx]
  have n47 : x ≠ 47 := fun e => by rw [e] at hx; exact absurd hx.1 (by decide)
  have hb : token_begins.b (s.data.toList.drop 0) = true := by
    rw [d0, token_begins.b_cons, if_neg n47, hl]; simp
  have hby := (byte_drop d0).1
  rw [dataT, dif_neg (by simp at hsz; omega), if_neg (by rw [hb]; simp),
    if_neg (by rw [show (⟨#[60, 47, 62]⟩ : ByteArray) = ⟨[60, 47, 62].toArray⟩ from rfl, hp]; simp [List.isPrefixOf, n 47 (by decide)]),
    if_neg (by simp),
    if_neg (by rw [show (⟨#[60, 33]⟩ : ByteArray) = ⟨[60, 33].toArray⟩ from rfl, hp]; simp [List.isPrefixOf, n 33 (by decide)]),
    if_neg (by rw [show (⟨#[60, 47]⟩ : ByteArray) = ⟨[60, 47].toArray⟩ from rfl, hp]; simp [List.isPrefixOf, n 47 (by decide)]),
    hby, if_neg (fun e => by rw [e] at hx; exact absurd hx.1 (by decide))]
theorem next_data (s : ByteArray) (h : 0 < s.size) : nextT s 0 0 ⟨#[]⟩ false = TokV.fin s (dataT s 0 false) := by
  unfold nextT
  rw [if_neg (by omega), if_neg (by decide), if_neg (by decide), if_neg (by decide), Int.toNat_zero]
theorem tail_head (l : List S41) (c : Bool) (r : List UInt8) : ∃ y t, attrsL l ++ (endL c ++ 62 :: r) = y :: t ∧ token_until.pE ⟨#[47, 62]⟩ y = true := by
  cases l with
  | nil =>
    cases c with
    | true => exact ⟨47, 62 :: r, rfl, by decide⟩
    | false => exact ⟨62, r, rfl, by decide⟩
  | cons a l => exact ⟨32, _, by simp [attrsL, attrL]; rfl, by decide⟩
theorem back_next (s : ByteArray) (hs : s.size ≤ 400000) (nm : ByteArray) (l : List S41) (c : Bool) (r : List UInt8) (hd : s.data.toList = 60 :: (nm.data.toList ++ (attrsL l ++ (endL c ++ 62 :: r)))) (hn : smallL nm.data.toList = true) (hp : 0 < nm.size) (hl : ∀ a ∈ l, smallL a.f0.data.toList = true ∧ 0 < a.f0.size) (hns : Names l) :
    nextT s 0 0 ⟨#[]⟩ false = ⟨2, nm, l, c, ⟨#[]⟩, nm.size + (attrsL l).length + (endL c).length + 2⟩ := by
  obtain ⟨x, nr, hx, hxl⟩ := small_head hn hp
  have e1 : nm.data.toList.length = nm.size := by simp
  have hd' : s.data.toList = 60 :: x :: (nr ++ (attrsL l ++ (endL c ++ 62 :: r))) := by rw [hd, hx]; rfl
  have h0 : 0 < s.size := by
    have : s.data.toList.length = s.size := by simp
    rw [hd', List.length_cons] at this; omega
  rw [next_data s h0, data_start s false x _ hd' hxl]
  have d1 : s.data.toList.drop 1 = nm.data.toList ++ (attrsL l ++ (endL c ++ 62 :: r)) := by rw [hd]; rfl
  obtain ⟨y, t, hy, hyp⟩ := tail_head l c r
  have hto : token_until.to (token_until.pE ⟨#[47, 62]⟩) s 1 = 1 + nm.size := by
    rw [hy] at d1
    rw [to_app (token_until.pE ⟨#[47, 62]⟩) d1 (fun b hb => pE_letter b (by have := small_mem hn b hb; unfold token_begins.letter; simp [this])) hyp, e1]
  have d2 : s.data.toList.drop (1 + nm.size) = attrsL l ++ (endL c ++ 62 :: r) := by rw [← e1]; exact drop_more d1
  have d3 := drop_more d2
  have hlow : token_reader.low s 1 (1 + nm.size) = nm := low_small d1 hn
  have ht : tagS s (1 + nm.size) [] = (some (l, c), 1 + nm.size + (attrsL l).length + (endL c).length + 1) := by
    rw [tagS_attrs s hs _ l _ [] d2 hl (by rw [List.nil_append]; exact hns), List.nil_append, tagS_end s _ l c r d3]
  unfold tagT
  rw [hto, ht, hlow]
  simp only [token_reader_tag.kind, token_reader_tag.name, token_reader_tag.attrs, token_reader_tag.closed, TokV.fin]
  rw [if_neg (by decide), if_neg (by decide), if_neg (by decide)]
  congr 1; omega
theorem back_none (s : ByteArray) (hs : s.size ≤ 400000) (nm : ByteArray) (l : List S41) (c : Bool) (hd : s.data.toList = 60 :: (nm.data.toList ++ (attrsL l ++ endL c))) (hn : smallL nm.data.toList = true) (hp : 0 < nm.size) (hl : ∀ a ∈ l, smallL a.f0.data.toList = true ∧ 0 < a.f0.size) (hns : Names l) :
    (nextT s 0 0 ⟨#[]⟩ false).kd = 0 ∧ (nextT s 0 0 ⟨#[]⟩ false).e = s.size := by
  obtain ⟨x, nr, hx, hxl⟩ := small_head hn hp
  have e1 : nm.data.toList.length = nm.size := by simp
  have es : s.data.toList.length = s.size := by simp
  have hd' : s.data.toList = 60 :: x :: (nr ++ (attrsL l ++ endL c)) := by rw [hd, hx]; rfl
  have h0 : 0 < s.size := by rw [hd', List.length_cons] at es; omega
  rw [next_data s h0, data_start s false x _ hd' hxl]
  have d1 : s.data.toList.drop 1 = nm.data.toList ++ (attrsL l ++ endL c) := by rw [hd]; rfl
  have hcl : ∀ b ∈ nm.data.toList, token_until.pE ⟨#[47, 62]⟩ b = false := fun b hb => pE_letter b (by have := small_mem hn b hb; unfold token_begins.letter; simp [this])
  have hto : token_until.to (token_until.pE ⟨#[47, 62]⟩) s 1 = 1 + nm.size := by
    rw [← e1]
    cases l with
    | nil =>
      cases c with
      | true => exact to_app (token_until.pE ⟨#[47, 62]⟩) (x := 47) (r := []) d1 hcl (by decide)
      | false => exact to_all (token_until.pE ⟨#[47, 62]⟩) (by rw [d1]; simp [attrsL, endL]) hcl
    | cons a l =>
      have : ∃ t, attrsL (a :: l) ++ endL c = 32 :: t := ⟨_, by simp [attrsL, attrL]; rfl⟩
      obtain ⟨t, ht⟩ := this
      rw [ht] at d1
      exact to_app (token_until.pE ⟨#[47, 62]⟩) d1 hcl (by decide)
  have d2 : s.data.toList.drop (1 + nm.size) = attrsL l ++ endL c := by rw [← e1]; exact drop_more d1
  have d3 := drop_more d2
  have hle : 1 + nm.size + (attrsL l).length ≤ s.size := by
    rw [← es, hd, List.length_cons, List.length_append, List.length_append, e1]; omega
  have ht : (tagS s (1 + nm.size) []).1 = none := by
    rw [tagS_attrs s hs _ l _ [] d2 hl (by rw [List.nil_append]; exact hns), List.nil_append]
    exact tagS_none s _ hle l c d3
  unfold tagT
  rw [hto]
  generalize tagS s (1 + nm.size) [] = p at ht
  obtain ⟨p1, p2⟩ := p
  simp only at ht
  subst ht
  simp only [token_reader_tag.kind, TokV.fin]
  exact ⟨rfl, rfl⟩
theorem back_stop (s : ByteArray) (hs : s.size ≤ 400000) (nm : ByteArray) (r : List UInt8) (hd : s.data.toList = 60 :: 47 :: (nm.data.toList ++ 62 :: r)) (hn : smallL nm.data.toList = true) (hp : 0 < nm.size) :
    nextT s 0 0 ⟨#[]⟩ false = ⟨3, nm, [], false, ⟨#[]⟩, nm.size + 3⟩ := by
  obtain ⟨x, nr, hx, hxl⟩ := small_head hn hp
  have e1 : nm.data.toList.length = nm.size := by simp
  have es : s.data.toList.length = s.size := by simp
  have d0 : s.data.toList.drop 0 = 60 :: 47 :: x :: (nr ++ 62 :: r) := by rw [List.drop_zero, hd, hx]; rfl
  have d2 : s.data.toList.drop 2 = nm.data.toList ++ 62 :: r := by rw [hd]; rfl
  have d2' : s.data.toList.drop 2 = x :: (nr ++ 62 :: r) := by rw [d2, hx]; rfl
  have h0 : 2 < s.size := by have := drop_size d2' (by simp); simp at this; omega
  have hpx : ∀ t : List UInt8, token_reader.here s 0 ⟨t.toArray⟩ = t.isPrefixOf (60 :: 47 :: x :: (nr ++ 62 :: r)) := fun t => hereL d0 t
  have n : ∀ d : UInt8, d.toNat < 97 → (d == x) = false := fun d hd => beq_eq_false_iff_ne.2 fun e => by rw [← e] at hxl; omega
  have hl : token_begins.letter x = true := by unfold token_begins.letter; simp [hxl]
  have hb : token_begins.b (s.data.toList.drop 0) = true := by rw [d0, token_begins.b_cons]; simp
  have hby : token_reader.byte s 2 = x := by
    unfold token_reader.byte
    have := congrArg (fun l => l.head?) d2'
    simp only [List.head?_drop, List.head?_cons] at this
    rw [List.getD, this]; rfl
  have hdt : dataT s 0 false = tagT s 2 3 := by
    rw [dataT, dif_neg (by omega), if_neg (by rw [hb]; simp),
      if_neg (by rw [show (⟨#[60, 47, 62]⟩ : ByteArray) = ⟨[60, 47, 62].toArray⟩ from rfl, hpx]; simp [List.isPrefixOf, n 62 (by decide)]),
      if_neg (by simp),
      if_neg (by rw [show (⟨#[60, 33]⟩ : ByteArray) = ⟨[60, 33].toArray⟩ from rfl, hpx]; simp [List.isPrefixOf]),
      if_pos (by rw [show (⟨#[60, 47]⟩ : ByteArray) = ⟨[60, 47].toArray⟩ from rfl, hpx]; simp [List.isPrefixOf]),
      hby, if_pos hl]
  rw [next_data s (by omega), hdt]
  have hto : token_until.to (token_until.pE ⟨#[47, 62]⟩) s 2 = 2 + nm.size := by
    rw [to_app (token_until.pE ⟨#[47, 62]⟩) d2 (fun b hb => pE_letter b (by have := small_mem hn b hb; unfold token_begins.letter; simp [this])) (by decide), e1]
  have d3 : s.data.toList.drop (2 + nm.size) = endL false ++ 62 :: r := by rw [← e1]; exact drop_more d2
  have hlow : token_reader.low s 2 (2 + nm.size) = nm := low_small d2 hn
  unfold tagT
  rw [hto, tagS_end s _ [] false r d3, hlow]
  simp only [token_reader_tag.kind, token_reader_tag.name, token_reader_tag.attrs, token_reader_tag.closed, TokV.fin]
  rw [if_neg (by decide)]
  simp only [if_true, endL]
  congr 1
  simp; omega

end Go.Proofs.Ytpelfhldgnmhpaa.Pure
