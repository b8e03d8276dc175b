/- The printed reader of a comment: it tells what stands ahead of the comment's end. Condition: a text has at most 400000 bytes. -/
import Derived.Test.YtpelfhldgnmhpaaPureTot
import Derived.Test.YtpelfhldgnmhpaaG27
namespace Go.Proofs.Ytpelfhldgnmhpaa.Pure
open Go.RowKit Go.Proofs.Ytpelfhldgnmhpaa.G Go.Proofs.YtpelfhldgnmhpaaW.PrintWords Go.Proofs.YtpelfhldgnmhpaaW.PrintLast Go.Proofs.Ytpelfhldgnmhpaa.Spec
set_option linter.unusedVariables false
set_option linter.unusedSimpArgs false

theorem toList_data (a : ByteArray) : a.toList = a.data.toList := by rw [ByteArray.toList_eq]
theorem prefix_take (a b : List UInt8) : b.isPrefixOf a = (decide (b.length ≤ a.length) && a.take b.length == b) := by
  rw [Bool.eq_iff_iff, List.isPrefixOf_iff_prefix, Bool.and_eq_true, decide_eq_true_eq, beq_iff_eq, List.prefix_iff_eq_take]
  constructor
  · intro h
    have h2 : b.length ≤ a.length := by
      have := congrArg List.length h; simp at this; omega
    exact ⟨h2, h.symm⟩
  · rintro ⟨_, h⟩; exact h.symm
theorem hasPrefix_ok (a b : ByteArray) : strings_HasPrefix.f a b = some (Lib.hasPrefix a.data.toList b.data.toList) := by
  unfold strings_HasPrefix.f stringslite_HasPrefix.f Lib.hasPrefix
  rw [prefix_take]
  by_cases h : b.size ≤ a.size
  · rw [if_pos (by omega), if_pos (by omega), if_pos (by omega), toList_data, toList_data]
    simp [h, ByteArray.data_extract]
  · rw [if_neg (by omega)]
    simp [h]
theorem suffix_ok (a b : ByteArray) (ha : a.size ≤ 1000000000) : strings_CutSuffix.f a b = some (if Lib.hasSuffix a.data.toList b.data.toList = true then (a.extract 0 (a.size - b.size), true) else (a, false)) := by
  have hs : Lib.hasSuffix a.data.toList b.data.toList = (decide (b.size ≤ a.size) && (a.data.toList.drop (a.size - b.size)) == b.data.toList) := by
    unfold Lib.hasSuffix
    rw [Bool.eq_iff_iff, List.isSuffixOf_iff_suffix, Bool.and_eq_true, decide_eq_true_eq, beq_iff_eq, List.suffix_iff_eq_drop]
    have e1 : a.data.toList.length = a.size := by simp
    have e2 : b.data.toList.length = b.size := by simp
    rw [e1, e2]
    constructor
    · intro h
      have : b.size ≤ a.size := by have := congrArg List.length h; simp at this; omega
      exact ⟨this, h.symm⟩
    · rintro ⟨_, h⟩; exact h.symm
  rw [hs]
  unfold strings_CutSuffix.f stringslite_CutSuffix.f stringslite_HasSuffix.f
  by_cases h : b.size ≤ a.size
  · have hw : wrap64 ((a.size : Int) - (b.size : Int)) = ((a.size - b.size : Nat) : Int) := by unfold wrap64; omega
    rw [if_pos (by omega), hw, if_pos (by omega), if_pos (by omega), Option.bind_some, toList_data, toList_data, Int.toNat_natCast]
    have e : (a.extract (a.size - b.size) a.size).data.toList = a.data.toList.drop (a.size - b.size) := by simp [ByteArray.data_extract, List.take_of_length_le]
    rw [e]
    by_cases h2 : a.data.toList.drop (a.size - b.size) = b.data.toList
    · simp [h2, h]
    · have : (a.data.toList.drop (a.size - b.size) == b.data.toList) = false := by simpa using h2
      rw [this]; simp
  · rw [if_neg (by omega)]
    simp [h]
theorem past_ok (s : ByteArray) (i : Nat) (t : ByteArray) (hi : i ≤ s.size) (hs : s.size ≤ 1000000000) (ht : t.size ≤ 1000) : token_reader_past.f s (i : Int) t = some (token_reader.here s i t, s, if token_reader.here s i t = true then ((i + t.size : Nat) : Int) else (i : Int)) := by
  unfold token_reader_past.f token_reader_rest.f
  rw [if_pos (by omega), if_pos (by omega), Option.bind_some, hasPrefix_ok, Option.bind_some]
  have e : (s.extract (i : Int).toNat s.size).data.toList = s.data.toList.drop i := by simp [ByteArray.data_extract, List.take_of_length_le]
  rw [e]
  have hw : wrap64 ((i : Int) + (t.size : Int)) = ((i + t.size : Nat) : Int) := by unfold wrap64; omega
  unfold token_reader.here
  cases Lib.hasPrefix (s.data.toList.drop i) t.data.toList with
  | true => rw [if_pos rfl, if_pos rfl]; simp only [hw]
  | false => rw [if_neg (by simp), if_neg (by simp)]
/-- Where a comment's end stands, and how long it is. -/
def comScan : List UInt8 → Nat → Option (Nat × Nat)
  | [], _ => none
  | c :: r, j => if Lib.hasPrefix (c :: r) [45, 45, 62] = true then some (j, 3) else if Lib.hasPrefix (c :: r) [45, 45, 33, 62] = true then some (j, 4) else comScan r (j + 1)
/-- What is left of a comment that does not end. -/
def comTail (r : ByteArray) : ByteArray :=
  if Lib.hasSuffix r.data.toList [45, 45, 33] = true then r.extract 0 (r.size - 3) else if Lib.hasSuffix r.data.toList [45, 45] = true then r.extract 0 (r.size - 2) else if Lib.hasSuffix r.data.toList [45] = true then r.extract 0 (r.size - 1) else r
def comS (s : ByteArray) (i : Nat) : ByteArray × Nat :=
  if token_reader.here s i ⟨#[62]⟩ = true then (⟨#[]⟩, i + 1) else if token_reader.here s i ⟨#[45, 62]⟩ = true then (⟨#[]⟩, i + 2)
  else match comScan (s.data.toList.drop i) 0 with
    | some (j, n) => (s.extract i (i + j), i + j + n)
    | none => (comTail (s.extract i s.size), s.size)
theorem w01 : wrap64 (0 + 1) = 1 := by unfold wrap64; omega
theorem w12 : wrap64 (1 + 1) = 2 := by unfold wrap64; omega
theorem w23 : wrap64 (2 + 1) = 3 := by unfold wrap64; omega
theorem com_l2 (r s : ByteArray) (hr : r.size ≤ 1000000000) {k : Nat} (hk : 5 ≤ k) : token_reader_comment.l2 k r [(⟨#[45, 45, 33]⟩ : ByteArray), (⟨#[45, 45]⟩ : ByteArray), (⟨#[45]⟩ : ByteArray)] 3 0 s (s.size : Int) = some (comTail r, s, (s.size : Int)) := by
  obtain ⟨k, rfl⟩ : ∃ m, k = m + 4 := ⟨k - 4, by omega⟩
  have r0 : rdOf ByteArray.empty [(⟨#[45, 45, 33]⟩ : ByteArray), (⟨#[45, 45]⟩ : ByteArray), (⟨#[45]⟩ : ByteArray)] 0 = ⟨#[45, 45, 33]⟩ := rfl
  have r1 : rdOf ByteArray.empty [(⟨#[45, 45, 33]⟩ : ByteArray), (⟨#[45, 45]⟩ : ByteArray), (⟨#[45]⟩ : ByteArray)] 1 = ⟨#[45, 45]⟩ := rfl
  have r2 : rdOf ByteArray.empty [(⟨#[45, 45, 33]⟩ : ByteArray), (⟨#[45, 45]⟩ : ByteArray), (⟨#[45]⟩ : ByteArray)] 2 = ⟨#[45]⟩ := rfl
  unfold comTail
  rw [token_reader_comment.l2, if_pos (by decide), if_pos (by decide), if_pos (by decide), r0, suffix_ok r _ hr, Option.bind_some]
  have d0 : (⟨#[45, 45, 33]⟩ : ByteArray).data.toList = [45, 45, 33] := rfl
  have d1 : (⟨#[45, 45]⟩ : ByteArray).data.toList = [45, 45] := rfl
  have d2 : (⟨#[45]⟩ : ByteArray).data.toList = [45] := rfl
  rw [d0]
  cases h0 : Lib.hasSuffix r.data.toList [45, 45, 33] with
  | true => rfl
  | false =>
    simp only [Bool.false_eq_true, if_false]
    rw [w01, token_reader_comment.l2, if_pos (by decide), if_pos (by decide), if_pos (by decide), r1, suffix_ok r _ hr, Option.bind_some, d1]
    cases h1 : Lib.hasSuffix r.data.toList [45, 45] with
    | true => rfl
    | false =>
      simp only [Bool.false_eq_true, if_false]
      rw [w12, token_reader_comment.l2, if_pos (by decide), if_pos (by decide), if_pos (by decide), r2, suffix_ok r _ hr, Option.bind_some, d2]
      cases h2 : Lib.hasSuffix r.data.toList [45] with
      | true => rfl
      | false =>
        simp only [Bool.false_eq_true, if_false]
        rw [w23, token_reader_comment.l2, if_neg (by decide)]
theorem wi3 {i j : Nat} (h : i ≤ 1000000) (h2 : j ≤ 1000000) : wrap64 ((i : Int) + wrap64 ((j : Int) + 3)) = ((i + j + 3 : Nat) : Int) := by unfold wrap64; omega
theorem wi4 {i j : Nat} (h : i ≤ 1000000) (h2 : j ≤ 1000000) : wrap64 ((i : Int) + wrap64 ((j : Int) + 4)) = ((i + j + 4 : Nat) : Int) := by unfold wrap64; omega
theorem com_l0 (s : ByteArray) (i : Nat) (r : ByteArray) (hs : s.size ≤ 400000) (hi : i ≤ s.size) (hr : r = s.extract i s.size) (d : Nat) : ∀ (j k : Nat), j + d = r.size → 4 * d + 10 ≤ k →
    token_reader_comment.l0 k r (r.size : Int) (j : Int) s (i : Int) = some (match comScan (r.data.toList.drop j) j with | some (a, n) => (r.extract 0 a, s, ((i + a + n : Nat) : Int)) | none => (comTail r, s, (s.size : Int))) := by
  have hrs : r.size = s.size - i := by rw [hr]; simp
  have hlen : r.data.toList.length = r.size := by simp
  induction d with
  | zero =>
    intro j k hj hk
    obtain ⟨k, rfl⟩ : ∃ m, k = m + 1 := ⟨k - 1, by omega⟩
    rw [token_reader_comment.l0, if_neg (by omega), List.drop_of_length_le (by omega), Option.bind_some]
    exact com_l2 r s (by omega) (by omega)
  | succ d ih =>
    intro j k hj hk
    obtain ⟨k, rfl⟩ : ∃ m, k = m + 4 := ⟨k - 4, by omega⟩
    have hlt : j < r.data.toList.length := by omega
    have r0 : rdOf ByteArray.empty [(⟨#[45, 45, 62]⟩ : ByteArray), (⟨#[45, 45, 33, 62]⟩ : ByteArray)] 0 = ⟨#[45, 45, 62]⟩ := rfl
    have r1 : rdOf ByteArray.empty [(⟨#[45, 45, 62]⟩ : ByteArray), (⟨#[45, 45, 33, 62]⟩ : ByteArray)] 1 = ⟨#[45, 45, 33, 62]⟩ := rfl
    have hex : (r.extract (j : Int).toNat r.size).data.toList = r.data.toList.drop j := by simp [ByteArray.data_extract, List.take_of_length_le]
    have hcs : r.data.toList.drop j = r.data.toList[j] :: r.data.toList.drop (j + 1) := List.drop_eq_getElem_cons hlt
    rw [token_reader_comment.l0, if_pos (by omega), Option.bind_some, token_reader_comment.l1, if_pos (by decide), if_pos (by decide), if_pos (by decide), if_pos (by omega), if_pos (by omega), r0, hasPrefix_ok, Option.bind_some, hex]
    have d0 : (⟨#[45, 45, 62]⟩ : ByteArray).data.toList = [45, 45, 62] := rfl
    have d1 : (⟨#[45, 45, 33, 62]⟩ : ByteArray).data.toList = [45, 45, 33, 62] := rfl
    have s0 : ((⟨#[45, 45, 62]⟩ : ByteArray).size : Int) = 3 := rfl
    have s1 : ((⟨#[45, 45, 33, 62]⟩ : ByteArray).size : Int) = 4 := rfl
    rw [d0, s0]
    rw [hcs, comScan]
    cases h0 : Lib.hasPrefix (r.data.toList[j] :: r.data.toList.drop (j + 1)) [45, 45, 62] with
    | true =>
      rw [if_pos rfl, if_pos rfl]
      rw [wi3 (by omega) (by omega), Int.toNat_natCast]
    | false =>
      rw [if_neg (by simp), if_neg (by simp), w01, token_reader_comment.l1, if_pos (by decide), if_pos (by decide), if_pos (by decide), if_pos (by omega), if_pos (by omega), r1, hasPrefix_ok, Option.bind_some, hex, d1, s1, hcs]
      cases h1 : Lib.hasPrefix (r.data.toList[j] :: r.data.toList.drop (j + 1)) [45, 45, 33, 62] with
      | true =>
        rw [if_pos rfl, if_pos rfl]
        rw [wi4 (by omega) (by omega), Int.toNat_natCast]
      | false =>
        rw [if_neg (by simp), if_neg (by simp), w12, token_reader_comment.l1, if_neg (by decide), wr1 (by omega)]
        exact ih (j + 1) k (by omega) (by omega)
theorem comment_ok (s : ByteArray) (i : Nat) (hi : i ≤ s.size) (hs : s.size ≤ 400000) {k : Nat} (hk : 1700000 ≤ k) : token_reader_comment.f k s (i : Int) = some ((comS s i).1, s, ((comS s i).2 : Int)) := by
  unfold token_reader_comment.f comS
  rw [past_ok s i _ hi (by omega) (by decide), Option.bind_some]
  obtain ⟨k, rfl⟩ : ∃ m, k = m + 1 := ⟨k - 1, by omega⟩
  cases h0 : token_reader.here s i ⟨#[62]⟩ with
  | true =>
    simp only [if_true]
    rw [token_reader_comment.j0, if_pos rfl]; rfl
  | false =>
    simp only [Bool.false_eq_true, if_false]
    rw [past_ok s i _ hi (by omega) (by decide), Option.bind_some]
    cases h1 : token_reader.here s i ⟨#[45, 62]⟩ with
    | true =>
      simp only [if_true]
      rw [token_reader_comment.j0, if_pos rfl]; rfl
    | false =>
      simp only [Bool.false_eq_true, if_false]
      rw [token_reader_comment.j0, if_neg (by simp)]
      unfold token_reader_rest.f
      rw [if_pos (by omega), if_pos (by omega), Option.bind_some]
      have hn : (i : Int).toNat = i := by simp
      simp only [hn]
      have hz : (s.extract i s.size).size = s.size - i := by simp
      have := com_l0 s i (s.extract i s.size) hs hi rfl (s.extract i s.size).size 0 k (by omega) (by omega)
      have hl : (s.extract i s.size).data.toList.drop 0 = s.data.toList.drop i := by simp [ByteArray.data_extract, List.take_of_length_le]
      rw [hl] at this
      refine Eq.trans this ?_
      cases hc : comScan (s.data.toList.drop i) 0 with
      | none => rfl
      | some p =>
        obtain ⟨a, n⟩ := p
        simp only
        congr 2
        apply Go.WideShapes.bytes_inj
        simp [ByteArray.data_extract, List.take_of_length_le, Nat.add_sub_cancel_left]
        omega

theorem comScan_le : ∀ (l : List UInt8) (j a n : Nat), comScan l j = some (a, n) → j ≤ a ∧ a + n ≤ j + l.length
  | [], j, a, n, h => by cases h
  | c :: r, j, a, n, h => by
    rw [comScan] at h
    split at h
    · rename_i h2
      simp only [Option.some.injEq, Prod.mk.injEq] at h
      obtain ⟨rfl, rfl⟩ := h
      have := (List.isPrefixOf_iff_prefix.1 h2).length_le
      simp at this ⊢; omega
    · split at h
      · rename_i h2
        simp only [Option.some.injEq, Prod.mk.injEq] at h
        obtain ⟨rfl, rfl⟩ := h
        have := (List.isPrefixOf_iff_prefix.1 h2).length_le
        simp at this ⊢; omega
      · have := comScan_le r (j + 1) a n h
        simp; omega
theorem comS_le (s : ByteArray) (i : Nat) (hi : i ≤ s.size) : i ≤ (comS s i).2 ∧ (comS s i).2 ≤ s.size := by
  unfold comS
  split
  · rename_i h; have : i + 1 ≤ s.size := token_reader.here_le hi h; simp; omega
  · split
    · rename_i h; have : i + 2 ≤ s.size := token_reader.here_le hi h; simp; omega
    · split
      · rename_i a n h
        have := comScan_le _ _ _ _ h
        simp at this ⊢; omega
      · simp; omega
/-- What a declaration is. -/
def declT (s : ByteArray) (i : Nat) : TokV :=
  if token_reader.here s i ⟨#[45, 45]⟩ = true then ⟨4, ⟨#[]⟩, [], false, (comS s (i + 2)).1, (comS s (i + 2)).2⟩
  else if token_reader.isDoc s i = true then ⟨5, ⟨#[]⟩, [], false, ⟨#[]⟩, token_reader.cutAt s i ⟨#[62]⟩⟩
  else token_reader.otherV s i
theorem declV_ok (s : ByteArray) (i : Nat) (hi : i ≤ s.size) (hs : s.size ≤ 400000) {k : Nat} (hk : 1700000 ≤ k) : token_reader.declV k s i = some (declT s i) := by
  unfold token_reader.declV token_reader.decl declT
  split
  · rename_i h
    have h2 : i + 2 ≤ s.size := token_reader.here_le hi h
    rw [comment_ok s (i + 2) h2 hs hk, Option.bind_some]
    simp only
    rw [if_pos ⟨trivial, by omega⟩]
    simp
  · split <;> rfl
theorem declT_le (s : ByteArray) (i : Nat) (hi : i ≤ s.size) : i ≤ (declT s i).e ∧ (declT s i).e ≤ s.size := by
  unfold declT
  split
  · rename_i h
    have h2 : i + 2 ≤ s.size := token_reader.here_le hi h
    have := comS_le s (i + 2) h2
    simp; omega
  · split
    · exact token_reader.cutAt_le s i _ hi
    · exact token_reader.cutAt_le s i _ hi
def textT (s : ByteArray) (i : Nat) : TokV := ⟨1, ⟨#[]⟩, [], false, decB false (s.extract i (token_reader.textTo s i)), token_reader.textTo s i⟩
theorem textV_ok (s : ByteArray) (i : Nat) (hs : s.size ≤ 400000) {k : Nat} (hk : 800100 ≤ k) : token_reader.textV k s i = some (textT s i) := by
  unfold token_reader.textV
  rw [decB_ok false _ (Nat.le_trans (extract_le _ _ _) hs) hk]; rfl
/-- The next token in ModeData, from a place on. -/
def dataT (s : ByteArray) (i : Nat) (fo : Bool) : TokV :=
  if h1 : s.size ≤ i then TokV.end_ i
  else if token_begins.b (s.data.toList.drop i) = false then textT s i
  else if token_reader.here s i ⟨#[60, 47, 62]⟩ = true then dataT s (i + 3) fo
  else if (fo && token_reader.here s i token_reader.cdataW) = true then
    if (token_reader.cutTxt s (i + 9) ⟨#[93, 93, 62]⟩).toList = [] then
      if h2 : i < token_reader.cutAt s (i + 9) ⟨#[93, 93, 62]⟩ then dataT s (token_reader.cutAt s (i + 9) ⟨#[93, 93, 62]⟩) fo else TokV.end_ i
    else ⟨1, ⟨#[]⟩, [], false, token_reader.cutTxt s (i + 9) ⟨#[93, 93, 62]⟩, token_reader.cutAt s (i + 9) ⟨#[93, 93, 62]⟩⟩
  else if token_reader.here s i ⟨#[60, 33]⟩ = true then declT s (i + 2)
  else if token_reader.here s i ⟨#[60, 47]⟩ = true then
    if token_begins.letter (token_reader.byte s (i + 2)) = true then tagT s (i + 2) 3 else token_reader.otherV s (i + 2)
  else if token_reader.byte s (i + 1) = 63 then token_reader.otherV s (i + 1) else tagT s (i + 1) 2
termination_by s.size - i
theorem dataV_ok (s : ByteArray) (fo : Bool) (hs : s.size ≤ 400000) (d : Nat) : ∀ (i k : Nat), i + d = s.size → 1700000 + d < k → token_reader.dataV k s i fo = some (dataT s i fo) := by
  induction d using Nat.strongRecOn with
  | _ d ih =>
    intro i k hi hk
    obtain ⟨k, rfl⟩ : ∃ m, k = m + 1 := ⟨k - 1, by omega⟩
    rw [token_reader.dataV, dataT]
    by_cases h1 : s.size ≤ i
    · rw [if_pos h1, dif_pos h1]
    · rw [if_neg h1, dif_neg h1]
      by_cases hb : token_begins.b (s.data.toList.drop i) = false
      · rw [if_pos hb, if_pos hb, textV_ok s i hs (by omega)]
      · rw [if_neg hb, if_neg hb]
        have hb' : token_begins.b (s.data.toList.drop i) = true := by simpa using hb
        have h2 := token_begins.two hb'
        by_cases h3 : token_reader.here s i ⟨#[60, 47, 62]⟩ = true
        · rw [if_pos h3, if_pos h3]
          have : i + 3 ≤ s.size := token_reader.here_le (by omega) h3
          exact ih (d - 3) (by omega) (i + 3) k (by omega) (by omega)
        · rw [if_neg h3, if_neg h3]
          by_cases h9 : (fo && token_reader.here s i token_reader.cdataW) = true
          · rw [if_pos h9, if_pos h9]
            have h9' := h9
            simp only [Bool.and_eq_true] at h9'
            have hl : i + 9 ≤ s.size := token_reader.here_le (by omega) h9'.2
            have hc := token_reader.cutAt_le s (i + 9) ⟨#[93, 93, 62]⟩ hl
            by_cases he : (token_reader.cutTxt s (i + 9) ⟨#[93, 93, 62]⟩).toList = []
            · rw [if_pos he, if_pos he, dif_pos (by omega)]
              exact ih (s.size - token_reader.cutAt s (i + 9) ⟨#[93, 93, 62]⟩) (by omega) _ k (by omega) (by omega)
            · rw [if_neg he, if_neg he]
          · rw [if_neg h9, if_neg h9]
            by_cases h33 : token_reader.here s i ⟨#[60, 33]⟩ = true
            · rw [if_pos h33, if_pos h33]
              exact declV_ok s (i + 2) (token_reader.here_le (by omega) h33) hs (by omega)
            · rw [if_neg h33, if_neg h33]
              by_cases h47 : token_reader.here s i ⟨#[60, 47]⟩ = true
              · rw [if_pos h47, if_pos h47]
                have h4 := token_begins.three hb' h47
                split
                · exact tagV_ok s (i + 2) 3 (by omega) hs (by omega)
                · rfl
              · rw [if_neg h47, if_neg h47]
                split
                · rfl
                · exact tagV_ok s (i + 1) 2 (by omega) hs (by omega)
/-- The next token. -/
def nextT (s : ByteArray) (a m : Int) (name : ByteArray) (fo : Bool) : TokV :=
  if a < 0 ∨ (s.size : Int) ≤ a then TokV.end_ s.size
  else if m = 3 then ⟨1, ⟨#[]⟩, [], false, s.extract a.toNat s.size, s.size⟩
  else TokV.fin s (if m = 2 then rawT s name a.toNat else if m = 1 then { rawT s name a.toNat with tx := decB false (rawT s name a.toNat).tx } else dataT s a.toNat fo)
theorem rawT_tx (s name : ByteArray) (i : Nat) : (rawT s name i).tx.size ≤ s.size := by
  unfold rawT
  split
  · exact extract_le _ _ _
  · exact Nat.zero_le _
theorem next_ok (s : ByteArray) (a m : Int) (name : ByteArray) (fo : Bool) (hs : s.size ≤ 400000) (hn : name.size ≤ 400000) {k : Nat} (hk : 2200000 ≤ k) : token_Next.f k s a m name fo = some (nextT s a m name fo).tuple := by
  unfold token_Next.f token_Next.V nextT
  rw [if_pos ⟨by omega, by omega⟩]
  by_cases ha : a < 0 ∨ (s.size : Int) ≤ a
  · rw [if_pos ha, if_pos ha]; rfl
  · rw [if_neg ha, if_neg ha]
    by_cases m3 : m = 3
    · rw [if_pos m3, if_pos m3]; rfl
    · rw [if_neg m3, if_neg m3]
      unfold token_Next.v
      have hlt : a.toNat < s.size := by omega
      by_cases m2 : m = 2
      · rw [if_pos m2, if_pos m2, rawV_ok s name _ hlt hs (by omega)]; rfl
      · rw [if_neg m2, if_neg m2]
        by_cases m1 : m = 1
        · rw [if_pos m1, if_pos m1, rawV_ok s name _ hlt hs (by omega), Option.bind_some]
          unfold TokV.dec
          rw [decB_ok false _ (Nat.le_trans (rawT_tx s name _) hs) (by omega)]; rfl
        · rw [if_neg m1, if_neg m1, dataV_ok s fo hs (s.size - a.toNat) a.toNat k (by omega) (by omega)]; rfl

end Go.Proofs.Ytpelfhldgnmhpaa.Pure
