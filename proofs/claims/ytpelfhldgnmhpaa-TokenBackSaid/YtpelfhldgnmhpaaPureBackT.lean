/- A start tag of small letters with quoted values is read as it was, closed or not; so is an end tag. Condition: a text has at most 400000 bytes. -/
import Derived.Test.YtpelfhldgnmhpaaPureOnw
import Derived.Test.YtpelfhldgnmhpaaCharL
import Derived.Test.YtpelfhldgnmhpaaG32
namespace Go.Proofs.Ytpelfhldgnmhpaa.Pure
open Go.RowKit Go.Proofs.Ytpelfhldgnmhpaa.G Go.Proofs.YtpelfhldgnmhpaaW.PrintWords Go.Proofs.YtpelfhldgnmhpaaW.PrintLast Go.Proofs.Ytpelfhldgnmhpaa.Spec
set_option linter.unusedVariables false
set_option linter.unusedSimpArgs false

/-- A text of small letters. -/
def smallL (l : List UInt8) : Bool := l.all fun c => decide (97 ≤ c.toNat) && decide (c.toNat ≤ 122)
theorem bt_get (s : ByteArray) (i : Nat) (h : i < s.data.toList.length) : bt s (i : Int) = ((s.data.toList[i]).toNat : Int) := by
  have h2 : i < s.size := by simpa using h
  unfold bt
  rw [dif_pos (show (i : Int).toNat < s.size by simpa using h2)]; rfl
theorem wrB {n : Nat} (h : n + 1 ≤ 9223372036854775807) : wrap64 ((n : Int) + 1) = ((n + 1 : Nat) : Int) := by unfold wrap64; omega
theorem small_l0 (s : ByteArray) (hs : s.size ≤ 9223372036854775807) (d : Nat) : ∀ (i k : Nat), i + d = s.size → d < k → marginalialaw04_small.l0 k s (i : Int) = some (smallL (s.data.toList.drop i) && (decide (1 ≤ s.size) && decide (s.size ≤ 20))) := by
  have el : s.data.toList.length = s.size := by simp
  induction d with
  | zero =>
    intro i k hi hk
    obtain ⟨k, rfl⟩ : ∃ m, k = m + 1 := ⟨k - 1, by omega⟩
    rw [marginalialaw04_small.l0, if_neg (by omega), List.drop_of_length_le (by omega)]
    by_cases h : 1 ≤ s.size
    · rw [if_pos (by omega)]
      simp [smallL, h]
      omega
    · rw [if_neg (by omega)]
      simp [smallL, h]
  | succ d ih =>
    intro i k hi hk
    obtain ⟨k, rfl⟩ : ∃ m, k = m + 1 := ⟨k - 1, by omega⟩
    have hlt : i < s.data.toList.length := by omega
    rw [marginalialaw04_small.l0, if_pos (by omega), if_pos (by omega), bt_get s i hlt, List.drop_eq_getElem_cons hlt]
    by_cases h1 : 97 ≤ (s.data.toList[i]).toNat
    · rw [if_neg (by omega)]
      by_cases h2 : (s.data.toList[i]).toNat ≤ 122
      · rw [if_neg (by omega), wrB (by omega), ih (i + 1) k (by omega) (by omega)]
        simp only [smallL, List.all_cons, decide_eq_true h1, decide_eq_true h2, Bool.true_and]
      · rw [if_pos (by omega)]
        simp only [smallL, List.all_cons, decide_eq_true h1, decide_eq_false h2, Bool.and_false, Bool.false_and]
    · rw [if_pos (by omega)]
      simp only [smallL, List.all_cons, decide_eq_false h1, Bool.false_and]
theorem small_ok (s : ByteArray) (hs : s.size ≤ 9223372036854775807) {k : Nat} (hk : s.size < k) : marginalialaw04_small.f k s = some (smallL s.data.toList && (decide (1 ≤ s.size) && decide (s.size ≤ 20))) := small_l0 s hs s.size 0 k (by omega) hk
theorem small_mem {l : List UInt8} (h : smallL l = true) : ∀ c ∈ l, 97 ≤ c.toNat ∧ c.toNat ≤ 122 := by
  intro c hc
  have := List.all_eq_true.1 h c hc
  simpa using this
theorem lower_small (c : UInt8) (h : 97 ≤ c.toNat ∧ c.toNat ≤ 122) : kind_Lower.c c = c := by
  unfold kind_Lower.c
  rw [if_neg (by omega)]
theorem lower_list {l : List UInt8} (h : smallL l = true) : kind_Lower.l l = l := by
  unfold kind_Lower.l
  have : l.map kind_Lower.c = l.map id := List.map_congr_left fun c hc => lower_small c (small_mem h c hc)
  rw [this, List.map_id]
theorem len_app (p : UInt8 → Bool) (a : List UInt8) (x : UInt8) (r : List UInt8) (h1 : ∀ c ∈ a, p c = false) (h2 : p x = true) : token_until.len p (a ++ x :: r) = a.length := by
  unfold token_until.len
  rw [List.takeWhile_append_of_pos (fun c hc => by rw [h1 c hc]; rfl), List.takeWhile_cons, h2]
  simp
theorem pE_small (c : UInt8) (h : 97 ≤ c.toNat ∧ c.toNat ≤ 122) : token_until.pE ⟨#[47, 62]⟩ c = false := pE_letter c (by unfold token_begins.letter; simp [h])

/-- A value between double quotes, without them. -/
def quoteL (l : List UInt8) : List UInt8 := l.flatMap fun c => if c = 38 then [38, 97, 109, 112, 59] else if c = 34 then [38, 113, 117, 111, 116, 59] else [c]
theorem quote_cons (c : UInt8) (r : List UInt8) : quoteL (c :: r) = (if c = 38 then [38, 97, 109, 112, 59] else if c = 34 then [38, 113, 117, 111, 116, 59] else [c]) ++ quoteL r := by simp [quoteL]
theorem dec_quote : ∀ l : List UInt8, dec true (quoteL l) = l
  | [] => by show dec true [] = []; rw [dec_nil]
  | c :: r => by
    have ih := dec_quote r
    rw [quote_cons]
    by_cases h1 : c = 38
    · subst h1
      rw [if_pos rfl]
      show dec true (38 :: 97 :: 109 :: 112 :: 59 :: _) = _
      rw [dec_amp, ref_amp]; simp [ih]
    · rw [if_neg h1]
      by_cases h2 : c = 34
      · subst h2
        rw [if_pos rfl]
        show dec true (38 :: 113 :: 117 :: 111 :: 116 :: 59 :: _) = _
        rw [dec_amp, ref_quot]; simp [ih]
      · rw [if_neg h2, List.singleton_append, dec_cons, if_neg h1, ih]
theorem quote_clean (l : List UInt8) : ∀ c ∈ quoteL l, c ≠ 34 := by
  intro c hc
  unfold quoteL at hc
  obtain ⟨b, hb, h⟩ := List.mem_flatMap.1 hc
  by_cases h1 : b = 38
  · rw [if_pos h1] at h; simp at h; rcases h with rfl | rfl | rfl | rfl | rfl <;> decide
  · rw [if_neg h1] at h
    by_cases h2 : b = 34
    · rw [if_pos h2] at h; simp at h; rcases h with rfl | rfl | rfl | rfl | rfl | rfl <;> decide
    · rw [if_neg h2] at h; simp at h; rw [h]; exact h2
theorem quote_len (l : List UInt8) : (quoteL l).length ≤ 6 * l.length := by
  induction l with
  | nil => simp [quoteL]
  | cons c r ih =>
    rw [quote_cons, List.length_append, List.length_cons]
    split
    · simp; omega
    · split
      · simp; omega
      · simp; omega
/-- What stands of an attribute. -/
def attrL (a : S41) : List UInt8 := 32 :: (a.f0.data.toList ++ 61 :: 34 :: (quoteL a.f1.data.toList ++ [34]))
def attrsL (l : List S41) : List UInt8 := l.flatMap attrL
theorem hereL {s : ByteArray} {i : Nat} {l : List UInt8} (h : s.data.toList.drop i = l) (t : List UInt8) : token_reader.here s i ⟨t.toArray⟩ = t.isPrefixOf l := by
  unfold token_reader.here Lib.hasPrefix
  rw [h]
theorem drop_size {s : ByteArray} {i : Nat} {l : List UInt8} (h : s.data.toList.drop i = l) (hl : 0 < l.length) : i + l.length = s.size := by
  have el : s.data.toList.length = s.size := by simp
  have := congrArg List.length h
  rw [List.length_drop] at this
  omega
theorem drop_more {s : ByteArray} {i : Nat} {a b : List UInt8} (h : s.data.toList.drop i = a ++ b) : s.data.toList.drop (i + a.length) = b := by
  rw [← List.drop_drop, h, List.drop_left]
theorem to_app (p : UInt8 → Bool) {s : ByteArray} {i : Nat} {a : List UInt8} {x : UInt8} {r : List UInt8} (h : s.data.toList.drop i = a ++ x :: r) (h1 : ∀ c ∈ a, p c = false) (h2 : p x = true) : token_until.to p s i = i + a.length := by
  unfold token_until.to
  rw [h, len_app p a x r h1 h2]
theorem to_all (p : UInt8 → Bool) {s : ByteArray} {i : Nat} {a : List UInt8} (h : s.data.toList.drop i = a) (h1 : ∀ c ∈ a, p c = false) : token_until.to p s i = i + a.length := by
  unfold token_until.to token_until.len
  rw [h]
  have := List.takeWhile_append_of_pos (p := fun c => !p c) (l₁ := a) (l₂ := []) (fun c hc => by rw [h1 c hc]; rfl)
  rw [List.append_nil, List.takeWhile_nil, List.append_nil] at this
  rw [this]
theorem extract_app {s : ByteArray} {i : Nat} {a b : List UInt8} (h : s.data.toList.drop i = a ++ b) : (s.extract i (i + a.length)).data.toList = a := by
  rw [ByteArray.data_extract, Array.toList_extract, List.extract_eq_take_drop, Nat.add_sub_cancel_left, h, List.take_left]
theorem occ_no (Q r : List UInt8) (hq : ∀ c ∈ Q, c ≠ 34) (j : Nat) (hj : j < Q.length) : Lib.occAt (Q ++ 34 :: r) [34] j = false := by
  unfold Lib.occAt
  have hlt : j < (Q ++ 34 :: r).length := by rw [List.length_append]; omega
  rw [List.drop_eq_getElem_cons hlt, List.getElem_append_left hj]
  have := hq Q[j] (List.getElem_mem hj)
  simp [List.isPrefixOf, this.symm]
theorem cut_quote (Q r : List UInt8) (hq : ∀ c ∈ Q, c ≠ 34) : Lib.cut (Q ++ 34 :: r) [34] = (Q, r, true) := by
  have hocc : Lib.occAt (Q ++ 34 :: r) [34] Q.length = true := by
    unfold Lib.occAt
    rw [List.drop_left]; simp [List.isPrefixOf]
  have hi : Lib.index (Q ++ 34 :: r) [34] = (Q.length : Int) := by
    rcases Lib.index_spec (Q ++ 34 :: r) [34] with ⟨h1, h2⟩ | ⟨j, h1, h2, h3, h4⟩
    · exact absurd hocc (by rw [h2 Q.length (by rw [List.length_append]; omega)]; simp)
    · rw [h1]
      rcases Nat.lt_trichotomy j Q.length with h | h | h
      · rw [occ_no Q r hq j h] at h3; cases h3
      · rw [h]
      · have := h4 Q.length h; rw [hocc] at this; cases this
  unfold Lib.cut
  rw [hi, if_pos (by omega), Int.toNat_natCast, List.take_left]
  congr 2
  rw [List.length_singleton, ← List.drop_drop, List.drop_left]; rfl
theorem pG_letter (c : UInt8) (h : 97 ≤ c.toNat ∧ c.toNat ≤ 122) : token_until.pG c = true := by
  have h1 : c ≠ 47 := fun e => by rw [e] at h; exact absurd h.1 (by decide)
  have h2 : token_until.sp c = false := by
    unfold token_until.sp
    have n : ∀ d : UInt8, d.toNat < 97 → (c == d) = false := fun d hd => beq_eq_false_iff_ne.2 fun e => by rw [e] at h; omega
    rw [n 9 (by decide), n 10 (by decide), n 12 (by decide), n 13 (by decide), n 32 (by decide)]; rfl
  unfold token_until.pG
  rw [h2]; simp [h1]
theorem pE3_small (c : UInt8) (h : 97 ≤ c.toNat ∧ c.toNat ≤ 122) : token_until.pE ⟨#[47, 62, 61]⟩ c = false := by
  have h2 : token_until.sp c = false := by
    unfold token_until.sp
    have n : ∀ d : UInt8, d.toNat < 97 → (c == d) = false := fun d hd => beq_eq_false_iff_ne.2 fun e => by rw [e] at h; omega
    rw [n 9 (by decide), n 10 (by decide), n 12 (by decide), n 13 (by decide), n 32 (by decide)]; rfl
  have n : ∀ d : UInt8, d.toNat < 97 → c ≠ d := fun d hd e => by rw [e] at h; omega
  unfold token_until.pE
  rw [h2]
  show (false || [47, 62, 61].contains c) = false
  simp [n 47 (by decide), n 62 (by decide), n 61 (by decide)]
theorem slash_selfB (s : ByteArray) (i : Nat) : token_reader.slash s i i = false := by
  unfold token_reader.slash; simp
theorem slash_oneB {s : ByteArray} {i : Nat} {c : UInt8} {r : List UInt8} (h : s.data.toList.drop i = c :: r) : token_reader.slash s i (i + 1) = (c == 47) := by
  unfold token_reader.slash
  rw [decide_eq_true (Nat.lt_succ_self i), Bool.true_and, Nat.add_sub_cancel]
  have := congrArg (fun l => l.head?) h
  simp only [List.head?_drop, List.head?_cons] at this
  rw [List.getD, this]; rfl
theorem low_small {s : ByteArray} {i : Nat} {a : ByteArray} {b : List UInt8} (h : s.data.toList.drop i = a.data.toList ++ b) (hs : smallL a.data.toList = true) : token_reader.low s i (i + a.size) = a := by
  have e1 : a.data.toList.length = a.size := by simp
  unfold token_reader.low kind_Lower.low
  apply Go.WideShapes.bytes_inj
  rw [← e1, extract_app h, lower_list hs]
theorem tagS_attr (s : ByteArray) (hs : s.size ≤ 400000) (i : Nat) (l : List S41) (a : S41) (r : List UInt8) (hd : s.data.toList.drop i = attrL a ++ r) (hn : smallL a.f0.data.toList = true) (hp : 0 < a.f0.size) (hno : (getS a.f0 l).2 = false) :
    tagS s i l = tagS s (i + (attrL a).length) (l ++ [a]) := by
  have e0 : a.f0.data.toList.length = a.f0.size := by simp
  have hlen : (attrL a).length = a.f0.size + 4 + (quoteL a.f1.data.toList).length := by
    unfold attrL
    rw [List.length_cons, List.length_append, List.length_cons, List.length_cons, List.length_append, List.length_singleton, e0]; omega
  obtain ⟨x, nr, hnm⟩ : ∃ x nr, a.f0.data.toList = x :: nr := by
    cases h : a.f0.data.toList with
    | nil => rw [h] at e0; simp at e0; omega
    | cons x nr => exact ⟨x, nr, rfl⟩
  have hx : 97 ≤ x.toNat ∧ x.toNat ≤ 122 := small_mem hn x (by rw [hnm]; exact List.mem_cons_self)
  have d0 : s.data.toList.drop i = [32] ++ x :: (nr ++ 61 :: 34 :: (quoteL a.f1.data.toList ++ 34 :: r)) := by
    rw [hd]; unfold attrL; rw [hnm]; simp
  have hsz := drop_size d0 (by simp)
  have d1 : s.data.toList.drop (i + 1) = x :: (nr ++ 61 :: 34 :: (quoteL a.f1.data.toList ++ 34 :: r)) := drop_more d0
  have d1n : s.data.toList.drop (i + 1) = a.f0.data.toList ++ 61 :: 34 :: (quoteL a.f1.data.toList ++ 34 :: r) := by rw [d1, hnm]; rfl
  have d2 : s.data.toList.drop (i + 1 + 1) = nr ++ 61 :: 34 :: (quoteL a.f1.data.toList ++ 34 :: r) := drop_more (a := [x]) d1
  have d3 : s.data.toList.drop (i + 1 + a.f0.size) = 61 :: 34 :: (quoteL a.f1.data.toList ++ 34 :: r) := by rw [← e0]; exact drop_more d1n
  have d4 : s.data.toList.drop (i + 1 + a.f0.size + 1) = 34 :: (quoteL a.f1.data.toList ++ 34 :: r) := drop_more (a := [61]) d3
  have d5 : s.data.toList.drop (i + 1 + a.f0.size + 1 + 1) = quoteL a.f1.data.toList ++ 34 :: r := drop_more (a := [34]) d4
  have hq : token_until.to token_until.pG s i = i + 1 := to_app token_until.pG d0 (by intro c hc; rw [List.mem_singleton.1 hc]; decide) (pG_letter x hx)
  have hlnr : nr.length + 1 = a.f0.size := by rw [← e0, hnm, List.length_cons]
  have hend : token_reader.attrEnd s (i + 1) = i + 1 + a.f0.size := by
    unfold token_reader.attrEnd
    rw [to_app (token_until.pE ⟨#[47, 62, 61]⟩) d2 (fun c hc => pE3_small c (small_mem hn c (by rw [hnm]; exact List.mem_cons_of_mem _ hc))) (by decide)]; omega
  have hpN : token_until.to token_until.pN s (i + 1 + a.f0.size) = i + 1 + a.f0.size := by
    have := to_app token_until.pN (a := []) d3 (fun c hc => by cases hc) (by decide)
    exact this
  have hpN2 : token_until.to token_until.pN s (i + 1 + a.f0.size + 1) = i + 1 + a.f0.size + 1 := by
    have := to_app token_until.pN (a := []) d4 (fun c hc => by cases hc) (by decide)
    exact this
  have hval : token_reader.val s (i + 1 + a.f0.size + 1) = (mkB (quoteL a.f1.data.toList), i + (attrL a).length) := by
    unfold token_reader.val token_reader.val2
    rw [hpN2, if_pos (by rw [show (⟨#[34]⟩ : ByteArray) = ⟨[34].toArray⟩ from rfl, hereL d4]; simp [List.isPrefixOf])]
    unfold token_reader.cutTxt token_reader.cutAt
    have e34 : (⟨#[34]⟩ : ByteArray).data.toList = [34] := rfl
    rw [d5, e34, cut_quote _ r (quote_clean _), hlen]
    simp only
    rw [if_pos trivial]
    congr 1
    show _ + 1 = _
    omega
  have hat : attrS s (i + 1 + a.f0.size) = (a.f1, i + (attrL a).length) := by
    unfold attrS
    rw [if_pos (by rw [show (⟨#[61]⟩ : ByteArray) = ⟨[61].toArray⟩ from rfl, hereL d3]; simp [List.isPrefixOf]), hval]
    have : decB true (mkB (quoteL a.f1.data.toList)) = a.f1 := by
      unfold decB
      rw [mkB_data, dec_quote, mkB_self]
    rw [this]
  have hlow : token_reader.low s (i + 1) (i + 1 + a.f0.size) = a.f0 := low_small d1n hn
  rw [tagS, hq, dif_neg (by simp at hsz; omega), if_neg (by
    rw [show (⟨#[62]⟩ : ByteArray) = ⟨[62].toArray⟩ from rfl, hereL d1]
    have : (62 : UInt8) ≠ x := fun e => by rw [← e] at hx; exact absurd hx.1 (by decide)
    simp [List.isPrefixOf, this]), hend, hpN, hat, hlow, dif_pos (by rw [hlen]; omega), hno, if_neg (by simp)]
theorem getS_none (nm : ByteArray) : ∀ (l : List S41), (∀ a ∈ l, ¬ a.f0.toList = nm.toList) → (getS nm l).2 = false
  | [], _ => rfl
  | a :: l, h => by
    rw [getS, if_neg (h a List.mem_cons_self)]
    exact getS_none nm l fun b hb => h b (List.mem_cons_of_mem _ hb)
theorem tagS_attrs (s : ByteArray) (hs : s.size ≤ 400000) (r : List UInt8) : ∀ (l2 : List S41) (i : Nat) (l1 : List S41), s.data.toList.drop i = attrsL l2 ++ r → (∀ a ∈ l2, smallL a.f0.data.toList = true ∧ 0 < a.f0.size) → Names (l1 ++ l2) →
    tagS s i l1 = tagS s (i + (attrsL l2).length) (l1 ++ l2)
  | [], i, l1, _, _, _ => by simp [attrsL]
  | a :: l2, i, l1, hd, hsm, hns => by
    have e : attrsL (a :: l2) = attrL a ++ attrsL l2 := by simp [attrsL]
    rw [e, List.append_assoc] at hd
    have ha := hsm a List.mem_cons_self
    have hno : (getS a.f0 l1).2 = false := by
      refine getS_none a.f0 l1 fun b hb he => ?_
      have := (List.pairwise_append.1 hns).2.2 b hb a List.mem_cons_self
      exact this he.symm
    rw [tagS_attr s hs i l1 a _ hd ha.1 ha.2 hno, tagS_attrs s hs r l2 _ _ (drop_more hd) (fun b hb => hsm b (List.mem_cons_of_mem _ hb)) (by rw [List.append_assoc]; exact hns), e, List.length_append, List.append_assoc, Nat.add_assoc]
    rfl
/-- The tag's end: a stroke, if it is closed, and what stands behind. -/
def endL (c : Bool) : List UInt8 := if c = true then [47] else []
theorem tagS_end (s : ByteArray) (i : Nat) (l : List S41) (c : Bool) (r : List UInt8) (hd : s.data.toList.drop i = endL c ++ 62 :: r) : tagS s i l = (some (l, c), i + (endL c).length + 1) := by
  have hsz := drop_size hd (by rw [List.length_append, List.length_cons]; omega)
  rw [List.length_append, List.length_cons] at hsz
  have hto : token_until.to token_until.pG s i = i + (endL c).length := to_app token_until.pG hd (by intro b hb; cases c with | true => rw [List.mem_singleton.1 hb]; decide | false => cases hb) (by decide)
  have d1 := drop_more hd
  rw [tagS, hto, dif_neg (by omega), if_pos (by rw [show (⟨#[62]⟩ : ByteArray) = ⟨[62].toArray⟩ from rfl, hereL d1]; simp [List.isPrefixOf])]
  have hsl : token_reader.slash s i (i + (endL c).length) = c := by
    cases c with
    | true => exact slash_oneB hd
    | false => exact slash_selfB s i
  rw [hsl]
theorem tagS_none (s : ByteArray) (i : Nat) (hi : i ≤ s.size) (l : List S41) (c : Bool) (hd : s.data.toList.drop i = endL c) : (tagS s i l).1 = none := by
  have el : s.data.toList.length = s.size := by simp
  have hl := congrArg List.length hd
  rw [List.length_drop] at hl
  have hto : token_until.to token_until.pG s i = i + (endL c).length := to_all token_until.pG hd (by intro b hb; cases c with | true => rw [List.mem_singleton.1 hb]; decide | false => cases hb)
  rw [tagS, hto, dif_pos (by omega)]

end Go.Proofs.Ytpelfhldgnmhpaa.Pure
