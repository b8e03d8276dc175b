/- A text ahead of its end tag is read as it stands, and then the end tag; condition: the law's own bounds on the texts' reach. -/
import Derived.Test.YtpelfhldgnmhpaaPureTokenComment
import Derived.Test.YtpelfhldgnmhpaaG35
namespace Go.Proofs.Ytpelfhldgnmhpaa.Pure
open Go.RowKit Go.Proofs.Ytpelfhldgnmhpaa.G Go.Proofs.YtpelfhldgnmhpaaW.PrintWords Go.Proofs.YtpelfhldgnmhpaaW.PrintLast Go.Proofs.Ytpelfhldgnmhpaa.Spec
set_option linter.unusedVariables false
set_option linter.unusedSimpArgs false

theorem attrs_same (l : List S41) (hl : l.length ≤ 1000000) (d : Nat) : ∀ (i k : Nat), i + d = l.length → d < k → marginaliaref04_Attrs.l0 k l l (i : Int) = some true := by
  induction d with
  | zero =>
    intro i k hi hk
    obtain ⟨k, rfl⟩ : ∃ m, k = m + 1 := ⟨k - 1, by omega⟩
    rw [marginaliaref04_Attrs.l0, if_neg (by omega)]
  | succ d ih =>
    intro i k hi hk
    obtain ⟨k, rfl⟩ : ∃ m, k = m + 1 := ⟨k - 1, by omega⟩
    rw [marginaliaref04_Attrs.l0, if_pos (by omega), if_pos (by omega), if_pos (by omega), if_neg (by simp), wr1 (by omega)]
    exact ih (i + 1) k (by omega) (by omega)
theorem same_self (kd : Int) (nm : ByteArray) (l : List S41) (c : Bool) (tx : ByteArray) (hl : l.length ≤ 1000000) {k : Nat} (hk : l.length < k) : marginaliaref04_Same.f k kd nm l c tx kd nm l c tx = some true := by
  unfold marginaliaref04_Same.f marginaliaref04_Attrs.f
  have h : marginaliaref04_Attrs.l0 k l l 0 = some true := attrs_same l hl l.length 0 k (by omega) hk
  rw [if_pos rfl, if_pos rfl, if_pos rfl, h, Option.bind_some, if_pos rfl, if_pos (by simp)]
  simp
/-- A text of small letters. -/
def smallL (l : List UInt8) : Bool := l.all fun c => decide (97 ≤ c.toNat) && decide (c.toNat ≤ 122)
theorem bt_get (s : ByteArray) (i : Nat) (h : i < s.data.toList.length) : bt s (i : Int) = ((s.data.toList[i]).toNat : Int) := by
  have h2 : i < s.size := by simpa using h
  unfold bt
  rw [dif_pos (show (i : Int).toNat < s.size by simpa using h2)]; rfl
theorem wrB {n : Nat} (h : n ≤ 200000000000000) : wrap64 ((n : Int) + 1) = ((n + 1 : Nat) : Int) := by unfold wrap64; omega
theorem small_l0 (s : ByteArray) (hs : s.size ≤ 140737488351232) (d : Nat) : ∀ (i k : Nat), i + d = s.size → d < k → marginalialaw04_small.l0 k s (i : Int) = some (smallL (s.data.toList.drop i) && (decide (1 ≤ s.size) && decide (s.size ≤ 20))) := by
  have el : s.data.toList.length = s.size := by simp
  induction d with
  | zero =>
    intro i k hi hk
    obtain ⟨k, rfl⟩ : ∃ m, k = m + 1 := ⟨k - 1, by omega⟩
    rw [marginalialaw04_small.l0, if_neg (by omega), List.drop_of_length_le (by omega)]
    by_cases h : 1 ≤ s.size
    · rw [if_pos (by omega)]
      simp [smallL, h]
      omega
    · rw [if_neg (by omega)]
      simp [smallL, h]
  | succ d ih =>
    intro i k hi hk
    obtain ⟨k, rfl⟩ : ∃ m, k = m + 1 := ⟨k - 1, by omega⟩
    have hlt : i < s.data.toList.length := by omega
    rw [marginalialaw04_small.l0, if_pos (by omega), if_pos (by omega), bt_get s i hlt, List.drop_eq_getElem_cons hlt]
    by_cases h1 : 97 ≤ (s.data.toList[i]).toNat
    · rw [if_neg (by omega)]
      by_cases h2 : (s.data.toList[i]).toNat ≤ 122
      · rw [if_neg (by omega), wrB (by omega), ih (i + 1) k (by omega) (by omega)]
        simp only [smallL, List.all_cons, decide_eq_true h1, decide_eq_true h2, Bool.true_and]
      · rw [if_pos (by omega)]
        simp only [smallL, List.all_cons, decide_eq_true h1, decide_eq_false h2, Bool.and_false, Bool.false_and]
    · rw [if_pos (by omega)]
      simp only [smallL, List.all_cons, decide_eq_false h1, Bool.false_and]
theorem small_ok (s : ByteArray) (hs : s.size ≤ 140737488351232) {k : Nat} (hk : s.size < k) : marginalialaw04_small.f k s = some (smallL s.data.toList && (decide (1 ≤ s.size) && decide (s.size ≤ 20))) := small_l0 s hs s.size 0 k (by omega) hk
theorem hasL_mem (c : UInt8) : ∀ l : List UInt8, hasL [c] l = false → c ∉ l
  | [], _ => by simp
  | d :: l, h => by
    rw [hasL, Bool.or_eq_false_iff] at h
    have h1 := h.1
    rw [List.mem_cons, not_or]
    refine ⟨fun e => ?_, hasL_mem c l h.2⟩
    subst e
    simp [Lib.hasPrefix] at h1
theorem seek_to (P : Nat → Bool) (n : Nat) (d : Nat) : ∀ i, (∀ m, i ≤ m → m < i + d → P m = false) → P (i + d) = true → i + d < n → seek P n i = i + d := by
  induction d with
  | zero => intro i _ h _; exact seek_stop P n i h
  | succ d ih =>
    intro i h1 h2 h3
    rw [seek_go P n i (by omega) (h1 i (by omega) (by omega)), ih (i + 1) (fun m a b => h1 m (by omega) (by omega)) (by rw [show i + 1 + d = i + (d + 1) by omega]; exact h2) (by omega)]
    omega
theorem small_mem {l : List UInt8} (h : smallL l = true) : ∀ c ∈ l, 97 ≤ c.toNat ∧ c.toNat ≤ 122 := by
  intro c hc
  have := List.all_eq_true.1 h c hc
  simpa using this
theorem lower_small (c : UInt8) (h : 97 ≤ c.toNat ∧ c.toNat ≤ 122) : kind_Lower.c c = c := by
  unfold kind_Lower.c
  rw [if_neg (by omega)]
theorem lower_list {l : List UInt8} (h : smallL l = true) : kind_Lower.l l = l := by
  unfold kind_Lower.l
  have : l.map kind_Lower.c = l.map id := List.map_congr_left fun c hc => lower_small c (small_mem h c hc)
  rw [this, List.map_id]
theorem len_app (p : UInt8 → Bool) (a : List UInt8) (x : UInt8) (r : List UInt8) (h1 : ∀ c ∈ a, p c = false) (h2 : p x = true) : token_until.len p (a ++ x :: r) = a.length := by
  unfold token_until.len
  rw [List.takeWhile_append_of_pos (fun c hc => by rw [h1 c hc]; rfl), List.takeWhile_cons, h2]
  simp
theorem pE_small (c : UInt8) (h : 97 ≤ c.toNat ∧ c.toNat ≤ 122) : token_until.pE ⟨#[47, 62]⟩ c = false := pE_letter c (by unfold token_begins.letter; simp [h])
/-- The text that is asked about. -/
def rawSrc (a0 a1 a2 : ByteArray) : ByteArray := ((((a0 ++ (⟨#[60, 47]⟩ : ByteArray)) ++ a1) ++ (⟨#[62]⟩ : ByteArray)) ++ a2)
theorem rawSrc_list (a0 a1 a2 : ByteArray) : (rawSrc a0 a1 a2).data.toList = a0.data.toList ++ 60 :: 47 :: (a1.data.toList ++ 62 :: a2.data.toList) := by
  simp [rawSrc]
theorem rawSrc_size (a0 a1 a2 : ByteArray) : (rawSrc a0 a1 a2).size = a0.size + a1.size + a2.size + 3 := by
  have : (rawSrc a0 a1 a2).size = (rawSrc a0 a1 a2).data.toList.length := by simp
  rw [this, rawSrc_list]; simp; omega
section
variable (a0 a1 a2 : ByteArray) (h1 : (47 : UInt8) ∉ a0.data.toList) (h2 : smallL a1.data.toList = true)
include h1 in
theorem raw_no (j : Nat) (hj : j < a0.size) : token_closes.b ((rawSrc a0 a1 a2).extract j (rawSrc a0 a1 a2).size) a1 = false := by
  have e : ((rawSrc a0 a1 a2).extract j (rawSrc a0 a1 a2).size).data.toList = (rawSrc a0 a1 a2).data.toList.drop j := by simp [ByteArray.data_extract, List.take_of_length_le]
  have hl : j < a0.data.toList.length := by simpa using hj
  unfold token_closes.b
  rw [e, rawSrc_list, List.drop_append_of_le_length (by omega), List.drop_eq_getElem_cons hl]
  have : Lib.hasPrefix (a0.data.toList[j] :: a0.data.toList.drop (j + 1) ++ 60 :: 47 :: (a1.data.toList ++ 62 :: a2.data.toList)) [60, 47] = false := by
    cases hd : a0.data.toList.drop (j + 1) with
    | nil => simp [hp_cons, hp_nil, hp_none]
    | cons d r =>
      have hm : d ∈ a0.data.toList := List.mem_of_mem_drop (by rw [hd]; exact List.mem_cons_self)
      have : d ≠ 47 := fun e => h1 (e ▸ hm)
      have h3 : (47 : UInt8) ≠ d := fun e => this e.symm
      simp [hp_cons, hp_nil, hp_none, h3]
  rw [this, Bool.false_and]
theorem raw_drop : (rawSrc a0 a1 a2).data.toList.drop a0.size = 60 :: 47 :: (a1.data.toList ++ 62 :: a2.data.toList) := by
  have e : a0.data.toList.length = a0.size := by simp
  rw [rawSrc_list, ← e, List.drop_left]
theorem raw_drop2 : (rawSrc a0 a1 a2).data.toList.drop (a0.size + 2) = a1.data.toList ++ 62 :: a2.data.toList := by
  rw [← List.drop_drop, raw_drop]; rfl
theorem raw_drop3 : (rawSrc a0 a1 a2).data.toList.drop (a0.size + 2 + a1.size) = 62 :: a2.data.toList := by
  have e : a1.data.toList.length = a1.size := by simp
  rw [← List.drop_drop, raw_drop2, ← e, List.drop_left]
theorem raw_yes : token_closes.b ((rawSrc a0 a1 a2).extract a0.size (rawSrc a0 a1 a2).size) a1 = true := by
  have e : ((rawSrc a0 a1 a2).extract a0.size (rawSrc a0 a1 a2).size).data.toList = (rawSrc a0 a1 a2).data.toList.drop a0.size := by simp [ByteArray.data_extract, List.take_of_length_le]
  have e1 : a1.data.toList.length = a1.size := by simp
  have hz := rawSrc_size a0 a1 a2
  have e2 : (((rawSrc a0 a1 a2).extract a0.size (rawSrc a0 a1 a2).size).extract 2 (2 + a1.size)) = a1 := by
    apply Go.WideShapes.bytes_inj
    rw [ByteArray.data_extract, Array.toList_extract, List.extract_eq_take_drop, e, Nat.add_sub_cancel_left, List.drop_drop, raw_drop2, ← e1, List.take_left]
  unfold token_closes.b
  rw [e2, e, raw_drop]
  have e3 : (60 :: 47 :: (a1.data.toList ++ 62 :: a2.data.toList)).getD (2 + a1.size) 0 = 62 := by
    rw [← e1, List.getD, Nat.add_comm]
    simp
  rw [e3]
  have hs : 2 + a1.size < ((rawSrc a0 a1 a2).extract a0.size (rawSrc a0 a1 a2).size).size := by
    rw [ByteArray.size_extract]; omega
  rw [decide_eq_true hs]
  simp [Lib.hasPrefix]
  decide
include h1 in
theorem raw_to : token_reader.rawTo (rawSrc a0 a1 a2) a1 0 = a0.size := by
  have hz := rawSrc_size a0 a1 a2
  have := seek_to (fun j => token_closes.b ((rawSrc a0 a1 a2).extract j (rawSrc a0 a1 a2).size) a1) (rawSrc a0 a1 a2).size a0.size 0 (fun m _ hm => raw_no a0 a1 a2 h1 m (by omega)) (by simp only [Nat.zero_add]; exact raw_yes a0 a1 a2) (by omega)
  rw [Nat.zero_add] at this
  exact this
theorem raw_to2 : token_reader.rawTo (rawSrc a0 a1 a2) a1 a0.size = a0.size := seek_stop _ _ _ (raw_yes a0 a1 a2)
include h1 in
theorem raw_first (hp : 0 < a0.size) : nextT (rawSrc a0 a1 a2) 0 2 a1 false = ⟨1, ⟨#[]⟩, [], false, a0, a0.size⟩ := by
  have hz := rawSrc_size a0 a1 a2
  have e1 : a0.data.toList.length = a0.size := by simp
  unfold nextT
  rw [if_neg (by omega), if_neg (by decide), if_pos rfl, Int.toNat_zero]
  unfold rawT
  rw [raw_to a0 a1 a2 h1, if_pos hp]
  have : (rawSrc a0 a1 a2).extract 0 a0.size = a0 := by
    apply Go.WideShapes.bytes_inj
    rw [ByteArray.data_extract, Array.toList_extract, List.extract_eq_take_drop, List.drop_zero, Nat.sub_zero, rawSrc_list, ← e1, List.take_left]
  rw [this]; rfl
include h2 in
theorem raw_second : nextT (rawSrc a0 a1 a2) (a0.size : Int) 2 a1 false = ⟨3, a1, [], false, ⟨#[]⟩, a0.size + a1.size + 3⟩ := by
  have hz := rawSrc_size a0 a1 a2
  have e1 : a1.data.toList.length = a1.size := by simp
  unfold nextT
  rw [if_neg (by omega), if_neg (by decide), if_pos rfl, Int.toNat_natCast]
  unfold rawT
  rw [raw_to2, if_neg (by omega)]
  have ht : token_until.to (token_until.pE ⟨#[47, 62]⟩) (rawSrc a0 a1 a2) (a0.size + 2) = a0.size + 2 + a1.size := by
    unfold token_until.to
    rw [raw_drop2, len_app _ _ _ _ (fun c hc => pE_small c (small_mem h2 c hc)) (by decide), e1]
  have hg : token_until.to token_until.pG (rawSrc a0 a1 a2) (a0.size + 2 + a1.size) = a0.size + 2 + a1.size := by
    unfold token_until.to
    rw [raw_drop3]
    have := len_app token_until.pG [] 62 a2.data.toList (fun c hc => by cases hc) (by decide)
    rw [List.nil_append] at this
    rw [this]; rfl
  have hs : tagS (rawSrc a0 a1 a2) (a0.size + 2 + a1.size) [] = (some ([], token_reader.slash (rawSrc a0 a1 a2) (a0.size + 2 + a1.size) (a0.size + 2 + a1.size)), a0.size + 2 + a1.size + 1) := by
    rw [tagS, hg, dif_neg (by omega), if_pos (by unfold token_reader.here Lib.hasPrefix; rw [raw_drop3]; simp)]
  have hn : token_reader.low (rawSrc a0 a1 a2) (a0.size + 2) (a0.size + 2 + a1.size) = a1 := by
    unfold token_reader.low kind_Lower.low
    apply Go.WideShapes.bytes_inj
    rw [ByteArray.data_extract, Array.toList_extract, List.extract_eq_take_drop, Nat.add_sub_cancel_left, raw_drop2, ← e1, List.take_left, lower_list h2]
  unfold tagT
  rw [ht, hs, hn]
  simp only [token_reader_tag.kind, token_reader_tag.name, token_reader_tag.attrs, token_reader_tag.closed, TokV.fin]
  rw [if_neg (by decide)]
  simp only [if_true]
  congr 1; omega
theorem raw_third (nm : ByteArray) : nextT (rawSrc a0 a1 a2) 0 3 nm false = ⟨1, ⟨#[]⟩, [], false, rawSrc a0 a1 a2, (rawSrc a0 a1 a2).size⟩ := by
  have hz := rawSrc_size a0 a1 a2
  unfold nextT
  rw [if_neg (by omega), if_pos rfl, Int.toNat_zero]
  congr 1
  apply Go.WideShapes.bytes_inj
  simp [ByteArray.data_extract]
theorem raw_same (n1 n2 : ByteArray) : nextT (rawSrc a0 a1 a2) 0 77 n1 false = nextT (rawSrc a0 a1 a2) 0 0 n2 false := by
  unfold nextT
  split
  · rfl
  · rw [if_neg (by decide), if_neg (by decide), if_neg (by decide), if_neg (by decide), if_neg (by decide), if_neg (by decide)]
end
theorem TokenRaw : marginalialaw04_TokenRaw.Pure := by
  intro a0 a1 a2 _ _ _
  refine ⟨a1.size + 2300000, ?_⟩
  have hal : ∀ k, 61 ≤ k → marginalialaw04_TokenRaw.j0 k a0 a1 a2 true = some true := by
    intro k hk
    obtain ⟨k, rfl⟩ : ∃ m, k = m + 1 := ⟨k - 1, by omega⟩
    rw [marginalialaw04_TokenRaw.j0, if_pos rfl, alive04 (by omega)]; rfl
  unfold marginalialaw04_TokenRaw.f
  by_cases c0 : (a0.size : Int) > 200
  · rw [if_pos c0]; exact hal _ (by omega)
  rw [if_neg c0]
  by_cases c1 : (a2.size : Int) > 200
  · rw [if_pos c1]; exact hal _ (by omega)
  rw [if_neg c1, small_ok a1 (by omega) (by omega), Option.bind_some]
  cases hs : smallL a1.data.toList && (decide (1 ≤ a1.size) && decide (a1.size ≤ 20)) with
  | false => rw [if_neg (by simp)]; exact hal _ (by omega)
  | true =>
    simp only [Bool.and_eq_true, decide_eq_true_eq] at hs
    obtain ⟨h2, hn1, hn2⟩ := hs
    rw [if_pos rfl, has_ok a0 _ (by omega) (by decide) (by decide) (by omega), Option.bind_some]
    cases hh : hasL (⟨#[47]⟩ : ByteArray).data.toList a0.data.toList with
    | true => rw [if_pos rfl]; exact hal _ (by omega)
    | false =>
      rw [if_neg (by simp)]
      have h1 : (47 : UInt8) ∉ a0.data.toList := hasL_mem 47 _ hh
      by_cases he : a0.toList = []
      · rw [beq_iff_eq.2 he]; exact hal _ (by omega)
      rw [beq_eq_false_iff_ne.2 he]
      have hp : 0 < a0.size := by
        rcases Nat.eq_zero_or_pos a0.size with h0 | h0
        · exact absurd (by rw [toList_data]; exact List.length_eq_zero_iff.1 (by simpa using h0)) he
        · exact h0
      have hz := rawSrc_size a0 a1 a2
      obtain ⟨k, hk⟩ : ∃ m, a1.size + 2300000 = m + 2 := ⟨a1.size + 2299998, rfl⟩
      have g1 := next_ok (rawSrc a0 a1 a2) 0 2 a1 false (by omega) (by omega) (k := k + 1) (by omega)
      have g2 := next_ok (rawSrc a0 a1 a2) (a0.size : Int) 2 a1 false (by omega) (by omega) (k := k + 1) (by omega)
      have g3 := next_ok (rawSrc a0 a1 a2) 0 3 a1 false (by omega) (by omega) (k := k + 1) (by omega)
      have g4 := next_ok (rawSrc a0 a1 a2) 0 77 a1 false (by omega) (by omega) (k := k + 1) (by omega)
      have g5 := next_ok (rawSrc a0 a1 a2) 0 0 ⟨#[]⟩ false (by omega) (Nat.zero_le _) (k := k + 1) (by omega)
      rw [raw_first a0 a1 a2 h1 hp] at g1
      rw [raw_second a0 a1 a2 h2] at g2
      rw [raw_third] at g3
      rw [raw_same a0 a1 a2 a1 ⟨#[]⟩] at g4
      have hlen := (next_good (rawSrc a0 a1 a2) 0 0 ⟨#[]⟩ false (by omega) (by omega)).1.len
      generalize nextT (rawSrc a0 a1 a2) 0 0 ⟨#[]⟩ false = T at g4 g5 hlen
      have es : ((((a0 ++ (⟨#[60, 47]⟩ : ByteArray)) ++ a1) ++ (⟨#[62]⟩ : ByteArray)) ++ a2) = rawSrc a0 a1 a2 := rfl
      rw [hk, marginalialaw04_TokenRaw.j0, if_neg (by simp), if_pos (by omega), if_pos (by omega), if_pos (by omega), if_pos (by omega), es, g1, Option.bind_some]
      simp only [TokV.tuple] at g2 g3 g4 g5 ⊢
      rw [g2, Option.bind_some, g3, Option.bind_some, g4, Option.bind_some, g5, Option.bind_some]
      simp only
      rw [same_self T.kd T.nm T.l T.c T.tx (by omega) (by omega), Option.bind_some, if_pos rfl, marginalialaw04_TokenRaw.j1, if_neg (by simp), alive04 (by omega), Option.bind_some, if_pos rfl,
        same_plain 1 ⟨#[]⟩ false a0 (by omega), Option.bind_some, if_pos rfl, if_pos rfl, same_plain 3 a1 false ⟨#[]⟩ (by omega), Option.bind_some, if_pos rfl, if_pos (by unfold wrap64; omega), if_pos rfl, if_pos rfl]
      simp

end Go.Proofs.Ytpelfhldgnmhpaa.Pure
