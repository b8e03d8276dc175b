/- The reference's small functions of layer 4 over a text: each tells what our plain functions tell. Condition: a text has at most 400000 bytes. -/
import Derived.Test.YtpelfhldgnmhpaaCH
import Derived.Test.YtpelfhldgnmhpaaPA
import Derived.Test.YtpelfhldgnmhpaaGC
import Derived.Test.YtpelfhldgnmhpaaGD
import Derived.Test.YtpelfhldgnmhpaaGE
namespace Go.Proofs.Ytpelfhldgnmhpaa.Pure
section
open Go.RowKit Go.Proofs.Ytpelfhldgnmhpaa.G Go.Proofs.YtpelfhldgnmhpaaW.PrintWords Go.Proofs.YtpelfhldgnmhpaaW.PrintLast Go.Proofs.Ytpelfhldgnmhpaa.Spec
set_option linter.unusedVariables false
set_option linter.unusedSimpArgs false
theorem btN (s : ByteArray) (i : Nat) (h : i < s.data.toList.length) : bt s (i : Int) = ((s.data.toList[i]).toNat : Int) := by
 have h2 : i < s.size := by simpa using h
 unfold bt
 rw [dif_pos (show (i : Int).toNat < s.size by simpa using h2)]; rfl
theorem refHere_ok (s : ByteArray) (i : Nat) (t : ByteArray) (hi : i ≤ s.size) (hs : s.size ≤ 1000000000) (ht : t.size ≤ 1000000000) : marginaliaref04_here.f s (i : Int) t = some (token_reader.here s i t) := by
 have hw : wrap64 ((i : Int) + (t.size : Int)) = ((i + t.size : Nat) : Int) := by unfold wrap64; omega
 have et : t.data.toList.length = t.size := by simp
 have el : s.data.toList.length = s.size := by simp
 unfold marginaliaref04_here.f token_reader.here Lib.hasPrefix
 rw [if_pos (by omega), hw, prefix_take, et, List.length_drop, el]
 by_cases h : i + t.size ≤ s.size
 ·
  have e : (s.extract i (i + t.size)).data.toList = (s.data.toList.drop i).take t.size := by
   rw [ByteArray.data_extract, Array.toList_extract, List.extract_eq_take_drop, Nat.add_sub_cancel_left]
  rw [if_pos (by omega), if_pos (by omega), if_pos (by omega), Int.toNat_natCast, Int.toNat_natCast, toList_data, toList_data, e, decide_eq_true (by omega), Bool.true_and]
 ·
  rw [if_neg (by omega), decide_eq_false (by omega), Bool.false_and]
/-- The first place from one on at which a text stands, or the end. -/
def findS (s : ByteArray) (i : Nat) (t : ByteArray) : Nat := seek (fun j => token_reader.here s j t) s.size i
theorem refFind_l0 (s t : ByteArray) (hs : s.size ≤ 1000000) (ht : t.size ≤ 1000) (d : Nat) : ∀ (i k : Nat), i + d = s.size → d < k → marginaliaref04_find.l0 k s t (i : Int) = some ((findS s i t : Nat) : Int) := by
 induction d with
 | zero =>
  intro i k hi hk
  obtain ⟨k, rfl⟩ : ∃ m, k = m + 1 := ⟨k - 1, by omega⟩
  rw [marginaliaref04_find.l0, if_neg (by omega)]
  unfold findS
  rw [seek_end _ _ _ (by omega)]
  congr 1; omega
 | succ d ih =>
  intro i k hi hk
  obtain ⟨k, rfl⟩ : ∃ m, k = m + 1 := ⟨k - 1, by omega⟩
  rw [marginaliaref04_find.l0, if_pos (by omega), refHere_ok s i t (by omega) (by omega) (by omega), Option.bind_some]
  cases h : token_reader.here s i t with
  | true => rw [if_pos rfl]; unfold findS; rw [seek_stop _ _ _ h]
  | false =>
   rw [if_neg (by simp), wr1 (by omega), ih (i + 1) k (by omega) (by omega)]
   unfold findS; rw [seek_go _ _ i (by omega) h]
theorem refFind_ok (s t : ByteArray) (i : Nat) (hi : i ≤ s.size) (hs : s.size ≤ 1000000) (ht : t.size ≤ 1000) {k : Nat} (hk : s.size < k) : marginaliaref04_find.f k s (i : Int) t = some ((findS s i t : Nat) : Int) := refFind_l0 s t hs ht (s.size - i) i k (by omega) (by omega)
theorem refSpace_one (c : UInt8) : marginaliaref02_Space.f (c.toNat : Int) = some (token_until.sp c) := by
 have : ∀ n : Fin 256, marginaliaref02_Space.f ((UInt8.ofNat n.val).toNat : Int) = some (token_until.sp (UInt8.ofNat n.val)) := by decide +kernel
 have h := this ⟨c.toNat, c.toNat_lt⟩
 simpa using h
theorem refLetter_one (c : UInt8) : marginaliaref02_Letter.f (c.toNat : Int) = some (token_begins.letter c) := by
 have : ∀ n : Fin 256, marginaliaref02_Letter.f ((UInt8.ofNat n.val).toNat : Int) = some (token_begins.letter (UInt8.ofNat n.val)) := by decide +kernel
 have h := this ⟨c.toNat, c.toNat_lt⟩
 simpa using h
theorem to_go (p : UInt8 → Bool) (s : ByteArray) (i : Nat) (h : i < s.data.toList.length) (hp : p (s.data.toList[i]) = false) : token_until.to p s i = token_until.to p s (i + 1) := by
 have h2 : i < s.size := by simpa using h
 unfold token_until.to
 rw [token_until.len_go p s i h2 hp]; omega
theorem to_stop (p : UInt8 → Bool) (s : ByteArray) (i : Nat) (h : i < s.data.toList.length) (hp : p (s.data.toList[i]) = true) : token_until.to p s i = i := by
 have h2 : i < s.size := by simpa using h
 unfold token_until.to
 rw [token_until.len_stop p s i h2 hp]; omega
theorem to_end (p : UInt8 → Bool) (s : ByteArray) (i : Nat) (h : ¬ i < s.size) : token_until.to p s i = i := by
 unfold token_until.to
 rw [token_until.len_end p s i h]; omega
theorem refSpace_l0 (s : ByteArray) (hs : s.size ≤ 1000000) (d : Nat) : ∀ (i k : Nat), i + d = s.size → d < k → marginaliaref04_space.l0 k s (i : Int) = some ((token_until.to token_until.pN s i : Nat) : Int) := by
 have el : s.data.toList.length = s.size := by simp
 induction d with
 | zero =>
  intro i k hi hk
  obtain ⟨k, rfl⟩ : ∃ m, k = m + 1 := ⟨k - 1, by omega⟩
  rw [marginaliaref04_space.l0, if_neg (by omega), to_end _ _ _ (by omega)]
 | succ d ih =>
  intro i k hi hk
  obtain ⟨k, rfl⟩ : ∃ m, k = m + 1 := ⟨k - 1, by omega⟩
  have hlt : i < s.data.toList.length := by omega
  rw [marginaliaref04_space.l0, if_pos (by omega), if_pos (by omega), btN s i hlt, refSpace_one, Option.bind_some]
  cases h : token_until.sp (s.data.toList[i]) with
  | true => rw [if_pos rfl, wr1 (by omega), ih (i + 1) k (by omega) (by omega), to_go _ s i hlt (by unfold token_until.pN; rw [h]; rfl)]
  | false => rw [if_neg (by simp), to_stop _ s i hlt (by unfold token_until.pN; rw [h]; rfl)]
theorem refSpace_ok (s : ByteArray) (i : Nat) (hi : i ≤ s.size) (hs : s.size ≤ 1000000) {k : Nat} (hk : s.size < k) : marginaliaref04_space.f k s (i : Int) = some ((token_until.to token_until.pN s i : Nat) : Int) := refSpace_l0 s hs (s.size - i) i k (by omega) (by omega)
theorem refUpTo_l1 (s t : ByteArray) (i : Nat) (hs : s.size ≤ 1000000) (ht : t.size ≤ 1000) (hi : i < s.data.toList.length) (d : Nat) : ∀ (j k : Nat), j + d = t.size →
    marginaliaref04_upTo.l1 (k + d + 1) s (i : Int) t (j : Int) = if (t.data.toList.drop j).contains (s.data.toList[i]) = true then some (i : Int) else marginaliaref04_upTo.l0 k s (((i + 1 : Nat) : Int)) t := by
 have et : t.data.toList.length = t.size := by simp
 have el : s.data.toList.length = s.size := by simp
 induction d with
 | zero =>
  intro j k hj
  rw [marginaliaref04_upTo.l1, if_neg (by omega), wr1 (by omega), List.drop_of_length_le (by omega), if_neg (by simp)]
 | succ d ih =>
  intro j k hj
  have hjl : j < t.data.toList.length := by omega
  rw [marginaliaref04_upTo.l1, if_pos (by omega), if_pos (by omega), if_pos (by omega), if_pos (by omega), btN s i hi, btN t j hjl, List.drop_eq_getElem_cons hjl, List.contains_cons]
  by_cases h : s.data.toList[i] = t.data.toList[j]
  ·
   rw [if_pos (by rw [h]), if_pos (by rw [h]; simp)]
  ·
   have hb : (s.data.toList[i] == t.data.toList[j]) = false := beq_eq_false_iff_ne.2 h
   rw [if_neg (by intro e; exact h (UInt8.toNat_inj.1 (by omega))), wr1 (by omega), hb, Bool.false_or]
   exact ih (j + 1) k (by omega)
theorem refUpTo_l0 (s t : ByteArray) (hs : s.size ≤ 1000000) (ht : t.size ≤ 1000) (d : Nat) : ∀ (i k : Nat), i + d = s.size → (d + 1) * (t.size + 5) ≤ k → marginaliaref04_upTo.l0 k s (i : Int) t = some ((token_until.to (token_until.pE t) s i : Nat) : Int) := by
 have el : s.data.toList.length = s.size := by simp
 induction d with
 | zero =>
  intro i k hi hk
  obtain ⟨k, rfl⟩ : ∃ m, k = m + 2 := ⟨k - 2, by omega⟩
  rw [marginaliaref04_upTo.l0, if_neg (by omega), marginaliaref04_upTo.j1, if_neg (by simp), to_end _ _ _ (by omega)]
 | succ d ih =>
  intro i k hi hk
  have e : (d + 1 + 1) * (t.size + 5) = (d + 1) * (t.size + 5) + (t.size + 5) := Nat.succ_mul _ _
  obtain ⟨k, rfl⟩ : ∃ m, k = (m + t.size + 1) + 2 := ⟨k - t.size - 3, by omega⟩
  have hlt : i < s.data.toList.length := by omega
  rw [marginaliaref04_upTo.l0, if_pos (by omega), if_pos (by omega), btN s i hlt, refSpace_one, Option.bind_some, marginaliaref04_upTo.j1]
  cases h : token_until.sp (s.data.toList[i]) with
  | true => rw [if_neg (by simp), to_stop _ s i hlt (by unfold token_until.pE; rw [h]; rfl)]
  | false =>
   rw [if_pos (by simp), show (0 : Int) = ((0 : Nat) : Int) from rfl, refUpTo_l1 s t i hs ht hlt t.size 0 k (by omega), List.drop_zero]
   cases h2 : t.data.toList.contains (s.data.toList[i]) with
   | true => rw [if_pos rfl, to_stop _ s i hlt (by unfold token_until.pE; rw [h, h2]; rfl)]
   | false => rw [if_neg (by simp), ih (i + 1) k (by omega) (by omega), to_go _ s i hlt (by unfold token_until.pE; rw [h, h2]; rfl)]
theorem refUpTo_ok (s t : ByteArray) (i : Nat) (hi : i ≤ s.size) (hs : s.size ≤ 1000000) (ht : t.size ≤ 20) {k : Nat} (hk : 25 * (s.size + 1) ≤ k) : marginaliaref04_upTo.f k s (i : Int) t = some ((token_until.to (token_until.pE t) s i : Nat) : Int) := by
 refine refUpTo_l0 s t hs (by omega) (s.size - i) i k (by omega) ?_
 have : (s.size - i + 1) * (t.size + 5) ≤ (s.size + 1) * 25 := Nat.mul_le_mul (by omega) (by omega)
 omega
theorem refDecB_ok (attr : Bool) (s : ByteArray) (h : s.size ≤ 400000) {k : Nat} (hk : 1300000 ≤ k) : marginaliaref03_Decode.f k s attr = some (decB attr s) := by
 have := refDecode_ok attr s.data.toList (by simp; omega) (k := k) (by simp; omega)
 rw [mkB_self] at this; exact this
def numsOf (l : List UInt8) : List Int := l.map fun c => (c.toNat : Int)
theorem strOf_nums (l : List UInt8) : strOfNums (numsOf l) = mkB l := by
 unfold strOfNums numsOf mkB
 apply Go.WideShapes.bytes_inj
 have h : l.map ((fun n : Int => UInt8.ofNat n.toNat) ∘ fun c : UInt8 => (c.toNat : Int)) = l.map id := List.map_congr_left fun c _ => by simp
 simp [h]
theorem low_num (c : UInt8) (h0 : 65 ≤ c.toNat) (h1 : c.toNat ≤ 90) : ((c.toNat : Int) + 32) % 256 = ((kind_Lower.c c).toNat : Int) := by
 have : ∀ n : Fin 256, 65 ≤ n.val → n.val ≤ 90 → (((UInt8.ofNat n.val).toNat : Int) + 32) % 256 = ((kind_Lower.c (UInt8.ofNat n.val)).toNat : Int) := by decide +kernel
 have h := this ⟨c.toNat, c.toNat_lt⟩ h0 h1
 simpa using h
theorem low_not (c : UInt8) (h : ¬ (65 ≤ c.toNat ∧ c.toNat ≤ 90)) : kind_Lower.c c = c := by
 unfold kind_Lower.c; rw [if_neg h]
theorem refLower_l0 (s : ByteArray) (hs : s.size ≤ 1000000) (d : Nat) : ∀ (i k : Nat), i + d = s.size → d < k → marginaliaref02_Lower.l0 k s (numsOf (kind_Lower.l (s.data.toList.take i))) (i : Int) = some (kind_Lower.low s) := by
 have el : s.data.toList.length = s.size := by simp
 induction d with
 | zero =>
  intro i k hi hk
  obtain ⟨k, rfl⟩ : ∃ m, k = m + 1 := ⟨k - 1, by omega⟩
  rw [marginaliaref02_Lower.l0, if_neg (by omega), strOf_nums, List.take_of_length_le (by omega)]; rfl
 | succ d ih =>
  intro i k hi hk
  obtain ⟨k, rfl⟩ : ∃ m, k = m + 1 := ⟨k - 1, by omega⟩
  have hlt : i < s.data.toList.length := by omega
  have hn : (numsOf (kind_Lower.l (s.data.toList.take i))).length < 140737488355328 := by
   unfold numsOf kind_Lower.l; rw [List.length_map, List.length_map, List.length_take]; omega
  have step : ∀ n : Int, n = ((kind_Lower.c s.data.toList[i]).toNat : Int) → marginaliaref02_Lower.l0 k s (numsOf (kind_Lower.l (s.data.toList.take i)) ++ [n]) (wrap64 ((i : Int) + 1)) = some (kind_Lower.low s) := by
   intro n hn2
   have e : numsOf (kind_Lower.l (s.data.toList.take i)) ++ [n] = numsOf (kind_Lower.l (s.data.toList.take (i + 1))) := by
    rw [hn2, List.take_succ_eq_append_getElem hlt]
    simp [numsOf, kind_Lower.l]
   rw [e, wr1 (by omega)]
   exact ih (i + 1) k (by omega) (by omega)
  rw [marginaliaref02_Lower.l0, if_pos (by omega), if_pos (by omega), btN s i hlt]
  by_cases h0 : 65 ≤ (s.data.toList[i]).toNat
  ·
   rw [if_pos (by omega)]
   by_cases h1 : (s.data.toList[i]).toNat ≤ 90
   ·
    rw [if_pos (by omega), if_pos hn]; exact step _ (low_num _ h0 h1)
   ·
    rw [if_neg (by omega), if_pos hn]; exact step _ (by rw [low_not _ (by omega)])
  ·
   rw [if_neg (by omega), if_pos hn]; exact step _ (by rw [low_not _ (by omega)])
theorem refLower_ok (s : ByteArray) (hs : s.size ≤ 1000000) {k : Nat} (hk : s.size < k) : marginaliaref02_Lower.f k s = some (kind_Lower.low s) := refLower_l0 s hs s.size 0 k (by omega) hk
theorem seek_at (P : Nat → Bool) (n : Nat) (d : Nat) : ∀ i, (∀ m, i ≤ m → m < i + d → P m = false) → P (i + d) = true → i + d < n → seek P n i = i + d := by
 induction d with
 | zero => intro i _ h _; exact seek_stop P n i h
 | succ d ih =>
  intro i h1 h2 h3
  rw [seek_go P n i (by omega) (h1 i (by omega) (by omega)), ih (i + 1) (fun m a b => h1 m (by omega) (by omega)) (by rw [show i + 1 + d = i + (d + 1) by omega]; exact h2) (by omega)]
  omega
theorem seek_none (P : Nat → Bool) (n : Nat) (d : Nat) : ∀ i, i + d = n → (∀ m, i ≤ m → m < n → P m = false) → seek P n i = n := by
 induction d with
 | zero => intro i h _; rw [seek_end P n i (by omega)]; omega
 | succ d ih =>
  intro i h h1
  rw [seek_go P n i (by omega) (h1 i (by omega) (by omega))]
  exact ih (i + 1) (by omega) (fun m a b => h1 m (by omega) b)
/-- What stands ahead of a text, and the place behind it, by the first place at which it stands. -/
theorem cut_find (s : ByteArray) (i : Nat) (t : ByteArray) (hi : i ≤ s.size) (ht : 0 < t.size) :
    token_reader.cutTxt s i t = s.extract i (findS s i t) ∧ token_reader.cutAt s i t = min (findS s i t + t.size) s.size := by
 have el : (s.data.toList.drop i).length = s.size - i := by simp
 have et : t.data.toList.length = t.size := by simp
 have eo : ∀ j, Lib.occAt (s.data.toList.drop i) t.data.toList j = token_reader.here s (i + j) t := by
  intro j
  unfold Lib.occAt token_reader.here Lib.hasPrefix
  rw [List.drop_drop]
 rcases Lib.index_spec (s.data.toList.drop i) t.data.toList with ⟨h1, h2⟩ | ⟨j, h1, h2, h3, h4⟩
 ·
  have hf : findS s i t = s.size := by
   refine seek_none _ _ (s.size - i) i (by omega) (fun m a b => ?_)
   have := h2 (m - i) (by omega)
   rw [eo, show i + (m - i) = m by omega] at this
   exact this
  have hc : Lib.cut (s.data.toList.drop i) t.data.toList = (s.data.toList.drop i, [], false) := by
   unfold Lib.cut; rw [h1, if_neg (by decide)]
  unfold token_reader.cutTxt token_reader.cutAt
  rw [hc, hf]
  refine ⟨?_, ?_⟩
  ·
   apply Go.WideShapes.bytes_inj
   simp [ByteArray.data_extract, List.take_of_length_le]
  ·
   simp only [el]
   rw [if_neg (by simp)]; omega
 ·
  have hroom : j + t.size ≤ s.size - i := by
   have := Lib.index_room (s.data.toList.drop i) t.data.toList (by omega)
   omega
  have hf : findS s i t = i + j := by
   refine seek_at _ _ j i (fun m a b => ?_) (by rw [← eo]; exact h3) (by omega)
   have := h4 (m - i) (by omega)
   rw [eo, show i + (m - i) = m by omega] at this
   exact this
  have hc : Lib.cut (s.data.toList.drop i) t.data.toList = ((s.data.toList.drop i).take j, (s.data.toList.drop i).drop (j + t.data.toList.length), true) := by
   unfold Lib.cut; rw [h1, if_pos (by omega), Int.toNat_natCast]
  unfold token_reader.cutTxt token_reader.cutAt
  rw [hc, hf]
  refine ⟨?_, ?_⟩
  ·
   apply Go.WideShapes.bytes_inj
   rw [ByteArray.data_extract, Array.toList_extract, List.extract_eq_take_drop, Nat.add_sub_cancel_left]
  ·
   simp only
   rw [if_pos trivial, List.length_take, el]; omega
theorem findS_le (s : ByteArray) (i : Nat) (t : ByteArray) (hi : i ≤ s.size) : i ≤ findS s i t ∧ findS s i t ≤ s.size := seek_le _ _ _ i rfl hi
theorem here_one (s : ByteArray) (j : Nat) (c : UInt8) (h : j < s.data.toList.length) : token_reader.here s j ⟨#[c]⟩ = (c == s.data.toList[j]) := by
 unfold token_reader.here Lib.hasPrefix
 rw [List.drop_eq_getElem_cons h]
 show ([c].isPrefixOf (s.data.toList[j] :: s.data.toList.drop (j + 1))) = _
 simp [List.isPrefixOf]
theorem here_end (s : ByteArray) (j : Nat) (c : UInt8) (h : ¬ j < s.size) : token_reader.here s j ⟨#[c]⟩ = false := by
 have el : s.data.toList.length = s.size := by simp
 unfold token_reader.here Lib.hasPrefix
 rw [List.drop_of_length_le (by omega)]
 rfl
theorem extract_self (s : ByteArray) (j : Nat) : s.extract j j = ⟨#[]⟩ := by
 apply Go.WideShapes.bytes_inj
 simp [ByteArray.data_extract]
theorem decB_nil (attr : Bool) : decB attr ⟨#[]⟩ = ⟨#[]⟩ := by
 unfold decB
 show mkB (dec attr []) = _
 rw [dec_nil]; rfl
theorem extract_one (s : ByteArray) (j : Nat) (h : j < s.data.toList.length) : s.extract j (j + 1) = ⟨#[s.data.toList[j]]⟩ := by
 apply Go.WideShapes.bytes_inj
 rw [ByteArray.data_extract, Array.toList_extract, List.extract_eq_take_drop, Nat.add_sub_cancel_left, List.drop_eq_getElem_cons h]
 rfl
theorem pE62 (s : ByteArray) (j : Nat) (h : j < s.data.toList.length) (hc : s.data.toList[j] = 62) : token_until.to (token_until.pE ⟨#[62]⟩) s j = j := to_stop _ s j h (by rw [hc]; decide)
theorem refValue_ok (s : ByteArray) (j : Nat) (hj : j ≤ s.size) (hs : s.size ≤ 400000) {k : Nat} (hk : 11000000 ≤ k) : marginaliaref04_value.f k s (j : Int) = some (decB true (token_reader.val2 s j).1, (((token_reader.val2 s j).2 : Nat) : Int)) := by
 obtain ⟨k, rfl⟩ : ∃ m, k = m + 2 := ⟨k - 2, by omega⟩
 have el : s.data.toList.length = s.size := by simp
 unfold marginaliaref04_value.f token_reader.val2
 by_cases h0 : s.size ≤ j
 ·
  rw [if_pos (by omega), marginaliaref04_value.j0, if_pos rfl, here_end s j 34 (by omega), here_end s j 39 (by omega), if_neg (by simp), if_neg (by simp), to_end _ s j (by omega), extract_self, decB_nil]
 have hlt : j < s.data.toList.length := by omega
 rw [if_neg (by omega), if_pos (by omega), if_pos (by omega), btN s j hlt, here_one s j 34 hlt, here_one s j 39 hlt]
 by_cases h1 : s.data.toList[j] = 62
 ·
  rw [h1, pE62 s j hlt h1, extract_self, marginaliaref04_value.j0, if_pos (show (((62 : UInt8).toNat : Int) == 62) = true by decide), if_neg (show ¬ ((34 : UInt8) == 62) = true by decide), if_neg (show ¬ ((39 : UInt8) == 62) = true by decide), decB_nil]
 have hne : (((s.data.toList[j]).toNat : Int) == 62) = false := beq_eq_false_iff_ne.2 fun e => h1 (UInt8.toNat_inj.1 (by have : ((62 : UInt8)).toNat = 62 := rfl; omega))
 rw [hne, marginaliaref04_value.j0, if_neg (by simp), refUpTo_ok s _ j hj (by omega) (by decide) (by omega), Option.bind_some, if_pos (by omega), if_pos (by omega), btN s j hlt]
 have quote : ∀ c : UInt8, s.data.toList[j] = c → ∀ x7 : Int, marginaliaref04_value.j1 (k + 1) s (j : Int) (j : Int) x7 0 true = some (decB true (token_reader.cutTxt s (j + 1) ⟨#[c]⟩), ((token_reader.cutAt s (j + 1) ⟨#[c]⟩ : Nat) : Int)) := by
  intro c hc x7
  have hcf := cut_find s (j + 1) ⟨#[c]⟩ (by omega) (show 0 < 1 by decide)
  have hle := findS_le s (j + 1) ⟨#[c]⟩ (by omega)
  have hx : s.extract (j : Int).toNat (((j + 1 : Nat) : Int)).toNat = ⟨#[c]⟩ := by
   rw [Int.toNat_natCast, Int.toNat_natCast, extract_one s j hlt, hc]
  rw [marginaliaref04_value.j1, if_pos rfl, wr1 (by omega), if_pos (by omega), if_pos (by omega), if_pos (by omega), hx, refFind_ok s ⟨#[c]⟩ (j + 1) (by omega) (by omega) (show 1 ≤ 1000 by decide) (by omega), Option.bind_some, if_pos (by omega), if_pos (by omega), if_pos (by omega), Int.toNat_natCast, Int.toNat_natCast,
    refDecB_ok true _ (Nat.le_trans (extract_le _ _ _) hs) (by omega), Option.bind_some, wr1 (by omega), hcf.1, hcf.2]
  congr 2
  show mn _ _ = ((min (findS s (j + 1) ⟨#[c]⟩ + 1) s.size : Nat) : Int)
  unfold mn
  omega
 by_cases h34 : s.data.toList[j] = 34
 ·
  rw [if_pos (by rw [h34]; rfl), if_pos (by rw [h34]; decide)]
  exact quote 34 h34 _
 ·
  rw [if_neg (by intro e; exact h34 (UInt8.toNat_inj.1 (by have : ((34 : UInt8)).toNat = 34 := rfl; omega))), if_neg (by simpa using fun e => h34 e.symm)]
  by_cases h39 : s.data.toList[j] = 39
  ·
   rw [if_pos (by rw [h39]; decide), show (((s.data.toList[j]).toNat : Int) == 39) = true by rw [h39]; decide]
   exact quote 39 h39 _
  ·
   rw [if_neg (by simpa using fun e => h39 e.symm)]
   have hb : (((s.data.toList[j]).toNat : Int) == 39) = false := beq_eq_false_iff_ne.2 fun e => h39 (UInt8.toNat_inj.1 (by have : ((39 : UInt8)).toNat = 39 := rfl; omega))
   have hle := token_until.to_le (token_until.pE ⟨#[62]⟩) s j hj
   rw [hb, marginaliaref04_value.j1, if_neg (by simp), if_pos (by omega), if_pos (by omega), if_pos (by omega), Int.toNat_natCast, Int.toNat_natCast, refDecB_ok true _ (Nat.le_trans (extract_le _ _ _) hs) (by omega), Option.bind_some]
   congr 2
   have hw : wrap64 (((token_until.to (token_until.pE ⟨#[62]⟩) s j : Nat) : Int) + 0) = ((token_until.to (token_until.pE ⟨#[62]⟩) s j : Nat) : Int) := by unfold wrap64; omega
   rw [hw]
   unfold mn
   omega
theorem slash_self (s : ByteArray) (i : Nat) : token_reader.slash s i i = false := by
 unfold token_reader.slash; simp
theorem slash_next (s : ByteArray) (i j : Nat) (hij : i ≤ j) (h : j < s.data.toList.length) : token_reader.slash s i (j + 1) = (((s.data.toList[j]).toNat : Int) == 47) := by
 have h2 : j < s.size := by simpa using h
 rw [token_reader.slash_eq s i (j + 1) (by omega) (by omega)]
 rfl
theorem refTag_l1 (s : ByteArray) (hs : s.size ≤ 400000) (i0 : Nat) (kd : Int) (nm : ByteArray) (l : List S41) (c : Bool) (tx : ByteArray) (d : Nat) : ∀ (i k : Nat), i + d = s.size → i0 ≤ i →
    marginaliaref04_tag.l1 (k + (token_until.to token_until.pG s i - i) + 1) s (i : Int) (token_reader.slash s i0 i) kd nm l c tx = marginaliaref04_tag.j2 k s ((token_until.to token_until.pG s i : Nat) : Int) (token_reader.slash s i0 (token_until.to token_until.pG s i)) kd nm l c tx := by
 have el : s.data.toList.length = s.size := by simp
 induction d with
 | zero =>
  intro i k hi h0
  rw [to_end _ s i (by omega), marginaliaref04_tag.l1, if_neg (by omega), Nat.sub_self, Nat.add_zero]
 | succ d ih =>
  intro i k hi h0
  have hlt : i < s.data.toList.length := by omega
  by_cases hp : token_until.pG (s.data.toList[i]) = true
  ·
   rw [to_stop _ s i hlt hp, Nat.sub_self, Nat.add_zero, marginaliaref04_tag.l1, if_pos (by omega), if_pos (by omega), btN s i hlt, refSpace_one, Option.bind_some]
   unfold token_until.pG at hp
   simp only [Bool.and_eq_true, bne_iff_ne, ne_eq, Bool.not_eq_true'] at hp
   rw [hp.2, if_neg (by simp), if_neg (by intro e; exact hp.1 (UInt8.toNat_inj.1 (by have : ((47 : UInt8)).toNat = 47 := rfl; omega)))]
  ·
   have hp' : token_until.pG (s.data.toList[i]) = false := by simpa using hp
   have hg := to_go token_until.pG s i hlt hp'
   have hle := token_until.to_le token_until.pG s (i + 1) (by omega)
   have ihh := ih (i + 1) k (by omega) (by omega)
   rw [slash_next s i0 i h0 hlt] at ihh
   rw [hg, show k + (token_until.to token_until.pG s (i + 1) - i) + 1 = (k + (token_until.to token_until.pG s (i + 1) - (i + 1)) + 1) + 1 by omega, marginaliaref04_tag.l1, if_pos (by omega), if_pos (by omega), btN s i hlt, refSpace_one, Option.bind_some, wr1 (by omega)]
   cases hsp : token_until.sp (s.data.toList[i]) with
   | true => rw [if_pos rfl]; exact ihh
   | false =>
    have h47 : s.data.toList[i] = 47 := by
     unfold token_until.pG at hp'
     rw [hsp] at hp'
     simpa using hp'
    rw [if_neg (by simp), if_pos (by rw [h47]; rfl)]; exact ihh
/-- What the reference's tag tells of what a tag is. -/
def tagR (nm : ByteArray) (r : Option (List S41 × Bool) × Nat) : Int × ByteArray × List S41 × Bool × ByteArray × Int × Bool :=
  match r.1 with
  | none => (0, ⟨#[]⟩, [], false, ⟨#[]⟩, 0, false)
  | some p => (0, nm, p.1, p.2, ⟨#[]⟩, (r.2 : Int), true)
theorem refTag_l0 (s : ByteArray) (hs : s.size ≤ 400000) (nm : ByteArray) (d : Nat) : ∀ (i k : Nat) (l : List S41), i + d = s.size → l.length ≤ i → 11000100 + 4 * (d + 1) ≤ k →
    marginaliaref04_tag.l0 k s (i : Int) 0 nm l false ⟨#[]⟩ = some (tagR nm (tagS s i l)) := by
 have el : s.data.toList.length = s.size := by simp
 induction d using Nat.strongRecOn with
 | _ d ih =>
  intro i k l hi hl hk
  have hq := token_until.to_le token_until.pG s i (by omega)
  obtain ⟨k, rfl⟩ : ∃ m, k = (m + 1 + 1 + (token_until.to token_until.pG s i - i) + 1) + 1 := ⟨k - (token_until.to token_until.pG s i - i) - 4, by omega⟩
  have h1 := refTag_l1 s hs i 0 nm l false ⟨#[]⟩ d i (k + 1 + 1) hi (Nat.le_refl _)
  rw [slash_self] at h1
  rw [marginaliaref04_tag.l0, h1, marginaliaref04_tag.j2, tagS]
  generalize token_until.to token_until.pG s i = q at hq hk ⊢
  by_cases g1 : s.size ≤ q
  ·
   rw [if_pos (by omega), dif_pos g1]; rfl
  ·
   have hlt : q < s.data.toList.length := by omega
   rw [if_neg (by omega), dif_neg g1, if_pos (by omega), if_pos (by omega), btN s q hlt, here_one s q 62 hlt]
   by_cases g2 : s.data.toList[q] = 62
   ·
    rw [if_pos (by rw [g2]; rfl), if_pos (by rw [g2]; rfl), wr1 (by omega)]; rfl
   ·
    rw [if_neg (by intro e; exact g2 (UInt8.toNat_inj.1 (by have : ((62 : UInt8)).toNat = 62 := rfl; omega))), if_neg (by simpa using fun e => g2 e.symm)]
    have ha := attrS_le s q (by omega) hs
    have hm := token_until.to_le (token_until.pE ⟨#[47, 62, 61]⟩) s (q + 1) (by omega)
    have hm2 := token_until.to_le token_until.pN s (token_reader.attrEnd s q) hm.2
    have he : token_until.to (token_until.pE ⟨#[47, 62, 61]⟩) s (q + 1) = token_reader.attrEnd s q := rfl
    rw [wr1 (by omega), refUpTo_ok s ⟨#[47, 62, 61]⟩ (q + 1) (by omega) (by omega) (show 3 ≤ 20 by decide) (by omega), Option.bind_some, he]
    rw [he] at hm
    rw [if_pos (by omega), if_pos (by omega), Int.toNat_natCast, Int.toNat_natCast, refLower_ok _ (Nat.le_trans (extract_le _ _ _) (by omega)) (Nat.lt_of_le_of_lt (extract_le _ _ _) (by omega)), Option.bind_some, refSpace_ok s _ hm.2 (by omega) (by omega), Option.bind_some]
    have hlow : kind_Lower.low (s.extract q (token_reader.attrEnd s q)) = token_reader.low s q (token_reader.attrEnd s q) := rfl
    rw [hlow, dif_pos (by omega)]
    have next : ∀ (e : Nat) (v : ByteArray), q + 1 ≤ e → e ≤ s.size → attrS s (token_until.to token_until.pN s (token_reader.attrEnd s q)) = (v, e) →
        ((marginaliaref04_Get.f k l (token_reader.low s q (token_reader.attrEnd s q))).bind fun bt266 => (if bt266.2 = true then (marginaliaref04_tag.l0 k s (e : Int) 0 nm l false ⟨#[]⟩) else (if l.length < 4398046511104 then (marginaliaref04_tag.l0 k s (e : Int) 0 nm (l ++ [(⟨token_reader.low s q (token_reader.attrEnd s q), v⟩ : S41)]) false ⟨#[]⟩) else (none)))) =
        some (tagR nm (tagS s (attrS s (token_until.to token_until.pN s (token_reader.attrEnd s q))).2 (if (getS (token_reader.low s q (token_reader.attrEnd s q)) l).2 = true then l else l ++ [⟨token_reader.low s q (token_reader.attrEnd s q), (attrS s (token_until.to token_until.pN s (token_reader.attrEnd s q))).1⟩]))) := by
      intro e v h3 h4 h5
      rw [h5, refGet_ok _ l (by omega) (by omega), Option.bind_some]
      cases hg : (getS (token_reader.low s q (token_reader.attrEnd s q)) l).2 with
      | true => rw [if_pos rfl, if_pos rfl]; exact ih (s.size - e) (by omega) e k l (by omega) (by omega) (by omega)
      | false =>
        simp only [Bool.false_eq_true, if_false]
        rw [if_pos (by omega)]
        exact ih (s.size - e) (by omega) e k _ (by omega) (by rw [List.length_append, List.length_singleton]; omega) (by omega)
    generalize hmm : token_until.to token_until.pN s (token_reader.attrEnd s q) = m at hm2 ha next ⊢
    have plain : ¬ token_reader.here s m ⟨#[61]⟩ = true → marginaliaref04_tag.j3 (k + 1) s (m : Int) false 0 nm l false ⟨#[]⟩ (token_reader.low s q (token_reader.attrEnd s q)) ⟨#[]⟩ = some (tagR nm (tagS s (attrS s m).2 (if (getS (token_reader.low s q (token_reader.attrEnd s q)) l).2 = true then l else l ++ [⟨token_reader.low s q (token_reader.attrEnd s q), (attrS s m).1⟩]))) := by
     intro hh
     have hat : attrS s m = (⟨#[]⟩, m) := by unfold attrS; rw [if_neg hh]
     rw [marginaliaref04_tag.j3, if_neg (by simp)]
     exact next m ⟨#[]⟩ (by omega) (by omega) hat
    by_cases g3 : m < s.size
    ·
     have hltm : m < s.data.toList.length := by omega
     rw [if_pos (by omega), if_pos (by omega), btN s m hltm]
     by_cases g4 : s.data.toList[m] = 61
     ·
      have hh : token_reader.here s m ⟨#[61]⟩ = true := by rw [here_one s m 61 hltm, g4]; rfl
      have hat : attrS s m = (decB true (token_reader.val s (m + 1)).1, (token_reader.val s (m + 1)).2) := by unfold attrS; rw [if_pos hh]
      have hm3 := token_until.to_le token_until.pN s (m + 1) (by omega)
      rw [show (((s.data.toList[m]).toNat : Int) == 61) = true by rw [g4]; rfl, marginaliaref04_tag.j3, if_pos rfl, wr1 (by omega), refSpace_ok s (m + 1) (by omega) (by omega) (by omega), Option.bind_some, refValue_ok s _ hm3.2 hs (by omega), Option.bind_some]
      have hv : token_reader.val2 s (token_until.to token_until.pN s (m + 1)) = token_reader.val s (m + 1) := rfl
      rw [hv]
      rw [hat] at ha
      exact next _ _ ha.1 ha.2 hat
     ·
      have hb : (((s.data.toList[m]).toNat : Int) == 61) = false := beq_eq_false_iff_ne.2 fun e => g4 (UInt8.toNat_inj.1 (by have : ((61 : UInt8)).toNat = 61 := rfl; omega))
      rw [hb]
      exact plain (by rw [here_one s m 61 hltm]; simpa using fun e => g4 e.symm)
    ·
     rw [if_neg (by omega)]
     exact plain (by rw [here_end s m 61 g3]; simp)
theorem refTag_ok (s : ByteArray) (hs : s.size ≤ 400000) (i : Nat) (hi : i ≤ s.size) {k : Nat} (hk : 14000000 ≤ k) : marginaliaref04_tag.f k s (i : Int) = some (tagR (token_reader.low s i (token_until.to (token_until.pE ⟨#[47, 62]⟩) s i)) (tagS s (token_until.to (token_until.pE ⟨#[47, 62]⟩) s i) [])) := by
 have hm := token_until.to_le (token_until.pE ⟨#[47, 62]⟩) s i hi
 unfold marginaliaref04_tag.f
 rw [refUpTo_ok s ⟨#[47, 62]⟩ i hi (by omega) (show 2 ≤ 20 by decide) (by omega), Option.bind_some, if_pos (by omega), if_pos (by omega), if_pos (by omega), Int.toNat_natCast, Int.toNat_natCast, refLower_ok _ (Nat.le_trans (extract_le _ _ _) (by omega)) (Nat.lt_of_le_of_lt (extract_le _ _ _) (by omega)), Option.bind_some]
 exact refTag_l0 s hs _ (s.size - token_until.to (token_until.pE ⟨#[47, 62]⟩) s i) _ k [] (by omega) (Nat.zero_le _) (by omega)
theorem refEnded_ok (s : ByteArray) (hs : s.size ≤ 400000) (i : Nat) (hi : i ≤ s.size) (kd : Int) (h0 : kd ≠ 0) {k : Nat} (hk : 14000000 ≤ k) : marginaliaref04_ended.f k s (i : Int) kd = some (TokV.fin s (tagT s i kd)).tuple := by
 unfold marginaliaref04_ended.f
 rw [refTag_ok s hs i hi hk, Option.bind_some]
 unfold tagT
 simp only
 generalize tagS s (token_until.to (token_until.pE ⟨#[47, 62]⟩) s i) [] = p
 generalize token_reader.low s i _ = nm
 obtain ⟨o, e⟩ := p
 cases o with
 | none => simp [tagR, token_reader_tag.kind, token_reader_tag.name, token_reader_tag.attrs, token_reader_tag.closed, TokV.fin, TokV.tuple]
 | some q =>
  by_cases h3 : kd = 3
  ·
   subst h3
   simp [tagR, token_reader_tag.kind, token_reader_tag.name, token_reader_tag.attrs, token_reader_tag.closed, TokV.fin, TokV.tuple]
  ·
   simp [tagR, token_reader_tag.kind, token_reader_tag.name, token_reader_tag.attrs, token_reader_tag.closed, TokV.fin, TokV.tuple, h3, h0]
theorem w_1 {i : Nat} (h : i ≤ 1000000) : wrap64 ((i : Int) + 1) = ((i + 1 : Nat) : Int) := by unfold wrap64; omega
theorem w_2 {i : Nat} (h : i ≤ 1000000) : wrap64 ((i : Int) + 2) = ((i + 2 : Nat) : Int) := by unfold wrap64; omega
theorem w_3 {i : Nat} (h : i ≤ 1000000) : wrap64 ((i : Int) + 3) = ((i + 3 : Nat) : Int) := by unfold wrap64; omega
theorem w_4 {i : Nat} (h : i ≤ 1000000) : wrap64 ((i : Int) + 4) = ((i + 4 : Nat) : Int) := by unfold wrap64; omega
theorem w_9 {i : Nat} (h : i ≤ 1000000) : wrap64 ((i : Int) + 9) = ((i + 9 : Nat) : Int) := by unfold wrap64; omega
theorem u8_iff (c : UInt8) (n : Nat) (d : UInt8) (hd : d.toNat = n) : ((c.toNat : Int) = (n : Int)) ↔ c = d := by
  constructor
  · intro e; exact UInt8.toNat_inj.1 (by omega)
  · rintro rfl; omega
theorem refBegins_ok (s : ByteArray) (i : Nat) (hi : i ≤ s.size) (hs : s.size ≤ 1000000) : marginaliaref04_begins.f s (i : Int) = some (token_begins.b (s.data.toList.drop i)) := by
 have el : s.data.toList.length = s.size := by simp
 unfold marginaliaref04_begins.f
 rw [refHere_ok s i _ hi (by omega) (by decide), Option.bind_some]
 by_cases h0 : i < s.size
 ·
  have hlt : i < s.data.toList.length := by omega
  by_cases h1 : i + 1 < s.size
  ·
   have hlt1 : i + 1 < s.data.toList.length := by omega
   rw [here_one s i 60 hlt, List.drop_eq_getElem_cons hlt, List.drop_eq_getElem_cons hlt1, token_begins.b_cons]
   by_cases c0 : s.data.toList[i] = 60
   ·
    have hb : (60 == s.data.toList[i]) = true := beq_iff_eq.2 c0.symm
    have hb2 : (s.data.toList[i] == 60) = true := beq_iff_eq.2 c0
    rw [hb, hb2, if_pos rfl, Bool.true_and, w_1 (by omega), if_neg (show ¬ ((i + 1 : Nat) : Int) ≥ (s.size : Int) by omega), if_pos (by omega), if_pos (by omega), btN s (i + 1) hlt1, refLetter_one, Option.bind_some]
    by_cases e33 : s.data.toList[i + 1] = 33
    ·
     rw [e33]; rfl
    by_cases e63 : s.data.toList[i + 1] = 63
    ·
     rw [e63]; rfl
    by_cases e47 : s.data.toList[i + 1] = 47
    ·
     rw [e47, w_2 (by omega)]
     have : (!(List.drop (i + 1 + 1) s.data.toList).isEmpty) = decide (((i + 2 : Nat) : Int) < (s.size : Int)) := by
      by_cases h2 : i + 2 < s.size
      ·
       have hlt2 : i + 2 < s.data.toList.length := by omega
       rw [decide_eq_true (by omega), List.drop_eq_getElem_cons hlt2]; rfl
      ·
       rw [decide_eq_false (by omega), List.drop_of_length_le (by omega)]; rfl
     rw [this]
     have hL : token_begins.letter 47 = false := by decide
     rw [hL]
     simp
    ·
     have n33 : ¬ ((s.data.toList[i + 1].toNat : Int) = 33) := fun e => e33 ((u8_iff _ 33 33 rfl).1 e)
     have n63 : ¬ ((s.data.toList[i + 1].toNat : Int) = 63) := fun e => e63 ((u8_iff _ 63 63 rfl).1 e)
     have n47 : ¬ ((s.data.toList[i + 1].toNat : Int) = 47) := fun e => e47 ((u8_iff _ 47 47 rfl).1 e)
     rw [if_neg n33, if_neg n63, if_neg n47, if_neg e47, beq_eq_false_iff_ne.2 e33, beq_eq_false_iff_ne.2 e63]
     cases token_begins.letter s.data.toList[i + 1] <;> rfl
   ·
    have hb : (60 == s.data.toList[i]) = false := beq_eq_false_iff_ne.2 fun e => c0 e.symm
    have hb2 : (s.data.toList[i] == 60) = false := beq_eq_false_iff_ne.2 c0
    rw [hb, hb2, if_neg (by decide), Bool.false_and]
  ·
   have hd : s.data.toList.drop i = [s.data.toList[i]] := by rw [List.drop_eq_getElem_cons hlt, List.drop_of_length_le (by omega)]
   have hf : ∀ c : UInt8, token_begins.b [c] = false := by
    intro c
    unfold token_begins.b
    split
    ·
     rename_i h; cases h
    ·
     rfl
   rw [hd, hf]
   cases token_reader.here s i ⟨#[60]⟩ with
   | false => rfl
   | true => rw [if_pos rfl, w_1 (by omega), if_pos (by omega)]
 ·
  rw [here_end s i 60 h0, List.drop_of_length_le (by omega)]; rfl
theorem refText_l0 (s : ByteArray) (hs : s.size ≤ 400000) (i0 : Nat) (d : Nat) : ∀ (i k : Nat), i + d = s.size → i0 ≤ i → 1300001 + d ≤ k →
    marginaliaref04_text.l0 k s (i0 : Int) (i : Int) = some (1, (⟨#[]⟩ : ByteArray), ([] : List S41), false, decB false (s.extract i0 (token_reader.textTo s i)), ((token_reader.textTo s i : Nat) : Int)) := by
 have fin : ∀ (i k : Nat), i0 ≤ i → i ≤ s.size → 1300000 ≤ k → token_reader.textTo s i = i → (if 0 ≤ (i0 : Int) then (if (i0 : Int) ≤ (i : Int) then (if (i : Int) ≤ (s.size : Int) then ((marginaliaref03_Decode.f k (s.extract ((i0 : Int) : Int).toNat ((i : Int) : Int).toNat) false).bind fun t286 => (some ((1 : Int), (⟨#[]⟩ : ByteArray), ([] : List (S41)), false, t286, (i : Int)))) else (none)) else (none)) else (none)) = some (1, (⟨#[]⟩ : ByteArray), ([] : List S41), false, decB false (s.extract i0 (token_reader.textTo s i)), ((token_reader.textTo s i : Nat) : Int)) := by
  intro i k h1 h2 hk ht
  rw [if_pos (by omega), if_pos (by omega), if_pos (by omega), Int.toNat_natCast, Int.toNat_natCast, refDecB_ok false _ (Nat.le_trans (extract_le _ _ _) hs) hk, Option.bind_some, ht]
 induction d with
 | zero =>
  intro i k hi h0 hk
  obtain ⟨k, rfl⟩ : ∃ m, k = m + 1 := ⟨k - 1, by omega⟩
  rw [marginaliaref04_text.l0, if_neg (by omega)]
  exact fin i k h0 (by omega) (by omega) (seek_end _ _ _ (by omega))
 | succ d ih =>
  intro i k hi h0 hk
  obtain ⟨k, rfl⟩ : ∃ m, k = m + 1 := ⟨k - 1, by omega⟩
  rw [marginaliaref04_text.l0, if_pos (by omega), refBegins_ok s i (by omega) (by omega), Option.bind_some]
  cases hb : token_begins.b (s.data.toList.drop i) with
  | true =>
   rw [if_pos rfl]
   exact fin i k h0 (by omega) (by omega) (seek_stop _ _ _ hb)
  | false =>
   rw [if_neg (by simp), w_1 (by omega), ih (i + 1) k (by omega) (by omega) (by omega)]
   have : token_reader.textTo s i = token_reader.textTo s (i + 1) := seek_go _ _ i (by omega) hb
   rw [this]
theorem refText_ok (s : ByteArray) (i : Nat) (hi : i ≤ s.size) (hs : s.size ≤ 400000) {k : Nat} (hk : 1800000 ≤ k) : marginaliaref04_text.f k s (i : Int) = some (textT s i).tuple := refText_l0 s hs i (s.size - i) i k (by omega) (Nat.le_refl _) (by omega)
theorem mn_nat (a b : Nat) : mn (a : Int) (b : Int) = ((min a b : Nat) : Int) := by unfold mn; split <;> omega
theorem refOther_ok (s : ByteArray) (i : Nat) (hi : i ≤ s.size) (hs : s.size ≤ 400000) {k : Nat} (hk : 400001 ≤ k) : marginaliaref04_other.f k s (i : Int) = some (token_reader.otherV s i).tuple := by
 have hf := findS_le s i ⟨#[62]⟩ hi
 have hc := cut_find s i ⟨#[62]⟩ hi (by decide)
 unfold marginaliaref04_other.f token_reader.otherV TokV.tuple
 rw [refFind_ok s _ i hi (by omega) (by decide) (by omega), Option.bind_some, if_pos (by omega), if_pos (by omega), if_pos (by omega), Int.toNat_natCast, Int.toNat_natCast, w_1 (by omega), mn_nat, hc.1, hc.2]
 rfl
theorem refCdata_ok (s : ByteArray) (i : Nat) (hi : i ≤ s.size) (hs : s.size ≤ 400000) {k : Nat} (hk : 400001 ≤ k) : marginaliaref04_cdata.f k s (i : Int) = some (1, (⟨#[]⟩ : ByteArray), ([] : List S41), false, token_reader.cutTxt s i ⟨#[93, 93, 62]⟩, ((token_reader.cutAt s i ⟨#[93, 93, 62]⟩ : Nat) : Int)) := by
 have hf := findS_le s i ⟨#[93, 93, 62]⟩ hi
 have hc := cut_find s i ⟨#[93, 93, 62]⟩ hi (by decide)
 unfold marginaliaref04_cdata.f
 rw [refFind_ok s _ i hi (by omega) (by decide) (by omega), Option.bind_some, if_pos (by omega), if_pos (by omega), if_pos (by omega), Int.toNat_natCast, Int.toNat_natCast, w_3 (by omega), mn_nat, hc.1, hc.2]
 rfl
theorem suffix_take (a b : List UInt8) : Lib.hasSuffix a b = (decide (b.length ≤ a.length) && (a.drop (a.length - b.length)) == b) := by
 unfold Lib.hasSuffix
 rw [Bool.eq_iff_iff, List.isSuffixOf_iff_suffix, Bool.and_eq_true, decide_eq_true_eq, beq_iff_eq, List.suffix_iff_eq_drop]
 constructor
 ·
  intro h
  have : b.length ≤ a.length := by have := congrArg List.length h; simp at this; omega
  exact ⟨this, h.symm⟩
 ·
  rintro ⟨_, h⟩; exact h.symm
theorem refHere_tail (r t : ByteArray) (hr : r.size ≤ 1000000) (ht : t.size ≤ 1000) : marginaliaref04_here.f r (wrap64 ((r.size : Int) - (t.size : Int))) t = some (Lib.hasSuffix r.data.toList t.data.toList) := by
 have er : r.data.toList.length = r.size := by simp
 have et : t.data.toList.length = t.size := by simp
 rw [suffix_take, er, et]
 by_cases h : t.size ≤ r.size
 ·
  rw [show wrap64 ((r.size : Int) - (t.size : Int)) = ((r.size - t.size : Nat) : Int) from by unfold wrap64; omega, refHere_ok r _ t (by omega) (by omega) (by omega), decide_eq_true h, Bool.true_and]
  unfold token_reader.here Lib.hasPrefix
  rw [prefix_take, List.length_drop, er, et, decide_eq_true (by omega), Bool.true_and, List.take_of_length_le (by rw [List.length_drop]; omega)]
 ·
  rw [decide_eq_false h, Bool.false_and]
  unfold marginaliaref04_here.f
  rw [if_neg (by unfold wrap64; omega)]
theorem suffix_len {a b : List UInt8} (h : Lib.hasSuffix a b = true) : b.length ≤ a.length := by
 rw [suffix_take, Bool.and_eq_true] at h
 exact of_decide_eq_true h.1
theorem refCom_l1 (s r : ByteArray) (hr : r.size ≤ 1000000) {k : Nat} (hk : 5 ≤ k) : marginaliaref04_comment.l1 k s r [(⟨#[45, 45, 33]⟩ : ByteArray), (⟨#[45, 45]⟩ : ByteArray), (⟨#[45]⟩ : ByteArray)] 0 = some (4, ⟨#[]⟩, [], false, comTail r, (s.size : Int)) := by
 obtain ⟨k, rfl⟩ : ∃ m, k = m + 4 := ⟨k - 4, by omega⟩
 have er : r.data.toList.length = r.size := by simp
 have r0 : rdOf ByteArray.empty [(⟨#[45, 45, 33]⟩ : ByteArray), (⟨#[45, 45]⟩ : ByteArray), (⟨#[45]⟩ : ByteArray)] 0 = ⟨#[45, 45, 33]⟩ := rfl
 have r1 : rdOf ByteArray.empty [(⟨#[45, 45, 33]⟩ : ByteArray), (⟨#[45, 45]⟩ : ByteArray), (⟨#[45]⟩ : ByteArray)] 1 = ⟨#[45, 45]⟩ := rfl
 have r2 : rdOf ByteArray.empty [(⟨#[45, 45, 33]⟩ : ByteArray), (⟨#[45, 45]⟩ : ByteArray), (⟨#[45]⟩ : ByteArray)] 2 = ⟨#[45]⟩ := rfl
 have d0 : (⟨#[45, 45, 33]⟩ : ByteArray).data.toList = [45, 45, 33] := rfl
 have d1 : (⟨#[45, 45]⟩ : ByteArray).data.toList = [45, 45] := rfl
 have d2 : (⟨#[45]⟩ : ByteArray).data.toList = [45] := rfl
 have z0 : ((⟨#[45, 45, 33]⟩ : ByteArray).size : Int) = ((3 : Nat) : Int) := rfl
 have z1 : ((⟨#[45, 45]⟩ : ByteArray).size : Int) = ((2 : Nat) : Int) := rfl
 have z2 : ((⟨#[45]⟩ : ByteArray).size : Int) = ((1 : Nat) : Int) := rfl
 unfold comTail
 rw [marginaliaref04_comment.l1, if_pos (by decide), if_pos (by decide), r0, refHere_tail r _ hr (by decide), Option.bind_some, d0]
 cases h0 : Lib.hasSuffix r.data.toList [45, 45, 33] with
 | true =>
  have hl := suffix_len h0
  have hl : 3 ≤ r.size := by rw [er] at hl; exact hl
  rw [if_pos rfl, if_pos rfl, z0, show wrap64 ((r.size : Int) - ((3 : Nat) : Int)) = ((r.size - 3 : Nat) : Int) from by unfold wrap64; omega, if_pos (by omega), if_pos (by omega), Int.toNat_natCast]
 | false =>
  rw [if_neg (by simp), if_neg (by simp), w01, marginaliaref04_comment.l1, if_pos (by decide), if_pos (by decide), r1, refHere_tail r _ hr (by decide), Option.bind_some, d1]
  cases h1 : Lib.hasSuffix r.data.toList [45, 45] with
  | true =>
   have hl := suffix_len h1
   have hl : 2 ≤ r.size := by rw [er] at hl; exact hl
   rw [if_pos rfl, if_pos rfl, z1, show wrap64 ((r.size : Int) - ((2 : Nat) : Int)) = ((r.size - 2 : Nat) : Int) from by unfold wrap64; omega, if_pos (by omega), if_pos (by omega), Int.toNat_natCast]
  | false =>
   rw [if_neg (by simp), if_neg (by simp), w12, marginaliaref04_comment.l1, if_pos (by decide), if_pos (by decide), r2, refHere_tail r _ hr (by decide), Option.bind_some, d2]
   cases h2 : Lib.hasSuffix r.data.toList [45] with
   | true =>
    have hl := suffix_len h2
    have hl : 1 ≤ r.size := by rw [er] at hl; exact hl
    rw [if_pos rfl, if_pos rfl, z2, show wrap64 ((r.size : Int) - ((1 : Nat) : Int)) = ((r.size - 1 : Nat) : Int) from by unfold wrap64; omega, if_pos (by omega), if_pos (by omega), Int.toNat_natCast]
   | false =>
    rw [if_neg (by simp), if_neg (by simp), w23, marginaliaref04_comment.l1, if_neg (by decide)]
theorem refCom_l0 (s : ByteArray) (hs : s.size ≤ 400000) (i0 : Nat) (h00 : i0 ≤ s.size) (d : Nat) : ∀ (j k : Nat), i0 + j + d = s.size → d + 10 ≤ k →
    marginaliaref04_comment.l0 k s (i0 : Int) ((i0 + j : Nat) : Int) = some (match comScan (s.data.toList.drop (i0 + j)) j with | some (a, n) => ((4 : Int), (⟨#[]⟩ : ByteArray), ([] : List S41), false, s.extract i0 (i0 + a), ((i0 + a + n : Nat) : Int)) | none => ((4 : Int), (⟨#[]⟩ : ByteArray), ([] : List S41), false, comTail (s.extract i0 s.size), (s.size : Int))) := by
 have el : s.data.toList.length = s.size := by simp
 induction d with
 | zero =>
  intro j k hi hk
  obtain ⟨k, rfl⟩ : ∃ m, k = m + 1 := ⟨k - 1, by omega⟩
  rw [marginaliaref04_comment.l0, if_neg (by omega), if_pos (by omega), if_pos (by omega), List.drop_of_length_le (by omega), Int.toNat_natCast]
  exact refCom_l1 s _ (by rw [ByteArray.size_extract]; omega) (by omega)
 | succ d ih =>
  intro j k hi hk
  obtain ⟨k, rfl⟩ : ∃ m, k = m + 1 := ⟨k - 1, by omega⟩
  have hlt : i0 + j < s.data.toList.length := by omega
  have e1 : token_reader.here s (i0 + j) ⟨#[45, 45, 62]⟩ = Lib.hasPrefix (s.data.toList[i0 + j] :: s.data.toList.drop (i0 + j + 1)) [45, 45, 62] := by
   unfold token_reader.here; rw [List.drop_eq_getElem_cons hlt]
  have e2 : token_reader.here s (i0 + j) ⟨#[45, 45, 33, 62]⟩ = Lib.hasPrefix (s.data.toList[i0 + j] :: s.data.toList.drop (i0 + j + 1)) [45, 45, 33, 62] := by
   unfold token_reader.here; rw [List.drop_eq_getElem_cons hlt]
  rw [marginaliaref04_comment.l0, if_pos (by omega), refHere_ok s _ _ (by omega) (by omega) (by decide), Option.bind_some, e1, List.drop_eq_getElem_cons hlt, comScan]
  cases h0 : Lib.hasPrefix (s.data.toList[i0 + j] :: s.data.toList.drop (i0 + j + 1)) [45, 45, 62] with
  | true => rw [if_pos rfl, if_pos rfl, if_pos (by omega), if_pos (by omega), if_pos (by omega), Int.toNat_natCast, Int.toNat_natCast, w_3 (by omega)]
  | false =>
   rw [if_neg Bool.false_ne_true, if_neg Bool.false_ne_true, refHere_ok s _ _ (by omega) (by omega) (by decide), Option.bind_some, e2]
   cases h1 : Lib.hasPrefix (s.data.toList[i0 + j] :: s.data.toList.drop (i0 + j + 1)) [45, 45, 33, 62] with
   | true => rw [if_pos rfl, if_pos rfl, if_pos (by omega), if_pos (by omega), if_pos (by omega), Int.toNat_natCast, Int.toNat_natCast, w_4 (by omega)]
   | false =>
    rw [if_neg Bool.false_ne_true, if_neg Bool.false_ne_true, w_1 (by omega)]
    exact ih (j + 1) k (by omega) (by omega)
theorem refComment_ok (s : ByteArray) (i : Nat) (hi : i ≤ s.size) (hs : s.size ≤ 400000) {k : Nat} (hk : 400100 ≤ k) : marginaliaref04_comment.f k s (i : Int) = some ((4 : Int), (⟨#[]⟩ : ByteArray), ([] : List S41), false, (comS s i).1, ((comS s i).2 : Int)) := by
 unfold marginaliaref04_comment.f comS
 rw [refHere_ok s i _ hi (by omega) (by decide), Option.bind_some]
 by_cases h0 : token_reader.here s i ⟨#[62]⟩ = true
 ·
  rw [if_pos h0, if_pos h0, w_1 (by omega)]
 ·
  rw [if_neg h0, if_neg h0, refHere_ok s i _ hi (by omega) (by decide), Option.bind_some]
  by_cases h1 : token_reader.here s i ⟨#[45, 62]⟩ = true
  ·
   rw [if_pos h1, if_pos h1, w_2 (by omega)]
  ·
   rw [if_neg h1, if_neg h1]
   have := refCom_l0 s hs i hi (s.size - i) 0 k (by omega) (by omega)
   rw [Nat.add_zero] at this
   rw [this]
   cases comScan (s.data.toList.drop i) 0 with
   | none => rfl
   | some p => obtain ⟨a, n⟩ := p; rfl
theorem refStop_ok (s name : ByteArray) (i : Nat) (hi : i ≤ s.size) (hs : s.size ≤ 400000) (hn : name.size ≤ 400000) {k : Nat} (hk : 1000000 ≤ k) : marginaliaref04_stop.f k s (i : Int) name = some (token_closes.b (s.extract i s.size) name) := by
 have el : s.data.toList.length = s.size := by simp
 have ex : (s.extract i s.size).data.toList = s.data.toList.drop i := by simp [ByteArray.data_extract, List.take_of_length_le]
 have ez : (s.extract i s.size).size = s.size - i := by simp
 unfold marginaliaref04_stop.f token_closes.b
 rw [refHere_ok s i _ hi (by omega) (by decide), Option.bind_some, ex, ez]
 have hd : token_reader.here s i ⟨#[60, 47]⟩ = Lib.hasPrefix (s.data.toList.drop i) [60, 47] := rfl
 cases h0 : Lib.hasPrefix (s.data.toList.drop i) [60, 47] with
 | false => rw [hd, h0, if_neg (by simp), Bool.false_and]
 | true =>
  have h2 : i + 2 ≤ s.size := token_reader.here_le (t := ⟨#[60, 47]⟩) hi (hd.trans h0)
  have hw : wrap64 (((i + 2 : Nat) : Int) + (name.size : Int)) = ((i + 2 + name.size : Nat) : Int) := by unfold wrap64; omega
  rw [hd, h0, if_pos rfl, w_2 (by omega), hw, Bool.true_and]
  by_cases h3 : i + 2 + name.size < s.size
  ·
   have e2 : (s.extract i s.size).extract 2 (2 + name.size) = s.extract (i + 2) (i + 2 + name.size) := by
    apply Go.WideShapes.bytes_inj
    rw [ByteArray.data_extract, Array.toList_extract, List.extract_eq_take_drop, ex, ByteArray.data_extract, Array.toList_extract, List.extract_eq_take_drop, List.drop_drop]
    congr 1; omega
   have hlt : i + 2 + name.size < s.data.toList.length := by omega
   rw [decide_eq_true (show 2 + name.size < s.size - i by omega), if_neg (by omega), if_pos (by omega), if_pos (by omega), if_pos (by omega), Int.toNat_natCast, Int.toNat_natCast, refLower_ok _ (Nat.le_trans (extract_le _ _ _) (by omega)) (Nat.lt_of_le_of_lt (extract_le _ _ _) (by omega)), Option.bind_some, refLower_ok name (by omega) (by omega), Option.bind_some, e2, Bool.true_and]
   by_cases h4 : (kind_Lower.low (s.extract (i + 2) (i + 2 + name.size))).toList = (kind_Lower.low name).toList
   ·
    rw [if_pos h4, beq_iff_eq.2 h4, Bool.true_and, if_pos (by omega), if_pos (by omega), btN s _ hlt, refSpace_one, Option.bind_some]
    have eg : (s.data.toList.drop i).getD (2 + name.size) 0 = s.data.toList[i + 2 + name.size] := by
     rw [List.getD, List.getElem?_drop, show i + (2 + name.size) = i + 2 + name.size by omega, List.getElem?_eq_getElem hlt]; rfl
    rw [eg]
    unfold token_until.pE
    have ec : (⟨#[47, 62]⟩ : ByteArray).data.toList = [47, 62] := rfl
    rw [ec]
    cases hsp : token_until.sp (s.data.toList[i + 2 + name.size]) with
    | true => rw [if_pos rfl]; rfl
    | false =>
     rw [if_neg (by simp), Bool.false_or]
     generalize s.data.toList[i + 2 + name.size] = c
     by_cases h5 : c = 47
     ·
      rw [h5]; rfl
     ·
      rw [if_neg (show ¬ ((c.toNat : Int) = 47) from fun e => h5 ((u8_iff _ 47 47 rfl).1 e))]
      by_cases h6 : c = 62
      ·
       rw [h6]; rfl
      ·
       have : ((c.toNat : Int) == 62) = false := beq_eq_false_iff_ne.2 fun e => h6 ((u8_iff _ 62 62 rfl).1 e)
       rw [this]
       simp [h5, h6]
   ·
    rw [if_neg h4, beq_eq_false_iff_ne.2 h4, Bool.false_and]
  ·
   rw [if_pos (by omega), decide_eq_false (by omega), Bool.false_and]
theorem here_pre {s : ByteArray} {i : Nat} {t : List UInt8} (h : token_reader.here s i ⟨t.toArray⟩ = true) : ∃ r, s.data.toList.drop i = t ++ r := by
 unfold token_reader.here Lib.hasPrefix at h
 obtain ⟨r, hr⟩ := List.isPrefixOf_iff_prefix.1 h
 exact ⟨r, by rw [← hr]⟩
theorem here_list {s : ByteArray} {i : Nat} {l : List UInt8} (h : s.data.toList.drop i = l) (t : List UInt8) : token_reader.here s i ⟨t.toArray⟩ = t.isPrefixOf l := by
 unfold token_reader.here Lib.hasPrefix
 rw [h]
theorem findS_skip (s t : ByteArray) (d : Nat) : ∀ i, i + d ≤ s.size → (∀ m, i ≤ m → m < i + d → token_reader.here s m t = false) → findS s i t = findS s (i + d) t := by
 induction d with
 | zero => intro i _ _; rfl
 | succ d ih =>
  intro i h1 h2
  have h3 : findS s i t = findS s (i + 1) t := seek_go _ _ i (by omega) (h2 i (Nat.le_refl _) (by omega))
  rw [h3, ih (i + 1) (by omega) (fun m a b => h2 m (by omega) (by omega)), show i + 1 + d = i + (d + 1) by omega]
/-- Within a word doctype no tag ends. -/
theorem doc_skip (s : ByteArray) (i : Nat) (hi : i + 7 ≤ s.size) (h : (kind_Lower.low (s.extract i (i + 7))).toList = [100, 111, 99, 116, 121, 112, 101]) : findS s i ⟨#[62]⟩ = findS s (i + 7) ⟨#[62]⟩ := by
 have el : s.data.toList.length = s.size := by simp
 refine findS_skip s _ 7 i hi (fun m h1 h2 => ?_)
 have hlt : m < s.data.toList.length := by omega
 rw [here_one s m 62 hlt, beq_eq_false_iff_ne]
 intro e
 have hm : (62 : UInt8) ∈ (s.data.toList.drop i).take 7 := by
  rw [e]
  refine List.mem_iff_getElem?.2 ⟨m - i, ?_⟩
  rw [List.getElem?_take, if_pos (by omega), List.getElem?_drop, show i + (m - i) = m by omega, List.getElem?_eq_getElem hlt]
 have hx : (kind_Lower.low (s.extract i (i + 7))).toList = ((s.data.toList.drop i).take 7).map kind_Lower.c := by
  rw [toList_data]
  unfold kind_Lower.low kind_Lower.l
  rw [ByteArray.data_extract, Array.toList_extract, List.extract_eq_take_drop, Nat.add_sub_cancel_left]
 rw [hx] at h
 have hc : kind_Lower.c 62 ∈ ((s.data.toList.drop i).take 7).map kind_Lower.c := List.mem_map.2 ⟨62, hm, rfl⟩
 rw [h] at hc
 revert hc
 decide
theorem fin_ne (s : ByteArray) (t : TokV) (h : t.kd ≠ 0) : TokV.fin s t = t := by unfold TokV.fin; rw [if_neg h]
theorem fin_end (s : ByteArray) (i : Nat) : TokV.fin s (TokV.end_ i) = TokV.end_ s.size := by unfold TokV.fin TokV.end_; rfl
theorem refData_l0 (s : ByteArray) (fo : Bool) (hs : s.size ≤ 400000) (d : Nat) : ∀ (i k : Nat), i + d = s.size → 15000000 + 4 * (d + 1) ≤ k →
    marginaliaref04_data.l0 k s (i : Int) fo = some (TokV.fin s (dataT s i fo)).tuple := by
 have el : s.data.toList.length = s.size := by simp
 induction d using Nat.strongRecOn with
 | _ d ih =>
  intro i k hi hk
  obtain ⟨k, rfl⟩ : ∃ m, k = m + 3 := ⟨k - 3, by omega⟩
  rw [marginaliaref04_data.l0, dataT]
  by_cases h1 : s.size ≤ i
  ·
   rw [if_neg (by omega), dif_pos h1, fin_end]; rfl
  ·
   rw [if_pos (by omega), dif_neg h1, refBegins_ok s i (by omega) (by omega), Option.bind_some]
   by_cases hb : token_begins.b (s.data.toList.drop i) = false
   ·
    rw [hb, if_neg Bool.false_ne_true, if_pos rfl, refText_ok s i (by omega) hs (by omega), Option.bind_some, fin_ne _ _ (show (1 : Int) ≠ 0 by decide)]
   ·
    have hb' : token_begins.b (s.data.toList.drop i) = true := by simpa using hb
    rw [if_neg hb, hb', if_pos rfl, refHere_ok s i _ (by omega) (by omega) (by decide), Option.bind_some]
    have h2 := token_begins.two hb'
    obtain ⟨c, r, hd, hcs⟩ := begins_shape hb'
    have hbyte := byte_drop hd
    have hp : ∀ t : List UInt8, token_reader.here s i ⟨t.toArray⟩ = t.isPrefixOf (60 :: c :: r) := fun t => here_list hd t
    by_cases h3 : token_reader.here s i ⟨#[60, 47, 62]⟩ = true
    ·
     rw [if_pos h3, if_pos h3, w_3 (by omega)]
     have : i + 3 ≤ s.size := token_reader.here_le (by omega) h3
     exact ih (d - 3) (by omega) (i + 3) (k + 2) (by omega) (by omega)
    ·
     rw [if_neg h3, if_neg h3, refHere_ok s i _ (by omega) (by omega) (by decide), Option.bind_some]
     by_cases h47 : token_reader.here s i ⟨#[60, 47]⟩ = true
     ·
      have hc : c = 47 := by
       have := (hp [60, 47]).symm.trans h47
       simp [List.isPrefixOf] at this
       exact this.symm
      have h33 : token_reader.here s i ⟨#[60, 33]⟩ = false := by
       rw [show (⟨#[60, 33]⟩ : ByteArray) = ⟨[60, 33].toArray⟩ from rfl, hp, hc]; simp [List.isPrefixOf]
      have hcd : token_reader.here s i token_reader.cdataW = false := by
       rw [show token_reader.cdataW = ⟨[60, 33, 91, 67, 68, 65, 84, 65, 91].toArray⟩ from rfl, hp, hc]; simp [List.isPrefixOf]
      have h4 := token_begins.three hb' h47
      have hlt : i + 2 < s.data.toList.length := by omega
      have hby : token_reader.byte s (i + 2) = s.data.toList[i + 2] := by
       unfold token_reader.byte
       rw [List.getD, List.getElem?_eq_getElem hlt]; rfl
      rw [if_pos h47, if_neg (show ¬ ((fo && token_reader.here s i token_reader.cdataW) = true) by rw [hcd, Bool.and_false]; exact Bool.false_ne_true), h33, if_neg Bool.false_ne_true, if_pos h47, w_2 (by omega), if_pos (by omega), if_pos (by omega), btN s (i + 2) hlt, refLetter_one, Option.bind_some, hby]
      cases hl : token_begins.letter s.data.toList[i + 2] with
      | true => rw [if_pos rfl, if_pos rfl, refEnded_ok s hs (i + 2) (by omega) 3 (by decide) (by omega), Option.bind_some]
      | false => rw [if_neg Bool.false_ne_true, if_neg Bool.false_ne_true, refOther_ok s (i + 2) (by omega) hs (by omega), Option.bind_some, fin_ne _ _ (show (4 : Int) ≠ 0 by decide)]
     ·
      have h47' : token_reader.here s i ⟨#[60, 47]⟩ = false := by simpa using h47
      rw [if_neg h47, refHere_ok s i _ (by omega) (by omega) (by decide), Option.bind_some]
      by_cases hcm : token_reader.here s i ⟨#[60, 33, 45, 45]⟩ = true
      ·
       obtain ⟨r2, hr2⟩ := here_pre (t := [60, 33, 45, 45]) hcm
       have hp2 : ∀ t : List UInt8, token_reader.here s i ⟨t.toArray⟩ = t.isPrefixOf ([60, 33, 45, 45] ++ r2) := fun t => here_list hr2 t
       have h33 : token_reader.here s i ⟨#[60, 33]⟩ = true := by
        rw [show (⟨#[60, 33]⟩ : ByteArray) = ⟨[60, 33].toArray⟩ from rfl, hp2]; simp [List.isPrefixOf]
       have hcd : token_reader.here s i token_reader.cdataW = false := by
        rw [show token_reader.cdataW = ⟨[60, 33, 91, 67, 68, 65, 84, 65, 91].toArray⟩ from rfl, hp2]; simp [List.isPrefixOf]
       have h45 : token_reader.here s (i + 2) ⟨#[45, 45]⟩ = true := by
        have : s.data.toList.drop (i + 2) = [45, 45] ++ r2 := by rw [← List.drop_drop, hr2]; rfl
        rw [show (⟨#[45, 45]⟩ : ByteArray) = ⟨[45, 45].toArray⟩ from rfl, here_list this]; simp [List.isPrefixOf]
       have h4 : i + 4 ≤ s.size := token_reader.here_le (by omega) hcm
       rw [if_pos hcm, if_neg (show ¬ ((fo && token_reader.here s i token_reader.cdataW) = true) by rw [hcd, Bool.and_false]; exact Bool.false_ne_true), if_pos h33, w_4 (by omega), refComment_ok s (i + 4) h4 hs (by omega), Option.bind_some]
       unfold declT
       rw [if_pos h45, fin_ne _ _ (show (4 : Int) ≠ 0 by decide)]
       rfl
      ·
       have hcm' : token_reader.here s i ⟨#[60, 33, 45, 45]⟩ = false := by simpa using hcm
       rw [if_neg hcm]
       have hj : (if fo = true then ((marginaliaref04_here.f s (i : Int) (⟨#[60, 33, 91, 67, 68, 65, 84, 65, 91]⟩ : ByteArray)).bind fun t334 => (marginaliaref04_data.j1 (k + 2) s (i : Int) fo t334)) else (marginaliaref04_data.j1 (k + 2) s (i : Int) fo false)) = marginaliaref04_data.j1 (k + 2) s (i : Int) fo (fo && token_reader.here s i token_reader.cdataW) := by
        cases fo with
        | false => rw [if_neg Bool.false_ne_true, Bool.false_and]
        | true => rw [if_pos rfl, refHere_ok s i _ (by omega) (by omega) (by decide), Option.bind_some, Bool.true_and]; rfl
       refine Eq.trans hj ?_
       rw [marginaliaref04_data.j1]
       by_cases hcd : (fo && token_reader.here s i token_reader.cdataW) = true
       ·
        have hcd2 := hcd
        simp only [Bool.and_eq_true] at hcd2
        have h9 : i + 9 ≤ s.size := token_reader.here_le (by omega) hcd2.2
        have hcl := token_reader.cutAt_le s (i + 9) ⟨#[93, 93, 62]⟩ h9
        rw [if_pos hcd, if_pos hcd, w_9 (by omega), refCdata_ok s (i + 9) h9 hs (by omega), Option.bind_some]
        simp only
        by_cases he : (token_reader.cutTxt s (i + 9) ⟨#[93, 93, 62]⟩).toList = []
        ·
         rw [if_pos he, if_pos he, dif_pos (by omega)]
         exact ih (s.size - token_reader.cutAt s (i + 9) ⟨#[93, 93, 62]⟩) (by omega) _ (k + 1) (by omega) (by omega)
        ·
         rw [if_neg he, if_neg he, fin_ne _ _ (show (1 : Int) ≠ 0 by decide)]; rfl
       ·
        rw [if_neg hcd, if_neg hcd, refHere_ok s i _ (by omega) (by omega) (by decide), Option.bind_some]
        by_cases h33 : token_reader.here s i ⟨#[60, 33]⟩ = true
        ·
         rw [if_pos h33, if_pos h33]
         have hc : c = 33 := by
          have := (hp [60, 33]).symm.trans h33
          simp [List.isPrefixOf] at this
          exact this.symm
         have hd2 : s.data.toList.drop (i + 2) = r := by rw [← List.drop_drop, hd]; rfl
         have h45 : token_reader.here s (i + 2) ⟨#[45, 45]⟩ = false := by
          rw [show (⟨#[45, 45]⟩ : ByteArray) = ⟨[45, 45].toArray⟩ from rfl, here_list hd2]
          rw [show (⟨#[60, 33, 45, 45]⟩ : ByteArray) = ⟨[60, 33, 45, 45].toArray⟩ from rfl, hp, hc] at hcm'
          simpa [List.isPrefixOf] using hcm'
         have hj2 : (if (wrap64 ((i : Int) + 9)) ≤ (s.size : Int) then (if 0 ≤ (wrap64 ((i : Int) + 2)) then (if (wrap64 ((i : Int) + 2)) ≤ (wrap64 ((i : Int) + 9)) then ((marginaliaref02_Lower.f (k + 1) (s.extract ((wrap64 ((i : Int) + 2)) : Int).toNat ((wrap64 ((i : Int) + 9)) : Int).toNat)).bind fun t345 => (marginaliaref04_data.j2 (k + 1) s (i : Int) (t345.toList == ([100, 111, 99, 116, 121, 112, 101] : List UInt8)))) else (none)) else (none)) else (marginaliaref04_data.j2 (k + 1) s (i : Int) false)) = marginaliaref04_data.j2 (k + 1) s (i : Int) (token_reader.isDoc s (i + 2)) := by
          rw [w_9 (by omega), w_2 (by omega)]
          unfold token_reader.isDoc
          by_cases h9 : i + 9 ≤ s.size
          ·
           rw [if_pos (by omega), if_pos (by omega), if_pos (by omega), Int.toNat_natCast, Int.toNat_natCast, refLower_ok _ (Nat.le_trans (extract_le _ _ _) (by omega)) (Nat.lt_of_le_of_lt (extract_le _ _ _) (by omega)), Option.bind_some, decide_eq_true (by omega), Bool.true_and]
           have e7 : token_reader.doctype.toList = [100, 111, 99, 116, 121, 112, 101] := by rw [toList_data]; rfl
           rw [e7]
          ·
           rw [if_neg (by omega), decide_eq_false (by omega), Bool.false_and]
         refine Eq.trans hj2 ?_
         rw [marginaliaref04_data.j2]
         unfold declT
         rw [h45, if_neg Bool.false_ne_true]
         have h2s : i + 2 ≤ s.size := h2
         cases hdoc : token_reader.isDoc s (i + 2) with
         | true =>
          unfold token_reader.isDoc at hdoc
          simp only [Bool.and_eq_true, decide_eq_true_eq, beq_iff_eq] at hdoc
          have e7 : token_reader.doctype.toList = [100, 111, 99, 116, 121, 112, 101] := by rw [toList_data]; rfl
          rw [e7] at hdoc
          have hsk := doc_skip s (i + 2) hdoc.1 hdoc.2
          have hc1 := cut_find s (i + 2) ⟨#[62]⟩ (by omega) (by decide)
          have hc2 := cut_find s (i + 9) ⟨#[62]⟩ (by omega) (by decide)
          rw [if_pos rfl, if_pos rfl, w_9 (by omega), refOther_ok s (i + 9) (by omega) hs (by omega), Option.bind_some, fin_ne _ _ (show (5 : Int) ≠ 0 by decide)]
          unfold token_reader.otherV TokV.tuple
          simp only
          rw [hc1.2, hc2.2, hsk]
         | false =>
          rw [if_neg Bool.false_ne_true, if_neg Bool.false_ne_true, w_2 (by omega), refOther_ok s (i + 2) (by omega) hs (by omega), Option.bind_some, fin_ne _ _ (show (4 : Int) ≠ 0 by decide)]
        ·
         rw [if_neg h33, if_neg h33, if_neg h47, refHere_ok s i _ (by omega) (by omega) (by decide), Option.bind_some, hbyte.1, w_1 (by omega)]
         have h63 : token_reader.here s i ⟨#[60, 63]⟩ = (63 == c) := by
          rw [show (⟨#[60, 63]⟩ : ByteArray) = ⟨[60, 63].toArray⟩ from rfl, hp]; simp [List.isPrefixOf]
         rw [h63]
         by_cases hc : c = 63
         ·
          rw [if_pos (by rw [hc]; rfl), if_pos hc, refOther_ok s (i + 1) (by omega) hs (by omega), Option.bind_some, fin_ne _ _ (show (4 : Int) ≠ 0 by decide)]
         ·
          rw [if_neg (by simpa using fun e => hc e.symm), if_neg hc, refEnded_ok s hs (i + 1) (by omega) 2 (by decide) (by omega), Option.bind_some]
theorem refData_ok (s : ByteArray) (fo : Bool) (i : Nat) (hi : i ≤ s.size) (hs : s.size ≤ 400000) {k : Nat} (hk : 17000000 ≤ k) : marginaliaref04_data.f k s (i : Int) fo = some (TokV.fin s (dataT s i fo)).tuple := refData_l0 s fo hs (s.size - i) i k (by omega) (by omega)
/-- The end of what is read up to its end tag. -/
theorem refNext_l0 (s name : ByteArray) (hs : s.size ≤ 400000) (hn : name.size ≤ 400000) (i0 : Nat) (m : Int) (d : Nat) : ∀ (i k : Nat), i + d = s.size → i0 ≤ i → 1300001 + d ≤ k →
    marginaliaref04_Next.l0 k s (i0 : Int) m name (i : Int) = some ((1 : Int), (⟨#[]⟩ : ByteArray), ([] : List S41), false, (if m = 1 then decB false (s.extract i0 (token_reader.rawTo s name i)) else s.extract i0 (token_reader.rawTo s name i)), ((token_reader.rawTo s name i : Nat) : Int)) := by
 have fin : ∀ (i k : Nat), i0 ≤ i → i ≤ s.size → 1300000 ≤ k → token_reader.rawTo s name i = i → (if 0 ≤ (i0 : Int) then (if (i0 : Int) ≤ (i : Int) then (if (i : Int) ≤ (s.size : Int) then (if m = 1 then ((marginaliaref03_Decode.f k (s.extract ((i0 : Int) : Int).toNat ((i : Int) : Int).toNat) false).bind fun t411 => (some ((1 : Int), (⟨#[]⟩ : ByteArray), ([] : List (S41)), false, t411, (i : Int)))) else (some ((1 : Int), (⟨#[]⟩ : ByteArray), ([] : List (S41)), false, s.extract ((i0 : Int) : Int).toNat ((i : Int) : Int).toNat, (i : Int)))) else (none)) else (none)) else (none)) = some ((1 : Int), (⟨#[]⟩ : ByteArray), ([] : List S41), false, (if m = 1 then decB false (s.extract i0 (token_reader.rawTo s name i)) else s.extract i0 (token_reader.rawTo s name i)), ((token_reader.rawTo s name i : Nat) : Int)) := by
  intro i k h1 h2 hk ht
  rw [if_pos (show 0 ≤ (i0 : Int) by omega), if_pos (show (i0 : Int) ≤ (i : Int) by omega), if_pos (show (i : Int) ≤ (s.size : Int) by omega), Int.toNat_natCast, Int.toNat_natCast, refDecB_ok false _ (Nat.le_trans (extract_le _ _ _) hs) hk, Option.bind_some, ht]
  by_cases h : m = 1
  ·
   rw [if_pos h, if_pos h]
  ·
   rw [if_neg h, if_neg h]
 induction d with
 | zero =>
  intro i k hi h0 hk
  obtain ⟨k, rfl⟩ : ∃ m, k = m + 1 := ⟨k - 1, by omega⟩
  rw [marginaliaref04_Next.l0, if_neg (by omega)]
  exact fin i k h0 (by omega) (by omega) (seek_end _ _ _ (by omega))
 | succ d ih =>
  intro i k hi h0 hk
  obtain ⟨k, rfl⟩ : ∃ m, k = m + 1 := ⟨k - 1, by omega⟩
  rw [marginaliaref04_Next.l0, if_pos (by omega), refStop_ok s name i (by omega) hs hn (by omega), Option.bind_some]
  cases hb : token_closes.b (s.extract i s.size) name with
  | true =>
   rw [if_pos rfl]
   exact fin i k h0 (by omega) (by omega) (seek_stop _ _ _ hb)
  | false =>
   rw [if_neg Bool.false_ne_true, w_1 (by omega), ih (i + 1) k (by omega) (by omega) (by omega)]
   have : token_reader.rawTo s name i = token_reader.rawTo s name (i + 1) := seek_go _ _ i (by omega) hb
   rw [this]
/-- A token whose text is decoded. -/
def decT (t : TokV) : TokV := { t with tx := decB false t.tx }
theorem decT_tag (s : ByteArray) (i : Nat) (kd : Int) : decT (tagT s i kd) = tagT s i kd := by
 have ht : (tagT s i kd).tx = ⟨#[]⟩ := rfl
 have : decT (tagT s i kd) = { tagT s i kd with tx := ⟨#[]⟩ } := by unfold decT; rw [ht, decB_nil]
 rw [this]; rfl
theorem refNext_j1 (s : ByteArray) (i : Nat) (m : Int) (name : ByteArray) (fo : Bool) (hi : i < s.size) (hs : s.size ≤ 400000) (hn : name.size ≤ 400000) {k : Nat} (hk : 17000001 ≤ k) :
    marginaliaref04_Next.j1 k s (i : Int) m name fo false = some (TokV.fin s (if m = 1 then decT (rawT s name i) else rawT s name i)).tuple := by
 obtain ⟨k, rfl⟩ : ∃ m, k = m + 1 := ⟨k - 1, by omega⟩
 rw [marginaliaref04_Next.j1, if_neg Bool.false_ne_true, refStop_ok s name i (by omega) hs hn (by omega), Option.bind_some]
 cases hb : token_closes.b (s.extract i s.size) name with
 | true =>
  have h2 := token_closes.two (by omega) hb
  have hr : token_reader.rawTo s name i = i := seek_stop _ _ _ hb
  have hT : rawT s name i = tagT s (i + 2) 3 := by unfold rawT; rw [hr, if_neg (Nat.lt_irrefl i)]
  rw [if_pos rfl, w_2 (by omega), refEnded_ok s hs (i + 2) h2 3 (by decide) (by omega), Option.bind_some, hT, decT_tag, ite_self]
 | false =>
  have h3 : token_reader.rawTo s name i = token_reader.rawTo s name (i + 1) := seek_go _ _ i hi hb
  have h4 := token_reader.rawTo_le s name (i + 1) hi
  have hT : rawT s name i = ⟨1, ⟨#[]⟩, [], false, s.extract i (token_reader.rawTo s name i), token_reader.rawTo s name i⟩ := by unfold rawT; rw [if_pos (by omega)]
  rw [if_neg Bool.false_ne_true, refNext_l0 s name hs hn i m (s.size - i) i k (by omega) (Nat.le_refl _) (by omega), hT]
  by_cases h : m = 1
  ·
   rw [if_pos h, if_pos h, fin_ne _ _ (show (1 : Int) ≠ 0 by decide)]; rfl
  ·
   rw [if_neg h, if_neg h, fin_ne _ _ (show (1 : Int) ≠ 0 by decide)]; rfl
theorem refNext_ok (s : ByteArray) (a m : Int) (name : ByteArray) (fo : Bool) (hs : s.size ≤ 400000) (hn : name.size ≤ 400000) {k : Nat} (hk : 18000000 ≤ k) : marginaliaref04_Next.f k s a m name fo = some (nextT s a m name fo).tuple := by
 obtain ⟨k, rfl⟩ : ∃ m, k = m + 1 := ⟨k - 1, by omega⟩
 have hj : marginaliaref04_Next.f (k + 1) s a m name fo = marginaliaref04_Next.j0 (k + 1) s a m name fo (decide (a < 0 ∨ (s.size : Int) ≤ a)) := by
  unfold marginaliaref04_Next.f
  by_cases h : a < 0
  ·
   rw [if_pos h, decide_eq_true (Or.inl h)]
  ·
   rw [if_neg h]
   congr 1
   simp [h]
 rw [hj, marginaliaref04_Next.j0]
 unfold nextT
 by_cases ha : a < 0 ∨ (s.size : Int) ≤ a
 ·
  rw [decide_eq_true ha, if_pos rfl, if_pos ha]; rfl
 ·
  rw [decide_eq_false ha, if_neg Bool.false_ne_true, if_neg ha]
  obtain ⟨i, rfl⟩ : ∃ i : Nat, a = (i : Int) := ⟨a.toNat, by omega⟩
  rw [Int.toNat_natCast]
  by_cases m3 : m = 3
  ·
   rw [if_pos m3, if_pos m3, if_pos (by omega), if_pos (by omega)]; rfl
  ·
   rw [if_neg m3, if_neg m3]
   by_cases m2 : m = 2
   ·
    have m1 : ¬ m = 1 := by omega
    rw [if_pos m2, if_pos m2, refNext_j1 s i m name fo (by omega) hs hn (by omega), if_neg m1]
   ·
    rw [if_neg m2, if_neg m2]
    by_cases m1 : m = 1
    ·
     have : (m != 1) = false := by simp [m1]
     rw [this, refNext_j1 s i m name fo (by omega) hs hn (by omega), if_pos m1, if_pos m1]; rfl
    ·
     have : (m != 1) = true := by simp [m1]
     obtain ⟨k, rfl⟩ : ∃ m, k = m + 1 := ⟨k - 1, by omega⟩
     rw [this, marginaliaref04_Next.j1, if_pos rfl, refData_ok s fo i (by omega) hs (by omega), Option.bind_some, if_neg m1]
theorem attrs_same (l : List S41) (hl : l.length ≤ 1000000) (d : Nat) : ∀ (i k : Nat), i + d = l.length → d < k → marginaliaref04_Attrs.l0 k l l (i : Int) = some true := by
 induction d with
 | zero =>
  intro i k hi hk
  obtain ⟨k, rfl⟩ : ∃ m, k = m + 1 := ⟨k - 1, by omega⟩
  rw [marginaliaref04_Attrs.l0, if_neg (by omega)]
 | succ d ih =>
  intro i k hi hk
  obtain ⟨k, rfl⟩ : ∃ m, k = m + 1 := ⟨k - 1, by omega⟩
  rw [marginaliaref04_Attrs.l0, if_pos (by omega), if_pos (by omega), if_pos (by omega), if_neg (by simp), wr1 (by omega)]
  exact ih (i + 1) k (by omega) (by omega)
theorem same_self (kd : Int) (nm : ByteArray) (l : List S41) (c : Bool) (tx : ByteArray) (hl : l.length ≤ 1000000) {k : Nat} (hk : l.length < k) : marginaliaref04_Same.f k kd nm l c tx kd nm l c tx = some true := by
 unfold marginaliaref04_Same.f marginaliaref04_Attrs.f
 have h : marginaliaref04_Attrs.l0 k l l 0 = some true := attrs_same l hl l.length 0 k (by omega) hk
 rw [if_pos rfl, if_pos rfl, if_pos rfl, h, Option.bind_some, if_pos rfl, if_pos (by simp)]
 simp
/-- The list of attributes of a next token is not long. -/
theorem next_len (s : ByteArray) (a m : Int) (name : ByteArray) (fo : Bool) (hs : s.size ≤ 400000) : (nextT s a m name fo).l.length ≤ s.size := by
  by_cases ha : a < 0 ∨ (s.size : Int) ≤ a
  · unfold nextT; rw [if_pos ha]; exact Nat.zero_le _
  · exact (next_good s a m name fo hs ha).1.len
end
end Go.Proofs.Ytpelfhldgnmhpaa.Pure
