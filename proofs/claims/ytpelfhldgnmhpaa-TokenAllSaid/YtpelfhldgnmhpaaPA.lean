/- The fixed question of layer 4 is answered true; no condition. -/
import Derived.Test.YtpelfhldgnmhpaaGC
import Derived.KernelRfl
import Derived.Test.YtpelfhldgnmhpaaCH
import Derived.Test.YtpelfhldgnmhpaaGB
namespace Go.Proofs.Ytpelfhldgnmhpaa.Pure
section
open Go.RowKit Go.Proofs.Ytpelfhldgnmhpaa.G Go.Proofs.YtpelfhldgnmhpaaW.PrintWords Go.Proofs.YtpelfhldgnmhpaaW.PrintLast
set_option linter.unusedVariables false
set_option linter.unusedSimpArgs false
theorem alive60 : marginalialaw04_alive.f 60 = some true := by kernel_rfl
theorem alive04 {k : Nat} (hk : 60 ≤ k) : marginalialaw04_alive.f k = some true := at_rounds (fun k => marginalialaw04_alive.mono k) hk alive60
/-- What an attribute's value is: the first one's of that name. -/
def getS (nm : ByteArray) : List S41 → ByteArray × Bool
  | [] => (⟨#[]⟩, false)
  | a :: l => if a.f0.toList = nm.toList then (a.f1, true) else getS nm l
theorem rd41 (l : List S41) (i : Nat) (h : i < l.length) : rd_T41 l (i : Int) = l[i] := by
 unfold rd_T41
 rw [Int.toNat_natCast, List.getD, List.getElem?_eq_getElem h]; rfl
theorem wr1 {n : Nat} (h : n ≤ 1000000000000) : wrap64 ((n : Int) + 1) = ((n + 1 : Nat) : Int) := by unfold wrap64; omega
theorem get_l0 (nm : ByteArray) (l : List S41) (hl : l.length ≤ 1000000000) (d : Nat) : ∀ (i k : Nat), i + d = l.length → d < k → token_Get.l0 k nm l (l.length : Int) (i : Int) = some (getS nm (l.drop i)) := by
 induction d with
 | zero =>
  intro i k hi hk
  obtain ⟨k, rfl⟩ : ∃ m, k = m + 1 := ⟨k - 1, by omega⟩
  rw [token_Get.l0, if_neg (by omega), List.drop_of_length_le (by omega)]; rfl
 | succ d ih =>
  intro i k hi hk
  obtain ⟨k, rfl⟩ : ∃ m, k = m + 1 := ⟨k - 1, by omega⟩
  have hlt : i < l.length := by omega
  rw [token_Get.l0, if_pos (by omega), if_pos (by omega), if_pos (by omega), rd41 l i hlt, List.drop_eq_getElem_cons hlt, getS]
  by_cases h : l[i].f0.toList = nm.toList
  ·
   rw [if_pos h, if_pos h]
  ·
   rw [if_neg h, if_neg h, wr1 (by omega)]; exact ih (i + 1) k (by omega) (by omega)
theorem get_ok (nm : ByteArray) (l : List S41) (hl : l.length ≤ 1000000000) {k : Nat} (hk : l.length < k) : token_Get.f k l nm = some (getS nm l) := get_l0 nm l hl l.length 0 k (by omega) hk
theorem refGet_l0 (nm : ByteArray) (l : List S41) (hl : l.length ≤ 1000000000) (d : Nat) : ∀ (i k : Nat), i + d = l.length → d < k → marginaliaref04_Get.l0 k l nm (i : Int) = some (getS nm (l.drop i)) := by
 induction d with
 | zero =>
  intro i k hi hk
  obtain ⟨k, rfl⟩ : ∃ m, k = m + 1 := ⟨k - 1, by omega⟩
  rw [marginaliaref04_Get.l0, if_neg (by omega), List.drop_of_length_le (by omega)]; rfl
 | succ d ih =>
  intro i k hi hk
  obtain ⟨k, rfl⟩ : ∃ m, k = m + 1 := ⟨k - 1, by omega⟩
  have hlt : i < l.length := by omega
  rw [marginaliaref04_Get.l0, if_pos (by omega), if_pos (by omega), rd41 l i hlt, List.drop_eq_getElem_cons hlt, getS]
  by_cases h : l[i].f0.toList = nm.toList
  ·
   rw [if_pos h, if_pos h]
  ·
   rw [if_neg h, if_neg h, wr1 (by omega)]; exact ih (i + 1) k (by omega) (by omega)
theorem refGet_ok (nm : ByteArray) (l : List S41) (hl : l.length ≤ 1000000000) {k : Nat} (hk : l.length < k) : marginaliaref04_Get.f k l nm = some (getS nm l) := refGet_l0 nm l hl l.length 0 k (by omega) hk
end
end Go.Proofs.Ytpelfhldgnmhpaa.Pure
namespace Go.Proofs.Ytpelfhldgnmhpaa.Pure
section
open Go.RowKit Go.Proofs.Ytpelfhldgnmhpaa.G Go.Proofs.YtpelfhldgnmhpaaW.PrintWords Go.Proofs.YtpelfhldgnmhpaaW.PrintLast Go.Proofs.Ytpelfhldgnmhpaa.Spec
set_option linter.unusedVariables false
set_option linter.unusedSimpArgs false
/-- A text, decoded. -/
def decB (attr : Bool) (s : ByteArray) : ByteArray := mkB (dec attr s.data.toList)
theorem mkB_self (s : ByteArray) : mkB s.data.toList = s := by
 apply Go.WideShapes.bytes_inj; simp [mkB]
theorem decB_ok (attr : Bool) (s : ByteArray) (h : s.size ≤ 400000) {k : Nat} (hk : 800100 ≤ k) : charref_Decode.f k s attr = some (decB attr s) := by
 have := decode_ok attr s.data.toList (by simp; omega) (k := k) (by simp; omega)
 rw [mkB_self] at this; exact this
theorem extract_le (s : ByteArray) (i j : Nat) : (s.extract i j).size ≤ s.size := by simp; omega
theorem cutTxt_le (s : ByteArray) (i : Nat) (t : ByteArray) (h : i ≤ s.size) : (token_reader.cutTxt s i t).size ≤ s.size := by
 have h1 := token_reader.cut_len (s.data.toList.drop i) t.data.toList
 have e : (s.data.toList.drop i).length = s.size - i := by simp
 have : (token_reader.cutTxt s i t).size = (Lib.cut (s.data.toList.drop i) t.data.toList).1.length := by unfold token_reader.cutTxt; simp [ByteArray.size]
 omega
theorem val2_size (s : ByteArray) (j : Nat) (h : j ≤ s.size) : (token_reader.val2 s j).1.size ≤ s.size := by
 unfold token_reader.val2
 split
 ·
  rename_i h2
  exact cutTxt_le s _ _ (token_reader.here_le h h2)
 ·
  split
  ·
   rename_i h2
   exact cutTxt_le s _ _ (token_reader.here_le h h2)
  ·
   exact extract_le _ _ _
theorem val_size (s : ByteArray) (i : Nat) (h : i ≤ s.size) : (token_reader.val s i).1.size ≤ s.size := val2_size s _ (token_until.to_le token_until.pN s i h).2
/-- An attribute's value, as it is told. -/
def attrS (s : ByteArray) (m : Nat) : ByteArray × Nat := if token_reader.here s m ⟨#[61]⟩ = true then (decB true (token_reader.val s (m + 1)).1, (token_reader.val s (m + 1)).2) else (⟨#[]⟩, m)
theorem attrV_ok (s : ByteArray) (m : Nat) (h : m ≤ s.size) (hs : s.size ≤ 400000) {k : Nat} (hk : 800100 ≤ k) : token_reader.attrV k s m = some (attrS s m) := by
 unfold token_reader.attrV attrS
 split
 ·
  rename_i h2
  have h3 : m + 1 ≤ s.size := token_reader.here_le h h2
  rw [decB_ok true _ (Nat.le_trans (val_size s _ h3) hs) hk]; rfl
 ·
  rfl
/-- A tag's attributes from a place on. -/
def tagS (s : ByteArray) (i : Nat) (l : List S41) : Option (List S41 × Bool) × Nat :=
  if h1 : s.size ≤ token_until.to token_until.pG s i then (none, token_until.to token_until.pG s i)
  else if token_reader.here s (token_until.to token_until.pG s i) ⟨#[62]⟩ = true then (some (l, token_reader.slash s i (token_until.to token_until.pG s i)), token_until.to token_until.pG s i + 1)
  else if h2 : i < (attrS s (token_until.to token_until.pN s (token_reader.attrEnd s (token_until.to token_until.pG s i)))).2 then
    tagS s (attrS s (token_until.to token_until.pN s (token_reader.attrEnd s (token_until.to token_until.pG s i)))).2
      (if (getS (token_reader.low s (token_until.to token_until.pG s i) (token_reader.attrEnd s (token_until.to token_until.pG s i))) l).2 = true then l
       else l ++ [⟨token_reader.low s (token_until.to token_until.pG s i) (token_reader.attrEnd s (token_until.to token_until.pG s i)), (attrS s (token_until.to token_until.pN s (token_reader.attrEnd s (token_until.to token_until.pG s i)))).1⟩])
  else (none, s.size)
termination_by s.size + 1 - i
decreasing_by
  have hq : i ≤ token_until.to token_until.pG s i := by unfold token_until.to; omega
  omega
theorem attrS_le (s : ByteArray) (q : Nat) (hq : q < s.size) (hs : s.size ≤ 400000) : q + 1 ≤ (attrS s (token_until.to token_until.pN s (token_reader.attrEnd s q))).2 ∧ (attrS s (token_until.to token_until.pN s (token_reader.attrEnd s q))).2 ≤ s.size := by
 have h1 := token_until.to_le (token_until.pE ⟨#[47, 62, 61]⟩) s (q + 1) hq
 have h2 := token_until.to_le token_until.pN s (token_reader.attrEnd s q) h1.2
 exact token_reader.attrV_le s q hq (attrV_ok s _ h2.2 hs (Nat.le_refl 800100))
theorem tagL_ok (s : ByteArray) (hs : s.size ≤ 400000) (d : Nat) : ∀ (i k : Nat) (l : List S41), i + d = s.size → l.length ≤ i → 800200 + d ≤ k → token_reader_tag.l k s i l = some (tagS s i l) := by
 induction d using Nat.strongRecOn with
 | _ d ih =>
  intro i k l hi hl hk
  obtain ⟨k, rfl⟩ : ∃ m, k = m + 1 := ⟨k - 1, by omega⟩
  have hq := token_until.to_le token_until.pG s i (by omega)
  unfold token_reader_tag.l
  rw [tagS]
  by_cases h1 : s.size ≤ token_until.to token_until.pG s i
  ·
   rw [if_pos h1, dif_pos h1]
  ·
   rw [if_neg h1, dif_neg h1]
   by_cases h2 : token_reader.here s (token_until.to token_until.pG s i) ⟨#[62]⟩ = true
   ·
    rw [if_pos h2, if_pos h2]
   ·
    rw [if_neg h2, if_neg h2]
    have ha := attrS_le s (token_until.to token_until.pG s i) (by omega) hs
    have hm := token_until.to_le (token_until.pE ⟨#[47, 62, 61]⟩) s (token_until.to token_until.pG s i + 1) (by omega)
    have hm2 := token_until.to_le token_until.pN s (token_reader.attrEnd s (token_until.to token_until.pG s i)) hm.2
    rw [attrV_ok s _ hm2.2 hs (by omega), dif_pos (by omega), Option.bind_some, get_ok _ l (by omega) (by omega), Option.bind_some]
    refine ih (s.size - (attrS s (token_until.to token_until.pN s (token_reader.attrEnd s (token_until.to token_until.pG s i)))).2) (by omega) _ k _ (by omega) ?_ (by omega)
    split
    ·
     omega
    ·
     rw [List.length_append, List.length_singleton]; omega
/-- A tag from its name on. -/
def tagT (s : ByteArray) (i : Nat) (kd : Int) : TokV :=
  let p := tagS s (token_until.to (token_until.pE ⟨#[47, 62]⟩) s i) []
  ⟨token_reader_tag.kind kd p.1, token_reader_tag.name (token_reader.low s i (token_until.to (token_until.pE ⟨#[47, 62]⟩) s i)) p.1, token_reader_tag.attrs kd p.1, token_reader_tag.closed kd p.1, ⟨#[]⟩, p.2⟩
theorem tagV_ok (s : ByteArray) (i : Nat) (kd : Int) (hi : i ≤ s.size) (hs : s.size ≤ 400000) {k : Nat} (hk : 1300000 ≤ k) : token_reader.tagV k s i kd = some (tagT s i kd) := by
 have h1 := token_until.to_le (token_until.pE ⟨#[47, 62]⟩) s i hi
 unfold token_reader.tagV
 rw [tagL_ok s hs (s.size - token_until.to (token_until.pE ⟨#[47, 62]⟩) s i) _ k [] (by omega) (Nat.zero_le _) (by omega)]
 rfl
def rawT (s name : ByteArray) (i : Nat) : TokV :=
  if i < token_reader.rawTo s name i then ⟨1, ⟨#[]⟩, [], false, s.extract i (token_reader.rawTo s name i), token_reader.rawTo s name i⟩ else tagT s (i + 2) 3
theorem rawV_ok (s name : ByteArray) (i : Nat) (hi : i < s.size) (hs : s.size ≤ 400000) {k : Nat} (hk : 1300000 ≤ k) : token_reader.rawV k s name i = some (rawT s name i) := by
 unfold token_reader.rawV rawT
 split
 ·
  rfl
 ·
  rename_i h
  have h1 := token_reader.rawTo_le s name i (by omega)
  refine tagV_ok s (i + 2) 3 ?_ hs hk
  cases hc : token_closes.b (s.extract i s.size) name with
  | true => exact token_closes.two (by omega) hc
  | false =>
   exfalso
   have h2 : token_reader.rawTo s name i = token_reader.rawTo s name (i + 1) := seek_go _ _ i hi hc
   have h3 := token_reader.rawTo_le s name (i + 1) hi
   omega
theorem toList_data (a : ByteArray) : a.toList = a.data.toList := by rw [ByteArray.toList_eq]
theorem prefix_take (a b : List UInt8) : b.isPrefixOf a = (decide (b.length ≤ a.length) && a.take b.length == b) := by
 rw [Bool.eq_iff_iff, List.isPrefixOf_iff_prefix, Bool.and_eq_true, decide_eq_true_eq, beq_iff_eq, List.prefix_iff_eq_take]
 constructor
 ·
  intro h
  have h2 : b.length ≤ a.length := by
   have := congrArg List.length h; simp at this; omega
  exact ⟨h2, h.symm⟩
 ·
  rintro ⟨_, h⟩; exact h.symm
theorem hasPrefix_ok (a b : ByteArray) : strings_HasPrefix.f a b = some (Lib.hasPrefix a.data.toList b.data.toList) := by
 unfold strings_HasPrefix.f stringslite_HasPrefix.f Lib.hasPrefix
 rw [prefix_take]
 by_cases h : b.size ≤ a.size
 ·
  rw [if_pos (by omega), if_pos (by omega), if_pos (by omega), toList_data, toList_data]
  simp [h, ByteArray.data_extract]
 ·
  rw [if_neg (by omega)]
  simp [h]
theorem suffix_ok (a b : ByteArray) (ha : a.size ≤ 1000000000) : strings_CutSuffix.f a b = some (if Lib.hasSuffix a.data.toList b.data.toList = true then (a.extract 0 (a.size - b.size), true) else (a, false)) := by
 have hs : Lib.hasSuffix a.data.toList b.data.toList = (decide (b.size ≤ a.size) && (a.data.toList.drop (a.size - b.size)) == b.data.toList) := by
  unfold Lib.hasSuffix
  rw [Bool.eq_iff_iff, List.isSuffixOf_iff_suffix, Bool.and_eq_true, decide_eq_true_eq, beq_iff_eq, List.suffix_iff_eq_drop]
  have e1 : a.data.toList.length = a.size := by simp
  have e2 : b.data.toList.length = b.size := by simp
  rw [e1, e2]
  constructor
  ·
   intro h
   have : b.size ≤ a.size := by have := congrArg List.length h; simp at this; omega
   exact ⟨this, h.symm⟩
  ·
   rintro ⟨_, h⟩; exact h.symm
 rw [hs]
 unfold strings_CutSuffix.f stringslite_CutSuffix.f stringslite_HasSuffix.f
 by_cases h : b.size ≤ a.size
 ·
  have hw : wrap64 ((a.size : Int) - (b.size : Int)) = ((a.size - b.size : Nat) : Int) := by unfold wrap64; omega
  rw [if_pos (by omega), hw, if_pos (by omega), if_pos (by omega), Option.bind_some, toList_data, toList_data, Int.toNat_natCast]
  have e : (a.extract (a.size - b.size) a.size).data.toList = a.data.toList.drop (a.size - b.size) := by simp [ByteArray.data_extract, List.take_of_length_le]
  rw [e]
  by_cases h2 : a.data.toList.drop (a.size - b.size) = b.data.toList
  ·
   simp [h2, h]
  ·
   have : (a.data.toList.drop (a.size - b.size) == b.data.toList) = false := by simpa using h2
   rw [this]; simp
 ·
  rw [if_neg (by omega)]
  simp [h]
theorem past_ok (s : ByteArray) (i : Nat) (t : ByteArray) (hi : i ≤ s.size) (hs : s.size ≤ 1000000000) (ht : t.size ≤ 1000) : token_reader_past.f s (i : Int) t = some (token_reader.here s i t, s, if token_reader.here s i t = true then ((i + t.size : Nat) : Int) else (i : Int)) := by
 unfold token_reader_past.f token_reader_rest.f
 rw [if_pos (by omega), if_pos (by omega), Option.bind_some, hasPrefix_ok, Option.bind_some]
 have e : (s.extract (i : Int).toNat s.size).data.toList = s.data.toList.drop i := by simp [ByteArray.data_extract, List.take_of_length_le]
 rw [e]
 have hw : wrap64 ((i : Int) + (t.size : Int)) = ((i + t.size : Nat) : Int) := by unfold wrap64; omega
 unfold token_reader.here
 cases Lib.hasPrefix (s.data.toList.drop i) t.data.toList with
 | true => rw [if_pos rfl, if_pos rfl]; simp only [hw]
 | false => rw [if_neg (by simp), if_neg (by simp)]
/-- Where a comment's end stands, and how long it is. -/
def comScan : List UInt8 → Nat → Option (Nat × Nat)
  | [], _ => none
  | c :: r, j => if Lib.hasPrefix (c :: r) [45, 45, 62] = true then some (j, 3) else if Lib.hasPrefix (c :: r) [45, 45, 33, 62] = true then some (j, 4) else comScan r (j + 1)
/-- What is left of a comment that does not end. -/
def comTail (r : ByteArray) : ByteArray :=
  if Lib.hasSuffix r.data.toList [45, 45, 33] = true then r.extract 0 (r.size - 3) else if Lib.hasSuffix r.data.toList [45, 45] = true then r.extract 0 (r.size - 2) else if Lib.hasSuffix r.data.toList [45] = true then r.extract 0 (r.size - 1) else r
def comS (s : ByteArray) (i : Nat) : ByteArray × Nat :=
  if token_reader.here s i ⟨#[62]⟩ = true then (⟨#[]⟩, i + 1) else if token_reader.here s i ⟨#[45, 62]⟩ = true then (⟨#[]⟩, i + 2)
  else match comScan (s.data.toList.drop i) 0 with
    | some (j, n) => (s.extract i (i + j), i + j + n)
    | none => (comTail (s.extract i s.size), s.size)
theorem w01 : wrap64 (0 + 1) = 1 := by unfold wrap64; omega
theorem w12 : wrap64 (1 + 1) = 2 := by unfold wrap64; omega
theorem w23 : wrap64 (2 + 1) = 3 := by unfold wrap64; omega
theorem com_l2 (r s : ByteArray) (hr : r.size ≤ 1000000000) {k : Nat} (hk : 5 ≤ k) : token_reader_comment.l2 k r [(⟨#[45, 45, 33]⟩ : ByteArray), (⟨#[45, 45]⟩ : ByteArray), (⟨#[45]⟩ : ByteArray)] 3 0 s (s.size : Int) = some (comTail r, s, (s.size : Int)) := by
 obtain ⟨k, rfl⟩ : ∃ m, k = m + 4 := ⟨k - 4, by omega⟩
 have r0 : rdOf ByteArray.empty [(⟨#[45, 45, 33]⟩ : ByteArray), (⟨#[45, 45]⟩ : ByteArray), (⟨#[45]⟩ : ByteArray)] 0 = ⟨#[45, 45, 33]⟩ := rfl
 have r1 : rdOf ByteArray.empty [(⟨#[45, 45, 33]⟩ : ByteArray), (⟨#[45, 45]⟩ : ByteArray), (⟨#[45]⟩ : ByteArray)] 1 = ⟨#[45, 45]⟩ := rfl
 have r2 : rdOf ByteArray.empty [(⟨#[45, 45, 33]⟩ : ByteArray), (⟨#[45, 45]⟩ : ByteArray), (⟨#[45]⟩ : ByteArray)] 2 = ⟨#[45]⟩ := rfl
 unfold comTail
 rw [token_reader_comment.l2, if_pos (by decide), if_pos (by decide), if_pos (by decide), r0, suffix_ok r _ hr, Option.bind_some]
 have d0 : (⟨#[45, 45, 33]⟩ : ByteArray).data.toList = [45, 45, 33] := rfl
 have d1 : (⟨#[45, 45]⟩ : ByteArray).data.toList = [45, 45] := rfl
 have d2 : (⟨#[45]⟩ : ByteArray).data.toList = [45] := rfl
 rw [d0]
 cases h0 : Lib.hasSuffix r.data.toList [45, 45, 33] with
 | true => rfl
 | false =>
  simp only [Bool.false_eq_true, if_false]
  rw [w01, token_reader_comment.l2, if_pos (by decide), if_pos (by decide), if_pos (by decide), r1, suffix_ok r _ hr, Option.bind_some, d1]
  cases h1 : Lib.hasSuffix r.data.toList [45, 45] with
  | true => rfl
  | false =>
   simp only [Bool.false_eq_true, if_false]
   rw [w12, token_reader_comment.l2, if_pos (by decide), if_pos (by decide), if_pos (by decide), r2, suffix_ok r _ hr, Option.bind_some, d2]
   cases h2 : Lib.hasSuffix r.data.toList [45] with
   | true => rfl
   | false =>
    simp only [Bool.false_eq_true, if_false]
    rw [w23, token_reader_comment.l2, if_neg (by decide)]
theorem wi3 {i j : Nat} (h : i ≤ 1000000) (h2 : j ≤ 1000000) : wrap64 ((i : Int) + wrap64 ((j : Int) + 3)) = ((i + j + 3 : Nat) : Int) := by unfold wrap64; omega
theorem wi4 {i j : Nat} (h : i ≤ 1000000) (h2 : j ≤ 1000000) : wrap64 ((i : Int) + wrap64 ((j : Int) + 4)) = ((i + j + 4 : Nat) : Int) := by unfold wrap64; omega
theorem com_l0 (s : ByteArray) (i : Nat) (r : ByteArray) (hs : s.size ≤ 400000) (hi : i ≤ s.size) (hr : r = s.extract i s.size) (d : Nat) : ∀ (j k : Nat), j + d = r.size → 4 * d + 10 ≤ k →
    token_reader_comment.l0 k r (r.size : Int) (j : Int) s (i : Int) = some (match comScan (r.data.toList.drop j) j with | some (a, n) => (r.extract 0 a, s, ((i + a + n : Nat) : Int)) | none => (comTail r, s, (s.size : Int))) := by
 have hrs : r.size = s.size - i := by rw [hr]; simp
 have hlen : r.data.toList.length = r.size := by simp
 induction d with
 | zero =>
  intro j k hj hk
  obtain ⟨k, rfl⟩ : ∃ m, k = m + 1 := ⟨k - 1, by omega⟩
  rw [token_reader_comment.l0, if_neg (by omega), List.drop_of_length_le (by omega), Option.bind_some]
  exact com_l2 r s (by omega) (by omega)
 | succ d ih =>
  intro j k hj hk
  obtain ⟨k, rfl⟩ : ∃ m, k = m + 4 := ⟨k - 4, by omega⟩
  have hlt : j < r.data.toList.length := by omega
  have r0 : rdOf ByteArray.empty [(⟨#[45, 45, 62]⟩ : ByteArray), (⟨#[45, 45, 33, 62]⟩ : ByteArray)] 0 = ⟨#[45, 45, 62]⟩ := rfl
  have r1 : rdOf ByteArray.empty [(⟨#[45, 45, 62]⟩ : ByteArray), (⟨#[45, 45, 33, 62]⟩ : ByteArray)] 1 = ⟨#[45, 45, 33, 62]⟩ := rfl
  have hex : (r.extract (j : Int).toNat r.size).data.toList = r.data.toList.drop j := by simp [ByteArray.data_extract, List.take_of_length_le]
  have hcs : r.data.toList.drop j = r.data.toList[j] :: r.data.toList.drop (j + 1) := List.drop_eq_getElem_cons hlt
  rw [token_reader_comment.l0, if_pos (by omega), Option.bind_some, token_reader_comment.l1, if_pos (by decide), if_pos (by decide), if_pos (by decide), if_pos (by omega), if_pos (by omega), r0, hasPrefix_ok, Option.bind_some, hex]
  have d0 : (⟨#[45, 45, 62]⟩ : ByteArray).data.toList = [45, 45, 62] := rfl
  have d1 : (⟨#[45, 45, 33, 62]⟩ : ByteArray).data.toList = [45, 45, 33, 62] := rfl
  have s0 : ((⟨#[45, 45, 62]⟩ : ByteArray).size : Int) = 3 := rfl
  have s1 : ((⟨#[45, 45, 33, 62]⟩ : ByteArray).size : Int) = 4 := rfl
  rw [d0, s0]
  rw [hcs, comScan]
  cases h0 : Lib.hasPrefix (r.data.toList[j] :: r.data.toList.drop (j + 1)) [45, 45, 62] with
  | true =>
   rw [if_pos rfl, if_pos rfl]
   rw [wi3 (by omega) (by omega), Int.toNat_natCast]
  | false =>
   rw [if_neg (by simp), if_neg (by simp), w01, token_reader_comment.l1, if_pos (by decide), if_pos (by decide), if_pos (by decide), if_pos (by omega), if_pos (by omega), r1, hasPrefix_ok, Option.bind_some, hex, d1, s1, hcs]
   cases h1 : Lib.hasPrefix (r.data.toList[j] :: r.data.toList.drop (j + 1)) [45, 45, 33, 62] with
   | true =>
    rw [if_pos rfl, if_pos rfl]
    rw [wi4 (by omega) (by omega), Int.toNat_natCast]
   | false =>
    rw [if_neg (by simp), if_neg (by simp), w12, token_reader_comment.l1, if_neg (by decide), wr1 (by omega)]
    exact ih (j + 1) k (by omega) (by omega)
theorem comment_ok (s : ByteArray) (i : Nat) (hi : i ≤ s.size) (hs : s.size ≤ 400000) {k : Nat} (hk : 1700000 ≤ k) : token_reader_comment.f k s (i : Int) = some ((comS s i).1, s, ((comS s i).2 : Int)) := by
 unfold token_reader_comment.f comS
 rw [past_ok s i _ hi (by omega) (by decide), Option.bind_some]
 obtain ⟨k, rfl⟩ : ∃ m, k = m + 1 := ⟨k - 1, by omega⟩
 cases h0 : token_reader.here s i ⟨#[62]⟩ with
 | true =>
  simp only [if_true]
  rw [token_reader_comment.j0, if_pos rfl]; rfl
 | false =>
  simp only [Bool.false_eq_true, if_false]
  rw [past_ok s i _ hi (by omega) (by decide), Option.bind_some]
  cases h1 : token_reader.here s i ⟨#[45, 62]⟩ with
  | true =>
   simp only [if_true]
   rw [token_reader_comment.j0, if_pos rfl]; rfl
  | false =>
   simp only [Bool.false_eq_true, if_false]
   rw [token_reader_comment.j0, if_neg (by simp)]
   unfold token_reader_rest.f
   rw [if_pos (by omega), if_pos (by omega), Option.bind_some]
   have hn : (i : Int).toNat = i := by simp
   simp only [hn]
   have hz : (s.extract i s.size).size = s.size - i := by simp
   have := com_l0 s i (s.extract i s.size) hs hi rfl (s.extract i s.size).size 0 k (by omega) (by omega)
   have hl : (s.extract i s.size).data.toList.drop 0 = s.data.toList.drop i := by simp [ByteArray.data_extract, List.take_of_length_le]
   rw [hl] at this
   refine Eq.trans this ?_
   cases hc : comScan (s.data.toList.drop i) 0 with
   | none => rfl
   | some p =>
    obtain ⟨a, n⟩ := p
    simp only
    congr 2
    apply Go.WideShapes.bytes_inj
    simp [ByteArray.data_extract, List.take_of_length_le, Nat.add_sub_cancel_left]
    omega
theorem comScan_le : ∀ (l : List UInt8) (j a n : Nat), comScan l j = some (a, n) → j ≤ a ∧ a + n ≤ j + l.length
  | [], j, a, n, h => by cases h
  | c :: r, j, a, n, h => by
    rw [comScan] at h
    split at h
    · rename_i h2
      simp only [Option.some.injEq, Prod.mk.injEq] at h
      obtain ⟨rfl, rfl⟩ := h
      have := (List.isPrefixOf_iff_prefix.1 h2).length_le
      simp at this ⊢; omega
    · split at h
      · rename_i h2
        simp only [Option.some.injEq, Prod.mk.injEq] at h
        obtain ⟨rfl, rfl⟩ := h
        have := (List.isPrefixOf_iff_prefix.1 h2).length_le
        simp at this ⊢; omega
      · have := comScan_le r (j + 1) a n h
        simp; omega
theorem comS_le (s : ByteArray) (i : Nat) (hi : i ≤ s.size) : i ≤ (comS s i).2 ∧ (comS s i).2 ≤ s.size := by
 unfold comS
 split
 ·
  rename_i h; have : i + 1 ≤ s.size := token_reader.here_le hi h; simp; omega
 ·
  split
  ·
   rename_i h; have : i + 2 ≤ s.size := token_reader.here_le hi h; simp; omega
  ·
   split
   ·
    rename_i a n h
    have := comScan_le _ _ _ _ h
    simp at this ⊢; omega
   ·
    simp; omega
/-- What a declaration is. -/
def declT (s : ByteArray) (i : Nat) : TokV :=
  if token_reader.here s i ⟨#[45, 45]⟩ = true then ⟨4, ⟨#[]⟩, [], false, (comS s (i + 2)).1, (comS s (i + 2)).2⟩
  else if token_reader.isDoc s i = true then ⟨5, ⟨#[]⟩, [], false, ⟨#[]⟩, token_reader.cutAt s i ⟨#[62]⟩⟩
  else token_reader.otherV s i
theorem declV_ok (s : ByteArray) (i : Nat) (hi : i ≤ s.size) (hs : s.size ≤ 400000) {k : Nat} (hk : 1700000 ≤ k) : token_reader.declV k s i = some (declT s i) := by
 unfold token_reader.declV token_reader.decl declT
 split
 ·
  rename_i h
  have h2 : i + 2 ≤ s.size := token_reader.here_le hi h
  rw [comment_ok s (i + 2) h2 hs hk, Option.bind_some]
  simp only
  rw [if_pos ⟨trivial, by omega⟩]
  simp
 ·
  split <;> rfl
theorem declT_le (s : ByteArray) (i : Nat) (hi : i ≤ s.size) : i ≤ (declT s i).e ∧ (declT s i).e ≤ s.size := by
 unfold declT
 split
 ·
  rename_i h
  have h2 : i + 2 ≤ s.size := token_reader.here_le hi h
  have := comS_le s (i + 2) h2
  simp; omega
 ·
  split
  ·
   exact token_reader.cutAt_le s i _ hi
  ·
   exact token_reader.cutAt_le s i _ hi
def textT (s : ByteArray) (i : Nat) : TokV := ⟨1, ⟨#[]⟩, [], false, decB false (s.extract i (token_reader.textTo s i)), token_reader.textTo s i⟩
theorem textV_ok (s : ByteArray) (i : Nat) (hs : s.size ≤ 400000) {k : Nat} (hk : 800100 ≤ k) : token_reader.textV k s i = some (textT s i) := by
 unfold token_reader.textV
 rw [decB_ok false _ (Nat.le_trans (extract_le _ _ _) hs) hk]; rfl
/-- The next token in ModeData, from a place on. -/
def dataT (s : ByteArray) (i : Nat) (fo : Bool) : TokV :=
  if h1 : s.size ≤ i then TokV.end_ i
  else if token_begins.b (s.data.toList.drop i) = false then textT s i
  else if token_reader.here s i ⟨#[60, 47, 62]⟩ = true then dataT s (i + 3) fo
  else if (fo && token_reader.here s i token_reader.cdataW) = true then
    if (token_reader.cutTxt s (i + 9) ⟨#[93, 93, 62]⟩).toList = [] then
      if h2 : i < token_reader.cutAt s (i + 9) ⟨#[93, 93, 62]⟩ then dataT s (token_reader.cutAt s (i + 9) ⟨#[93, 93, 62]⟩) fo else TokV.end_ i
    else ⟨1, ⟨#[]⟩, [], false, token_reader.cutTxt s (i + 9) ⟨#[93, 93, 62]⟩, token_reader.cutAt s (i + 9) ⟨#[93, 93, 62]⟩⟩
  else if token_reader.here s i ⟨#[60, 33]⟩ = true then declT s (i + 2)
  else if token_reader.here s i ⟨#[60, 47]⟩ = true then
    if token_begins.letter (token_reader.byte s (i + 2)) = true then tagT s (i + 2) 3 else token_reader.otherV s (i + 2)
  else if token_reader.byte s (i + 1) = 63 then token_reader.otherV s (i + 1) else tagT s (i + 1) 2
termination_by s.size - i
theorem dataV_ok (s : ByteArray) (fo : Bool) (hs : s.size ≤ 400000) (d : Nat) : ∀ (i k : Nat), i + d = s.size → 1700000 + d < k → token_reader.dataV k s i fo = some (dataT s i fo) := by
 induction d using Nat.strongRecOn with
 | _ d ih =>
  intro i k hi hk
  obtain ⟨k, rfl⟩ : ∃ m, k = m + 1 := ⟨k - 1, by omega⟩
  rw [token_reader.dataV, dataT]
  by_cases h1 : s.size ≤ i
  ·
   rw [if_pos h1, dif_pos h1]
  ·
   rw [if_neg h1, dif_neg h1]
   by_cases hb : token_begins.b (s.data.toList.drop i) = false
   ·
    rw [if_pos hb, if_pos hb, textV_ok s i hs (by omega)]
   ·
    rw [if_neg hb, if_neg hb]
    have hb' : token_begins.b (s.data.toList.drop i) = true := by simpa using hb
    have h2 := token_begins.two hb'
    by_cases h3 : token_reader.here s i ⟨#[60, 47, 62]⟩ = true
    ·
     rw [if_pos h3, if_pos h3]
     have : i + 3 ≤ s.size := token_reader.here_le (by omega) h3
     exact ih (d - 3) (by omega) (i + 3) k (by omega) (by omega)
    ·
     rw [if_neg h3, if_neg h3]
     by_cases h9 : (fo && token_reader.here s i token_reader.cdataW) = true
     ·
      rw [if_pos h9, if_pos h9]
      have h9' := h9
      simp only [Bool.and_eq_true] at h9'
      have hl : i + 9 ≤ s.size := token_reader.here_le (by omega) h9'.2
      have hc := token_reader.cutAt_le s (i + 9) ⟨#[93, 93, 62]⟩ hl
      by_cases he : (token_reader.cutTxt s (i + 9) ⟨#[93, 93, 62]⟩).toList = []
      ·
       rw [if_pos he, if_pos he, dif_pos (by omega)]
       exact ih (s.size - token_reader.cutAt s (i + 9) ⟨#[93, 93, 62]⟩) (by omega) _ k (by omega) (by omega)
      ·
       rw [if_neg he, if_neg he]
     ·
      rw [if_neg h9, if_neg h9]
      by_cases h33 : token_reader.here s i ⟨#[60, 33]⟩ = true
      ·
       rw [if_pos h33, if_pos h33]
       exact declV_ok s (i + 2) (token_reader.here_le (by omega) h33) hs (by omega)
      ·
       rw [if_neg h33, if_neg h33]
       by_cases h47 : token_reader.here s i ⟨#[60, 47]⟩ = true
       ·
        rw [if_pos h47, if_pos h47]
        have h4 := token_begins.three hb' h47
        split
        ·
         exact tagV_ok s (i + 2) 3 (by omega) hs (by omega)
        ·
         rfl
       ·
        rw [if_neg h47, if_neg h47]
        split
        ·
         rfl
        ·
         exact tagV_ok s (i + 1) 2 (by omega) hs (by omega)
/-- The next token. -/
def nextT (s : ByteArray) (a m : Int) (name : ByteArray) (fo : Bool) : TokV :=
  if a < 0 ∨ (s.size : Int) ≤ a then TokV.end_ s.size
  else if m = 3 then ⟨1, ⟨#[]⟩, [], false, s.extract a.toNat s.size, s.size⟩
  else TokV.fin s (if m = 2 then rawT s name a.toNat else if m = 1 then { rawT s name a.toNat with tx := decB false (rawT s name a.toNat).tx } else dataT s a.toNat fo)
theorem rawT_tx (s name : ByteArray) (i : Nat) : (rawT s name i).tx.size ≤ s.size := by
  unfold rawT
  split
  · exact extract_le _ _ _
  · exact Nat.zero_le _
theorem next_ok (s : ByteArray) (a m : Int) (name : ByteArray) (fo : Bool) (hs : s.size ≤ 400000) (hn : name.size ≤ 400000) {k : Nat} (hk : 2200000 ≤ k) : token_Next.f k s a m name fo = some (nextT s a m name fo).tuple := by
 unfold token_Next.f token_Next.V nextT
 rw [if_pos ⟨by omega, by omega⟩]
 by_cases ha : a < 0 ∨ (s.size : Int) ≤ a
 ·
  rw [if_pos ha, if_pos ha]; rfl
 ·
  rw [if_neg ha, if_neg ha]
  by_cases m3 : m = 3
  ·
   rw [if_pos m3, if_pos m3]; rfl
  ·
   rw [if_neg m3, if_neg m3]
   unfold token_Next.v
   have hlt : a.toNat < s.size := by omega
   by_cases m2 : m = 2
   ·
    rw [if_pos m2, if_pos m2, rawV_ok s name _ hlt hs (by omega)]; rfl
   ·
    rw [if_neg m2, if_neg m2]
    by_cases m1 : m = 1
    ·
     rw [if_pos m1, if_pos m1, rawV_ok s name _ hlt hs (by omega), Option.bind_some]
     unfold TokV.dec
     rw [decB_ok false _ (Nat.le_trans (rawT_tx s name _) hs) (by omega)]; rfl
    ·
     rw [if_neg m1, if_neg m1, dataV_ok s fo hs (s.size - a.toNat) a.toNat k (by omega) (by omega)]; rfl
theorem dec_ne (attr : Bool) (l : List UInt8) (h : l ≠ []) : dec attr l ≠ [] := by
 cases l with
 | nil => exact absurd rfl h
 | cons c r =>
  rw [dec_cons]
  split
  ·
   intro e; exact (ref_len attr r).2.2 (List.append_eq_nil_iff.1 e).1
  ·
   simp
theorem ne_of_size {s : ByteArray} (h : 0 < s.size) : s.data.toList ≠ [] := by
 intro e
 have h2 : s.data.toList.length = s.size := by simp
 rw [e, List.length_nil] at h2
 omega
theorem decB_ne (attr : Bool) (s : ByteArray) (h : 0 < s.size) : (decB attr s).toList ≠ [] := by
 rw [toList_data]; exact dec_ne attr _ (ne_of_size h)
/-- No name stands twice. -/
def Names (l : List S41) : Prop := l.Pairwise fun a b => ¬ b.f0.toList = a.f0.toList
theorem getS_no (nm : ByteArray) : ∀ (l : List S41), (getS nm l).2 = false → ∀ a ∈ l, ¬ nm.toList = a.f0.toList
  | [], _, a, ha => by cases ha
  | b :: l, h, a, ha => by
    rw [getS] at h
    by_cases hb : b.f0.toList = nm.toList
    · rw [if_pos hb] at h; cases h
    · rw [if_neg hb] at h
      rcases List.mem_cons.1 ha with rfl | ha
      · exact fun e => hb e.symm
      · exact getS_no nm l h a ha
theorem tagS_names (s : ByteArray) (hs : s.size ≤ 400000) (d : Nat) : ∀ (i : Nat) (l : List S41), i + d = s.size → Names l → l.length ≤ i → (i ≤ (tagS s i l).2 ∧ (tagS s i l).2 ≤ s.size) ∧ ∀ p, (tagS s i l).1 = some p → Names p.1 ∧ p.1.length ≤ s.size := by
 induction d using Nat.strongRecOn with
 | _ d ih =>
   intro i l hi hl hll
   have hq := token_until.to_le token_until.pG s i (by omega)
   rw [tagS]
   by_cases h1 : s.size ≤ token_until.to token_until.pG s i
   · rw [dif_pos h1]
     exact ⟨hq, fun p h => by cases h⟩
   · rw [dif_neg h1]
     by_cases h2 : token_reader.here s (token_until.to token_until.pG s i) ⟨#[62]⟩ = true
     · rw [if_pos h2]
       refine ⟨⟨by simp only; omega, by simp only; omega⟩, fun p h => ?_⟩
       obtain rfl := Option.some.inj h
       exact ⟨hl, by simp only; omega⟩
     · rw [if_neg h2]
       have ha := attrS_le s (token_until.to token_until.pG s i) (by omega) hs
       rw [dif_pos (by omega)]
       have := ih (s.size - (attrS s (token_until.to token_until.pN s (token_reader.attrEnd s (token_until.to token_until.pG s i)))).2) (by omega) (attrS s (token_until.to token_until.pN s (token_reader.attrEnd s (token_until.to token_until.pG s i)))).2 (if (getS (token_reader.low s (token_until.to token_until.pG s i) (token_reader.attrEnd s (token_until.to token_until.pG s i))) l).2 = true then l
      else l ++ [⟨token_reader.low s (token_until.to token_until.pG s i) (token_reader.attrEnd s (token_until.to token_until.pG s i)), (attrS s (token_until.to token_until.pN s (token_reader.attrEnd s (token_until.to token_until.pG s i)))).1⟩]) (by omega) ?_ ?_
       · exact ⟨⟨by omega, this.1.2⟩, this.2⟩
       · split
         · exact hl
         · rename_i hg
           refine List.pairwise_append.2 ⟨hl, List.pairwise_singleton _ _, fun a ha b hb => ?_⟩
           rw [List.mem_singleton] at hb
           subst hb
           exact getS_no _ l (by simpa using hg) a ha
       · split
         · omega
         · rw [List.length_append, List.length_singleton]; omega
theorem lower_letter (c : UInt8) (h : token_begins.letter c = true) : 97 ≤ (kind_Lower.c c).toNat ∧ (kind_Lower.c c).toNat ≤ 122 := by
 have : ∀ n : Fin 256, token_begins.letter (UInt8.ofNat n.val) = true → 97 ≤ (kind_Lower.c (UInt8.ofNat n.val)).toNat ∧ (kind_Lower.c (UInt8.ofNat n.val)).toNat ≤ 122 := by decide +kernel
 have h2 := this ⟨c.toNat, c.toNat_lt⟩
 simp only [UInt8.ofNat_toNat] at h2
 exact h2 h
theorem pE_letter (c : UInt8) (h : token_begins.letter c = true) : token_until.pE ⟨#[47, 62]⟩ c = false := by
 have : ∀ n : Fin 256, token_begins.letter (UInt8.ofNat n.val) = true → token_until.pE ⟨#[47, 62]⟩ (UInt8.ofNat n.val) = false := by decide +kernel
 have h2 := this ⟨c.toNat, c.toNat_lt⟩
 simp only [UInt8.ofNat_toNat] at h2
 exact h2 h
/-- A name begins with a small letter. -/
def NameOk (a : ByteArray) : Prop := ∃ c r, a.data.toList = c :: r ∧ 97 ≤ c.toNat ∧ c.toNat ≤ 122
theorem low_head (s : ByteArray) (i : Nat) (c : UInt8) (r : List UInt8) (h : s.data.toList.drop i = c :: r) (hl : token_begins.letter c = true) :
    NameOk (token_reader.low s i (token_until.to (token_until.pE ⟨#[47, 62]⟩) s i)) := by
 refine ⟨kind_Lower.c c, ?_, ?_, lower_letter c hl⟩
 ·
  exact kind_Lower.l (r.take (token_until.len (token_until.pE ⟨#[47, 62]⟩) r))
 ·
  have e : token_until.len (token_until.pE ⟨#[47, 62]⟩) (c :: r) = token_until.len (token_until.pE ⟨#[47, 62]⟩) r + 1 := by
   unfold token_until.len
   rw [List.takeWhile_cons_of_pos (by rw [pE_letter c hl]; rfl)]; rfl
  have e2 : (s.extract i (token_until.to (token_until.pE ⟨#[47, 62]⟩) s i)).data.toList = (s.data.toList.drop i).take (token_until.len (token_until.pE ⟨#[47, 62]⟩) (s.data.toList.drop i)) := by
   unfold token_until.to
   rw [ByteArray.data_extract, Array.toList_extract, List.extract_eq_take_drop, Nat.add_sub_cancel_left]
  unfold token_reader.low kind_Lower.low
  rw [e2, h, e]
  rfl
/-- What a token is like. -/
structure Good (s : ByteArray) (i : Nat) (t : TokV) : Prop where
  lt : t.kd ≠ 0 → i < t.e
  le : t.e ≤ s.size
  tx : t.kd = 1 → t.tx.toList ≠ []
  nm : t.kd = 2 → NameOk t.nm
  ds : Names t.l
  len : t.l.length ≤ s.size
  no : t.kd ≠ 2 → t.l = [] ∧ t.c = false
theorem names_nil : Names [] := List.Pairwise.nil
theorem good_plain (s : ByteArray) (i : Nat) (kd : Int) (tx : ByteArray) (e : Nat) (hk : kd ≠ 2) (h0 : kd ≠ 0 → i < e) (h1 : e ≤ s.size) (h2 : kd = 1 → tx.toList ≠ []) : Good s i ⟨kd, ⟨#[]⟩, [], false, tx, e⟩ :=
  ⟨h0, h1, h2, fun h => absurd h hk, names_nil, Nat.zero_le _, fun _ => ⟨rfl, rfl⟩⟩
theorem good_tag (s : ByteArray) (hs : s.size ≤ 400000) (i j : Nat) (hi : i < j) (hj : j ≤ s.size) (kd : Int) (hk : kd = 2 ∨ kd = 3) (hn : kd = 2 → NameOk (token_reader.low s j (token_until.to (token_until.pE ⟨#[47, 62]⟩) s j))) : Good s i (tagT s j kd) := by
 have h1 := token_until.to_le (token_until.pE ⟨#[47, 62]⟩) s j hj
 have h2 := tagS_names s hs (s.size - token_until.to (token_until.pE ⟨#[47, 62]⟩) s j) (token_until.to (token_until.pE ⟨#[47, 62]⟩) s j) [] (by omega) names_nil (Nat.zero_le _)
 unfold tagT
 simp only
 cases hp : (tagS s (token_until.to (token_until.pE ⟨#[47, 62]⟩) s j) []).1 with
 | none => exact ⟨fun h => absurd rfl h, h2.1.2, (fun h => by cases h), (fun h => by cases h), names_nil, Nat.zero_le _, fun _ => ⟨rfl, rfl⟩⟩
 | some p =>
  have hd := h2.2 p hp
  refine ⟨fun _ => by simp only; omega, h2.1.2, fun h => ?_, fun h => hn h, ?_, ?_, fun h => ?_⟩
  ·
   simp only [token_reader_tag.kind] at h; omega
  ·
   simp only [token_reader_tag.attrs]
   split
   ·
    exact names_nil
   ·
    exact hd.1
  ·
   simp only [token_reader_tag.attrs]
   split
   ·
    exact Nat.zero_le _
   ·
    exact hd.2
  ·
   simp only [token_reader_tag.kind] at h
   simp only [token_reader_tag.attrs, token_reader_tag.closed]
   rw [if_pos (by omega), if_pos (by omega)]
   exact ⟨rfl, rfl⟩
theorem good_other (s : ByteArray) (i j : Nat) (hi : i < j) (hj : j ≤ s.size) : Good s i (token_reader.otherV s j) := by
 have := token_reader.cutAt_le s j ⟨#[62]⟩ hj
 exact good_plain s i 4 _ _ (by decide) (fun _ => by omega) this.2 (fun h => by cases h)
theorem good_decl (s : ByteArray) (i j : Nat) (hi : i < j) (hj : j ≤ s.size) : Good s i (declT s j) := by
 have h := declT_le s j hj
 unfold declT at h ⊢
 split
 ·
  rename_i hc; rw [if_pos hc] at h
  exact good_plain s i 4 _ _ (by decide) (fun _ => by simp only at h; omega) h.2 (fun h => by cases h)
 ·
  rename_i hc; rw [if_neg hc] at h
  split
  ·
   rename_i hd; rw [if_pos hd] at h
   exact good_plain s i 5 _ _ (by decide) (fun _ => by simp only at h; omega) h.2 (fun h => by cases h)
  ·
   exact good_other s i j hi hj
theorem good_text (s : ByteArray) (i : Nat) (hi : i < s.size) (hb : token_begins.b (s.data.toList.drop i) = false) : Good s i (textT s i) := by
 have h1 : token_reader.textTo s i = token_reader.textTo s (i + 1) := seek_go _ _ i hi hb
 have h2 := token_reader.textTo_le s (i + 1) (by omega)
 refine good_plain s i 1 _ _ (by decide) (fun _ => by omega) (by omega) (fun _ => decB_ne _ _ ?_)
 simp; omega
theorem begins_shape {l : List UInt8} (h : token_begins.b l = true) : ∃ c r, l = 60 :: c :: r ∧ (c = 33 ∨ c = 63 ∨ c = 47 ∨ token_begins.letter c = true) := by
 unfold token_begins.b at h
 split at h
 ·
  rename_i c r
  refine ⟨c, r, rfl, ?_⟩
  by_cases h1 : c = 33
  ·
   exact Or.inl h1
  ·
   by_cases h2 : c = 63
   ·
    exact Or.inr (Or.inl h2)
   ·
    by_cases h3 : c = 47
    ·
     exact Or.inr (Or.inr (Or.inl h3))
    ·
     simp [h1, h2, h3] at h
     exact Or.inr (Or.inr (Or.inr h))
 ·
  cases h
theorem here_two {s : ByteArray} {i : Nat} {c : UInt8} {r : List UInt8} (h : s.data.toList.drop i = 60 :: c :: r) (d : UInt8) (hd : token_reader.here s i ⟨#[60, d]⟩ = false) : c ≠ d := by
 rintro rfl
 unfold token_reader.here Lib.hasPrefix at hd
 rw [h] at hd
 simp at hd
theorem byte_drop {s : ByteArray} {i : Nat} {a c : UInt8} {r : List UInt8} (h : s.data.toList.drop i = a :: c :: r) : token_reader.byte s (i + 1) = c ∧ s.data.toList.drop (i + 1) = c :: r := by
 have h2 : s.data.toList.drop (i + 1) = c :: r := by rw [← List.drop_drop, h]; rfl
 refine ⟨?_, h2⟩
 unfold token_reader.byte
 have := congrArg (fun l => l.head?) h2
 simp only [List.head?_drop, List.head?_cons] at this
 rw [List.getD, this]; rfl
theorem good_data (s : ByteArray) (fo : Bool) (hs : s.size ≤ 400000) (d : Nat) : ∀ (i : Nat), i + d = s.size → Good s i (dataT s i fo) := by
 induction d using Nat.strongRecOn with
 | _ d ih =>
  intro i hi
  have up : ∀ (j : Nat) (t : TokV), i ≤ j → Good s j t → Good s i t := fun j t hj h => ⟨fun h0 => Nat.lt_of_le_of_lt hj (h.lt h0), h.le, h.tx, h.nm, h.ds, h.len, h.no⟩
  have end_ : Good s i (TokV.end_ i) := good_plain s i 0 _ _ (by decide) (fun h => absurd rfl h) (by omega) (fun h => by cases h)
  rw [dataT]
  by_cases h1 : s.size ≤ i
  ·
   rw [dif_pos h1]; exact end_
  ·
   rw [dif_neg h1]
   by_cases hb : token_begins.b (s.data.toList.drop i) = false
   ·
    rw [if_pos hb]; exact good_text s i (by omega) hb
   ·
    rw [if_neg hb]
    have hb' : token_begins.b (s.data.toList.drop i) = true := by simpa using hb
    have h2 := token_begins.two hb'
    by_cases h3 : token_reader.here s i ⟨#[60, 47, 62]⟩ = true
    ·
     rw [if_pos h3]
     have : i + 3 ≤ s.size := token_reader.here_le (by omega) h3
     exact up (i + 3) _ (by omega) (ih (d - 3) (by omega) (i + 3) (by omega))
    ·
     rw [if_neg h3]
     by_cases h9 : (fo && token_reader.here s i token_reader.cdataW) = true
     ·
      rw [if_pos h9]
      have h9' := h9
      simp only [Bool.and_eq_true] at h9'
      have hl : i + 9 ≤ s.size := token_reader.here_le (by omega) h9'.2
      have hc := token_reader.cutAt_le s (i + 9) ⟨#[93, 93, 62]⟩ hl
      by_cases he : (token_reader.cutTxt s (i + 9) ⟨#[93, 93, 62]⟩).toList = []
      ·
       rw [if_pos he, dif_pos (by omega)]
       exact up _ _ (by omega) (ih (s.size - token_reader.cutAt s (i + 9) ⟨#[93, 93, 62]⟩) (by omega) _ (by omega))
      ·
       rw [if_neg he]
       exact good_plain s i 1 _ _ (by decide) (fun _ => by omega) hc.2 (fun _ => he)
     ·
      rw [if_neg h9]
      by_cases h33 : token_reader.here s i ⟨#[60, 33]⟩ = true
      ·
       rw [if_pos h33]
       exact good_decl s i (i + 2) (by omega) (token_reader.here_le (by omega) h33)
      ·
       rw [if_neg h33]
       by_cases h47 : token_reader.here s i ⟨#[60, 47]⟩ = true
       ·
        rw [if_pos h47]
        have h4 := token_begins.three hb' h47
        split
        ·
         exact good_tag s hs i (i + 2) (by omega) (by omega) 3 (Or.inr rfl) (fun h => by cases h)
        ·
         exact good_other s i (i + 2) (by omega) (by omega)
       ·
        rw [if_neg h47]
        obtain ⟨c, r, hcr, hc⟩ := begins_shape hb'
        have hby := byte_drop hcr
        split
        ·
         exact good_other s i (i + 1) (by omega) (by omega)
        ·
         rename_i h63
         refine good_tag s hs i (i + 1) (by omega) (by omega) 2 (Or.inl rfl) (fun _ => low_head s (i + 1) c r hby.2 ?_)
         rcases hc with e | e | e | e
         ·
          exact absurd e (here_two hcr 33 (by simpa using h33))
         ·
          exact absurd (hby.1.trans e) h63
         ·
          exact absurd e (here_two hcr 47 (by simpa using h47))
         ·
          exact e
theorem good_raw (s name : ByteArray) (hs : s.size ≤ 400000) (i : Nat) (hi : i < s.size) : Good s i (rawT s name i) := by
 have h1 := token_reader.rawTo_le s name i (by omega)
 unfold rawT
 split
 ·
  rename_i h
  refine good_plain s i 1 _ _ (by decide) (fun _ => h) h1.2 (fun _ => ?_)
  rw [toList_data]
  exact ne_of_size (by simp; omega)
 ·
  rename_i h
  refine good_tag s hs i (i + 2) (by omega) ?_ 3 (Or.inr rfl) (fun h => by cases h)
  cases hc : token_closes.b (s.extract i s.size) name with
  | true => exact token_closes.two (by omega) hc
  | false =>
   exfalso
   have h2 : token_reader.rawTo s name i = token_reader.rawTo s name (i + 1) := seek_go _ _ i hi hc
   have h3 := token_reader.rawTo_le s name (i + 1) hi
   omega
theorem good_dec (s : ByteArray) (i : Nat) (t : TokV) (h : Good s i t) : Good s i { t with tx := decB false t.tx } :=
  ⟨h.lt, h.le, fun h1 => decB_ne _ _ (by
    have := h.tx h1
    rw [toList_data] at this
    rcases Nat.eq_zero_or_pos t.tx.size with h0 | h0
    · exact absurd (List.length_eq_zero_iff.1 (by simpa using h0)) this
    · exact h0), h.nm, h.ds, h.len, h.no⟩
/-- What the next token is like, from a place in the text. -/
theorem next_good (s : ByteArray) (a m : Int) (name : ByteArray) (fo : Bool) (hs : s.size ≤ 400000) (ha : ¬ (a < 0 ∨ (s.size : Int) ≤ a)) :
    Good s a.toNat (nextT s a m name fo) ∧ a.toNat < (nextT s a m name fo).e ∧ ((nextT s a m name fo).kd = 0 → (nextT s a m name fo).e = s.size) := by
 have hlt : a.toNat < s.size := by omega
 unfold nextT
 rw [if_neg ha]
 by_cases m3 : m = 3
 ·
  rw [if_pos m3]
  refine ⟨good_plain s _ 1 _ _ (by decide) (fun _ => hlt) (Nat.le_refl _) (fun _ => ?_), hlt, fun h => by cases h⟩
  rw [toList_data]
  exact ne_of_size (by simp; omega)
 ·
  rw [if_neg m3]
  have fin : ∀ t, Good s a.toNat t → Good s a.toNat (TokV.fin s t) ∧ a.toNat < (TokV.fin s t).e ∧ ((TokV.fin s t).kd = 0 → (TokV.fin s t).e = s.size) := by
   intro t h
   unfold TokV.fin
   split
   ·
    rename_i h0
    exact ⟨⟨fun _ => hlt, Nat.le_refl _, h.tx, h.nm, h.ds, h.len, h.no⟩, hlt, fun _ => rfl⟩
   ·
    rename_i h0
    exact ⟨h, h.lt h0, fun e => absurd e h0⟩
  apply fin
  by_cases m2 : m = 2
  ·
   rw [if_pos m2]; exact good_raw s name hs _ hlt
  ·
   rw [if_neg m2]
   by_cases m1 : m = 1
   ·
    rw [if_pos m1]; exact good_dec _ _ _ (good_raw s name hs _ hlt)
   ·
    rw [if_neg m1]; exact good_data s fo hs (s.size - a.toNat) _ (by omega)
end
end Go.Proofs.Ytpelfhldgnmhpaa.Pure
