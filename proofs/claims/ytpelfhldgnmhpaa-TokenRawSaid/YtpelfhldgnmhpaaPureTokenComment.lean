/- A comment is read as it was; condition: the law's own bounds on the texts' reach. -/
import Derived.Test.YtpelfhldgnmhpaaPureOnw
import Derived.Test.YtpelfhldgnmhpaaG34
namespace Go.Proofs.Ytpelfhldgnmhpaa.Pure
open Go.RowKit Go.Proofs.Ytpelfhldgnmhpaa.G Go.Proofs.YtpelfhldgnmhpaaW.PrintWords Go.Proofs.YtpelfhldgnmhpaaW.PrintLast Go.Proofs.Ytpelfhldgnmhpaa.Spec
set_option linter.unusedVariables false
set_option linter.unusedSimpArgs false

/-- Whether a text stands in another one. -/
def hasL (t : List UInt8) : List UInt8 → Bool
  | [] => false
  | c :: r => Lib.hasPrefix (c :: r) t || hasL t r
theorem hasPrefix_len {a b : List UInt8} (h : Lib.hasPrefix a b = true) : b.length ≤ a.length := (List.isPrefixOf_iff_prefix.1 h).length_le
theorem hasL_short (t : List UInt8) : ∀ l : List UInt8, l.length < t.length → hasL t l = false
  | [], _ => rfl
  | c :: r, h => by
    rw [hasL, hasL_short t r (by simp at h; omega)]
    cases h2 : Lib.hasPrefix (c :: r) t with
    | false => rfl
    | true => have := hasPrefix_len h2; omega
theorem has_l0 (s t : ByteArray) (hs : s.size ≤ 1000000) (ht : 0 < t.size) (ht2 : t.size ≤ 1000) (d : Nat) : ∀ (i k : Nat), i + d = s.size → d < k → marginalialaw04_has.l0 k s t (i : Int) = some (hasL t.data.toList (s.data.toList.drop i)) := by
  have el : s.data.toList.length = s.size := by simp
  have et : t.data.toList.length = t.size := by simp
  induction d with
  | zero =>
    intro i k hi hk
    obtain ⟨k, rfl⟩ : ∃ m, k = m + 1 := ⟨k - 1, by omega⟩
    have hw : wrap64 ((i : Int) + (t.size : Int)) = ((i + t.size : Nat) : Int) := by unfold wrap64; omega
    rw [marginalialaw04_has.l0, hw, if_neg (by omega), hasL_short _ _ (by rw [List.length_drop]; omega)]
  | succ d ih =>
    intro i k hi hk
    obtain ⟨k, rfl⟩ : ∃ m, k = m + 1 := ⟨k - 1, by omega⟩
    have hw : wrap64 ((i : Int) + (t.size : Int)) = ((i + t.size : Nat) : Int) := by unfold wrap64; omega
    rw [marginalialaw04_has.l0, hw]
    by_cases h : i + t.size ≤ s.size
    · rw [if_pos (by omega), if_pos (by omega), if_pos (by omega), toList_data, toList_data, Int.toNat_natCast, Int.toNat_natCast]
      have e : (s.extract i (i + t.size)).data.toList = (s.data.toList.drop i).take t.size := by
        rw [ByteArray.data_extract, Array.toList_extract, List.extract_eq_take_drop, Nat.add_sub_cancel_left]
      have hlt : i < s.data.toList.length := by omega
      have hp : Lib.hasPrefix (s.data.toList.drop i) t.data.toList = ((s.data.toList.drop i).take t.size == t.data.toList) := by
        unfold Lib.hasPrefix
        rw [prefix_take, et, List.length_drop, decide_eq_true (by omega), Bool.true_and]
      rw [e]
      have hd : hasL t.data.toList (s.data.toList.drop i) = (Lib.hasPrefix (s.data.toList.drop i) t.data.toList || hasL t.data.toList (s.data.toList.drop (i + 1))) := by
        rw [List.drop_eq_getElem_cons hlt, hasL]
      rw [hd, hp]
      by_cases h2 : (s.data.toList.drop i).take t.size = t.data.toList
      · rw [if_pos h2, beq_iff_eq.2 h2]; rfl
      · rw [if_neg h2, beq_eq_false_iff_ne.2 h2, Bool.false_or, wr1 (by omega)]
        exact ih (i + 1) k (by omega) (by omega)
    · rw [if_neg (by omega), hasL_short _ _ (by rw [List.length_drop]; omega)]
theorem has_ok (s t : ByteArray) (hs : s.size ≤ 1000000) (ht : 0 < t.size) (ht2 : t.size ≤ 1000) {k : Nat} (hk : s.size < k) : marginalialaw04_has.f k s t = some (hasL t.data.toList s.data.toList) := has_l0 s t hs ht ht2 s.size 0 k (by omega) hk

theorem hp_cons (a b : UInt8) (l r : List UInt8) : Lib.hasPrefix (a :: l) (b :: r) = (b == a && Lib.hasPrefix l r) := rfl
theorem hp_nil (l : List UInt8) : Lib.hasPrefix l [] = true := by cases l <;> rfl
theorem hp_none (b : UInt8) (r : List UInt8) : Lib.hasPrefix [] (b :: r) = false := rfl
theorem scan3 (c : UInt8) (T R : List UInt8) (h : Lib.hasPrefix (c :: T) [45, 45, 62] = false) : Lib.hasPrefix (c :: (T ++ 45 :: 45 :: 62 :: R)) [45, 45, 62] = false := by
  match T with
  | [] => simp [hp_cons, hp_nil, hp_none]
  | [d] => simp [hp_cons, hp_nil, hp_none]
  | d :: e :: T => simpa [hp_cons, hp_nil, hp_none] using h
theorem scan4 (c : UInt8) (T R : List UInt8) (h : Lib.hasPrefix (c :: T) [45, 45, 33, 62] = false) : Lib.hasPrefix (c :: (T ++ 45 :: 45 :: 62 :: R)) [45, 45, 33, 62] = false := by
  match T with
  | [] => simp [hp_cons, hp_nil, hp_none]
  | [d] => simp [hp_cons, hp_nil, hp_none]
  | [d, e] => simp [hp_cons, hp_nil, hp_none]
  | d :: e :: f :: T => simpa [hp_cons, hp_nil, hp_none] using h
theorem comScan_ok : ∀ (T R : List UInt8) (j : Nat), hasL [45, 45, 62] T = false → hasL [45, 45, 33, 62] T = false → comScan (T ++ 45 :: 45 :: 62 :: R) j = some (j + T.length, 3)
  | [], R, j, _, _ => by
    rw [List.nil_append, comScan, if_pos (by simp [hp_cons, hp_nil, hp_none])]; rfl
  | c :: T, R, j, h1, h2 => by
    rw [hasL, Bool.or_eq_false_iff] at h1 h2
    rw [List.cons_append, comScan, scan3 c T R h1.1, scan4 c T R h2.1, if_neg (by simp), if_neg (by simp), comScan_ok T R (j + 1) h1.2 h2.2, List.length_cons]
    congr 2; omega

theorem same_plain (kd : Int) (nm : ByteArray) (c : Bool) (tx : ByteArray) {k : Nat} (hk : 1 ≤ k) : marginaliaref04_Same.f k kd nm [] c tx kd nm [] c tx = some true := by
  obtain ⟨k, rfl⟩ : ∃ m, k = m + 1 := ⟨k - 1, by omega⟩
  unfold marginaliaref04_Same.f marginaliaref04_Attrs.f
  rw [if_pos rfl, if_pos rfl, if_pos rfl, marginaliaref04_Attrs.l0, if_neg (by simp), Option.bind_some, if_pos rfl, if_pos (by simp)]
  simp
/-- The text that is asked about. -/
def comSrc (a0 a1 : ByteArray) : ByteArray := (((⟨#[60, 33, 45, 45]⟩ : ByteArray) ++ a0) ++ (⟨#[45, 45, 62]⟩ : ByteArray)) ++ a1
theorem comSrc_list (a0 a1 : ByteArray) : (comSrc a0 a1).data.toList = 60 :: 33 :: 45 :: 45 :: (a0.data.toList ++ 45 :: 45 :: 62 :: a1.data.toList) := by
  simp [comSrc]
theorem comSrc_size (a0 a1 : ByteArray) : (comSrc a0 a1).size = a0.size + a1.size + 7 := by
  have : (comSrc a0 a1).size = (comSrc a0 a1).data.toList.length := by simp
  rw [this, comSrc_list]; simp; omega
theorem com_next (a0 a1 : ByteArray) (h1 : hasL [45, 45, 62] a0.data.toList = false) (h2 : hasL [45, 45, 33, 62] a0.data.toList = false) (h3 : a0.data.toList.head? ≠ some 62) (h4 : a0.data.toList.take 2 ≠ [45, 62]) :
    nextT (comSrc a0 a1) 0 0 ⟨#[]⟩ false = ⟨4, ⟨#[]⟩, [], false, a0, a0.size + 7⟩ := by
  have hl := comSrc_list a0 a1
  have hz := comSrc_size a0 a1
  have hd4 : (comSrc a0 a1).data.toList.drop 4 = a0.data.toList ++ 45 :: 45 :: 62 :: a1.data.toList := by rw [hl]; rfl
  have g1 : token_reader.here (comSrc a0 a1) 4 ⟨#[62]⟩ = false := by
    unfold token_reader.here
    rw [hd4]
    cases hT : a0.data.toList with
    | nil => simp [hp_cons]
    | cons c T =>
      rw [hT] at h3
      have : (62 : UInt8) ≠ c := fun e => h3 (by rw [e]; rfl)
      simp [hp_cons, hp_nil, hp_none, this]
  have g2 : token_reader.here (comSrc a0 a1) 4 ⟨#[45, 62]⟩ = false := by
    unfold token_reader.here
    rw [hd4]
    match hT : a0.data.toList with
    | [] => simp [hp_cons]
    | [c] => simp [hp_cons]
    | c :: d :: T =>
      rw [hT] at h4
      simp only [List.cons_append, hp_cons, hp_nil, Bool.and_true]
      rw [Bool.and_eq_false_iff]
      by_cases e1 : (45 : UInt8) = c
      · refine Or.inr (beq_eq_false_iff_ne.2 fun e2 => h4 ?_)
        rw [← e1, ← e2]; rfl
      · exact Or.inl (beq_eq_false_iff_ne.2 e1)
  have gc : comS (comSrc a0 a1) 4 = (a0, a0.size + 7) := by
    unfold comS
    rw [g1, g2, if_neg (by simp), if_neg (by simp), hd4, comScan_ok _ _ 0 h1 h2]
    have e1 : a0.data.toList.length = a0.size := by simp
    have e2 : (comSrc a0 a1).extract 4 (4 + a0.size) = a0 := by
      apply Go.WideShapes.bytes_inj
      rw [ByteArray.data_extract, Array.toList_extract, List.extract_eq_take_drop, hd4, Nat.add_sub_cancel_left]
      rw [← e1]; simp
    simp only [e1, Nat.zero_add]
    rw [e2]
    congr 1; omega
  have gd : dataT (comSrc a0 a1) 0 false = ⟨4, ⟨#[]⟩, [], false, a0, a0.size + 7⟩ := by
    rw [dataT, dif_neg (by omega), if_neg (by rw [List.drop_zero, hl]; simp [token_begins.b]), if_neg (by unfold token_reader.here; rw [List.drop_zero, hl]; simp [hp_cons, hp_nil, hp_none]), if_neg (by simp),
      if_pos (by unfold token_reader.here; rw [List.drop_zero, hl]; simp [hp_cons, hp_nil, hp_none])]
    unfold declT
    rw [if_pos (by unfold token_reader.here; rw [hl]; simp [hp_cons, hp_nil, hp_none]), gc]
  unfold nextT
  rw [if_neg (by omega), if_neg (by decide), if_neg (by decide), if_neg (by decide), Int.toNat_zero, gd]
  rfl
theorem TokenComment : marginalialaw04_TokenComment.Pure := by
  intro a0 a1 _ _
  refine ⟨2300000, ?_⟩
  have hal : ∀ k, 61 ≤ k → marginalialaw04_TokenComment.j0 k a0 a1 true = some true := by
    intro k hk
    obtain ⟨k, rfl⟩ : ∃ m, k = m + 1 := ⟨k - 1, by omega⟩
    rw [marginalialaw04_TokenComment.j0, if_pos rfl, alive04 (by omega)]; rfl
  unfold marginalialaw04_TokenComment.f
  by_cases c0 : (a0.size : Int) > 200
  · rw [if_pos c0]; exact hal _ (by omega)
  rw [if_neg c0]
  by_cases c1 : (a1.size : Int) > 200
  · rw [if_pos c1]; exact hal _ (by omega)
  rw [if_neg c1, has_ok a0 _ (by omega) (by decide) (by decide) (by omega), Option.bind_some]
  cases h1 : hasL (⟨#[45, 45, 62]⟩ : ByteArray).data.toList a0.data.toList with
  | true => rw [if_pos rfl]; exact hal _ (by omega)
  | false =>
    rw [if_neg (by simp), has_ok a0 _ (by omega) (by decide) (by decide) (by omega), Option.bind_some]
    cases h2 : hasL (⟨#[45, 45, 33, 62]⟩ : ByteArray).data.toList a0.data.toList with
    | true => exact hal _ (by omega)
    | false =>
      have hj1 : ∀ k b, 2250000 ≤ k → (b = false → a0.data.toList.head? ≠ some 62 ∧ a0.data.toList.take 2 ≠ [45, 62]) → marginalialaw04_TokenComment.j1 k a0 a1 b = some true := by
        intro k b hk hb
        obtain ⟨k, rfl⟩ : ∃ m, k = m + 1 := ⟨k - 1, by omega⟩
        rw [marginalialaw04_TokenComment.j1]
        cases b with
        | true => rw [if_pos rfl, alive04 (by omega)]; rfl
        | false =>
          obtain ⟨h3, h4⟩ := hb rfl
          rw [if_neg (by simp), if_pos (by omega), if_pos (by omega), if_pos (by omega)]
          have hn := next_ok (comSrc a0 a1) 0 0 ⟨#[]⟩ false (by rw [comSrc_size]; omega) (Nat.zero_le _) (k := k) (by omega)
          rw [com_next a0 a1 h1 h2 h3 h4] at hn
          unfold comSrc at hn
          rw [hn, Option.bind_some, alive04 (by omega), Option.bind_some, if_pos rfl]
          show (marginaliaref04_Same.f k 4 ⟨#[]⟩ [] false a0 4 ⟨#[]⟩ [] false a0).bind _ = _
          rw [same_plain 4 ⟨#[]⟩ false a0 (by omega), Option.bind_some, if_pos rfl]
          have hw : wrap64 ((a0.size : Int) + 7) = ((a0.size + 7 : Nat) : Int) := by unfold wrap64; omega
          rw [hw]
          show some (((a0.size + 7 : Nat) : Int) == ((a0.size + 7 : Nat) : Int)) = some true
          simp
      obtain ⟨k, hk⟩ : ∃ m, 2300000 = m + 1 := ⟨2299999, rfl⟩
      rw [hk, marginalialaw04_TokenComment.j0, if_neg (by simp)]
      have hk2 : 2250000 ≤ k := by omega
      have e1 : a0.data.toList.length = a0.size := by simp
      have take2 : ∀ (h : ¬ (a0.size : Int) > 1), a0.data.toList.take 2 ≠ [45, 62] := by
        intro h e
        have := congrArg List.length e
        rw [List.length_take, List.length_cons, List.length_cons, List.length_nil] at this
        omega
      have ext2 : (a0.extract 0 2).toList = a0.data.toList.take 2 := by
        rw [toList_data, ByteArray.data_extract, Array.toList_extract, List.extract_eq_take_drop, List.drop_zero]
      have tail : ∀ (h3 : a0.data.toList.head? ≠ some 62), (if (a0.size : Int) > 1 then (if (0 : Int) ≤ 2 then (if 2 ≤ (a0.size : Int) then (marginalialaw04_TokenComment.j1 k a0 a1 ((a0.extract 0 2).toList == ([45, 62] : List UInt8))) else (none)) else (none)) else (marginalialaw04_TokenComment.j1 k a0 a1 false)) = some true := by
        intro h3
        by_cases c3 : (a0.size : Int) > 1
        · rw [if_pos c3, if_pos (by decide), if_pos (by omega), ext2]
          exact hj1 k _ hk2 (fun e => ⟨h3, beq_eq_false_iff_ne.1 e⟩)
        · rw [if_neg c3]
          exact hj1 k _ hk2 (fun _ => ⟨h3, take2 c3⟩)
      by_cases c2 : (a0.size : Int) > 0
      · rw [if_pos c2, if_pos c2]
        have hlt : 0 < a0.data.toList.length := by omega
        have hh : a0.data.toList.head? = some (a0[0]'(by omega)) := by
          rw [List.head?_eq_getElem?, List.getElem?_eq_getElem hlt]; rfl
        have hb : bt a0 0 = ((a0[0]'(by omega)).toNat : Int) := by
          unfold bt
          rw [dif_pos (show (0 : Int).toNat < a0.size by simp; omega)]; rfl
        by_cases c4 : bt a0 0 = 62
        · rw [if_pos c4]
          exact hj1 k true hk2 (fun e => by cases e)
        · rw [if_neg c4]
          refine tail ?_
          rw [hh]
          intro e
          apply c4
          rw [hb, Option.some.inj e]; rfl
      · rw [if_neg c2]
        refine tail ?_
        rw [List.length_eq_zero_iff.1 (show a0.data.toList.length = 0 by omega)]
        simp

end Go.Proofs.Ytpelfhldgnmhpaa.Pure
