/- What the next token of any text is like: it goes on, it is not empty, its names. Condition: a text has at most 400000 bytes. -/
import Derived.Test.YtpelfhldgnmhpaaPureCom
namespace Go.Proofs.Ytpelfhldgnmhpaa.Pure
open Go.RowKit Go.Proofs.Ytpelfhldgnmhpaa.G Go.Proofs.YtpelfhldgnmhpaaW.PrintWords Go.Proofs.YtpelfhldgnmhpaaW.PrintLast Go.Proofs.Ytpelfhldgnmhpaa.Spec
set_option linter.unusedVariables false
set_option linter.unusedSimpArgs false

theorem dec_ne (attr : Bool) (l : List UInt8) (h : l ≠ []) : dec attr l ≠ [] := by
  cases l with
  | nil => exact absurd rfl h
  | cons c r =>
    rw [dec_cons]
    split
    · intro e; exact (ref_len attr r).2.2 (List.append_eq_nil_iff.1 e).1
    · simp
theorem ne_of_size {s : ByteArray} (h : 0 < s.size) : s.data.toList ≠ [] := by
  intro e
  have h2 : s.data.toList.length = s.size := by simp
  rw [e, List.length_nil] at h2
  omega
theorem decB_ne (attr : Bool) (s : ByteArray) (h : 0 < s.size) : (decB attr s).toList ≠ [] := by
  rw [toList_data]; exact dec_ne attr _ (ne_of_size h)
/-- No name stands twice. -/
def Names (l : List S41) : Prop := l.Pairwise fun a b => ¬ b.f0.toList = a.f0.toList
theorem getS_no (nm : ByteArray) : ∀ (l : List S41), (getS nm l).2 = false → ∀ a ∈ l, ¬ nm.toList = a.f0.toList
  | [], _, a, ha => by cases ha
  | b :: l, h, a, ha => by
    rw [getS] at h
    by_cases hb : b.f0.toList = nm.toList
    · rw [if_pos hb] at h; cases h
    · rw [if_neg hb] at h
      rcases List.mem_cons.1 ha with rfl | ha
      · exact fun e => hb e.symm
      · exact getS_no nm l h a ha
theorem tagS_names (s : ByteArray) (hs : s.size ≤ 400000) (d : Nat) : ∀ (i : Nat) (l : List S41), i + d = s.size → Names l → l.length ≤ i → (i ≤ (tagS s i l).2 ∧ (tagS s i l).2 ≤ s.size) ∧ ∀ p, (tagS s i l).1 = some p → Names p.1 ∧ p.1.length ≤ s.size := by
  induction d using Nat.strongRecOn with
  | _ d ih =>
    intro i l hi hl hll
    have hq := token_until.to_le token_until.pG s i (by omega)
    rw [tagS]
    by_cases h1 : s.size ≤ token_until.to token_until.pG s i
    · rw [dif_pos h1]
      exact ⟨hq, fun p h => by cases h⟩
    · rw [dif_neg h1]
      by_cases h2 : token_reader.here s (token_until.to token_until.pG s i) ⟨#[62]⟩ = true
      · rw [if_pos h2]
        refine ⟨⟨by simp only; omega, by simp only; omega⟩, fun p h => ?_⟩
        obtain rfl := Option.some.inj h
        exact ⟨hl, by simp only; omega⟩
      · rw [if_neg h2]
        have ha := attrS_le s (token_until.to token_until.pG s i) (by omega) hs
        rw [dif_pos (by omega)]
        have := ih (s.size - (attrS s (token_until.to token_until.pN s (token_reader.attrEnd s (token_until.to token_until.pG s i)))).2) (by omega) (attrS s (token_until.to token_until.pN s (token_reader.attrEnd s (token_until.to token_until.pG s i)))).2 (if (getS (token_reader.low s (token_until.to token_until.pG s i) (token_reader.attrEnd s (token_until.to token_until.pG s i))) l).2 = true then l
       else l ++ [⟨token_reader.low s (token_until.to token_until.pG s i) (token_reader.attrEnd s (token_until.to token_until.pG s i)), (attrS s (token_until.to token_until.pN s (token_reader.attrEnd s (token_until.to token_until.pG s i)))).1⟩]) (by omega) ?_ ?_
        · exact ⟨⟨by omega, this.1.2⟩, this.2⟩
        · split
          · exact hl
          · rename_i hg
            refine List.pairwise_append.2 ⟨hl, List.pairwise_singleton _ _, fun a ha b hb => ?_⟩
            rw [List.mem_singleton] at hb
            subst hb
            exact getS_no _ l (by simpa using hg) a ha
        · split
          · omega
          · rw [List.length_append, List.length_singleton]; omega
theorem lower_letter (c : UInt8) (h : token_begins.letter c = true) : 97 ≤ (kind_Lower.c c).toNat ∧ (kind_Lower.c c).toNat ≤ 122 := by
  have : ∀ n : Fin 256, token_begins.letter (UInt8.ofNat n.val) = true → 97 ≤ (kind_Lower.c (UInt8.ofNat n.val)).toNat ∧ (kind_Lower.c (UInt8.ofNat n.val)).toNat ≤ 122 := by decide +kernel
  have h2 := this ⟨c.toNat, c.toNat_lt⟩
  simp only [UInt8.ofNat_toNat] at h2
  exact h2 h
theorem pE_letter (c : UInt8) (h : token_begins.letter c = true) : token_until.pE ⟨#[47, 62]⟩ c = false := by
  have : ∀ n : Fin 256, token_begins.letter (UInt8.ofNat n.val) = true → token_until.pE ⟨#[47, 62]⟩ (UInt8.ofNat n.val) = false := by decide +kernel
  have h2 := this ⟨c.toNat, c.toNat_lt⟩
  simp only [UInt8.ofNat_toNat] at h2
  exact h2 h
/-- A name begins with a small letter. -/
def NameOk (a : ByteArray) : Prop := ∃ c r, a.data.toList = c :: r ∧ 97 ≤ c.toNat ∧ c.toNat ≤ 122
theorem low_head (s : ByteArray) (i : Nat) (c : UInt8) (r : List UInt8) (h : s.data.toList.drop i = c :: r) (hl : token_begins.letter c = true) :
    NameOk (token_reader.low s i (token_until.to (token_until.pE ⟨#[47, 62]⟩) s i)) := by
  refine ⟨kind_Lower.c c, ?_, ?_, lower_letter c hl⟩
  · exact kind_Lower.l (r.take (token_until.len (token_until.pE ⟨#[47, 62]⟩) r))
  · have e : token_until.len (token_until.pE ⟨#[47, 62]⟩) (c :: r) = token_until.len (token_until.pE ⟨#[47, 62]⟩) r + 1 := by
      unfold token_until.len
      rw [List.takeWhile_cons_of_pos (by rw [pE_letter c hl]; rfl)]; rfl
    have e2 : (s.extract i (token_until.to (token_until.pE ⟨#[47, 62]⟩) s i)).data.toList = (s.data.toList.drop i).take (token_until.len (token_until.pE ⟨#[47, 62]⟩) (s.data.toList.drop i)) := by
      unfold token_until.to
      rw [ByteArray.data_extract, Array.toList_extract, List.extract_eq_take_drop, Nat.add_sub_cancel_left]
    unfold token_reader.low kind_Lower.low
    rw [e2, h, e]
    rfl
/-- What a token is like. -/
structure Good (s : ByteArray) (i : Nat) (t : TokV) : Prop where
  lt : t.kd ≠ 0 → i < t.e
  le : t.e ≤ s.size
  tx : t.kd = 1 → t.tx.toList ≠ []
  nm : t.kd = 2 → NameOk t.nm
  ds : Names t.l
  len : t.l.length ≤ s.size
  no : t.kd ≠ 2 → t.l = [] ∧ t.c = false
theorem names_nil : Names [] := List.Pairwise.nil
theorem good_plain (s : ByteArray) (i : Nat) (kd : Int) (tx : ByteArray) (e : Nat) (hk : kd ≠ 2) (h0 : kd ≠ 0 → i < e) (h1 : e ≤ s.size) (h2 : kd = 1 → tx.toList ≠ []) : Good s i ⟨kd, ⟨#[]⟩, [], false, tx, e⟩ :=
  ⟨h0, h1, h2, fun h => absurd h hk, names_nil, Nat.zero_le _, fun _ => ⟨rfl, rfl⟩⟩
theorem good_tag (s : ByteArray) (hs : s.size ≤ 400000) (i j : Nat) (hi : i < j) (hj : j ≤ s.size) (kd : Int) (hk : kd = 2 ∨ kd = 3) (hn : kd = 2 → NameOk (token_reader.low s j (token_until.to (token_until.pE ⟨#[47, 62]⟩) s j))) : Good s i (tagT s j kd) := by
  have h1 := token_until.to_le (token_until.pE ⟨#[47, 62]⟩) s j hj
  have h2 := tagS_names s hs (s.size - token_until.to (token_until.pE ⟨#[47, 62]⟩) s j) (token_until.to (token_until.pE ⟨#[47, 62]⟩) s j) [] (by omega) names_nil (Nat.zero_le _)
  unfold tagT
  simp only
  cases hp : (tagS s (token_until.to (token_until.pE ⟨#[47, 62]⟩) s j) []).1 with
  | none => exact ⟨fun h => absurd rfl h, h2.1.2, (fun h => by cases h), (fun h => by cases h), names_nil, Nat.zero_le _, fun _ => ⟨rfl, rfl⟩⟩
  | some p =>
    have hd := h2.2 p hp
    refine ⟨fun _ => by simp only; omega, h2.1.2, fun h => ?_, fun h => hn h, ?_, ?_, fun h => ?_⟩
    · simp only [token_reader_tag.kind] at h; omega
    · simp only [token_reader_tag.attrs]
      split
      · exact names_nil
      · exact hd.1
    · simp only [token_reader_tag.attrs]
      split
      · exact Nat.zero_le _
      · exact hd.2
    · simp only [token_reader_tag.kind] at h
      simp only [token_reader_tag.attrs, token_reader_tag.closed]
      rw [if_pos (by omega), if_pos (by omega)]
      exact ⟨rfl, rfl⟩
theorem good_other (s : ByteArray) (i j : Nat) (hi : i < j) (hj : j ≤ s.size) : Good s i (token_reader.otherV s j) := by
  have := token_reader.cutAt_le s j ⟨#[62]⟩ hj
  exact good_plain s i 4 _ _ (by decide) (fun _ => by omega) this.2 (fun h => by cases h)
theorem good_decl (s : ByteArray) (i j : Nat) (hi : i < j) (hj : j ≤ s.size) : Good s i (declT s j) := by
  have h := declT_le s j hj
  unfold declT at h ⊢
  split
  · rename_i hc; rw [if_pos hc] at h
    exact good_plain s i 4 _ _ (by decide) (fun _ => by simp only at h; omega) h.2 (fun h => by cases h)
  · rename_i hc; rw [if_neg hc] at h
    split
    · rename_i hd; rw [if_pos hd] at h
      exact good_plain s i 5 _ _ (by decide) (fun _ => by simp only at h; omega) h.2 (fun h => by cases h)
    · exact good_other s i j hi hj
theorem good_text (s : ByteArray) (i : Nat) (hi : i < s.size) (hb : token_begins.b (s.data.toList.drop i) = false) : Good s i (textT s i) := by
  have h1 : token_reader.textTo s i = token_reader.textTo s (i + 1) := seek_go _ _ i hi hb
  have h2 := token_reader.textTo_le s (i + 1) (by omega)
  refine good_plain s i 1 _ _ (by decide) (fun _ => by omega) (by omega) (fun _ => decB_ne _ _ ?_)
  simp; omega
theorem begins_shape {l : List UInt8} (h : token_begins.b l = true) : ∃ c r, l = 60 :: c :: r ∧ (c = 33 ∨ c = 63 ∨ c = 47 ∨ token_begins.letter c = true) := by
  unfold token_begins.b at h
  split at h
  · rename_i c r
    refine ⟨c, r, rfl, ?_⟩
    by_cases h1 : c = 33
    · exact Or.inl h1
    · by_cases h2 : c = 63
      · exact Or.inr (Or.inl h2)
      · by_cases h3 : c = 47
        · exact Or.inr (Or.inr (Or.inl h3))
        · simp [h1, h2, h3] at h
          exact Or.inr (Or.inr (Or.inr h))
  · cases h
theorem here_two {s : ByteArray} {i : Nat} {c : UInt8} {r : List UInt8} (h : s.data.toList.drop i = 60 :: c :: r) (d : UInt8) (hd : token_reader.here s i ⟨#[60, d]⟩ = false) : c ≠ d := by
  rintro rfl
  unfold token_reader.here Lib.hasPrefix at hd
  rw [h] at hd
  simp at hd
theorem byte_drop {s : ByteArray} {i : Nat} {a c : UInt8} {r : List UInt8} (h : s.data.toList.drop i = a :: c :: r) : token_reader.byte s (i + 1) = c ∧ s.data.toList.drop (i + 1) = c :: r := by
  have h2 : s.data.toList.drop (i + 1) = c :: r := by rw [← List.drop_drop, h]; rfl
  refine ⟨?_, h2⟩
  unfold token_reader.byte
  have := congrArg (fun l => l.head?) h2
  simp only [List.head?_drop, List.head?_cons] at this
  rw [List.getD, this]; rfl
theorem good_data (s : ByteArray) (fo : Bool) (hs : s.size ≤ 400000) (d : Nat) : ∀ (i : Nat), i + d = s.size → Good s i (dataT s i fo) := by
  induction d using Nat.strongRecOn with
  | _ d ih =>
    intro i hi
    have up : ∀ (j : Nat) (t : TokV), i ≤ j → Good s j t → Good s i t := fun j t hj h => ⟨fun h0 => Nat.lt_of_le_of_lt hj (h.lt h0), h.le, h.tx, h.nm, h.ds, h.len, h.no⟩
    have end_ : Good s i (TokV.end_ i) := good_plain s i 0 _ _ (by decide) (fun h => absurd rfl h) (by omega) (fun h => by cases h)
    rw [dataT]
    by_cases h1 : s.size ≤ i
    · rw [dif_pos h1]; exact end_
    · rw [dif_neg h1]
      by_cases hb : token_begins.b (s.data.toList.drop i) = false
      · rw [if_pos hb]; exact good_text s i (by omega) hb
      · rw [if_neg hb]
        have hb' : token_begins.b (s.data.toList.drop i) = true := by simpa using hb
        have h2 := token_begins.two hb'
        by_cases h3 : token_reader.here s i ⟨#[60, 47, 62]⟩ = true
        · rw [if_pos h3]
          have : i + 3 ≤ s.size := token_reader.here_le (by omega) h3
          exact up (i + 3) _ (by omega) (ih (d - 3) (by omega) (i + 3) (by omega))
        · rw [if_neg h3]
          by_cases h9 : (fo && token_reader.here s i token_reader.cdataW) = true
          · rw [if_pos h9]
            have h9' := h9
            simp only [Bool.and_eq_true] at h9'
            have hl : i + 9 ≤ s.size := token_reader.here_le (by omega) h9'.2
            have hc := token_reader.cutAt_le s (i + 9) ⟨#[93, 93, 62]⟩ hl
            by_cases he : (token_reader.cutTxt s (i + 9) ⟨#[93, 93, 62]⟩).toList = []
            · rw [if_pos he, dif_pos (by omega)]
              exact up _ _ (by omega) (ih (s.size - token_reader.cutAt s (i + 9) ⟨#[93, 93, 62]⟩) (by omega) _ (by omega))
            · rw [if_neg he]
              exact good_plain s i 1 _ _ (by decide) (fun _ => by omega) hc.2 (fun _ => he)
          · rw [if_neg h9]
            by_cases h33 : token_reader.here s i ⟨#[60, 33]⟩ = true
            · rw [if_pos h33]
              exact good_decl s i (i + 2) (by omega) (token_reader.here_le (by omega) h33)
            · rw [if_neg h33]
              by_cases h47 : token_reader.here s i ⟨#[60, 47]⟩ = true
              · rw [if_pos h47]
                have h4 := token_begins.three hb' h47
                split
                · exact good_tag s hs i (i + 2) (by omega) (by omega) 3 (Or.inr rfl) (fun h => by cases h)
                · exact good_other s i (i + 2) (by omega) (by omega)
              · rw [if_neg h47]
                obtain ⟨c, r, hcr, hc⟩ := begins_shape hb'
                have hby := byte_drop hcr
                split
                · exact good_other s i (i + 1) (by omega) (by omega)
                · rename_i h63
                  refine good_tag s hs i (i + 1) (by omega) (by omega) 2 (Or.inl rfl) (fun _ => low_head s (i + 1) c r hby.2 ?_)
                  rcases hc with e | e | e | e
                  · exact absurd e (here_two hcr 33 (by simpa using h33))
                  · exact absurd (hby.1.trans e) h63
                  · exact absurd e (here_two hcr 47 (by simpa using h47))
                  · exact e
theorem good_raw (s name : ByteArray) (hs : s.size ≤ 400000) (i : Nat) (hi : i < s.size) : Good s i (rawT s name i) := by
  have h1 := token_reader.rawTo_le s name i (by omega)
  unfold rawT
  split
  · rename_i h
    refine good_plain s i 1 _ _ (by decide) (fun _ => h) h1.2 (fun _ => ?_)
    rw [toList_data]
    exact ne_of_size (by simp; omega)
  · rename_i h
    refine good_tag s hs i (i + 2) (by omega) ?_ 3 (Or.inr rfl) (fun h => by cases h)
    cases hc : token_closes.b (s.extract i s.size) name with
    | true => exact token_closes.two (by omega) hc
    | false =>
      exfalso
      have h2 : token_reader.rawTo s name i = token_reader.rawTo s name (i + 1) := seek_go _ _ i hi hc
      have h3 := token_reader.rawTo_le s name (i + 1) hi
      omega
theorem good_dec (s : ByteArray) (i : Nat) (t : TokV) (h : Good s i t) : Good s i { t with tx := decB false t.tx } :=
  ⟨h.lt, h.le, fun h1 => decB_ne _ _ (by
    have := h.tx h1
    rw [toList_data] at this
    rcases Nat.eq_zero_or_pos t.tx.size with h0 | h0
    · exact absurd (List.length_eq_zero_iff.1 (by simpa using h0)) this
    · exact h0), h.nm, h.ds, h.len, h.no⟩
/-- What the next token is like, from a place in the text. -/
theorem next_good (s : ByteArray) (a m : Int) (name : ByteArray) (fo : Bool) (hs : s.size ≤ 400000) (ha : ¬ (a < 0 ∨ (s.size : Int) ≤ a)) :
    Good s a.toNat (nextT s a m name fo) ∧ a.toNat < (nextT s a m name fo).e ∧ ((nextT s a m name fo).kd = 0 → (nextT s a m name fo).e = s.size) := by
  have hlt : a.toNat < s.size := by omega
  unfold nextT
  rw [if_neg ha]
  by_cases m3 : m = 3
  · rw [if_pos m3]
    refine ⟨good_plain s _ 1 _ _ (by decide) (fun _ => hlt) (Nat.le_refl _) (fun _ => ?_), hlt, fun h => by cases h⟩
    rw [toList_data]
    exact ne_of_size (by simp; omega)
  · rw [if_neg m3]
    have fin : ∀ t, Good s a.toNat t → Good s a.toNat (TokV.fin s t) ∧ a.toNat < (TokV.fin s t).e ∧ ((TokV.fin s t).kd = 0 → (TokV.fin s t).e = s.size) := by
      intro t h
      unfold TokV.fin
      split
      · rename_i h0
        exact ⟨⟨fun _ => hlt, Nat.le_refl _, h.tx, h.nm, h.ds, h.len, h.no⟩, hlt, fun _ => rfl⟩
      · rename_i h0
        exact ⟨h, h.lt h0, fun e => absurd e h0⟩
    apply fin
    by_cases m2 : m = 2
    · rw [if_pos m2]; exact good_raw s name hs _ hlt
    · rw [if_neg m2]
      by_cases m1 : m = 1
      · rw [if_pos m1]; exact good_dec _ _ _ (good_raw s name hs _ hlt)
      · rw [if_neg m1]; exact good_data s fo hs (s.size - a.toNat) _ (by omega)

end Go.Proofs.Ytpelfhldgnmhpaa.Pure
