/- The next token of any text is told, by as many rounds as the text has bytes and a few more; where it ends. Condition: a text has at most 400000 bytes. -/
import Derived.Test.YtpelfhldgnmhpaaCharE
import Derived.Test.YtpelfhldgnmhpaaPureAlive
namespace Go.Proofs.Ytpelfhldgnmhpaa.Pure
open Go.RowKit Go.Proofs.Ytpelfhldgnmhpaa.G Go.Proofs.YtpelfhldgnmhpaaW.PrintWords Go.Proofs.YtpelfhldgnmhpaaW.PrintLast Go.Proofs.Ytpelfhldgnmhpaa.Spec
set_option linter.unusedVariables false
set_option linter.unusedSimpArgs false

/-- A text, decoded. -/
def decB (attr : Bool) (s : ByteArray) : ByteArray := mkB (dec attr s.data.toList)
theorem mkB_self (s : ByteArray) : mkB s.data.toList = s := by
  apply Go.WideShapes.bytes_inj; simp [mkB]
theorem decB_ok (attr : Bool) (s : ByteArray) (h : s.size ≤ 400000) {k : Nat} (hk : 800100 ≤ k) : charref_Decode.f k s attr = some (decB attr s) := by
  have := decode_ok attr s.data.toList (by simp; omega) (k := k) (by simp; omega)
  rw [mkB_self] at this; exact this
theorem extract_le (s : ByteArray) (i j : Nat) : (s.extract i j).size ≤ s.size := by simp; omega
theorem cutTxt_le (s : ByteArray) (i : Nat) (t : ByteArray) (h : i ≤ s.size) : (token_reader.cutTxt s i t).size ≤ s.size := by
  have h1 := token_reader.cut_len (s.data.toList.drop i) t.data.toList
  have e : (s.data.toList.drop i).length = s.size - i := by simp
  have : (token_reader.cutTxt s i t).size = (Lib.cut (s.data.toList.drop i) t.data.toList).1.length := by unfold token_reader.cutTxt; simp [ByteArray.size]
  omega
theorem val2_size (s : ByteArray) (j : Nat) (h : j ≤ s.size) : (token_reader.val2 s j).1.size ≤ s.size := by
  unfold token_reader.val2
  split
  · rename_i h2
    exact cutTxt_le s _ _ (token_reader.here_le h h2)
  · split
    · rename_i h2
      exact cutTxt_le s _ _ (token_reader.here_le h h2)
    · exact extract_le _ _ _
theorem val_size (s : ByteArray) (i : Nat) (h : i ≤ s.size) : (token_reader.val s i).1.size ≤ s.size := val2_size s _ (token_until.to_le token_until.pN s i h).2
/-- An attribute's value, as it is told. -/
def attrS (s : ByteArray) (m : Nat) : ByteArray × Nat := if token_reader.here s m ⟨#[61]⟩ = true then (decB true (token_reader.val s (m + 1)).1, (token_reader.val s (m + 1)).2) else (⟨#[]⟩, m)
theorem attrV_ok (s : ByteArray) (m : Nat) (h : m ≤ s.size) (hs : s.size ≤ 400000) {k : Nat} (hk : 800100 ≤ k) : token_reader.attrV k s m = some (attrS s m) := by
  unfold token_reader.attrV attrS
  split
  · rename_i h2
    have h3 : m + 1 ≤ s.size := token_reader.here_le h h2
    rw [decB_ok true _ (Nat.le_trans (val_size s _ h3) hs) hk]; rfl
  · rfl
/-- A tag's attributes from a place on. -/
def tagS (s : ByteArray) (i : Nat) (l : List S41) : Option (List S41 × Bool) × Nat :=
  if h1 : s.size ≤ token_until.to token_until.pG s i then (none, token_until.to token_until.pG s i)
  else if token_reader.here s (token_until.to token_until.pG s i) ⟨#[62]⟩ = true then (some (l, token_reader.slash s i (token_until.to token_until.pG s i)), token_until.to token_until.pG s i + 1)
  else if h2 : i < (attrS s (token_until.to token_until.pN s (token_reader.attrEnd s (token_until.to token_until.pG s i)))).2 then
    tagS s (attrS s (token_until.to token_until.pN s (token_reader.attrEnd s (token_until.to token_until.pG s i)))).2
      (if (getS (token_reader.low s (token_until.to token_until.pG s i) (token_reader.attrEnd s (token_until.to token_until.pG s i))) l).2 = true then l
       else l ++ [⟨token_reader.low s (token_until.to token_until.pG s i) (token_reader.attrEnd s (token_until.to token_until.pG s i)), (attrS s (token_until.to token_until.pN s (token_reader.attrEnd s (token_until.to token_until.pG s i)))).1⟩])
  else (none, s.size)
termination_by s.size + 1 - i
decreasing_by
  have hq : i ≤ token_until.to token_until.pG s i := by unfold token_until.to; omega
  omega
theorem attrS_le (s : ByteArray) (q : Nat) (hq : q < s.size) (hs : s.size ≤ 400000) : q + 1 ≤ (attrS s (token_until.to token_until.pN s (token_reader.attrEnd s q))).2 ∧ (attrS s (token_until.to token_until.pN s (token_reader.attrEnd s q))).2 ≤ s.size := by
  have h1 := token_until.to_le (token_until.pE ⟨#[47, 62, 61]⟩) s (q + 1) hq
  have h2 := token_until.to_le token_until.pN s (token_reader.attrEnd s q) h1.2
  exact token_reader.attrV_le s q hq (attrV_ok s _ h2.2 hs (Nat.le_refl 800100))
theorem tagL_ok (s : ByteArray) (hs : s.size ≤ 400000) (d : Nat) : ∀ (i k : Nat) (l : List S41), i + d = s.size → l.length ≤ i → 800200 + d ≤ k → token_reader_tag.l k s i l = some (tagS s i l) := by
  induction d using Nat.strongRecOn with
  | _ d ih =>
    intro i k l hi hl hk
    obtain ⟨k, rfl⟩ : ∃ m, k = m + 1 := ⟨k - 1, by omega⟩
    have hq := token_until.to_le token_until.pG s i (by omega)
    unfold token_reader_tag.l
    rw [tagS]
    by_cases h1 : s.size ≤ token_until.to token_until.pG s i
    · rw [if_pos h1, dif_pos h1]
    · rw [if_neg h1, dif_neg h1]
      by_cases h2 : token_reader.here s (token_until.to token_until.pG s i) ⟨#[62]⟩ = true
      · rw [if_pos h2, if_pos h2]
      · rw [if_neg h2, if_neg h2]
        have ha := attrS_le s (token_until.to token_until.pG s i) (by omega) hs
        have hm := token_until.to_le (token_until.pE ⟨#[47, 62, 61]⟩) s (token_until.to token_until.pG s i + 1) (by omega)
        have hm2 := token_until.to_le token_until.pN s (token_reader.attrEnd s (token_until.to token_until.pG s i)) hm.2
        rw [attrV_ok s _ hm2.2 hs (by omega), dif_pos (by omega), Option.bind_some, get_ok _ l (by omega) (by omega), Option.bind_some]
        refine ih (s.size - (attrS s (token_until.to token_until.pN s (token_reader.attrEnd s (token_until.to token_until.pG s i)))).2) (by omega) _ k _ (by omega) ?_ (by omega)
        split
        · omega
        · rw [List.length_append, List.length_singleton]; omega
/-- A tag from its name on. -/
def tagT (s : ByteArray) (i : Nat) (kd : Int) : TokV :=
  let p := tagS s (token_until.to (token_until.pE ⟨#[47, 62]⟩) s i) []
  ⟨token_reader_tag.kind kd p.1, token_reader_tag.name (token_reader.low s i (token_until.to (token_until.pE ⟨#[47, 62]⟩) s i)) p.1, token_reader_tag.attrs kd p.1, token_reader_tag.closed kd p.1, ⟨#[]⟩, p.2⟩
theorem tagV_ok (s : ByteArray) (i : Nat) (kd : Int) (hi : i ≤ s.size) (hs : s.size ≤ 400000) {k : Nat} (hk : 1300000 ≤ k) : token_reader.tagV k s i kd = some (tagT s i kd) := by
  have h1 := token_until.to_le (token_until.pE ⟨#[47, 62]⟩) s i hi
  unfold token_reader.tagV
  rw [tagL_ok s hs (s.size - token_until.to (token_until.pE ⟨#[47, 62]⟩) s i) _ k [] (by omega) (Nat.zero_le _) (by omega)]
  rfl
def rawT (s name : ByteArray) (i : Nat) : TokV :=
  if i < token_reader.rawTo s name i then ⟨1, ⟨#[]⟩, [], false, s.extract i (token_reader.rawTo s name i), token_reader.rawTo s name i⟩ else tagT s (i + 2) 3
theorem rawV_ok (s name : ByteArray) (i : Nat) (hi : i < s.size) (hs : s.size ≤ 400000) {k : Nat} (hk : 1300000 ≤ k) : token_reader.rawV k s name i = some (rawT s name i) := by
  unfold token_reader.rawV rawT
  split
  · rfl
  · rename_i h
    have h1 := token_reader.rawTo_le s name i (by omega)
    refine tagV_ok s (i + 2) 3 ?_ hs hk
    cases hc : token_closes.b (s.extract i s.size) name with
    | true => exact token_closes.two (by omega) hc
    | false =>
      exfalso
      have h2 : token_reader.rawTo s name i = token_reader.rawTo s name (i + 1) := seek_go _ _ i hi hc
      have h3 := token_reader.rawTo_le s name (i + 1) hi
      omega

end Go.Proofs.Ytpelfhldgnmhpaa.Pure
