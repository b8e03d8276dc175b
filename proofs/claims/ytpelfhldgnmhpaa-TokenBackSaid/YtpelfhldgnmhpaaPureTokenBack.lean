/- A start tag of small letters with quoted values, and an end tag, are read as they were; condition: the law's own bounds on the input's reach. -/
import Derived.Test.YtpelfhldgnmhpaaPureBackN
import Derived.Test.YtpelfhldgnmhpaaPureAlive
import Derived.Test.YtpelfhldgnmhpaaG32
import Derived.Test.YtpelfhldgnmhpaaG33
import Derived.Test.YtpelfhldgnmhpaaG34
namespace Go.Proofs.Ytpelfhldgnmhpaa.Pure
open Go.RowKit Go.Proofs.Ytpelfhldgnmhpaa.G Go.Proofs.YtpelfhldgnmhpaaW.PrintWords Go.Proofs.YtpelfhldgnmhpaaW.PrintLast Go.Proofs.Ytpelfhldgnmhpaa.Spec
set_option linter.unusedVariables false
set_option linter.unusedSimpArgs false

theorem attrs_same (l : List S41) (hl : l.length ≤ 1000000) (d : Nat) : ∀ (i k : Nat), i + d = l.length → d < k → marginaliaref04_Attrs.l0 k l l (i : Int) = some true := by
  induction d with
  | zero =>
    intro i k hi hk
    obtain ⟨k, rfl⟩ : ∃ m, k = m + 1 := ⟨k - 1, by omega⟩
    rw [marginaliaref04_Attrs.l0, if_neg (by omega)]
  | succ d ih =>
    intro i k hi hk
    obtain ⟨k, rfl⟩ : ∃ m, k = m + 1 := ⟨k - 1, by omega⟩
    rw [marginaliaref04_Attrs.l0, if_pos (by omega), if_pos (by omega), if_pos (by omega), if_neg (by simp), wr1 (by omega)]
    exact ih (i + 1) k (by omega) (by omega)
theorem same_self (kd : Int) (nm : ByteArray) (l : List S41) (c : Bool) (tx : ByteArray) (hl : l.length ≤ 1000000) {k : Nat} (hk : l.length < k) : marginaliaref04_Same.f k kd nm l c tx kd nm l c tx = some true := by
  unfold marginaliaref04_Same.f marginaliaref04_Attrs.f
  have h : marginaliaref04_Attrs.l0 k l l 0 = some true := attrs_same l hl l.length 0 k (by omega) hk
  rw [if_pos rfl, if_pos rfl, if_pos rfl, h, Option.bind_some, if_pos rfl, if_pos (by simp)]
  simp

theorem quote_app (a b : List UInt8) : quoteL (a ++ b) = quoteL a ++ quoteL b := by simp [quoteL]
theorem quoted_l0 (s : ByteArray) (hs : s.size ≤ 60) (d : Nat) : ∀ (i k : Nat), i + d = s.size → d < k → marginalialaw04_quoted.l0 k s (mkB (quoteL (s.data.toList.take i))) (i : Int) = some (mkB (34 :: (quoteL s.data.toList ++ [34]))) := by
  have el : s.data.toList.length = s.size := by simp
  have hq := quote_len s.data.toList
  induction d with
  | zero =>
    intro i k hi hk
    obtain ⟨k, rfl⟩ : ∃ m, k = m + 1 := ⟨k - 1, by omega⟩
    have ht : s.data.toList.take i = s.data.toList := List.take_of_length_le (by omega)
    rw [marginalialaw04_quoted.l0, if_neg (by omega), ht, mkB_size, if_pos (by omega), if_pos (by omega)]
    congr 1
  | succ d ih =>
    intro i k hi hk
    obtain ⟨k, rfl⟩ : ∃ m, k = m + 1 := ⟨k - 1, by omega⟩
    have hlt : i < s.data.toList.length := by omega
    have hsz : (quoteL (s.data.toList.take i)).length ≤ 360 := by
      have := quote_len (s.data.toList.take i)
      rw [List.length_take] at this; omega
    have hstep : quoteL (s.data.toList.take (i + 1)) = quoteL (s.data.toList.take i) ++ (if s.data.toList[i] = 38 then [38, 97, 109, 112, 59] else if s.data.toList[i] = 34 then [38, 113, 117, 111, 116, 59] else [s.data.toList[i]]) := by
      rw [List.take_add_one, List.getElem?_eq_getElem hlt, quote_app]
      congr 1
      show quoteL [s.data.toList[i]] = _
      rw [quote_cons]; simp [quoteL]
    have ihh := ih (i + 1) k (by omega) (by omega)
    rw [hstep] at ihh
    have hbt : bt s (i : Int) = ((s.data.toList[i]).toNat : Int) := bt_get s i hlt
    rw [marginalialaw04_quoted.l0, if_pos (by omega), if_pos (by omega), hbt, mkB_size, wrB (by omega)]
    have hx : (s.extract (i : Int).toNat (((i + 1 : Nat) : Int)).toNat) = mkB [s.data.toList[i]] := by
      rw [Int.toNat_natCast, Int.toNat_natCast]
      apply Go.WideShapes.bytes_inj
      rw [ByteArray.data_extract, Array.toList_extract, List.extract_eq_take_drop, Nat.add_sub_cancel_left, List.drop_eq_getElem_cons hlt]
      simp [mkB]
    by_cases h1 : s.data.toList[i] = 38
    · rw [if_pos h1] at ihh
      rw [if_pos (by rw [h1]; rfl), if_pos (by omega), ← ihh]
      congr 1
    · rw [if_neg h1] at ihh
      rw [if_neg (fun e => h1 (UInt8.toNat_inj.1 (by have : ((38 : UInt8)).toNat = 38 := rfl; omega)))]
      by_cases h2 : s.data.toList[i] = 34
      · rw [if_pos h2] at ihh
        rw [if_pos (by rw [h2]; rfl), if_pos (by omega), ← ihh]
        congr 1
      · rw [if_neg h2] at ihh
        rw [if_neg (fun e => h2 (UInt8.toNat_inj.1 (by have : ((34 : UInt8)).toNat = 34 := rfl; omega))), if_pos (by omega), if_pos (by omega), hx, mkB_size, if_pos (by simp; omega), mkB_append]
        exact ihh
theorem quoted_ok (s : ByteArray) (hs : s.size ≤ 60) {k : Nat} (hk : s.size < k) : marginalialaw04_quoted.f k s = some (mkB (34 :: (quoteL s.data.toList ++ [34]))) := quoted_l0 s hs s.size 0 k (by omega) hk

section
variable (kd : Int) (nm : ByteArray) (l : List S41) (c : Bool) (tx a1 : ByteArray)
theorem back_j4 (s : ByteArray) (hn : smallL nm.data.toList = true) (hp : 0 < nm.size) (hn20 : nm.size ≤ 20) (hl : ∀ a ∈ l, smallL a.f0.data.toList = true ∧ 0 < a.f0.size) (hns : Names l) (hll : l.length ≤ 6) (h1 : a1.size ≤ 200) (hsz : s.size ≤ 100000) (hs : s.data.toList = 60 :: (nm.data.toList ++ (attrsL l ++ endL c))) {k : Nat} (hk : 2300001 ≤ k) :
    marginalialaw04_TokenBack.j4 k a1 s kd nm l c tx = some true := by
  obtain ⟨k, rfl⟩ : ∃ m, k = m + 1 := ⟨k - 1, by omega⟩
  have es : s.data.toList.length = s.size := by simp
  have e1 : nm.data.toList.length = nm.size := by simp
  have ea : a1.data.toList.length = a1.size := by simp
  obtain ⟨S, hS⟩ : ∃ S, (s ++ (⟨#[62]⟩ : ByteArray)) ++ a1 = S := ⟨_, rfl⟩
  have dS : S.data.toList = 60 :: (nm.data.toList ++ (attrsL l ++ (endL c ++ 62 :: a1.data.toList))) := by rw [← hS]; simp [hs]
  have zS : S.size = s.size + 1 + a1.size := by
    have : S.data.toList.length = S.size := by simp
    rw [← this, ← hS]; simp; omega
  obtain ⟨U, hU⟩ : ∃ U, (((⟨#[60, 47]⟩ : ByteArray) ++ nm) ++ (⟨#[62]⟩ : ByteArray)) ++ a1 = U := ⟨_, rfl⟩
  have dU : U.data.toList = 60 :: 47 :: (nm.data.toList ++ 62 :: a1.data.toList) := by rw [← hU]; simp
  have zU : U.size ≤ 300 := by
    have : U.data.toList.length = U.size := by simp
    rw [← this, dU]; simp; omega
  have g1 := next_ok S 0 0 ⟨#[]⟩ false (by omega) (Nat.zero_le _) (k := k) (by omega)
  have g2 := next_ok U 0 0 ⟨#[]⟩ false (by omega) (Nat.zero_le _) (k := k) (by omega)
  have g3 := next_ok s 0 0 ⟨#[]⟩ false (by omega) (Nat.zero_le _) (k := k) (by omega)
  rw [back_next S (by omega) nm l c _ dS hn hp hl hns] at g1
  rw [back_stop U (by omega) nm _ dU hn hp] at g2
  have g4 := back_none s (by omega) nm l c hs hn hp hl hns
  have hlen : nm.size + (attrsL l).length + (endL c).length + 1 = s.size := by
    rw [← es, hs, List.length_cons, List.length_append, List.length_append, e1]; omega
  generalize nextT s 0 0 ⟨#[]⟩ false = T at g3 g4
  rw [marginalialaw04_TokenBack.j4, if_pos (by omega), if_pos (by omega), hS]
  simp only [TokV.tuple] at g1 g2 g3
  rw [g1, Option.bind_some, if_pos (by omega), if_pos (by omega), if_pos (by omega), hU, g2, Option.bind_some, g3, Option.bind_some, alive04 (by omega), Option.bind_some, if_pos rfl]
  simp only
  rw [same_self 2 nm l c ⟨#[]⟩ (by omega) (by omega), Option.bind_some, if_pos rfl, if_pos (by rw [show wrap64 ((s.size : Int) + 1) = ((s.size + 1 : Nat) : Int) from by unfold wrap64; omega]; omega), same_self 3 nm [] false ⟨#[]⟩ (by simp) (by simp; omega), Option.bind_some, if_pos rfl, if_pos (by rw [show wrap64 ((nm.size : Int) + 3) = ((nm.size + 3 : Nat) : Int) from by unfold wrap64; omega]), if_pos g4.1, g4.2]
  simp
theorem names_snoc {l : List S41} {a : S41} (h : Names l) (h2 : ∀ b ∈ l, ¬ b.f0.toList = a.f0.toList) : Names (l ++ [a]) := by
  refine List.pairwise_append.2 ⟨h, List.pairwise_singleton _ _, fun b hb d hd => ?_⟩
  rw [List.mem_singleton.1 hd]
  exact fun e => h2 b hb e.symm
theorem attrs_len (h : ∀ a ∈ l, a.f0.size ≤ 20 ∧ a.f1.size ≤ 60) : (attrsL l).length ≤ 400 * l.length := by
  induction l with
  | nil => simp [attrsL]
  | cons a l ih =>
    have h1 := h a List.mem_cons_self
    have h2 := ih (fun b hb => h b (List.mem_cons_of_mem _ hb))
    have e0 : a.f0.data.toList.length = a.f0.size := by simp
    have e1 : a.f1.data.toList.length = a.f1.size := by simp
    have hq := quote_len a.f1.data.toList
    have : (attrL a).length = a.f0.size + 4 + (quoteL a.f1.data.toList).length := by
      unfold attrL
      rw [List.length_cons, List.length_append, List.length_cons, List.length_cons, List.length_append, List.length_singleton, e0]; omega
    have e : attrsL (a :: l) = attrL a ++ attrsL l := by simp [attrsL]
    rw [e, List.length_append, List.length_cons]; omega
theorem rdS (i : Nat) (h : i < l.length) : rd_T41 l (i : Int) = l[i] := rd41 l i h
theorem back_l0 (M : Nat) (hmax : ∀ a ∈ l, a.f0.size ≤ 9223372036854775807 ∧ a.f0.size ≤ M) (hn : smallL nm.data.toList = true) (hp : 0 < nm.size) (hn20 : nm.size ≤ 20) (hll : l.length ≤ 6) (h1 : a1.size ≤ 200) (d : Nat) : ∀ (i k : Nat) (s : ByteArray), i + d = l.length → 2300010 + M + 100 * (d + 1) ≤ k →
    (∀ a ∈ l.take i, (smallL a.f0.data.toList = true ∧ 0 < a.f0.size) ∧ a.f0.size ≤ 20 ∧ a.f1.size ≤ 60) → Names (l.take i) → s.data.toList = 60 :: (nm.data.toList ++ attrsL (l.take i)) → marginalialaw04_TokenBack.l0 k a1 s (i : Int) kd nm l c tx = some true := by
  have e1 : nm.data.toList.length = nm.size := by simp
  induction d with
  | zero =>
    intro i k s hi hk hA hN hs
    obtain ⟨k, rfl⟩ : ∃ m, k = m + 1 := ⟨k - 1, by omega⟩
    have ht : l.take i = l := List.take_of_length_le (by omega)
    rw [ht] at hA hN hs
    have es : s.data.toList.length = s.size := by simp
    have hal := attrs_len l (fun a ha => (hA a ha).2)
    have hsz : s.size ≤ 10000 := by rw [← es, hs, List.length_cons, List.length_append, e1]; omega
    rw [marginalialaw04_TokenBack.l0, if_neg (by omega)]
    cases c with
    | true =>
      rw [if_pos rfl, if_pos (by omega)]
      refine back_j4 kd nm l true tx a1 _ hn hp hn20 (fun a ha => (hA a ha).1) hN hll h1 ?_ ?_ (by omega)
      · have : (s ++ (⟨#[47]⟩ : ByteArray)).data.toList.length = (s ++ (⟨#[47]⟩ : ByteArray)).size := by rw [Array.length_toList]; rfl
        rw [← this]; simp; omega
      · simp [hs, endL]
    | false =>
      rw [if_neg Bool.false_ne_true]
      exact back_j4 kd nm l false tx a1 s hn hp hn20 (fun a ha => (hA a ha).1) hN hll h1 (by omega) (by simp [hs, endL]) (by omega)
  | succ d ih =>
    intro i k s hi hk hA hN hs
    obtain ⟨k, rfl⟩ : ∃ m, k = m + 1 := ⟨k - 1, by omega⟩
    have es : s.data.toList.length = s.size := by simp
    have hal := attrs_len (l.take i) (fun a ha => (hA a ha).2)
    rw [List.length_take] at hal
    have hsz : s.size ≤ 10000 := by rw [← es, hs, List.length_cons, List.length_append, e1]; omega
    have hlt : i < l.length := by omega
    have al : ∀ k s x6 a b, 61 ≤ k → marginalialaw04_TokenBack.j2 k a1 s x6 true kd nm l c tx a b = some true := by
      intro k s x6 a b hk
      obtain ⟨k, rfl⟩ : ∃ m, k = m + 1 := ⟨k - 1, by omega⟩
      rw [marginalialaw04_TokenBack.j2, if_pos rfl, alive04 (by omega), Option.bind_some]
    rw [marginalialaw04_TokenBack.l0, if_pos (by omega), if_pos (by omega), rdS l i hlt]
    obtain ⟨a, hae⟩ : ∃ a, l[i] = a := ⟨_, rfl⟩
    rw [hae]
    have hb := hmax a (by rw [← hae]; exact List.getElem_mem hlt)
    rw [small_ok a.f0 hb.1 (by omega), Option.bind_some]
    cases hsm : smallL a.f0.data.toList && (decide (1 ≤ a.f0.size) && decide (a.f0.size ≤ 20)) with
    | false => rw [if_neg Bool.false_ne_true]; exact al _ _ _ _ _ (by omega)
    | true =>
      simp only [Bool.and_eq_true, decide_eq_true_eq] at hsm
      rw [if_pos rfl]
      by_cases hv : (a.f1.size : Int) > 60
      · rw [decide_eq_true hv]; exact al _ _ _ _ _ (by omega)
      · rw [decide_eq_false hv]
        obtain ⟨k, rfl⟩ : ∃ m, k = m + 1 := ⟨k - 1, by omega⟩
        rw [marginalialaw04_TokenBack.j2, if_neg Bool.false_ne_true]
        have e0 : a.f0.data.toList.length = a.f0.size := by simp
        have htake : l.take (i + 1) = l.take i ++ [a] := by rw [List.take_add_one, List.getElem?_eq_getElem hlt, hae]; rfl
        -- the inner loop
        have inner : ∀ (e j k : Nat), j + e = i → 2300010 + M + 100 * (d + 1) + e + 1 ≤ k → (∀ m (hm : m < j) (hml : m < l.length), ¬ (l[m]).f0.toList = a.f0.toList) → marginalialaw04_TokenBack.l1 k a1 s (i : Int) (j : Int) kd nm l c tx a.f0 a.f1 = some true := by
          intro e
          induction e with
          | zero =>
            intro j k hj hk hno
            obtain ⟨k, rfl⟩ : ∃ m, k = m + 1 := ⟨k - 1, by omega⟩
            have hq : (mkB (34 :: (quoteL a.f1.data.toList ++ [34]))).size ≤ 400 := by
              have := quote_len a.f1.data.toList
              have e2 : a.f1.data.toList.length = a.f1.size := by simp
              rw [mkB_size]; simp; omega
            rw [marginalialaw04_TokenBack.l1, if_neg (by omega), if_pos (by omega), if_pos (by omega), if_pos (by omega), quoted_ok a.f1 (by omega) (by omega), Option.bind_some, if_pos (by omega), show wrap64 ((i : Int) + 1) = ((i + 1 : Nat) : Int) from by unfold wrap64; omega]
            refine ih (i + 1) k _ (by omega) (by omega) ?_ ?_ ?_
            · intro b hb
              rw [htake] at hb
              rcases List.mem_append.1 hb with hb | hb
              · exact hA b hb
              · rw [List.mem_singleton.1 hb]; exact ⟨⟨hsm.1, by omega⟩, hsm.2.2, by omega⟩
            · rw [htake]
              refine names_snoc hN fun b hb => ?_
              obtain ⟨m, hm, rfl⟩ := List.getElem_of_mem hb
              rw [List.length_take] at hm
              rw [List.getElem_take]
              exact hno m (by omega) (by omega)
            · rw [htake]
              have : attrsL (l.take i ++ [a]) = attrsL (l.take i) ++ attrL a := by simp [attrsL]
              rw [this]
              simp [hs, attrL, mkB]
          | succ e ihe =>
            intro j k hj hk hno
            obtain ⟨k, rfl⟩ : ∃ m, k = m + 1 := ⟨k - 1, by omega⟩
            have hjl : j < l.length := by omega
            rw [marginalialaw04_TokenBack.l1, if_pos (by omega), if_pos (by omega), if_pos (by omega), rdS l j hjl]
            by_cases heq : (l[j]).f0.toList = a.f0.toList
            · rw [if_pos heq, alive04 (by omega), Option.bind_some]
            · rw [if_neg heq, show wrap64 ((j : Int) + 1) = ((j + 1 : Nat) : Int) from by unfold wrap64; omega]
              refine ihe (j + 1) k (by omega) (by omega) fun m hm hml => ?_
              by_cases hmj : m = j
              · subst hmj; exact heq
              · exact hno m (by omega) hml
        exact inner i 0 k (by omega) (by omega) (fun m hm _ => absurd hm (by omega))
end
theorem TokenBack (kd : Int) (nm : ByteArray) (l : List S41) (c : Bool) (tx a1 : ByteArray) (h1 : nm.size ≤ 9223372036854775807) (h3 : ∀ a ∈ l, a.f0.size ≤ 9223372036854775807) : ∃ k, marginalialaw04_TokenBack.f k kd nm l c tx a1 = some true := by
  obtain ⟨M, hM⟩ : ∃ M, ∀ a ∈ l, a.f0.size ≤ M := by
    clear h3
    induction l with
    | nil => exact ⟨0, fun a ha => by cases ha⟩
    | cons b l ih =>
      obtain ⟨M, hM⟩ := ih
      refine ⟨max b.f0.size M, fun a ha => ?_⟩
      rcases List.mem_cons.1 ha with rfl | ha
      · exact Nat.le_max_left _ _
      · exact Nat.le_trans (hM a ha) (Nat.le_max_right _ _)
  refine ⟨2300010 + M + 1000 + nm.size, ?_⟩
  have al : ∀ k, 61 ≤ k → marginalialaw04_TokenBack.j0 k a1 true kd nm l c tx = some true := by
    intro k hk
    obtain ⟨k, rfl⟩ : ∃ m, k = m + 1 := ⟨k - 1, by omega⟩
    rw [marginalialaw04_TokenBack.j0, if_pos rfl, alive04 (by omega), Option.bind_some]
  unfold marginalialaw04_TokenBack.f
  by_cases g0 : (l.length : Int) > 6
  · rw [if_pos g0]; exact al _ (by omega)
  rw [if_neg g0]
  by_cases g1 : (a1.size : Int) > 200
  · rw [if_pos g1]; exact al _ (by omega)
  rw [if_neg g1, small_ok nm h1 (by omega), Option.bind_some]
  cases hsm : smallL nm.data.toList && (decide (1 ≤ nm.size) && decide (nm.size ≤ 20)) with
  | false => exact al _ (by omega)
  | true =>
    simp only [Bool.and_eq_true, decide_eq_true_eq] at hsm
    obtain ⟨k, hk⟩ : ∃ k, 2300010 + M + 1000 + nm.size = k + 1 := ⟨2300009 + M + 1000 + nm.size, by omega⟩
    rw [hk, marginalialaw04_TokenBack.j0, if_neg (by decide), if_pos (by omega)]
    exact back_l0 kd nm l c tx a1 M (fun a ha => ⟨h3 a ha, hM a ha⟩) hsm.1 (by omega) hsm.2.2 (by omega) (by omega) l.length 0 k _ (by omega) (by omega) (fun a ha => by cases ha) List.Pairwise.nil (by simp [attrsL])


end Go.Proofs.Ytpelfhldgnmhpaa.Pure
