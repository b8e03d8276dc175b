/- Laws of the list law of character references: there and back, part by part, what stands there is taken (no program in sight). No condition. -/
import Derived.Test.YtpelfhldgnmhpaaSpec
namespace Go.Proofs.Ytpelfhldgnmhpaa.Spec
set_option autoImplicit false
set_option linter.unusedVariables false
set_option linter.unusedSimpArgs false

theorem getD_app (a b : Bs) (n : Nat) (h : n < a.length) : (a ++ b).getD n 0 = a.getD n 0 := by
  simp [List.getD, List.getElem?_append_left h]
theorem longest_eq (r : Bs) (n c : Nat) (hn : n ≠ 0) (hmem : (r.take n, c) ∈ all) (hle : n ≤ r.length) (hmax : ∀ x ∈ all, x.1 <+: r → x.1.length ≤ n) : longest r = (c, n) := by
  have hc : named (r.take n) = c := by rw [named_all]; exact lk_of_mem all_nodup hmem
  have hc0 : c ≠ 0 := all_code _ hmem
  rcases longest_spec r with ⟨h1, h2⟩ | ⟨h1, h2, h3, h4, h5, h6, h7⟩
  · have := h2 n; omega
  · have a : n ≤ (longest r).2 := by
      rcases Nat.lt_or_ge (longest r).2 n with h | h
      · have := h7 n h hle; omega
      · exact h
    have b := hmax _ h6 (List.take_prefix _ _)
    simp only [List.length_take] at b
    have e : (longest r).2 = n := by omega
    rw [e] at h4
    exact Prod.ext (by rw [← h4]; exact hc) e
theorem longest_zero (r : Bs) (h : ∀ x ∈ all, ¬ x.1 <+: r) : longest r = (0, 0) := by
  rcases longest_spec r with ⟨h1, h2⟩ | ⟨h1, h2, h3, h4, h5, h6, h7⟩
  · exact h1
  · exact absurd (List.take_prefix _ _) (h _ h6)
theorem longest_nil : longest [] = (0, 0) := longest_zero [] (fun x hx h => by
  have h1 := (all_len x hx).1
  have := h.length_le
  simp at this
  rw [this] at h1; simp at h1)

theorem all_points : ∀ y ∈ all, y.1.getLast? = some 59 → ∀ x ∈ all, y.1 <+: x.1 → x.1.length ≤ y.1.length := by decide +kernel
theorem all_heads : ∀ y ∈ all, y.1.head? ≠ some 35 := by decide +kernel
/-- A name with its point stands for itself, whatever stands behind. -/
theorem longest_word (p : Bs) (c : Nat) (h1 : (p, c) ∈ all) (h2 : p.getLast? = some 59) (t : Bs) : longest (p ++ t) = (c, p.length) := by
  have hl := (all_len _ h1).1
  refine longest_eq _ _ _ (by simp only at hl; omega) (by simpa using h1) (by simp) ?_
  intro x hx hp
  rcases Nat.lt_or_ge p.length x.1.length with h | h
  · have : p <+: x.1 := List.prefix_of_prefix_length_le (List.prefix_append _ _) hp (by omega)
    exact all_points _ h1 h2 x hx this
  · exact h
theorem ref_word (attr : Bool) (p : Bs) (c : Nat) (h1 : (p, c) ∈ all) (h2 : p.getLast? = some 59) (t : Bs) : ref attr (p ++ t) = (utf8 c, p.length + 1) := by
  have hl := (all_len _ h1).1
  simp only at hl
  have hh : (p ++ t).head? ≠ some 35 := by
    have := all_heads _ h1
    cases p with
    | nil => simp at hl
    | cons a b => simpa using this
  unfold ref
  rw [if_neg hh, longest_word p c h1 h2 t, if_neg (by simp only; omega)]
  have hg : (p ++ t).getD (p.length - 1) 0 = 59 := by
    rw [getD_app _ _ _ (by omega)]
    rw [List.getLast?_eq_getElem?] at h2
    simp [List.getD, h2]
  simp only
  rw [if_neg (fun h => h.2.1 hg)]

theorem ref_amp (attr : Bool) (t : Bs) : ref attr (97 :: 109 :: 112 :: 59 :: t) = ([38], 5) := ref_word attr [97, 109, 112, 59] 38 (by decide +kernel) (by decide) t
theorem ref_lt (attr : Bool) (t : Bs) : ref attr (108 :: 116 :: 59 :: t) = ([60], 4) := ref_word attr [108, 116, 59] 60 (by decide +kernel) (by decide) t
theorem ref_gt (attr : Bool) (t : Bs) : ref attr (103 :: 116 :: 59 :: t) = ([62], 4) := ref_word attr [103, 116, 59] 62 (by decide +kernel) (by decide) t
theorem ref_quot (attr : Bool) (t : Bs) : ref attr (113 :: 117 :: 111 :: 116 :: 59 :: t) = ([34], 6) := ref_word attr [113, 117, 111, 116, 59] 34 (by decide +kernel) (by decide) t
theorem ref_nbsp (attr : Bool) (t : Bs) : ref attr (110 :: 98 :: 115 :: 112 :: 59 :: t) = ([194, 160], 6) := ref_word attr [110, 98, 115, 112, 59] 160 (by decide +kernel) (by decide) t
theorem ref_38 (attr : Bool) (t : Bs) : ref attr (35 :: 51 :: 56 :: 59 :: t) = ([38], 5) := by rfl
theorem ref_x26 (attr : Bool) (t : Bs) : ref attr (35 :: 120 :: 50 :: 54 :: 59 :: t) = ([38], 6) := by rfl

/-- Each & as a reference w: decoded as it was. -/
theorem dec_back (attr : Bool) (w : Bs) (n : Nat) (hw : ∀ t, ref attr (w ++ t) = ([38], n)) (hn : n = w.length + 1) (s : Bs) : dec attr (s.flatMap fun c => if c = 38 then 38 :: w else [c]) = s := by
  induction s with
  | nil => exact dec_nil attr
  | cons c s ih =>
    rw [List.flatMap_cons]
    by_cases h : c = 38
    · subst h
      rw [if_pos rfl, List.cons_append, dec_amp, hw, hn]
      simp only [Nat.add_sub_cancel, List.drop_left]
      rw [ih]; rfl
    · rw [if_neg h]
      show dec attr (c :: _) = _
      rw [dec_other attr c _ h]
      exact congrArg _ ih

/-! part by part -/
theorem pre_sep (c : UInt8) (hc : c = 32 ∨ c = 60) (x : Bs × Nat) (hx : x ∈ all) (u v : Bs) : x.1 <+: (u ++ c :: v) ↔ x.1 <+: u := by
  constructor
  · intro h
    rcases Nat.lt_or_ge u.length x.1.length with hl | hl
    · exfalso
      have h9 : (u ++ [c]) <+: x.1 := by
        refine List.prefix_of_prefix_length_le (l₃ := u ++ c :: v) ?_ h (by simp; omega)
        exact ⟨v, by simp⟩
      have hm : c ∈ x.1 := h9.subset (by simp)
      have := all_chars x hx c hm
      rcases hc with rfl | rfl
      · exact this.1 rfl
      · exact this.2.1 rfl
    · exact List.prefix_of_prefix_length_le h (List.prefix_append _ _) hl
  · intro h; exact h.trans (List.prefix_append _ _)
theorem best_sep (c : UInt8) (hc : c = 32 ∨ c = 60) (u v : Bs) (T : List (Bs × Nat)) (hT : ∀ x ∈ T, x ∈ all) (p : Nat × Nat) : best T (u ++ c :: v) p = best T u p := by
  induction T generalizing p with
  | nil => rfl
  | cons x r ih =>
    obtain ⟨n, d⟩ := x
    simp only [best]
    have e : n.isPrefixOf (u ++ c :: v) = n.isPrefixOf u := by
      rw [Bool.eq_iff_iff, List.isPrefixOf_iff_prefix, List.isPrefixOf_iff_prefix]
      exact pre_sep c hc (n, d) (hT _ (by simp)) u v
    rw [e]
    exact ih (fun y hy => hT y (by simp [hy])) _
theorem longest_sep (c : UInt8) (hc : c = 32 ∨ c = 60) (u v : Bs) : longest (u ++ c :: v) = longest u := best_sep c hc u v all (fun _ h => h) (0, 0)
theorem digv_sep (base : Nat) (c : UInt8) (hc : c = 32 ∨ c = 60) : digv base c = none := by rcases hc with rfl | rfl <;> rfl
theorem num_sep (base : Nat) (c : UInt8) (hc : c = 32 ∨ c = 60) (u v : Bs) (n : Nat) : num base (u ++ c :: v) n = num base u n := by
  induction u generalizing n with
  | nil => simp only [List.nil_append, num, digv_sep base c hc]
  | cons x u ih =>
    simp only [List.cons_append, num]
    cases digv base x with
    | none => rfl
    | some d => simp only [ih]
theorem hexed_sep (c : UInt8) (hc : c = 32 ∨ c = 60) (u v : Bs) : hexed (u ++ c :: v) = hexed u := by
  cases u with
  | nil => rcases hc with rfl | rfl <;> rfl
  | cons x u => rfl
theorem head_sep (c : UInt8) (b : UInt8) (hb : b ≠ c) (u v : Bs) (j : Nat) (hj : j ≤ u.length) : ((u ++ c :: v).drop j).head? = some b ↔ (u.drop j).head? = some b := by
  rw [List.drop_append_of_le_length hj]
  cases u.drop j with
  | nil => simp [Ne.symm hb]
  | cons _ _ => simp
theorem byNum_sep (c : UInt8) (hc : c = 32 ∨ c = 60) (u v : Bs) : byNum (u ++ c :: v) = byNum u := by
  unfold byNum
  simp only [hexed_sep c hc u v]
  have hi : (if hexed u = true then 1 else 0) ≤ u.length := by
    split
    · exact hexed_len (by assumption)
    · omega
  generalize (if hexed u = true then 1 else 0) = i at *
  generalize (if hexed u = true then 16 else 10) = b
  rw [List.drop_append_of_le_length hi, num_sep b c hc]
  have h1 := num_len b (u.drop i) 0
  simp only [List.length_drop] at h1
  generalize num b (u.drop i) 0 = q at *
  have e : ((u ++ c :: v).drop (i + q.2)).head? = some 59 ↔ (u.drop (i + q.2)).head? = some 59 := head_sep c 59 (by rcases hc with rfl | rfl <;> decide) u v _ (by omega)
  simp only [e]
theorem ref_sep (attr : Bool) (c : UInt8) (hc : c = 32 ∨ c = 60) (u v : Bs) : ref attr (u ++ c :: v) = ref attr u := by
  unfold ref
  have hd := head_sep c 35 (by rcases hc with rfl | rfl <;> decide) u v 0 (by omega)
  simp only [List.drop_zero] at hd
  rw [longest_sep c hc u v]
  simp only [hd]
  by_cases h35 : u.head? = some 35
  · rw [if_pos h35, if_pos h35]
    cases u with
    | nil => simp at h35
    | cons x u' => simp only [List.cons_append, List.drop_succ_cons, List.drop_zero, byNum_sep c hc u' v]
  · rw [if_neg h35, if_neg h35]
    rcases longest_spec u with ⟨h1, _⟩ | ⟨h1, h2, _⟩
    · rw [h1]; rfl
    · rw [if_neg h1, if_neg h1]
      have g : (u ++ c :: v).getD ((longest u).2 - 1) 0 = u.getD ((longest u).2 - 1) 0 := getD_app _ _ _ (by omega)
      have s : stays ((u ++ c :: v).drop (longest u).2) = stays (u.drop (longest u).2) := by
        rw [List.drop_append_of_le_length h2]
        cases u.drop (longest u).2 with
        | nil => rcases hc with rfl | rfl <;> rfl
        | cons _ _ => rfl
      rw [g, s]
theorem dec_sep (attr : Bool) (c : UInt8) (hc : c = 32 ∨ c = 60) (v : Bs) (d : Nat) : ∀ u : Bs, u.length ≤ d → dec attr (u ++ c :: v) = dec attr u ++ c :: dec attr v := by
  have hc38 : c ≠ 38 := by rcases hc with rfl | rfl <;> decide
  induction d with
  | zero =>
    intro u hu
    obtain rfl : u = [] := List.eq_nil_of_length_eq_zero (by omega)
    rw [List.nil_append, dec_nil, List.nil_append, dec_other attr c v hc38]
  | succ d ih =>
    intro u hu
    cases u with
    | nil => rw [List.nil_append, dec_nil, List.nil_append, dec_other attr c v hc38]
    | cons x u =>
      simp only [List.length_cons] at hu
      by_cases h : x = 38
      · subst h
        have hr := ref_len attr u
        rw [List.cons_append, dec_amp, dec_amp, ref_sep attr c hc u v, List.drop_append_of_le_length (by omega), ih _ (by simp; omega), List.append_assoc]
      · rw [List.cons_append, dec_other attr x _ h, dec_other attr x _ h, ih u (by omega)]; rfl

/-! what stands there is taken -/
theorem num_take (base : Nat) (s : Bs) (n m : Nat) (h : (num base s n).2 ≤ m) : num base (s.take m) n = num base s n := by
  induction s generalizing n m with
  | nil => simp
  | cons c r ih =>
    simp only [num] at h
    cases hd : digv base c with
    | none =>
      cases m with
      | zero => simp [num, hd]
      | succ m => simp [num, hd]
    | some d =>
      rw [hd] at h
      simp only at h
      cases m with
      | zero => omega
      | succ m =>
        simp only [List.take_succ_cons, num, hd]
        rw [ih _ m (by omega)]
theorem byNum_take (s : Bs) (v n : Nat) (h : byNum s = some (v, n)) : byNum (s.take n) = some (v, n) := by
  have hl := byNum_len h
  simp only at hl
  unfold byNum at h ⊢
  have hh : hexed (s.take n) = hexed s := by
    unfold hexed
    cases s with
    | nil => simp at hl; omega
    | cons c r =>
      obtain ⟨m, rfl⟩ : ∃ m, n = m + 1 := ⟨n - 1, by omega⟩
      simp
  simp only [hh] at h ⊢
  have hi : (if hexed s = true then 1 else 0) ≤ s.length := by
    split
    · exact hexed_len (by assumption)
    · omega
  generalize (if hexed s = true then 1 else 0) = i at *
  generalize (if hexed s = true then 16 else 10) = b at *
  have h1 := num_len b (s.drop i) 0
  simp only [List.length_drop] at h1
  by_cases hz : (num b (s.drop i) 0).2 = 0
  · rw [if_pos hz] at h; cases h
  · rw [if_neg hz] at h
    have h' := Option.some.inj h
    have hv : (num b (s.drop i) 0).1 = v := congrArg Prod.fst h'
    have hn : i + (num b (s.drop i) 0).2 + (if (s.drop (i + (num b (s.drop i) 0).2)).head? = some 59 then 1 else 0) = n := congrArg Prod.snd h'
    have e : (s.take n).drop i = (s.drop i).take (n - i) := List.drop_take ..
    have hnum : num b ((s.take n).drop i) 0 = num b (s.drop i) 0 := by
      rw [e]; exact num_take b _ 0 _ (by omega)
    rw [hnum]
    generalize num b (s.drop i) 0 = q at *
    rw [if_neg hz]
    have hd : ((s.take n).drop (i + q.2)).head? = some 59 ↔ (s.drop (i + q.2)).head? = some 59 := by
      rw [List.drop_take]
      by_cases h59 : (s.drop (i + q.2)).head? = some 59
      · rw [if_pos h59] at hn
        obtain ⟨m, hm⟩ : ∃ m, n - (i + q.2) = m + 1 := ⟨0, by omega⟩
        rw [hm]
        cases hs : s.drop (i + q.2) with
        | nil => simp
        | cons _ _ => simp
      · rw [if_neg h59] at hn
        have : n - (i + q.2) = 0 := by omega
        rw [this]
        constructor
        · intro h; simp at h
        · intro h; exact absurd h h59
    simp only [hd]
    rw [hn, hv]
theorem ref_nil (attr : Bool) : ref attr [] = ([38], 1) := by
  unfold ref
  rw [longest_nil]
  simp
theorem head_take (r : Bs) (m : Nat) (h : m ≠ 0) : (r.take m).head? = r.head? := by
  obtain ⟨m, rfl⟩ : ∃ k, m = k + 1 := ⟨m - 1, by omega⟩
  cases r <;> simp
theorem ref_take (attr : Bool) (r : Bs) : ref false (r.take ((ref attr r).2 - 1)) = ref attr r := by
  by_cases h35 : r.head? = some 35
  · have e : ref attr r = (match byNum (r.drop 1) with | none => ([38], 1) | some p => (utf8 (point p.1), p.2 + 2)) := by unfold ref; rw [if_pos h35]; rfl
    rw [e]
    cases hb : byNum (r.drop 1) with
    | none => exact ref_nil false
    | some p =>
      obtain ⟨v, n⟩ := p
      simp only
      have hr : r.take (n + 2 - 1) = 35 :: (r.drop 1).take n := by
        cases r with
        | nil => simp at h35
        | cons c r =>
          simp only [List.head?_cons, Option.some.injEq] at h35
          subst h35
          have : n + 2 - 1 = n + 1 := by omega
          rw [this]; simp
      rw [hr]
      unfold ref
      rw [if_pos (by simp)]
      simp only [List.drop_succ_cons, List.drop_zero, byNum_take _ v n hb]
  · rcases longest_spec r with ⟨h1, _⟩ | ⟨h1, h2, h3, h4, h5, h6, h7⟩
    · have e : ref attr r = ([38], 1) := by unfold ref; rw [if_neg h35, h1, if_pos rfl]
      rw [e]; exact ref_nil false
    · by_cases hs : attr = true ∧ r.getD ((longest r).2 - 1) 0 ≠ 59 ∧ stays (r.drop (longest r).2) = true
      · have e : ref attr r = ([38], 1) := by unfold ref; rw [if_neg h35, if_neg h1, if_pos hs]
        rw [e]; exact ref_nil false
      · have e : ref attr r = (utf8 (longest r).1, (longest r).2 + 1) := by unfold ref; rw [if_neg h35, if_neg h1, if_neg hs]
        rw [e]
        simp only [Nat.add_sub_cancel]
        have hl : (r.take (longest r).2).length = (longest r).2 := by simp; omega
        have hg : longest (r.take (longest r).2) = ((longest r).1, (longest r).2) := by
          refine longest_eq _ _ _ h1 ?_ (by omega) ?_
          · rw [List.take_take, Nat.min_self]; exact h6
          · intro x hx hp
            have := hp.length_le
            omega
        unfold ref
        rw [if_neg (by rw [head_take r _ h1]; exact h35), hg, if_neg h1, if_neg (by simp)]
theorem dec_one (attr : Bool) (r : Bs) : dec false (38 :: r.take ((ref attr r).2 - 1)) = (ref attr r).1 := by
  rw [dec_amp, ref_take]
  rw [List.drop_of_length_le (by simp; omega), dec_nil, List.append_nil]

end Go.Proofs.Ytpelfhldgnmhpaa.Spec
