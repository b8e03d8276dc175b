/- The printed functions of package charref (names), over any texts of at most a million bytes: each tells what the list law (Spec) says. Condition: a text has at most a million bytes. -/
import Derived.Test.YthialihgamlljaaCharB
import Derived.Test.YthialihgamlljaaCharC
namespace Go.Proofs.Ythialihgamlljaa.Pure
open Go.RowKit Go.Proofs.Ythialihgamlljaa.G Go.Proofs.YthialihgamlljaaW.PrintWords Go.Proofs.YthialihgamlljaaW.PrintLast Go.Proofs.YthialihgamlljaaW.PrintMore
open Go.Proofs.Ythialihgamlljaa.Spec
set_option autoImplicit false
set_option linter.unusedVariables false
set_option linter.unusedSimpArgs false


/-! #### the longest name -/
theorem byName_l0 (l : Bs) (hl : l.length ≤ 1000000) (j : Nat) : ∀ (k : Nat), j ≤ l.length → (longest l).2 ≤ j → j + 7 ≤ k →
    charref_byName.l0 k (mkB l) (j : Int) = some (if (longest l).2 = 0 then (mkB [], 0) else (mkB (utf8 (longest l).1), (((longest l).2 : Nat) : Int))) := by
  have hs := longest_spec l
  generalize longest l = p at *
  induction j with
  | zero =>
    intro k hj hp hk
    obtain ⟨k, rfl⟩ : ∃ m, k = m + 1 := ⟨k - 1, by omega⟩
    simp only [charref_byName.l0]
    rw [if_neg (by omega), if_pos (by omega)]; rfl
  | succ j ih =>
    intro k hj hp hk
    obtain ⟨k, rfl⟩ : ∃ m, k = m + 1 := ⟨k - 1, by omega⟩
    simp only [charref_byName.l0]
    rw [if_pos (by omega), if_pos (by omega), if_pos (by rw [mkB_size]; omega), mkB_extract, Int.toNat_natCast, List.drop_zero, named_ok (l.take (j + 1)) (by simp; omega) (by omega), Option.bind_some]
    have w : wrap64 (((j + 1 : Nat) : Int) - 1) = (j : Int) := by rw [wr (by omega) (by omega)]; omega
    by_cases e : p.2 = j + 1
    · rcases hs with ⟨h1, _⟩ | ⟨h1, _, _, h4, h5, _, _⟩
      · rw [h1] at e; simp at e
      · rw [← e, h4, if_neg h5, if_neg h1]
        simp only [if_true]
    · have hz : named (l.take (j + 1)) = 0 := by
        rcases hs with ⟨_, h2⟩ | ⟨_, _, _, _, _, _, h7⟩
        · exact h2 _
        · exact h7 _ (by omega) hj
      rw [hz]
      simp only [if_true, Bool.false_eq_true, if_false]
      rw [w]
      exact ih k (by omega) (by omega) (by omega)

theorem byName_ok (l : Bs) (hl : l.length ≤ 1000000) {k : Nat} (hk : 16 ≤ k) :
    charref_byName.f k (mkB l) = some (if (longest l).2 = 0 then (mkB [], 0) else (mkB (utf8 (longest l).1), (((longest l).2 : Nat) : Int))) := by
  unfold charref_byName.f
  have hm : mn ((mkB l).size : Int) 8 = ((min l.length 8 : Nat) : Int) := by rw [mkB_size]; unfold mn; split <;> omega
  rw [hm]
  have hb : (longest l).2 ≤ l.length ∧ (longest l).2 ≤ 8 := by
    rcases longest_spec l with ⟨h1, _⟩ | ⟨_, h2, h3, _⟩
    · rw [h1]; simp
    · exact ⟨h2, h3⟩
  exact byName_l0 l hl (min l.length 8) k (by omega) (by omega) (by omega)

theorem pre_iff (l nm : Bs) (a : Nat) (ha : a ≤ l.length) : nm <+: l.drop a ↔ (a + nm.length ≤ l.length ∧ (l.take (a + nm.length)).drop a = nm) := by
  rw [List.prefix_iff_eq_take, List.drop_take, Nat.add_sub_cancel_left]
  constructor
  · intro h
    refine ⟨?_, h.symm⟩
    have := congrArg List.length h
    simp only [List.length_take, List.length_drop] at this
    omega
  · intro h; exact h.2.symm

/-- What the reference holds as the best name so far. -/
def held (p : Nat × Nat) : ByteArray := if p.2 = 0 then mkB [] else mkB (utf8 p.1)
def upd (s : Bs) (n : Bs) (c : Nat) (p : Nat × Nat) : Nat × Nat := if n.isPrefixOf s && decide (p.2 < n.length) then (c, n.length) else p
theorem best_upd (n : Bs) (c : Nat) (r : List (Bs × Nat)) (s : Bs) (p : Nat × Nat) : best ((n, c) :: r) s p = best r s (upd s n c p) := rfl

theorem var_step {α : Type} (F : ByteArray → Int → Option α) (l : Bs) (hl : l.length ≤ 1000000) (a : Nat) (ha : a ≤ l.length) (m : Bs) (hm : 1 ≤ m.length ∧ m.length ≤ 9) (c : Nat) (hc : c ≤ 1114111) (p : Nat × Nat) :
    (if wrap64 ((a : Int) + (m.length : Int)) ≤ (l.length : Int) then (if 0 ≤ (a : Int) then (if (a : Int) ≤ wrap64 ((a : Int) + (m.length : Int)) then (if ((mkB l).extract ((a : Int).toNat) (wrap64 ((a : Int) + (m.length : Int))).toNat).toList = m then (if (m.length : Int) > ((p.2 : Nat) : Int) then ((marginaliaref03_Utf8.f (c : Int)).bind fun t => F t (m.length : Int)) else F (held p) ((p.2 : Nat) : Int)) else F (held p) ((p.2 : Nat) : Int)) else none) else none) else F (held p) ((p.2 : Nat) : Int)) = F (held (upd (l.drop a) m c p)) (((upd (l.drop a) m c p).2 : Nat) : Int) := by
  have w : wrap64 ((a : Int) + (m.length : Int)) = ((a + m.length : Nat) : Int) := by rw [← Int.natCast_add, wrn (by omega)]
  rw [w]
  unfold upd
  by_cases hpre : m <+: l.drop a
  · obtain ⟨h1, h2⟩ := (pre_iff l m a ha).1 hpre
    have hb : m.isPrefixOf (l.drop a) = true := List.isPrefixOf_iff_prefix.2 hpre
    have g1 : ((a + m.length : Nat) : Int) ≤ (l.length : Int) := by omega
    have g2 : (0 : Int) ≤ (a : Int) := by omega
    have g3 : (a : Int) ≤ ((a + m.length : Nat) : Int) := by omega
    rw [if_pos g1, if_pos g2, if_pos g3, Int.toNat_natCast, Int.toNat_natCast, mkB_extract, mkB_toList, if_pos h2, hb]
    by_cases hlt : p.2 < m.length
    · have g4 : (m.length : Int) > ((p.2 : Nat) : Int) := by omega
      rw [if_pos g4, utf8_ref c hc, Option.bind_some, decide_eq_true hlt]
      have : held (c, m.length) = mkB (utf8 c) := by unfold held; rw [if_neg (by simp only; omega)]
      rw [Bool.and_self, if_pos rfl, this]
    · have g4 : ¬ (m.length : Int) > ((p.2 : Nat) : Int) := by omega
      rw [if_neg g4, decide_eq_false hlt, Bool.and_false, if_neg Bool.false_ne_true]
  · have hb : m.isPrefixOf (l.drop a) = false := by
      rw [Bool.eq_false_iff]; exact fun h => hpre (List.isPrefixOf_iff_prefix.1 h)
    rw [hb, Bool.false_and, if_neg Bool.false_ne_true]
    by_cases h1 : a + m.length ≤ l.length
    · have h2 : ¬ (l.take (a + m.length)).drop a = m := fun h => hpre ((pre_iff l m a ha).2 ⟨h1, h⟩)
      have g1 : ((a + m.length : Nat) : Int) ≤ (l.length : Int) := by omega
      have g2 : (0 : Int) ≤ (a : Int) := by omega
      have g3 : (a : Int) ≤ ((a + m.length : Nat) : Int) := by omega
      rw [if_pos g1, if_pos g2, if_pos g3, Int.toNat_natCast, Int.toNat_natCast, mkB_extract, mkB_toList, if_neg h2]
    · have g1 : ¬ ((a + m.length : Nat) : Int) ≤ (l.length : Int) := by omega
      rw [if_neg g1]

theorem longest_l1_two (s : ByteArray) (a : Int) (T : List S67) (b : ByteArray) (n j : Int) {k : Nat} (hk : 1 ≤ k) :
    marginaliaref03_longest.l1 k s a T b n j 2 = marginaliaref03_longest.l0 (k - 1) s a T b n (wrap64 (j + 1)) := by
  obtain ⟨k, rfl⟩ : ∃ m, k = m + 1 := ⟨k - 1, by omega⟩
  simp only [marginaliaref03_longest.l1]
  rw [if_neg (by omega)]; rfl

theorem longest_l1_one (l : Bs) (hl : l.length ≤ 1000000) (a : Nat) (ha : a ≤ l.length) (T : List (Bs × Nat × Bool)) (hT : ∀ x ∈ T, 1 ≤ x.1.length ∧ x.1.length ≤ 8 ∧ x.2.1 ≤ 1114111) (p : Nat × Nat) (hp : p.2 ≤ 9) (j : Nat) (hj : j < T.length) {k : Nat} (hk : 1 ≤ k) :
    marginaliaref03_longest.l1 k (mkB l) (a : Int) (T.map ent) (held p) ((p.2 : Nat) : Int) (j : Int) 1 = (let q := if T[j].2.2 then upd (l.drop a) T[j].1 T[j].2.1 p else p; marginaliaref03_longest.l1 (k - 1) (mkB l) (a : Int) (T.map ent) (held q) ((q.2 : Nat) : Int) (j : Int) 2) := by
  obtain ⟨k, rfl⟩ : ∃ m, k = m + 1 := ⟨k - 1, by omega⟩
  have hx := hT T[j] (List.getElem_mem hj)
  have hr := rd_ent T j hj
  simp only [marginaliaref03_longest.l1]
  rw [if_pos (by omega), if_pos (by omega), if_pos (by simp; omega), if_neg (by omega), hr]
  generalize T[j] = x at hx
  obtain ⟨n, c, b⟩ := x
  simp only at hx
  simp only [ent, mkB_size, mkB_toList, Nat.add_sub_cancel]
  have w2 : wrap64 ((1 : Int) + 1) = 2 := wr (n := 2) (by omega) (by omega)
  cases b with
  | false => rw [if_neg (by simp), w2]; simp
  | true =>
    rw [if_pos rfl, if_pos rfl, w2]
    exact var_step (fun t n => marginaliaref03_longest.l1 k (mkB l) (a : Int) (T.map ent) t n (j : Int) 2) l hl a ha n ⟨hx.1, by omega⟩ c hx.2.2 p

theorem longest_l1_nil (l : Bs) (hl : l.length ≤ 1000000) (a : Nat) (ha : a ≤ l.length) (T : List (Bs × Nat × Bool)) (hT : ∀ x ∈ T, 1 ≤ x.1.length ∧ x.1.length ≤ 8 ∧ x.2.1 ≤ 1114111) (p : Nat × Nat) (hp : p.2 ≤ 9) (j : Nat) (hj : j < T.length) {k : Nat} (hk : 1 ≤ k) :
    marginaliaref03_longest.l1 k (mkB l) (a : Int) (T.map ent) (held p) ((p.2 : Nat) : Int) (j : Int) 0 = (let q := upd (l.drop a) (T[j].1 ++ [59]) T[j].2.1 p; marginaliaref03_longest.l1 (k - 1) (mkB l) (a : Int) (T.map ent) (held q) ((q.2 : Nat) : Int) (j : Int) 1) := by
  obtain ⟨k, rfl⟩ : ∃ m, k = m + 1 := ⟨k - 1, by omega⟩
  have hx := hT T[j] (List.getElem_mem hj)
  have hr := rd_ent T j hj
  simp only [marginaliaref03_longest.l1]
  rw [if_pos (by omega), if_pos (by omega), if_pos (by simp; omega), if_pos trivial, hr]
  generalize T[j] = x at hx
  obtain ⟨n, c, b⟩ := x
  simp only at hx
  simp only [ent, Nat.add_sub_cancel]
  have e59 : (⟨#[59]⟩ : ByteArray) = mkB [59] := mkB_lit _
  simp only [e59, mkB_append]
  simp only [mkB_size, mkB_toList]
  have w2 : wrap64 ((0 : Int) + 1) = 1 := wr (n := 1) (by omega) (by omega)
  have hn1 : (n ++ [59]).length = n.length + 1 := by simp
  have hs : n.length + 1 ≤ 9223372036854775807 := by omega
  rw [if_pos hs, w2]
  exact var_step (fun t n => marginaliaref03_longest.l1 k (mkB l) (a : Int) (T.map ent) t n (j : Int) 1) l hl a ha (n ++ [59]) (by omega) c hx.2.2 p

theorem upd_le (s n : Bs) (c : Nat) (p : Nat × Nat) (hn : n.length ≤ 9) (hp : p.2 ≤ 9) : (upd s n c p).2 ≤ 9 := by
  unfold upd; split
  · exact hn
  · exact hp

/-- All variants of some entries. -/
def vars (T : List (Bs × Nat × Bool)) : List (Bs × Nat) := T.flatMap fun x => (x.1 ++ [59], x.2.1) :: if x.2.2 then [(x.1, x.2.1)] else []

theorem longest_l0 (l : Bs) (hl : l.length ≤ 1000000) (a : Nat) (ha : a ≤ l.length) (T : List (Bs × Nat × Bool)) (hT : ∀ x ∈ T, 1 ≤ x.1.length ∧ x.1.length ≤ 8 ∧ x.2.1 ≤ 1114111) (hlen : T.length ≤ 1000) (d : Nat) : ∀ (j k : Nat) (p : Nat × Nat), j + d = T.length → 4 * d + 1 ≤ k → p.2 ≤ 9 →
    marginaliaref03_longest.l0 k (mkB l) (a : Int) (T.map ent) (held p) ((p.2 : Nat) : Int) (j : Int) = some (held (best (vars (T.drop j)) (l.drop a) p), (((best (vars (T.drop j)) (l.drop a) p).2 : Nat) : Int)) := by
  induction d with
  | zero =>
    intro j k p hj hk hp
    obtain ⟨k, rfl⟩ : ∃ m, k = m + 1 := ⟨k - 1, by omega⟩
    simp only [marginaliaref03_longest.l0]
    rw [if_neg (by simp; omega), List.drop_of_length_le (by omega)]; rfl
  | succ d ih =>
    intro j k p hj hk hp
    obtain ⟨k, rfl⟩ : ∃ m, k = m + 1 := ⟨k - 1, by omega⟩
    have hjl : j < T.length := by omega
    have hx := hT T[j] (List.getElem_mem hjl)
    have w : wrap64 ((j : Int) + 1) = ((j + 1 : Nat) : Int) := wrn (n := j + 1) (by omega)
    simp only [marginaliaref03_longest.l0]
    rw [if_pos (by simp; omega), longest_l1_nil l hl a ha T hT p hp j hjl (by omega)]
    have h1 := upd_le (l.drop a) (T[j].1 ++ [59]) T[j].2.1 p (by simp; omega) hp
    simp only
    rw [longest_l1_one l hl a ha T hT _ h1 j hjl (by omega)]
    simp only
    rw [longest_l1_two _ _ _ _ _ _ (by omega), w]
    have h2 : (if T[j].2.2 = true then upd (l.drop a) T[j].1 T[j].2.1 (upd (l.drop a) (T[j].1 ++ [59]) T[j].2.1 p) else upd (l.drop a) (T[j].1 ++ [59]) T[j].2.1 p).2 ≤ 9 := by
      split
      · exact upd_le _ _ _ _ (by omega) h1
      · exact h1
    rw [ih (j + 1) _ _ (by omega) (by omega) h2]
    have hb : best (vars (T.drop j)) (l.drop a) p = best (vars (T.drop (j + 1))) (l.drop a) (if T[j].2.2 = true then upd (l.drop a) T[j].1 T[j].2.1 (upd (l.drop a) (T[j].1 ++ [59]) T[j].2.1 p) else upd (l.drop a) (T[j].1 ++ [59]) T[j].2.1 p) := by
      rw [List.drop_eq_getElem_cons hjl]
      unfold vars
      rw [List.flatMap_cons, List.cons_append, best_upd]
      cases T[j].2.2 with
      | true => simp only [if_true, List.cons_append, List.nil_append, best_upd]
      | false => simp only [Bool.false_eq_true, if_false, List.nil_append]
    rw [hb]

theorem tab_ok : ∀ x ∈ tab, 1 ≤ x.1.length ∧ x.1.length ≤ 8 ∧ x.2.1 ≤ 1114111 := by decide
theorem refLongest_ok (l : Bs) (hl : l.length ≤ 1000000) (a : Nat) (ha : a ≤ l.length) {k : Nat} (hk : 190 ≤ k) :
    marginaliaref03_longest.f k (mkB l) (a : Int) = some (if (longest (l.drop a)).2 = 0 then (mkB [], 0) else (mkB (utf8 (longest (l.drop a)).1), (((longest (l.drop a)).2 : Nat) : Int))) := by
  unfold marginaliaref03_longest.f
  rw [entries_ok, Option.bind_some]
  have h := longest_l0 l hl a ha tab tab_ok (by decide) 45 0 k (0, 0) (by decide) (by omega) (by decide)
  have e : best (vars (tab.drop 0)) (l.drop a) (0, 0) = longest (l.drop a) := rfl
  rw [e] at h
  refine (show _ = _ from h).trans ?_
  unfold held
  split
  · rename_i h0; rw [h0]; rfl
  · rfl

/-! #### the reference at a place -/
theorem cutPrefix_ok (l : Bs) : strings_CutPrefix.f (mkB l) ⟨#[35]⟩ = some (if l.head? = some 35 then (mkB (l.drop 1), true) else (mkB l, false)) := by
  unfold strings_CutPrefix.f stringslite_CutPrefix.f stringslite_HasPrefix.f
  rw [mkB_lit]
  simp only [mkB_size, mkB_extract, mkB_toList]
  cases l with
  | nil => simp [mkB]
  | cons c r =>
    rw [if_pos (by simp <;> omega), if_pos (by simp), if_pos (by simp <;> omega)]
    by_cases hc : c = 35
    · subst hc
      rw [Option.bind_some, if_pos (by simp), if_pos (by simp), if_pos (by simp <;> omega)]
      simp
    · rw [Option.bind_some, if_neg (by simp [hc])]
      simp [hc]

theorem stays_ok (r : Bs) : charref_stays.f (mkB r) = some (stays r) := by
  unfold charref_stays.f
  rw [mkB_toList]
  cases r with
  | nil => simp [stays]
  | cons c r =>
    have e := mkB_bt (c :: r) 0
    have e' : bt (mkB (c :: r)) 0 = (c.toNat : Int) := e
    rw [if_neg (by simp), if_pos (by rw [mkB_size]; simp <;> omega), e', letter_ok, Option.bind_some, figure_ok, Option.bind_some]
    unfold stays
    by_cases h1 : c = 61
    · subst h1; rfl
    · rw [if_neg (fun e => h1 (UInt8.toNat_inj.1 (by have : ((61 : UInt8).toNat : Int) = 61 := rfl; omega)))]
      have : (c == 61) = false := by simpa using h1
      show _ = some (c == 61 || letter c || figure c)
      rw [this, Bool.false_or]
      cases letter c <;> simp

end Go.Proofs.Ythialihgamlljaa.Pure
