/- The printed functions of package charref (the reference at a place; decoded), over any texts of at most a million bytes: each tells what the list law (Spec) says. Condition: a text has at most a million bytes. -/
import Derived.Test.YtpelfhldgnmhpaaCharD
namespace Go.Proofs.Ytpelfhldgnmhpaa.Pure
open Go.RowKit Go.Proofs.Ytpelfhldgnmhpaa.G Go.Proofs.YtpelfhldgnmhpaaW.PrintWords Go.Proofs.YtpelfhldgnmhpaaW.PrintLast Go.Proofs.YtpelfhldgnmhpaaW.PrintMore
open Go.Proofs.Ytpelfhldgnmhpaa.Spec
set_option autoImplicit false
set_option linter.unusedVariables false
set_option linter.unusedSimpArgs false



theorem bt38 (c : UInt8) : (((c.toNat : Nat) : Int) != 38) = (c != 38) := by
  rw [Bool.eq_iff_iff, bne_iff_ne, bne_iff_ne]
  exact not_congr ⟨fun e => UInt8.toNat_inj.1 (by have : ((38 : UInt8).toNat : Int) = 38 := rfl; omega), fun e => by rw [e]; rfl⟩
theorem ne59 (c : UInt8) : (((c.toNat : Nat) : Int) = 59) ↔ c = 59 :=
  ⟨fun e => UInt8.toNat_inj.1 (by have : ((59 : UInt8).toNat : Int) = 59 := rfl; omega), fun e => by rw [e]; rfl⟩
theorem ne61 (c : UInt8) : (((c.toNat : Nat) : Int) = 61) ↔ c = 61 :=
  ⟨fun e => UInt8.toNat_inj.1 (by have : ((61 : UInt8).toNat : Int) = 61 := rfl; omega), fun e => by rw [e]; rfl⟩
theorem eq35 (c : UInt8) : (((c.toNat : Nat) : Int) == 35) = (c == 35) := by
  rw [Bool.eq_iff_iff, beq_iff_eq, beq_iff_eq]
  exact ⟨fun e => UInt8.toNat_inj.1 (by have : ((35 : UInt8).toNat : Int) = 35 := rfl; omega), fun e => by rw [e]; rfl⟩

theorem atBody_ok (l : Bs) (hl : l.length ≤ 1000000) (i : Nat) (hi : i < l.length) (attr : Bool) {k : Nat} (hk : l.length + 20 ≤ k) :
    charref_At.j0 k (mkB l) (i : Int) attr false = some (mkB (ref attr (l.drop (i + 1))).1, (((ref attr (l.drop (i + 1))).2 : Nat) : Int)) := by
  obtain ⟨k, rfl⟩ : ∃ m, k = m + 1 := ⟨k - 1, by omega⟩
  have w1 : wrap64 ((i : Int) + 1) = ((i + 1 : Nat) : Int) := wrn (n := i + 1) (by omega)
  simp only [charref_At.j0, Bool.false_eq_true, if_false]
  rw [w1]
  have hex : (mkB l).extract (((i + 1 : Nat) : Int)).toNat (mkB l).size = mkB (l.drop (i + 1)) := by
    rw [Int.toNat_natCast, mkB_extract, mkB_size, List.take_of_length_le (Nat.le_refl _)]
  rw [hex]
  have hrl : (l.drop (i + 1)).length = l.length - (i + 1) := by simp
  have g1 : (0 : Int) ≤ ((i + 1 : Nat) : Int) := by omega
  have g2 : ((i + 1 : Nat) : Int) ≤ ((mkB l).size : Int) := by rw [mkB_size]; omega
  rw [if_pos g1, if_pos g2, cutPrefix_ok, Option.bind_some]
  generalize l.drop (i + 1) = r at *
  unfold ref
  by_cases h35 : r.head? = some 35
  · rw [if_pos h35, if_pos h35]
    simp only [if_true]
    rw [byNumber_ok (r.drop 1) (by simp; omega) k (by simp; omega), Option.bind_some]
    cases hb : byNum (r.drop 1) with
    | none => simp only; rw [if_neg (by omega), mkB_lit]; rfl
    | some p =>
      have hp := byNum_len hb
      simp only [List.length_drop] at hp
      simp only
      rw [if_pos (by omega)]
      have : wrap64 ((p.2 : Int) + 2) = ((p.2 + 2 : Nat) : Int) := wrn (n := p.2 + 2) (by omega)
      rw [this]
  · rw [if_neg h35, if_neg h35]
    simp only [Bool.false_eq_true, if_false]
    rw [byName_ok r (by omega) (by omega), Option.bind_some]
    have hspec := longest_spec r
    generalize longest r = p at *
    by_cases hz : p.2 = 0
    · rw [if_pos hz, if_pos hz]
      simp only [if_true]
      rw [mkB_lit]; rfl
    · rw [if_neg hz, if_neg hz]
      have hpl : p.2 ≤ r.length := by
        rcases hspec with ⟨h, _⟩ | ⟨_, h, _⟩
        · rw [h] at hz; exact absurd rfl hz
        · exact h
      have g3 : ¬ ((p.2 : Nat) : Int) = 0 := by omega
      have w2 : wrap64 ((p.2 : Int) + 1) = ((p.2 + 1 : Nat) : Int) := wrn (n := p.2 + 1) (by omega)
      have w3 : wrap64 ((p.2 : Int) - 1) = ((p.2 - 1 : Nat) : Int) := by rw [wr (by omega) (by omega)]; omega
      simp only
      rw [if_neg g3, w2, w3]
      cases attr with
      | false => simp
      | true =>
        have g4 : (0 : Int) ≤ ((p.2 - 1 : Nat) : Int) := by omega
        have g5 : ((p.2 - 1 : Nat) : Int) < ((mkB r).size : Int) := by rw [mkB_size]; omega
        have g6 : (0 : Int) ≤ ((p.2 : Nat) : Int) := by omega
        have g7 : ((p.2 : Nat) : Int) ≤ ((mkB r).size : Int) := by rw [mkB_size]; omega
        have hex2 : (mkB r).extract (((p.2 : Nat) : Int)).toNat (mkB r).size = mkB (r.drop p.2) := by
          rw [Int.toNat_natCast, mkB_extract, mkB_size, List.take_of_length_le (Nat.le_refl _)]
        rw [if_pos rfl, if_pos g4, if_pos g5, mkB_bt, if_pos g6, if_pos g7, hex2, stays_ok, Option.bind_some]
        by_cases h59 : r.getD (p.2 - 1) 0 = 59
        · rw [if_pos ((ne59 _).2 h59), if_neg (fun h => h.2.1 h59)]
        · rw [if_neg (fun h => h59 ((ne59 _).1 h))]
          cases hst : stays (r.drop p.2) with
          | true => rw [if_pos rfl, if_pos ⟨rfl, h59, rfl⟩, mkB_lit]; rfl
          | false => rw [if_neg Bool.false_ne_true, if_neg (fun h => absurd h.2.2 Bool.false_ne_true)]

theorem at_ok (l : Bs) (hl : l.length ≤ 1000000) (i : Nat) (hi : i < l.length) (h38 : l[i] = 38) (attr : Bool) {k : Nat} (hk : l.length + 20 ≤ k) :
    charref_At.f k (mkB l) (i : Int) attr = some (mkB (ref attr (l.drop (i + 1))).1, (((ref attr (l.drop (i + 1))).2 : Nat) : Int)) := by
  unfold charref_At.f
  have hg : l.getD i 0 = l[i] := by simp [List.getD, hi]
  have hb : ((bt (mkB l) (i : Int)) != 38) = false := by rw [mkB_bt, hg, bt38, h38]; rfl
  have g1 : ¬ (i : Int) < 0 := by omega
  have g2 : ¬ (i : Int) ≥ ((mkB l).size : Int) := by rw [mkB_size]; omega
  have g3 : (0 : Int) ≤ (i : Int) := by omega
  have g4 : (i : Int) < ((mkB l).size : Int) := by rw [mkB_size]; omega
  rw [if_neg g1, if_neg g2, if_pos g3, if_pos g4, hb]
  exact atBody_ok l hl i hi attr hk

theorem at_none (l : Bs) (i : Int) (h : i < 0 ∨ (l.length : Int) ≤ i ∨ ∃ j : Nat, i = j ∧ l.getD j 0 ≠ 38) (attr : Bool) {k : Nat} (hk : 1 ≤ k) : charref_At.f k (mkB l) i attr = some (mkB [], 0) := by
  obtain ⟨k, rfl⟩ : ∃ m, k = m + 1 := ⟨k - 1, by omega⟩
  have jt : charref_At.j0 (k + 1) (mkB l) i attr true = some (mkB [], 0) := by simp only [charref_At.j0, if_true]; rfl
  unfold charref_At.f
  by_cases c1 : i < 0
  · rw [if_pos c1, jt]
  · rw [if_neg c1]
    by_cases c2 : i ≥ ((mkB l).size : Int)
    · rw [if_pos c2, jt]
    · have c2' := c2
      rw [mkB_size] at c2'
      rcases h with h | h | ⟨j, rfl, hj⟩
      · exact absurd h c1
      · exact absurd h c2'
      · have hb : ((bt (mkB l) (j : Int)) != 38) = true := by rw [mkB_bt, bt38]; simpa using hj
        rw [if_neg c2, if_pos (by omega), if_pos (by rw [mkB_size]; omega), hb, jt]

/-! #### a text, decoded -/
theorem index_spec (l : Bs) (c : UInt8) : (Lib.indexByte l c = -1 ∧ c ∉ l) ∨ ∃ p r, l = p ++ c :: r ∧ c ∉ p ∧ Lib.indexByte l c = (p.length : Int) := by
  induction l with
  | nil => left; exact ⟨rfl, by simp⟩
  | cons b l ih =>
    unfold Lib.indexByte
    by_cases hb : b = c
    · subst hb
      right
      exact ⟨[], l, rfl, by simp, by simp⟩
    · have e : (b == c) = false := by simpa using hb
      rw [e]
      simp only [Bool.false_eq_true, if_false]
      rcases ih with ⟨h1, h2⟩ | ⟨p, r, h1, h2, h3⟩
      · left
        rw [h1]
        exact ⟨by simp, by simp [h2, eq_comm (a := c), hb]⟩
      · right
        refine ⟨b :: p, r, by rw [h1]; rfl, by simp [h2, eq_comm (a := c), hb], ?_⟩
        rw [h3]
        have : ((p.length : Int) == -1) = false := by
          rw [beq_eq_false_iff_ne]; omega
        rw [this]; simp

theorem ref_out (attr : Bool) (r : Bs) : (ref attr r).1.length ≤ 4 := by
  unfold ref
  have := utf8_len
  repeat' split
  all_goals first | exact this _ | simp

theorem decode_l0 (attr : Bool) (d : Nat) : ∀ (l out : Bs) (k : Nat), l.length ≤ d → d ≤ 1000000 → out.length + 5 * l.length ≤ 1000000000 → 2 * d + 30 ≤ k →
    charref_Decode.l0 k (mkB l) attr (mkB out) = some (mkB (out ++ dec attr l)) := by
  induction d with
  | zero =>
    intro l out k hl hd ho hk
    obtain ⟨k, rfl⟩ : ∃ m, k = m + 1 := ⟨k - 1, by omega⟩
    obtain rfl : l = [] := List.eq_nil_of_length_eq_zero (by omega)
    have e : Lib.indexByte (mkB []).data.toList 38 = -1 := rfl
    rw [charref_Decode.l0, e, if_pos (by omega), if_pos (by rw [mkB_size, mkB_size]; simp; omega), mkB_append, dec_nil]
  | succ d ih =>
    intro l out k hl hd ho hk
    obtain ⟨k, rfl⟩ : ∃ m, k = m + 1 := ⟨k - 1, by omega⟩
    rw [charref_Decode.l0, mkB_data]
    rcases index_spec l 38 with ⟨h1, h2⟩ | ⟨p, r, rfl, h2, h3⟩
    · have hp := dec_plain attr l [] h2
      rw [List.append_nil, dec_nil, List.append_nil] at hp
      rw [h1, if_pos (by omega), if_pos (by rw [mkB_size, mkB_size]; omega), mkB_append, hp]
    · have hlen : (p ++ 38 :: r).length = p.length + r.length + 1 := by simp; omega
      have hr := ref_len attr r
      have hro := ref_out attr r
      have hat := at_ok (p ++ 38 :: r) (by omega) p.length (by omega) (by simp) attr (k := k) (by omega)
      have hdr : (p ++ 38 :: r).drop (p.length + 1) = r := by rw [List.drop_append]; simp
      rw [hdr] at hat
      have hex : (mkB (p ++ 38 :: r)).extract 0 p.length = mkB p := by rw [mkB_extract]; simp
      have w : wrap64 ((p.length : Int) + (((ref attr r).2 : Nat) : Int)) = ((p.length + (ref attr r).2 : Nat) : Int) := by rw [← Int.natCast_add, wrn (by omega)]
      have hsz : (mkB (p ++ 38 :: r)).size = p.length + r.length + 1 := by rw [mkB_size, hlen]
      have hex2 : (mkB (p ++ 38 :: r)).extract (p.length + (ref attr r).2) (mkB (p ++ 38 :: r)).size = mkB (r.drop ((ref attr r).2 - 1)) := by
        rw [mkB_extract, mkB_size, List.take_of_length_le (Nat.le_refl _)]
        congr 1
        rw [List.drop_append, List.drop_of_length_le (by omega), List.nil_append]
        have : p.length + (ref attr r).2 - p.length = ((ref attr r).2 - 1) + 1 := by omega
        rw [this, List.drop_succ_cons]
      rw [h3, if_neg (by omega), hat, Option.bind_some]
      simp only
      rw [Int.toNat_natCast, hex, w, Int.toNat_natCast, hex2]
      simp only [mkB_size]
      have q1 : out.length + p.length ≤ 140737488355328 := by omega
      have q2 : out.length + p.length + (ref attr r).1.length ≤ 140737488355328 := by omega
      have q3 : (0 : Int) ≤ (p.length : Int) := by omega
      have q4 : (p.length : Int) ≤ ((p ++ 38 :: r).length : Int) := by omega
      have q5 : (0 : Int) ≤ ((p.length + (ref attr r).2 : Nat) : Int) := by omega
      have q6 : ((p.length + (ref attr r).2 : Nat) : Int) ≤ ((p ++ 38 :: r).length : Int) := by omega
      rw [if_pos q3, if_pos q4, if_pos q1, if_pos q2, if_pos q5, if_pos q6, mkB_append, mkB_append]
      rw [ih (r.drop ((ref attr r).2 - 1)) _ k (by simp; omega) (by omega) (by simp; omega) (by omega)]
      rw [dec_plain attr p _ h2, dec_amp]
      simp [List.append_assoc]

theorem decode_ok (attr : Bool) (l : Bs) (hl : l.length ≤ 1000000) {k : Nat} (hk : 2 * l.length + 30 ≤ k) : charref_Decode.f k (mkB l) attr = some (mkB (dec attr l)) := by
  unfold charref_Decode.f
  have e : (⟨#[]⟩ : ByteArray) = mkB [] := rfl
  rw [e, decode_l0 attr l.length l [] k (Nat.le_refl _) hl (by simp; omega) hk, List.nil_append]


end Go.Proofs.Ytpelfhldgnmhpaa.Pure
