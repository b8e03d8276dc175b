/- The printed functions of package charref, over any texts of at most a million bytes: each tells what the list law (Spec) says. Condition: a text has at most a million bytes. -/
import Derived.Test.YtpelfhldgnmhpaaCharA
namespace Go.Proofs.Ytpelfhldgnmhpaa.Pure
open Go.RowKit Go.Proofs.Ytpelfhldgnmhpaa.G Go.Proofs.YtpelfhldgnmhpaaW.PrintWords Go.Proofs.YtpelfhldgnmhpaaW.PrintLast Go.Proofs.YtpelfhldgnmhpaaW.PrintMore
open Go.Proofs.Ytpelfhldgnmhpaa.Spec
set_option autoImplicit false
set_option linter.unusedVariables false
set_option linter.unusedSimpArgs false

/-! #### references by number -/
theorem byNumber_j3 (l : Bs) (hl : l.length ≤ 1000000) (i : Nat) (hi : i ≤ l.length) (v : Nat) (fr : Nat) {k : Nat} (hk : 1 ≤ k) :
    charref_byNumber.j3 k (mkB l) (i : Int) (v : Int) (fr : Int) = some (if i = fr then (mkB [], 0) else (mkB (utf8 (point v)), ((i + if (l.drop i).head? = some 59 then 1 else 0 : Nat) : Int))) := by
  obtain ⟨k, rfl⟩ : ∃ m, k = m + 1 := ⟨k - 1, by omega⟩
  simp only [charref_byNumber.j3]
  by_cases e : i = fr
  · rw [if_pos (by omega), if_pos e]; rfl
  · rw [if_neg (by omega), if_neg e, if_pos (by omega), if_pos (by rw [mkB_size]; omega), number_ok]
    rw [Int.toNat_natCast, mkB_extract, mkB_size, List.take_of_length_le (Nat.le_refl _)]
    have hp : strings_HasPrefix.f (mkB (l.drop i)) ⟨#[59]⟩ = some (decide ((l.drop i).head? = some 59)) := by
      unfold strings_HasPrefix.f stringslite_HasPrefix.f
      rw [mkB_lit]
      simp only [mkB_size, mkB_extract, mkB_toList]
      cases hd : l.drop i with
      | nil => simp
      | cons c r =>
        rw [if_pos (by simp <;> omega), if_pos (by simp), if_pos (by simp <;> omega)]
        by_cases hc : c = 59 <;> simp [hc]
    rw [hp]
    simp only [Option.bind_some, Int.toNat_natCast]
    by_cases h59 : (l.drop i).head? = some 59
    · rw [if_pos (by simpa using h59), if_pos h59, wr (by omega) (by omega)]; rfl
    · rw [if_neg (by simpa using h59), if_neg h59]; simp

theorem byNumber_l0 (l : Bs) (hl : l.length ≤ 1000000) (base : Nat) (hb : base = 10 ∨ base = 16) (fr : Nat) (d : Nat) : ∀ (i k v : Nat), i + d = l.length → d + 1 < k → v ≤ 1114112 →
    charref_byNumber.l0 k (mkB l) (i : Int) (base : Int) (v : Int) (fr : Int) = charref_byNumber.j3 1 (mkB l) ((i + (num base (l.drop i) v).2 : Nat) : Int) (((num base (l.drop i) v).1 : Nat) : Int) (fr : Int) := by
  induction d with
  | zero =>
    intro i k v hi hk hv
    obtain ⟨k, rfl⟩ : ∃ m, k = m + 1 := ⟨k - 1, by omega⟩
    rw [List.drop_of_length_le (by omega)]
    simp only [charref_byNumber.l0, num, Nat.add_zero]
    rw [if_neg (by rw [mkB_size]; omega), byNumber_j3 l hl i (by omega) _ _ (by omega), byNumber_j3 l hl i (by omega) _ _ (by omega)]
  | succ d ih =>
    intro i k v hi hk hv
    obtain ⟨k, rfl⟩ : ∃ m, k = m + 1 := ⟨k - 1, by omega⟩
    have hil : i < l.length := by omega
    rw [List.drop_eq_getElem_cons hil]
    have hg : l.getD i 0 = l[i] := by simp [List.getD, hil]
    simp only [charref_byNumber.l0]
    rw [if_pos (by rw [mkB_size]; omega), if_pos (by omega), mkB_bt, hg]
    obtain ⟨x, hx, hx2⟩ := hex_ok l[i]
    rw [hx]
    simp only [Option.bind_some, num]
    have stop : charref_byNumber.j3 k (mkB l) (i : Int) (v : Int) (fr : Int) = charref_byNumber.j3 1 (mkB l) ((i + (v, 0).2 : Nat) : Int) (((v, 0).1 : Nat) : Int) (fr : Int) := by
      rw [byNumber_j3 l hl i (by omega) _ _ (by omega)]; exact (byNumber_j3 l hl i (by omega) v fr (Nat.le_refl _)).symm
    unfold digv
    cases hv2 : hexv l[i] with
    | none => simp only [Option.isSome_none, Bool.false_eq_true, if_false, Option.bind_none]; exact stop
    | some dv =>
      obtain rfl := hx2 dv hv2
      simp only [Option.isSome_some, if_true, Option.bind_some]
      by_cases hlt : dv < base
      · rw [if_neg (by omega)]
        simp only [hlt, if_true]
        have hd16 : dv < 16 := by omega
        have hvb : v * base ≤ 17825792 := by rcases hb with rfl | rfl <;> omega
        have w1 : wrap64 ((v : Int) * (base : Int)) = ((v * base : Nat) : Int) := by rw [← Int.natCast_mul, wr (by omega) (by omega)]
        have w2 : wrap64 (((v * base : Nat) : Int) + (dv : Int)) = ((v * base + dv : Nat) : Int) := by rw [wr (by omega) (by omega)]; omega
        have w3 : mn ((v * base + dv : Nat) : Int) 1114112 = ((min (v * base + dv) 1114112 : Nat) : Int) := by unfold mn; split <;> omega
        have w4 : wrap64 ((i : Int) + 1) = ((i + 1 : Nat) : Int) := by rw [wr (by omega) (by omega)]; omega
        rw [w1, w2, w3, w4, ih (i + 1) k _ (by omega) (by omega) (Nat.min_le_right _ _)]
        have e : i + 1 + (num base (l.drop (i + 1)) (min (v * base + dv) 1114112)).2 = i + ((num base (l.drop (i + 1)) (min (v * base + dv) 1114112)).2 + 1) := by omega
        rw [e]
      · rw [if_pos (by omega)]
        simp only [hlt, if_false]
        exact stop

theorem or32_x (c : UInt8) : (Go.bits .or .u8 (c.toNat : Int) 32 == 120) = (c == 120 || c == 88) := by
  have : ∀ n : Fin 256, (Go.bits .or .u8 ((UInt8.ofNat n.val).toNat : Int) 32 == 120) = (UInt8.ofNat n.val == 120 || UInt8.ofNat n.val == 88) := by decide +kernel
  have h := this ⟨c.toNat, c.toNat_lt⟩
  simpa using h

theorem byNumber_ok (l : Bs) (hl : l.length ≤ 1000000) (k : Nat) (hk : l.length + 5 ≤ k) :
    charref_byNumber.f k (mkB l) = some (match byNum l with | none => (mkB [], 0) | some p => (mkB (utf8 (point p.1)), (p.2 : Int))) := by
  obtain ⟨k, rfl⟩ : ∃ m, k = m + 2 := ⟨k - 2, by omega⟩
  have step : charref_byNumber.f (k + 2) (mkB l) = charref_byNumber.l0 k (mkB l) ((if hexed l then 1 else 0 : Nat) : Int) ((if hexed l then 16 else 10 : Nat) : Int) 0 ((if hexed l then 1 else 0 : Nat) : Int) := by
    unfold charref_byNumber.f
    rw [mkB_toList]
    cases l with
    | nil => simp [charref_byNumber.j0, charref_byNumber.j1, hexed]
    | cons c r =>
      rw [if_neg (by simp), if_pos (by rw [mkB_size]; simp)]
      have e := mkB_bt (c :: r) 0
      simp only [List.getD_cons_zero] at e
      have e' : bt (mkB (c :: r)) 0 = (c.toNat : Int) := e
      rw [e', or32_x]
      have hx : hexed (c :: r) = (c == 120 || c == 88) := by simp [hexed]
      rw [hx]
      simp only [charref_byNumber.j0, charref_byNumber.j1]
      cases (c == 120 || c == 88) <;> simp
  rw [step]
  have hi : (if hexed l then 1 else 0 : Nat) ≤ l.length := by
    split
    · exact hexed_len (by assumption)
    · omega
  have hb : (if hexed l then 16 else 10 : Nat) = 10 ∨ (if hexed l then 16 else 10 : Nat) = 16 := by split <;> simp
  have h0 := byNumber_l0 l hl (if hexed l then 16 else 10) hb (if hexed l then 1 else 0) (l.length - (if hexed l then 1 else 0)) (if hexed l then 1 else 0) k 0 (by omega) (by omega) (by omega)
  have hn := num_len (if hexed l then 16 else 10) (l.drop (if hexed l then 1 else 0)) 0
  simp only [List.length_drop] at hn
  refine (show _ = _ from h0).trans ?_
  rw [byNumber_j3 l hl _ (by omega) _ _ (Nat.le_refl _)]
  unfold byNum
  simp only
  generalize (if hexed l = true then 1 else 0) = i at *
  generalize num (if hexed l = true then 16 else 10) (l.drop i) 0 = p at *
  by_cases e : p.2 = 0
  · rw [if_pos (by omega), if_pos e]
  · rw [if_neg (by omega), if_neg e]


end Go.Proofs.Ytpelfhldgnmhpaa.Pure
