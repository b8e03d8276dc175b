/- The printed functions of package charref, over any texts of at most a million bytes: each tells what the list law (Spec) says. Condition: a text has at most a million bytes. -/
import Derived.Test.YthialihgamlljaaCharA
namespace Go.Proofs.Ythialihgamlljaa.Pure
open Go.RowKit Go.Proofs.Ythialihgamlljaa.G Go.Proofs.YthialihgamlljaaW.PrintWords Go.Proofs.YthialihgamlljaaW.PrintLast Go.Proofs.YthialihgamlljaaW.PrintMore
open Go.Proofs.Ythialihgamlljaa.Spec
set_option autoImplicit false
set_option linter.unusedVariables false
set_option linter.unusedSimpArgs false

/-! #### references by number -/
theorem byNumber_j3 (l : Bs) (hl : l.length ≤ 1000000) (i : Nat) (hi : i ≤ l.length) (v : Nat) (fr : Nat) {k : Nat} (hk : 1 ≤ k) :
    charref_byNumber.j3 k (mkB l) (i : Int) (v : Int) (fr : Int) = some (if i = fr then (mkB [], 0) else (mkB (utf8 (point v)), ((i + if (l.drop i).head? = some 59 then 1 else 0 : Nat) : Int))) := by
  obtain ⟨k, rfl⟩ : ∃ m, k = m + 1 := ⟨k - 1, by omega⟩
  simp only [charref_byNumber.j3]
  by_cases e : i = fr
  · rw [if_pos (by omega), if_pos e]; rfl
  · rw [if_neg (by omega), if_neg e, if_pos (by omega), if_pos (by rw [mkB_size]; omega), number_ok]
    rw [Int.toNat_natCast, mkB_extract, mkB_size, List.take_of_length_le (Nat.le_refl _)]
    have hp : strings_HasPrefix.f (mkB (l.drop i)) ⟨#[59]⟩ = some (decide ((l.drop i).head? = some 59)) := by
      unfold strings_HasPrefix.f stringslite_HasPrefix.f
      rw [mkB_lit]
      simp only [mkB_size, mkB_extract, mkB_toList]
      cases hd : l.drop i with
      | nil => simp
      | cons c r =>
        rw [if_pos (by simp <;> omega), if_pos (by simp), if_pos (by simp <;> omega)]
        by_cases hc : c = 59 <;> simp [hc]
    rw [hp]
    simp only [Option.bind_some, Int.toNat_natCast]
    by_cases h59 : (l.drop i).head? = some 59
    · rw [if_pos (by simpa using h59), if_pos h59, wr (by omega) (by omega)]; rfl
    · rw [if_neg (by simpa using h59), if_neg h59]; simp

theorem byNumber_l0 (l : Bs) (hl : l.length ≤ 1000000) (base : Nat) (hb : base = 10 ∨ base = 16) (fr : Nat) (d : Nat) : ∀ (i k v : Nat), i + d = l.length → d + 1 < k → v ≤ 1114112 →
    charref_byNumber.l0 k (mkB l) (i : Int) (base : Int) (v : Int) (fr : Int) = charref_byNumber.j3 1 (mkB l) ((i + (num base (l.drop i) v).2 : Nat) : Int) (((num base (l.drop i) v).1 : Nat) : Int) (fr : Int) := by
  induction d with
  | zero =>
    intro i k v hi hk hv
    obtain ⟨k, rfl⟩ : ∃ m, k = m + 1 := ⟨k - 1, by omega⟩
    rw [List.drop_of_length_le (by omega)]
    simp only [charref_byNumber.l0, num, Nat.add_zero]
    rw [if_neg (by rw [mkB_size]; omega), byNumber_j3 l hl i (by omega) _ _ (by omega), byNumber_j3 l hl i (by omega) _ _ (by omega)]
  | succ d ih =>
    intro i k v hi hk hv
    obtain ⟨k, rfl⟩ : ∃ m, k = m + 1 := ⟨k - 1, by omega⟩
    have hil : i < l.length := by omega
    rw [List.drop_eq_getElem_cons hil]
    have hg : l.getD i 0 = l[i] := by simp [List.getD, hil]
    simp only [charref_byNumber.l0]
    rw [if_pos (by rw [mkB_size]; omega), if_pos (by omega), mkB_bt, hg]
    obtain ⟨x, hx, hx2⟩ := hex_ok l[i]
    rw [hx]
    simp only [Option.bind_some, num]
    have stop : charref_byNumber.j3 k (mkB l) (i : Int) (v : Int) (fr : Int) = charref_byNumber.j3 1 (mkB l) ((i + (v, 0).2 : Nat) : Int) (((v, 0).1 : Nat) : Int) (fr : Int) := by
      rw [byNumber_j3 l hl i (by omega) _ _ (by omega)]; exact (byNumber_j3 l hl i (by omega) v fr (Nat.le_refl _)).symm
    unfold digv
    cases hv2 : hexv l[i] with
    | none => simp only [Option.isSome_none, Bool.false_eq_true, if_false, Option.bind_none]; exact stop
    | some dv =>
      obtain rfl := hx2 dv hv2
      simp only [Option.isSome_some, if_true, Option.bind_some]
      by_cases hlt : dv < base
      · rw [if_neg (by omega)]
        simp only [hlt, if_true]
        have hd16 : dv < 16 := by omega
        have hvb : v * base ≤ 17825792 := by rcases hb with rfl | rfl <;> omega
        have w1 : wrap64 ((v : Int) * (base : Int)) = ((v * base : Nat) : Int) := by rw [← Int.natCast_mul, wr (by omega) (by omega)]
        have w2 : wrap64 (((v * base : Nat) : Int) + (dv : Int)) = ((v * base + dv : Nat) : Int) := by rw [wr (by omega) (by omega)]; omega
        have w3 : mn ((v * base + dv : Nat) : Int) 1114112 = ((min (v * base + dv) 1114112 : Nat) : Int) := by unfold mn; split <;> omega
        have w4 : wrap64 ((i : Int) + 1) = ((i + 1 : Nat) : Int) := by rw [wr (by omega) (by omega)]; omega
        rw [w1, w2, w3, w4, ih (i + 1) k _ (by omega) (by omega) (Nat.min_le_right _ _)]
        have e : i + 1 + (num base (l.drop (i + 1)) (min (v * base + dv) 1114112)).2 = i + ((num base (l.drop (i + 1)) (min (v * base + dv) 1114112)).2 + 1) := by omega
        rw [e]
      · rw [if_pos (by omega)]
        simp only [hlt, if_false]
        exact stop

theorem or32_x (c : UInt8) : (Go.bits .or .u8 (c.toNat : Int) 32 == 120) = (c == 120 || c == 88) := by
  have : ∀ n : Fin 256, (Go.bits .or .u8 ((UInt8.ofNat n.val).toNat : Int) 32 == 120) = (UInt8.ofNat n.val == 120 || UInt8.ofNat n.val == 88) := by decide +kernel
  have h := this ⟨c.toNat, c.toNat_lt⟩
  simpa using h

theorem byNumber_ok (l : Bs) (hl : l.length ≤ 1000000) (k : Nat) (hk : l.length + 5 ≤ k) :
    charref_byNumber.f k (mkB l) = some (match byNum l with | none => (mkB [], 0) | some p => (mkB (utf8 (point p.1)), (p.2 : Int))) := by
  obtain ⟨k, rfl⟩ : ∃ m, k = m + 2 := ⟨k - 2, by omega⟩
  have step : charref_byNumber.f (k + 2) (mkB l) = charref_byNumber.l0 k (mkB l) ((if hexed l then 1 else 0 : Nat) : Int) ((if hexed l then 16 else 10 : Nat) : Int) 0 ((if hexed l then 1 else 0 : Nat) : Int) := by
    unfold charref_byNumber.f
    rw [mkB_toList]
    cases l with
    | nil => simp [charref_byNumber.j0, charref_byNumber.j1, hexed]
    | cons c r =>
      rw [if_neg (by simp), if_pos (by rw [mkB_size]; simp)]
      have e := mkB_bt (c :: r) 0
      simp only [List.getD_cons_zero] at e
      have e' : bt (mkB (c :: r)) 0 = (c.toNat : Int) := e
      rw [e', or32_x]
      have hx : hexed (c :: r) = (c == 120 || c == 88) := by simp [hexed]
      rw [hx]
      simp only [charref_byNumber.j0, charref_byNumber.j1]
      cases (c == 120 || c == 88) <;> simp
  rw [step]
  have hi : (if hexed l then 1 else 0 : Nat) ≤ l.length := by
    split
    · exact hexed_len (by assumption)
    · omega
  have hb : (if hexed l then 16 else 10 : Nat) = 10 ∨ (if hexed l then 16 else 10 : Nat) = 16 := by split <;> simp
  have h0 := byNumber_l0 l hl (if hexed l then 16 else 10) hb (if hexed l then 1 else 0) (l.length - (if hexed l then 1 else 0)) (if hexed l then 1 else 0) k 0 (by omega) (by omega) (by omega)
  have hn := num_len (if hexed l then 16 else 10) (l.drop (if hexed l then 1 else 0)) 0
  simp only [List.length_drop] at hn
  refine (show _ = _ from h0).trans ?_
  rw [byNumber_j3 l hl _ (by omega) _ _ (Nat.le_refl _)]
  unfold byNum
  simp only
  generalize (if hexed l = true then 1 else 0) = i at *
  generalize num (if hexed l = true then 16 else 10) (l.drop i) 0 = p at *
  by_cases e : p.2 = 0
  · rw [if_pos (by omega), if_pos e]
  · rw [if_neg (by omega), if_neg e]

theorem refNumber_stop (l : Bs) (hl : l.length ≤ 1000000) (at0 base : Nat) (i v n : Nat) (hi : i ≤ l.length) (ha : at0 ≤ i) {k : Nat} (hk : 3 ≤ k) : marginaliaref03_number.j3 k (mkB l) (at0 : Int) (i : Int) (base : Int) (v : Int) (n : Int) false = some (
      if n = 0 then (mkB [], 0) else (mkB (utf8 (point v)), ((i + (if (l.drop i).head? = some 59 then 1 else 0) - at0 : Nat) : Int))) := by
  obtain ⟨k, rfl⟩ : ∃ m, k = m + 1 := ⟨k - 1, by omega⟩
  simp only [marginaliaref03_number.j3, Bool.false_eq_true, if_false]
  by_cases hn : n = 0
  · rw [if_pos (by omega), if_pos hn]; rfl
  · have hnr := number_ref (v : Int) (k := k) (by omega)
    rw [Int.toNat_natCast] at hnr
    rw [if_neg (by omega), if_neg hn]
    simp only [hnr, Option.bind_some]
    by_cases hil : i < l.length
    · rw [if_pos (by rw [mkB_size]; omega), if_pos (by omega), mkB_bt]
      have hg : l.getD i 0 = l[i] := by simp [List.getD, hil]
      rw [hg, List.drop_eq_getElem_cons hil]
      simp only [List.head?_cons, Option.some.injEq]
      by_cases h59 : l[i] = 59
      · rw [if_pos (by rw [h59]; rfl), if_pos h59]
        rw [wr (n := (i : Int) + 1) (by omega) (by omega), wr (by omega) (by omega)]
        congr 2; omega
      · rw [if_neg (fun e => h59 (UInt8.toNat_inj.1 (by have : ((59 : UInt8).toNat : Int) = 59 := rfl; omega))), if_neg h59]
        rw [wr (by omega) (by omega)]
        congr 2; omega
    · rw [if_neg (by rw [mkB_size]; omega), List.drop_of_length_le (by omega)]
      simp only [List.head?_nil, reduceCtorEq, if_false]
      rw [wr (by omega) (by omega)]
      congr 2; omega

theorem digv_lt {base : Nat} (hb : base = 10 ∨ base = 16) {c : UInt8} {d : Nat} (h : digv base c = some d) : d < 16 := by
  unfold digv at h
  cases hx : hexv c with
  | none => rw [hx] at h; simp at h
  | some y =>
    rw [hx] at h
    simp only [Option.bind_some] at h
    split at h
    · have := Option.some.inj h; omega
    · cases h

theorem refNumber_go (l : Bs) (hl : l.length ≤ 1000000) (at0 base : Nat) (hb : base = 10 ∨ base = 16) (i v n : Nat) (hil : i < l.length) (hv : v ≤ 1114112) (hn : n ≤ i) (d : Nat) (hd : digv base l[i] = some d) {k : Nat} (hk : 5 ≤ k) :
    marginaliaref03_number.l0 k (mkB l) (at0 : Int) (i : Int) (base : Int) (v : Int) (n : Int) = marginaliaref03_number.l0 (k - 2) (mkB l) (at0 : Int) ((i + 1 : Nat) : Int) (base : Int) ((min (v * base + d) 1114112 : Nat) : Int) ((n + 1 : Nat) : Int) := by
  obtain ⟨k, rfl⟩ : ∃ m, k = m + 1 := ⟨k - 1, by omega⟩
  have hg : l.getD i 0 = l[i] := by simp [List.getD, hil]
  have hdd := digit_ok l[i] base hb (k := k) (by omega)
  rw [hd] at hdd
  simp only [marginaliaref03_number.l0]
  rw [if_pos (by rw [mkB_size]; omega), if_pos (by omega), mkB_bt, hg, hdd]
  simp only [Option.bind_some]
  have dt : decide (((d : Nat) : Int) ≥ 0) = true := decide_eq_true (by omega)
  rw [dt]
  obtain ⟨k, rfl⟩ : ∃ m, k = m + 1 := ⟨k - 1, by omega⟩
  have hdd2 : marginaliaref03_digit.f k (l[i].toNat : Int) (base : Int) = some (d : Int) := by rw [digit_ok l[i] base hb (k := k) (by omega), hd]
  simp only [marginaliaref03_number.j3, if_true]
  rw [if_pos (by omega), if_pos (by rw [mkB_size]; omega), mkB_bt, hg, hdd2, Option.bind_some]
  have hvb : v * base ≤ 17825792 := by rcases hb with rfl | rfl <;> omega
  have hdl := digv_lt hb hd
  have w1 : wrap64 ((v : Int) * (base : Int)) = ((v * base : Nat) : Int) := by rw [← Int.natCast_mul, wrn (by omega)]
  have w2 : wrap64 (((v * base : Nat) : Int) + (d : Int)) = ((v * base + d : Nat) : Int) := by rw [← Int.natCast_add, wrn (by omega)]
  have w4 : wrap64 ((i : Int) + 1) = ((i + 1 : Nat) : Int) := wrn (n := i + 1) (by omega)
  have w5 : wrap64 ((n : Int) + 1) = ((n + 1 : Nat) : Int) := wrn (n := n + 1) (by omega)
  rw [w1, w2, w4, w5]
  have ek : k + 1 + 1 - 2 = k := by omega
  have em : (1114112 : Int) = ((1114112 : Nat) : Int) := rfl
  rw [ek]
  by_cases hlt : ((v * base + d : Nat) : Int) > 1114111
  · rw [if_pos hlt]
    have : min (v * base + d) 1114112 = 1114112 := by omega
    rw [this, em]
  · rw [if_neg hlt]
    have : min (v * base + d) 1114112 = v * base + d := by omega
    rw [this]

theorem refNumber_l0 (l : Bs) (hl : l.length ≤ 1000000) (at0 : Nat) (base : Nat) (hb : base = 10 ∨ base = 16) (d : Nat) : ∀ (i k v n : Nat), i + d = l.length → at0 ≤ i → 2 * d + 5 ≤ k → v ≤ 1114112 → n ≤ i →
    marginaliaref03_number.l0 k (mkB l) (at0 : Int) (i : Int) (base : Int) (v : Int) (n : Int) = some (
      if n + (num base (l.drop i) v).2 = 0 then (mkB [], 0)
      else (mkB (utf8 (point (num base (l.drop i) v).1)), ((i + (num base (l.drop i) v).2 + (if (l.drop (i + (num base (l.drop i) v).2)).head? = some 59 then 1 else 0) - at0 : Nat) : Int))) := by
  induction d with
  | zero =>
    intro i k v n hi ha hk hv hn
    obtain ⟨k, rfl⟩ : ∃ m, k = m + 1 := ⟨k - 1, by omega⟩
    have e : num base (l.drop i) v = (v, 0) := by rw [List.drop_of_length_le (by omega)]; rfl
    rw [e]
    simp only [marginaliaref03_number.l0]
    rw [if_neg (by rw [mkB_size]; omega), refNumber_stop l hl at0 base i v n (by omega) ha (by omega)]
    rfl
  | succ d ih =>
    intro i k v n hi ha hk hv hn
    have hil : i < l.length := by omega
    have hdrop : l.drop i = l[i] :: l.drop (i + 1) := List.drop_eq_getElem_cons hil
    cases hdv : digv base l[i] with
    | none =>
      obtain ⟨k, rfl⟩ : ∃ m, k = m + 1 := ⟨k - 1, by omega⟩
      have hg : l.getD i 0 = l[i] := by simp [List.getD, hil]
      have e : num base (l.drop i) v = (v, 0) := by rw [hdrop]; simp only [num, hdv]
      have hdd := digit_ok l[i] base hb (k := k) (by omega)
      rw [hdv] at hdd
      rw [e]
      simp only [marginaliaref03_number.l0]
      rw [if_pos (by rw [mkB_size]; omega), if_pos (by omega), mkB_bt, hg, hdd]
      simp only [Option.bind_some]
      rw [show decide ((-1 : Int) ≥ 0) = false from rfl, refNumber_stop l hl at0 base i v n (by omega) ha (by omega)]
      rfl
    | some dv =>
      have e : num base (l.drop i) v = ((num base (l.drop (i + 1)) (min (v * base + dv) 1114112)).1, (num base (l.drop (i + 1)) (min (v * base + dv) 1114112)).2 + 1) := by rw [hdrop]; simp only [num, hdv]
      rw [e, refNumber_go l hl at0 base hb i v n hil hv hn dv hdv (by omega), ih (i + 1) (k - 2) _ (n + 1) (by omega) (by omega) (by omega) (Nat.min_le_right _ _) (by omega)]
      generalize num base (l.drop (i + 1)) (min (v * base + dv) 1114112) = q
      have e1 : n + 1 + q.2 = n + (q.2 + 1) := by omega
      have e2 : i + 1 + q.2 = i + (q.2 + 1) := by omega
      rw [e1, e2]

/-- number, at a place where '&#' stands. -/
theorem refNumber_ok (l : Bs) (hl : l.length ≤ 1000000) (a : Nat) (ha : a + 2 ≤ l.length) (k : Nat) (hk : 2 * l.length + 8 ≤ k) :
    marginaliaref03_number.f k (mkB l) (a : Int) = some (match byNum (l.drop (a + 2)) with | none => (mkB [], 0) | some p => (mkB (utf8 (point p.1)), ((p.2 + 2 : Nat) : Int))) := by
  have w0 : wrap64 ((a : Int) + 2) = ((a + 2 : Nat) : Int) := wrn (n := a + 2) (by omega)
  have step : marginaliaref03_number.f k (mkB l) (a : Int) = marginaliaref03_number.l0 (k - 2) (mkB l) (a : Int) ((a + 2 + (if hexed (l.drop (a + 2)) then 1 else 0) : Nat) : Int) ((if hexed (l.drop (a + 2)) then 16 else 10 : Nat) : Int) ((0 : Nat) : Int) ((0 : Nat) : Int) := by
    obtain ⟨k, rfl⟩ : ∃ m, k = m + 2 := ⟨k - 2, by omega⟩
    unfold marginaliaref03_number.f
    rw [w0]
    have jt : ∀ b : Bool, marginaliaref03_number.j0 (k + 2) (mkB l) (a : Int) ((a + 2 : Nat) : Int) 10 b = marginaliaref03_number.l0 k (mkB l) (a : Int) ((a + 2 + (if b = true then 1 else 0) : Nat) : Int) ((if b = true then 16 else 10 : Nat) : Int) ((0 : Nat) : Int) ((0 : Nat) : Int) := by
      intro b
      simp only [marginaliaref03_number.j0, marginaliaref03_number.j1]
      cases b with
      | false => rfl
      | true =>
        have w3 : wrap64 (((a + 2 : Nat) : Int) + 1) = ((a + 2 + 1 : Nat) : Int) := wrn (n := a + 2 + 1) (by omega)
        simp only [if_true, w3]; rfl
    by_cases hlt : a + 2 < l.length
    · rw [if_pos (by rw [mkB_size]; omega), if_pos (by omega), mkB_bt]
      have hg : l.getD (a + 2) 0 = l[a + 2] := by simp [List.getD, hlt]
      have hdrop : l.drop (a + 2) = l[a + 2] :: l.drop (a + 2 + 1) := List.drop_eq_getElem_cons hlt
      have hh : hexed (l.drop (a + 2)) = (l[a + 2] == 120 || l[a + 2] == 88) := by unfold hexed; rw [hdrop]; simp only [List.head?_cons, Option.some_beq_some]
      rw [hg, hh, jt, jt]
      by_cases h1 : l[a + 2] = 120
      · rw [if_pos (by rw [h1]; rfl), h1]; rfl
      · rw [if_neg (fun e => h1 (UInt8.toNat_inj.1 (by have : ((120 : UInt8).toNat : Int) = 120 := rfl; omega)))]
        have e2 : (((l[a + 2].toNat : Nat) : Int) == 88) = (l[a + 2] == 88) := by
          rw [Bool.eq_iff_iff, beq_iff_eq, beq_iff_eq]
          exact ⟨fun e => UInt8.toNat_inj.1 (by have : ((88 : UInt8).toNat : Int) = 88 := rfl; omega), fun e => by rw [e]; rfl⟩
        have e3 : (l[a + 2] == 120) = false := by simpa using h1
        rw [e2, e3, Bool.false_or]; rfl
    · rw [if_neg (by rw [mkB_size]; omega), jt]
      have hh : hexed (l.drop (a + 2)) = false := by rw [List.drop_of_length_le (by omega)]; rfl
      rw [hh]; rfl
  rw [step]
  have hb : (if hexed (l.drop (a + 2)) then 16 else 10 : Nat) = 10 ∨ (if hexed (l.drop (a + 2)) then 16 else 10 : Nat) = 16 := by split <;> simp
  have hi : a + 2 + (if hexed (l.drop (a + 2)) then 1 else 0 : Nat) ≤ l.length := by
    split
    · have := hexed_len (by assumption)
      simp only [List.length_drop] at this
      omega
    · omega
  unfold byNum
  simp only [List.drop_drop]
  generalize (if hexed (l.drop (a + 2)) = true then 16 else 10) = base at *
  generalize (if hexed (l.drop (a + 2)) = true then 1 else 0) = i at *
  rw [refNumber_l0 l hl a base hb (l.length - (a + 2 + i)) (a + 2 + i) (k - 2) 0 0 (by omega) (by omega) (by omega) (by omega) (by omega)]
  generalize num base (l.drop (a + 2 + i)) 0 = q
  by_cases e : q.2 = 0
  · rw [if_pos (by omega), if_pos e]
  · rw [if_neg (by omega), if_neg e]
    have e4 : a + 2 + i + q.2 = a + 2 + (i + q.2) := by omega
    rw [e4]
    congr 2
    congr 1
    generalize (if (l.drop (a + 2 + (i + q.2))).head? = some 59 then 1 else 0) = z
    omega

end Go.Proofs.Ythialihgamlljaa.Pure
