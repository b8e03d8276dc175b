/- The reference's Fragment gives the same; condition: a small weight. -/
import Derived.Test.YthialihgamlljaaPureWeight
namespace Go.Proofs.Ythialihgamlljaa.Pure
open Go.RowKit Go.Proofs.Ythialihgamlljaa.G Go.Proofs.YthialihgamlljaaW.PrintWords Go.Proofs.YthialihgamlljaaW.PrintLast Go.Proofs.Ythialihgamlljaa.Spec
set_option linter.unusedVariables false
set_option linter.unusedSimpArgs false

def splitW : Bs → Bs → List Bs
  | acc, [] => [acc]
  | acc, c :: r => if c = 32 then acc :: splitW [] r else splitW (acc ++ [c]) r
theorem in_l0 (L n : Bs) (hL : L.length ≤ 1000) : ∀ (d i f k : Nat), i + d = L.length → f ≤ i → 2 * d + 3 ≤ k →
    marginaliaref02_In.l0 k (mkB L) (mkB n) (f : Int) (i : Int) = some (decide (n ∈ splitW ((L.take i).drop f) (L.drop i))) := by
  intro d
  induction d with
  | zero =>
    intro i f k hi hf hk
    obtain ⟨k, rfl⟩ : ∃ m, k = m + 1 := ⟨k - 1, by omega⟩
    obtain ⟨k, rfl⟩ : ∃ m, k = m + 1 := ⟨k - 1, by omega⟩
    obtain ⟨k, rfl⟩ : ∃ m, k = m + 1 := ⟨k - 1, by omega⟩
    rw [marginaliaref02_In.l0, mkB_size, if_pos (by omega), if_pos (by omega), marginaliaref02_In.j1, if_pos rfl, if_pos (by omega), if_pos (by omega), mkB_size, if_pos (by omega), Int.toNat_natCast, Int.toNat_natCast, mkB_extract, mkB_toList, mkB_toList, List.drop_of_length_le (show L.length ≤ i by omega), splitW]
    by_cases h : (L.take i).drop f = n
    · rw [if_pos h, h]; simp
    · rw [if_neg h, show wrap64 ((i : Int) + 1) = ((i + 1 : Nat) : Int) from wrx (by omega) (by omega), marginaliaref02_In.l0, mkB_size, if_neg (by omega)]
      congr 1
      simp only [List.mem_singleton]
      exact (decide_eq_false (fun e => h e.symm)).symm
  | succ d ih =>
    intro i f k hi hf hk
    obtain ⟨k, rfl⟩ : ∃ m, k = m + 1 := ⟨k - 1, by omega⟩
    obtain ⟨k, rfl⟩ : ∃ m, k = m + 1 := ⟨k - 1, by omega⟩
    have hlt : i < L.length := by omega
    have hg : L.getD i 0 = L[i] := by simp [List.getD, hlt]
    have hd : L.drop i = L[i] :: L.drop (i + 1) := List.drop_eq_getElem_cons hlt
    have ht : (L.take (i + 1)).drop f = (L.take i).drop f ++ [L[i]] := by
      rw [List.take_succ_eq_append_getElem hlt, List.drop_append_of_le_length (by rw [List.length_take]; omega)]
    have ht2 : (L.take (i + 1)).drop (i + 1) = [] := List.drop_of_length_le (by rw [List.length_take]; omega)
    rw [marginaliaref02_In.l0, mkB_size, if_pos (by omega), if_neg (by omega), if_pos (by omega), if_pos (by omega), marginaliaref02_In.j1, mkB_bt, hg, hd, splitW]
    by_cases h32 : L[i] = 32
    · have e : (((L[i]).toNat : Int) == 32) = true := by rw [h32]; rfl
      rw [e, if_pos rfl, if_pos (by omega), if_pos (by omega), mkB_size, if_pos (by omega), Int.toNat_natCast, Int.toNat_natCast, mkB_extract, mkB_toList, mkB_toList, if_pos h32]
      by_cases h : (L.take i).drop f = n
      · rw [if_pos h, h]; simp
      · rw [if_neg h, show wrap64 ((i : Int) + 1) = ((i + 1 : Nat) : Int) from wrx (by omega) (by omega), ih (i + 1) (i + 1) k (by omega) (by omega) (by omega), ht2]
        congr 1
        have : n ∈ (L.take i).drop f :: splitW [] (L.drop (i + 1)) ↔ n ∈ splitW [] (L.drop (i + 1)) := by
          rw [List.mem_cons]; exact ⟨fun x => x.resolve_left (fun e => h e.symm), Or.inr⟩
        exact decide_eq_decide.2 this.symm
    · have e : (((L[i]).toNat : Int) == 32) = false := by
        refine beq_false_of_ne (fun e => h32 (UInt8.toNat_inj.1 ?_))
        have : ((32 : UInt8).toNat : Int) = 32 := rfl
        omega
      rw [e, if_neg (by decide), if_neg h32, show wrap64 ((i : Int) + 1) = ((i + 1 : Nat) : Int) from wrx (by omega) (by omega), ih (i + 1) f k (by omega) (by omega) (by omega), ht]
theorem in_ok (L n : Bs) (hL : L.length ≤ 1000) {k : Nat} (hk : 2 * L.length + 3 ≤ k) : marginaliaref02_In.f k (mkB L) (mkB n) = some (decide (n ∈ splitW [] L)) := by
  have := in_l0 L n hL L.length 0 0 k (by omega) (by omega) hk
  simpa [marginaliaref02_In.f] using this
theorem is_one (s : ByteArray) (W : List Bs) (hs : splitW [] (bl s) = W) (hl : (bl s).length ≤ 1000) (a : ByteArray) {k : Nat} (hk : 2010 ≤ k) : marginaliaref02_Is.l0 k a [s] 0 = some (decide (bl a ∈ W)) := by
  obtain ⟨k, rfl⟩ : ∃ m, k = m + 1 := ⟨k - 1, by omega⟩
  obtain ⟨k, rfl⟩ : ∃ m, k = m + 1 := ⟨k - 1, by omega⟩
  have e : rdOf ByteArray.empty [s] 0 = mkB (bl s) := rfl
  have e2 : marginaliaref02_In.f (k + 1) (mkB (bl s)) a = some (decide (bl a ∈ W)) := by
    have := in_ok (bl s) (bl a) hl (k := k + 1) (by omega)
    rw [hs] at this
    exact this
  rw [marginaliaref02_Is.l0, if_pos (show (0 : Int) < (([s].length : Nat) : Int) from Int.zero_lt_one), if_pos (by decide), e, e2, Option.bind_some]
  by_cases h : bl a ∈ W
  · rw [decide_eq_true h, if_pos rfl]
  · rw [decide_eq_false h, if_neg (by decide)]
    have w : wrap64 (0 + 1) = 1 := by decide +kernel
    rw [w, marginaliaref02_Is.l0, if_neg (show ¬ (1 : Int) < (([s].length : Nat) : Int) from Int.lt_irrefl 1)]
theorem refVoid_ok (a : ByteArray) {k : Nat} (hk : 2010 ≤ k) : marginaliaref02_Is.f k 1 a = some (decide (bl a ∈ voidW)) := by
  rw [marginaliaref02_Is.f, marginaliaref02_names.f, if_pos rfl, Option.bind_some]
  exact is_one _ voidW (by decide) (by decide) a hk
theorem refRaw_ok (a : ByteArray) {k : Nat} (hk : 2010 ≤ k) : marginaliaref02_Is.f k 2 a = some (decide (bl a ∈ rawW)) := by
  rw [marginaliaref02_Is.f, marginaliaref02_names.f, if_neg (by decide), if_pos rfl, Option.bind_some]
  exact is_one _ rawW (by decide) (by decide) a hk

theorem ref_l0 (f0 f1 : Int) (f2 : ByteArray) (f3 : List S45) (f4 : ByteArray) (f5 : List S43) (A : Bs) (R : Option ByteArray) (base : Nat) (hbase : 3100 ≤ base)
    (H : ∀ k, base ≤ k → (if f1 = 0 then ((marginaliaref02_Is.f k 1 f2).bind fun t233 => (marginaliaref09_one.j1 k (mkB (A ++ [62])) true t233 f0 f1 f2 f3 f4 f5)) else (marginaliaref09_one.j1 k (mkB (A ++ [62])) false false f0 f1 f2 f3 f4 f5)) = R) :
    ∀ (m j : Nat) (acc : Bs) (k : Nat), j + m = f3.length → j ≤ 10000 → j + szA (f3.drop j) ≤ 10000 → szA (f3.drop j) ≤ 1500 → acc ++ attrsS (f3.drop j) = A → A.length ≤ 1000000 → base + szA (f3.drop j) + 1 ≤ k →
      marginaliaref09_one.l0 k (mkB acc) (j : Int) f0 f1 f2 f3 f4 f5 = R := by
  have e1 : (⟨#[32]⟩ : ByteArray) = mkB [32] := rfl
  have e2 : (⟨#[61, 34]⟩ : ByteArray) = mkB [61, 34] := rfl
  have e3 : (⟨#[34]⟩ : ByteArray) = mkB [34] := rfl
  have e4 : (⟨#[62]⟩ : ByteArray) = mkB [62] := rfl
  intro m
  induction m with
  | zero =>
    intro j acc k hj hj1 hj2 hs hA hl hk
    obtain ⟨k, rfl⟩ : ∃ m, k = m + 1 := ⟨k - 1, by omega⟩
    have : acc = A := by rw [List.drop_of_length_le (by omega)] at hA; simpa [attrsS] using hA
    subst this
    have g : acc.length + 1 ≤ 9223372036854775807 := by omega
    rw [marginaliaref09_one.l0, if_neg (by omega), mkB_size, if_pos g, e4, mkB_append]
    exact H k (by omega)
  | succ m ih =>
    intro j acc k hj hj1 hj2 hs hA hl hk
    obtain ⟨k, rfl⟩ : ∃ m, k = m + 1 := ⟨k - 1, by omega⟩
    have hlt : j < f3.length := by omega
    obtain ⟨a, hr, hd⟩ : ∃ a, rd_T45 f3 (j : Int) = a ∧ f3.drop j = a :: f3.drop (j + 1) := ⟨f3[j], by simp [rd_T45, hlt], List.drop_eq_getElem_cons hlt⟩
    rw [hd, szA] at hk hs hj2
    rw [hd, attrsS] at hA
    have b0 := bl_len a.f0
    have b1 := bl_len a.f1
    have l0 : A.length = acc.length + (a.f0.size + 4 + (print_Escape.esc true false (bl a.f1)).length + (attrsS (f3.drop (j + 1))).length) := by
      rw [← hA]; simp only [List.length_append, List.length_cons, List.length_nil]; omega
    have he : marginaliaref09_Escape.f k a.f1 true = some (mkB (print_Escape.esc true false (bl a.f1))) := refEscape_ok true (bl a.f1) (by omega) (by omega)
    have g1 : acc.length + 1 ≤ 9223372036854775807 := by omega
    have g2 : acc.length + 1 + a.f0.size ≤ 9223372036854775807 := by omega
    have g3 : acc.length + 1 + a.f0.size + 2 ≤ 9223372036854775807 := by omega
    have g4 : acc.length + 1 + a.f0.size + 2 + (print_Escape.esc true false (bl a.f1)).length ≤ 9223372036854775807 := by omega
    have g5 : acc.length + 1 + a.f0.size + 2 + (print_Escape.esc true false (bl a.f1)).length + 1 ≤ 9223372036854775807 := by omega
    have e5 : a.f0 = mkB (bl a.f0) := rfl
    have hn := ih (j + 1) (acc ++ [32] ++ bl a.f0 ++ [61, 34] ++ print_Escape.esc true false (bl a.f1) ++ [34]) k (by omega) (by omega) (by omega) (by omega) (by rw [← hA]; simp only [List.append_assoc, List.cons_append, List.nil_append]) hl (by omega)
    rw [marginaliaref09_one.l0, if_pos (by omega), mkB_size, if_pos g1, if_pos (by omega), hr, if_pos g2, if_pos g3, he, Option.bind_some, mkB_size, if_pos g4, if_pos g5, show wrap64 ((j : Int) + 1) = ((j + 1 : Nat) : Int) from wrx (by omega) (by omega), e1, e2, e3]
    rw [e5, mkB_append, mkB_append, mkB_append, mkB_append, mkB_append]
    exact hn
def szN (d : Nat) (n : S43) : Nat := 1 + n.f2.size + n.f4.size + szA n.f3 + szL d n.f5
theorem ref_l1 (d : Nat) (f0 f1 : Int) (f2 : ByteArray) (f3 : List S45) (f4 : ByteArray) (kids : List S43) (raw : Bool) (h2 : f2.size ≤ 1500)
    (ih : ∀ (n : S43) (raw : Bool) (k : Nat), szN d n < 1500 → 5000 + 10 * szN d n ≤ k → marginaliaref09_one.f k n.f0 n.f1 n.f2 n.f3 n.f4 n.f5 raw = some (mkB (oneS (outL d) raw n))) :
    ∀ (m i : Nat) (acc : Bs) (k : Nat), i + m = kids.length → i + szR (szL d) (kids.drop i) ≤ 10000 → szR (szL d) (kids.drop i) < 1500 → acc.length + 7 * szR (szL d) (kids.drop i) ≤ 1000000 → 5001 + 10 * szR (szL d) (kids.drop i) ≤ k →
      marginaliaref09_one.l1 k (mkB acc) raw (i : Int) f0 f1 f2 f3 f4 kids = some (mkB (acc ++ (rowS (oneS (outL d) raw) (kids.drop i) ++ ([60, 47] ++ (bl f2 ++ [62]))))) := by
  have e1 : (⟨#[60, 47]⟩ : ByteArray) = mkB [60, 47] := rfl
  have e2 : (⟨#[62]⟩ : ByteArray) = mkB [62] := rfl
  have e3 : f2 = mkB (bl f2) := rfl
  intro m
  induction m with
  | zero =>
    intro i acc k hi hi2 hs hl hk
    obtain ⟨k, rfl⟩ : ∃ m, k = m + 1 := ⟨k - 1, by omega⟩
    have g1 : acc.length + 2 ≤ 9223372036854775807 := by omega
    have g2 : acc.length + 2 + f2.size ≤ 9223372036854775807 := by omega
    have g3 : acc.length + 2 + f2.size + 1 ≤ 9223372036854775807 := by omega
    rw [marginaliaref09_one.l1, if_neg (by omega), mkB_size, if_pos g1, if_pos g2, if_pos g3, e1, e2]
    rw [List.drop_of_length_le (by omega), rowS, List.nil_append]
    have : (mkB acc ++ mkB [60, 47] ++ f2 ++ mkB [62]) = (mkB acc ++ mkB [60, 47] ++ mkB (bl f2) ++ mkB [62]) := rfl
    rw [this, mkB_append, mkB_append, mkB_append]
    simp only [List.append_assoc]
  | succ m ih2 =>
    intro i acc k hi hi2 hs hl hk
    obtain ⟨k, rfl⟩ : ∃ m, k = m + 1 := ⟨k - 1, by omega⟩
    have hlt : i < kids.length := by omega
    obtain ⟨n, hr, hd⟩ : ∃ n, rd_T43 kids (i : Int) = n ∧ kids.drop i = n :: kids.drop (i + 1) := ⟨kids[i], by simp [rd_T43, hlt], List.drop_eq_getElem_cons hlt⟩
    have es : szR (szL d) (n :: kids.drop (i + 1)) = szN d n + szR (szL d) (kids.drop (i + 1)) := rfl
    have hp : 1 ≤ szN d n := by unfold szN; omega
    rw [hd, es] at hs hl hk hi2
    have hx := ih n raw k (by omega) (by omega)
    have hlen : (oneS (outL d) raw n).length ≤ 7 * szN d n := oneS_len (fun b => outL_len d b n.f5) raw
    have g1 : acc.length + (oneS (outL d) raw n).length ≤ 9223372036854775807 := by omega
    have hn := ih2 (i + 1) (acc ++ oneS (outL d) raw n) k (by omega) (by omega) (by omega) (by rw [List.length_append]; omega) (by omega)
    rw [marginaliaref09_one.l1, if_pos (by omega), if_pos (by omega), hr, hx, Option.bind_some, mkB_size, mkB_size, if_pos g1, show wrap64 ((i : Int) + 1) = ((i + 1 : Nat) : Int) from wrx (by omega) (by omega), mkB_append, hn, hd, rowS]
    simp only [List.append_assoc]
theorem ref_one (d : Nat) : ∀ (n : S43) (raw : Bool) (k : Nat), szN d n < 1500 → 5000 + 10 * szN d n ≤ k → marginaliaref09_one.f k n.f0 n.f1 n.f2 n.f3 n.f4 n.f5 raw = some (mkB (oneS (outL d) raw n)) := by
  induction d with
  | zero => intro n raw k h _; simp only [szN, szL] at h; omega
  | succ d ih =>
    intro n raw k h hk
    have e0 : szN (d + 1) n = 1 + n.f2.size + n.f4.size + szA n.f3 + szR (szL d) n.f5 := rfl
    rw [e0] at h hk
    obtain ⟨k, rfl⟩ : ∃ m, k = m + 1 := ⟨k - 1, by omega⟩
    have b2 := bl_len n.f2
    have b4 := bl_len n.f4
    have f2 : n.f2 = mkB (bl n.f2) := rfl
    have f4 : n.f4 = mkB (bl n.f4) := rfl
    have e1 : (⟨#[60, 33, 45, 45]⟩ : ByteArray) = mkB [60, 33, 45, 45] := rfl
    have e2 : (⟨#[45, 45, 62]⟩ : ByteArray) = mkB [45, 45, 62] := rfl
    have e3 : (⟨#[60]⟩ : ByteArray) = mkB [60] := rfl
    have e6 : (⟨#[]⟩ : ByteArray) = mkB [] := rfl
    rw [marginaliaref09_one.f, oneS]
    by_cases c2 : n.f0 = 2
    · rw [if_pos c2, if_pos c2]
      cases raw
      · have he : marginaliaref09_Escape.f k n.f4 false = some (mkB (print_Escape.esc false false (bl n.f4))) := refEscape_ok false (bl n.f4) (by omega) (by omega)
        rw [if_neg (by decide), if_neg (by decide), he, Option.bind_some]
      · rw [if_pos rfl, if_pos rfl, ← f4]
    · rw [if_neg c2, if_neg c2]
      by_cases c3 : n.f0 = 3
      · have g1 : 4 + n.f4.size ≤ 9223372036854775807 := by omega
        have g2 : 4 + n.f4.size + 3 ≤ 9223372036854775807 := by omega
        rw [if_pos c3, if_pos c3, if_pos g1, if_pos g2, e1, e2]
        have : (mkB [60, 33, 45, 45] ++ n.f4 ++ mkB [45, 45, 62]) = (mkB [60, 33, 45, 45] ++ mkB (bl n.f4) ++ mkB [45, 45, 62]) := rfl
        rw [this, mkB_append, mkB_append]
      · rw [if_neg c3, if_neg c3]
        by_cases c1 : n.f0 = 1
        · have g1 : 1 + n.f2.size ≤ 9223372036854775807 := by omega
          rw [if_pos c1, if_pos c1, if_pos g1, e3]
          have : (mkB [60] ++ n.f2) = mkB ([60] ++ bl n.f2) := by rw [← mkB_append]; rfl
          rw [this]
          have la := attrsS_len n.f3
          refine ref_l0 n.f0 n.f1 n.f2 n.f3 n.f4 n.f5 ([60] ++ bl n.f2 ++ attrsS n.f3) _ (k - szA n.f3 - 1) (by omega) (fun k' hk' => ?_) n.f3.length 0 ([60] ++ bl n.f2) k (by omega) (by omega) (by rw [List.drop_zero]; omega) (by rw [List.drop_zero]; omega) (by rw [List.drop_zero]) (by simp only [List.length_append, List.length_cons, List.length_nil]; omega) (by rw [List.drop_zero]; omega)
          obtain ⟨k', rfl⟩ : ∃ m, k' = m + 1 := ⟨k' - 1, by omega⟩
          have loop : ∀ b : Bool, marginaliaref09_one.j2 k' (mkB ([60] ++ bl n.f2 ++ attrsS n.f3 ++ [62])) b n.f0 n.f1 n.f2 n.f3 n.f4 n.f5 = some (mkB (60 :: (bl n.f2 ++ attrsS n.f3 ++ [62] ++ outL (d + 1) b n.f5 ++ [60, 47] ++ bl n.f2 ++ [62]))) := by
            intro b
            obtain ⟨k', rfl⟩ : ∃ m, k' = m + 1 := ⟨k' - 1, by omega⟩
            have := ref_l1 d n.f0 n.f1 n.f2 n.f3 n.f4 n.f5 b (by omega) ih n.f5.length 0 ([60] ++ bl n.f2 ++ attrsS n.f3 ++ [62]) k' (by omega) (by rw [List.drop_zero]; omega) (by rw [List.drop_zero]; omega) (by rw [List.drop_zero]; simp only [List.length_append, List.length_cons, List.length_nil]; omega) (by rw [List.drop_zero]; omega)
            rw [List.drop_zero] at this
            rw [marginaliaref09_one.j2]
            refine Eq.trans this ?_
            simp only [outL, List.append_assoc, List.cons_append, List.nil_append]
          by_cases c0 : n.f1 = 0
          · rw [if_pos c0, refVoid_ok _ (by omega), Option.bind_some, marginaliaref09_one.j1]
            by_cases v : bl n.f2 ∈ voidW
            · rw [if_pos (decide_eq_true v), if_pos ⟨c0, v⟩]
              simp only [List.append_assoc, List.cons_append, List.nil_append]
            · rw [if_neg (by simpa using v), if_neg (show ¬ (n.f1 = 0 ∧ bl n.f2 ∈ voidW) from fun h => v h.2), if_pos rfl, refRaw_ok _ (by omega), Option.bind_some]
              by_cases rr : bl n.f2 ∈ rawW
              · have hb : decide (n.f1 = 0 ∧ (bl n.f2 ∈ rawW ∨ bl n.f2 = plainW)) = true := decide_eq_true ⟨c0, Or.inl rr⟩
                rw [if_pos (decide_eq_true rr), loop, hb]
              · have hb : decide (n.f1 = 0 ∧ (bl n.f2 ∈ rawW ∨ bl n.f2 = plainW)) = decide (bl n.f2 = plainW) := by simp [c0, rr]
                rw [if_neg (by simpa using rr), plain_iff, loop, hb]
          · have hb : decide (n.f1 = 0 ∧ (bl n.f2 ∈ rawW ∨ bl n.f2 = plainW)) = false := by simp [c0]
            rw [if_neg c0, marginaliaref09_one.j1, if_neg (by decide), if_neg (by decide), if_neg (show ¬ (n.f1 = 0 ∧ bl n.f2 ∈ voidW) from fun h => c0 h.1), loop, hb]
        · rw [if_neg c1, if_neg c1, e6]
theorem ref_frag (d : Nat) (l : List S43) : ∀ (m i : Nat) (acc : Bs) (k : Nat), i + m = l.length → i + szR (szL d) (l.drop i) ≤ 10000 → szR (szL d) (l.drop i) < 1500 → acc.length + 7 * szR (szL d) (l.drop i) ≤ 1000000 → 5001 + 10 * szR (szL d) (l.drop i) ≤ k →
      marginaliaref09_Fragment.l0 k l (mkB acc) (i : Int) = some (mkB (acc ++ rowS (oneS (outL d) false) (l.drop i))) := by
  intro m
  induction m with
  | zero =>
    intro i acc k hi hi2 hs hl hk
    obtain ⟨k, rfl⟩ : ∃ m, k = m + 1 := ⟨k - 1, by omega⟩
    rw [marginaliaref09_Fragment.l0, if_neg (by omega), List.drop_of_length_le (by omega), rowS, List.append_nil]
  | succ m ih2 =>
    intro i acc k hi hi2 hs hl hk
    obtain ⟨k, rfl⟩ : ∃ m, k = m + 1 := ⟨k - 1, by omega⟩
    have hlt : i < l.length := by omega
    obtain ⟨n, hr, hd⟩ : ∃ n, rd_T43 l (i : Int) = n ∧ l.drop i = n :: l.drop (i + 1) := ⟨l[i], by simp [rd_T43, hlt], List.drop_eq_getElem_cons hlt⟩
    have es : szR (szL d) (n :: l.drop (i + 1)) = szN d n + szR (szL d) (l.drop (i + 1)) := rfl
    have hp : 1 ≤ szN d n := by unfold szN; omega
    rw [hd, es] at hs hl hk hi2
    have hx := ref_one d n false k (by omega) (by omega)
    have hlen : (oneS (outL d) false n).length ≤ 7 * szN d n := oneS_len (fun b => outL_len d b n.f5) false
    have g1 : acc.length + (oneS (outL d) false n).length ≤ 9223372036854775807 := by omega
    have hn := ih2 (i + 1) (acc ++ oneS (outL d) false n) k (by omega) (by omega) (by omega) (by rw [List.length_append]; omega) (by omega)
    rw [marginaliaref09_Fragment.l0, if_pos (by omega), if_pos (by omega), hr, hx, Option.bind_some, mkB_size, mkB_size, if_pos g1, show wrap64 ((i : Int) + 1) = ((i + 1 : Nat) : Int) from wrx (by omega) (by omega), mkB_append, hn, hd, rowS]
    simp only [List.append_assoc]
theorem refFragment_ok {d : Nat} {l : List S43} {k : Nat} (h : szL (d + 1) l < 1500) (hk : 20001 ≤ k) : marginaliaref09_Fragment.f k l = some (mkB (outL (d + 1) false l)) := by
  have e0 : szL (d + 1) l = szR (szL d) l := rfl
  have := ref_frag d l l.length 0 [] k (by omega) (by rw [List.drop_zero]; omega) (by rw [List.drop_zero]; omega) (by rw [List.drop_zero, List.length_nil]; omega) (by rw [List.drop_zero]; omega)
  rw [List.drop_zero] at this
  exact this

end Go.Proofs.Ythialihgamlljaa.Pure
