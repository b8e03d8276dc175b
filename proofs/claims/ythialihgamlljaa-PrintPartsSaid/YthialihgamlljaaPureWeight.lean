/- What the reference's Weight tells: below its bound the whole weight of a list. No condition on the list. -/
import Derived.Test.YthialihgamlljaaPureFragP
namespace Go.Proofs.Ythialihgamlljaa.Pure
open Go.RowKit Go.Proofs.Ythialihgamlljaa.G Go.Proofs.YthialihgamlljaaW.PrintWords Go.Proofs.YthialihgamlljaaW.PrintLast Go.Proofs.Ythialihgamlljaa.Spec
set_option linter.unusedVariables false
set_option linter.unusedSimpArgs false

/-- A weight that was told: no more than the bound; below it the true one. -/
def Tells (o : Option Int) (b t : Nat) : Prop := ∃ w : Nat, o = some (w : Int) ∧ w ≤ b ∧ (w < b → t = w)
theorem Tells.top {b t : Nat} : Tells (some (b : Int)) b t := ⟨b, rfl, Nat.le_refl _, fun h => absurd h (Nat.lt_irrefl _)⟩

theorem wrx {z : Int} {n : Nat} (h : z = (n : Int)) (hn : n ≤ 1000000000000) : wrap64 z = (n : Int) := by rw [h]; exact wrn hn
theorem weight_l1 (l : List S43) (b d i : Nat) (hb : b ≤ 1500) (hi : i < l.length) (t : Nat) (nd : S43) (hr : rd_T43 l (i : Int) = nd)
    (H : ∀ (n k : Nat), i + 1 ≤ n → n < b → 10 * (b - n) + 12 ≤ k → Tells ((marginaliaref09_Weight.f k nd.f5 (wrap64 ((b : Int) - (n : Int))) (wrap64 (((d + 1 : Nat) : Int) - 1))).bind fun v => marginaliaref09_Weight.l0 k l (b : Int) ((d + 1 : Nat) : Int) (wrap64 ((n : Int) + v)) (wrap64 ((i : Int) + 1))) b (n + t)) :
    ∀ (m j n k : Nat), j + m = nd.f3.length → j ≤ n → i + 1 ≤ n → n ≤ 3 * b → 10 * (b - n) + 14 ≤ k → Tells (marginaliaref09_Weight.l1 k l (b : Int) ((d + 1 : Nat) : Int) (n : Int) (i : Int) (j : Int)) b (n + szA (nd.f3.drop j) + t) := by
  intro m
  induction m with
  | zero =>
    intro j n k hj hjn hin hn hk
    obtain ⟨k, rfl⟩ : ∃ m, k = m + 1 := ⟨k - 1, by omega⟩
    obtain ⟨k, rfl⟩ : ∃ m, k = m + 1 := ⟨k - 1, by omega⟩
    rw [marginaliaref09_Weight.l1, hr, if_pos (by omega), if_pos (by omega), if_neg (by omega), marginaliaref09_Weight.j4, if_neg (by decide)]
    rw [List.drop_of_length_le (by omega), szA, Nat.add_zero]
    by_cases hnb : (b : Int) ≤ (n : Int)
    · rw [if_pos hnb]; exact Tells.top
    · rw [if_neg hnb, if_pos (by omega), if_pos (by omega), hr]
      exact H n k hin (by omega) (by omega)
  | succ m ih =>
    intro j n k hj hjn hin hn hk
    obtain ⟨k, rfl⟩ : ∃ m, k = m + 1 := ⟨k - 1, by omega⟩
    obtain ⟨k, rfl⟩ : ∃ m, k = m + 1 := ⟨k - 1, by omega⟩
    have hlt : j < nd.f3.length := by omega
    obtain ⟨at', hr5, hd⟩ : ∃ at', rd_T45 nd.f3 (j : Int) = at' ∧ nd.f3.drop j = at' :: nd.f3.drop (j + 1) := ⟨nd.f3[j], by simp [rd_T45, hlt], List.drop_eq_getElem_cons hlt⟩
    obtain ⟨s0, hs0⟩ : ∃ s, at'.f0.size = s := ⟨_, rfl⟩
    obtain ⟨s1, hs1⟩ : ∃ s, at'.f1.size = s := ⟨_, rfl⟩
    rw [marginaliaref09_Weight.l1, hr, if_pos (by omega), if_pos (by omega), if_pos (by omega), marginaliaref09_Weight.j4]
    by_cases hnb : (n : Int) < (b : Int)
    · rw [decide_eq_true hnb, if_pos rfl, if_pos (by omega), if_pos (by omega), hr, if_pos (by omega), if_pos (by omega), hr5, hs0, hs1]
      by_cases h0 : (b : Int) ≤ (s0 : Int)
      · rw [if_pos h0]; exact Tells.top
      · rw [if_neg h0]
        by_cases h1 : (b : Int) ≤ (s1 : Int)
        · rw [if_pos h1]; exact Tells.top
        · rw [if_neg h1]
          rw [show wrap64 ((n : Int) + 1) = ((n + 1 : Nat) : Int) from wrx (by omega) (by omega), show wrap64 (((n + 1 : Nat) : Int) + (s0 : Int)) = ((n + 1 + s0 : Nat) : Int) from wrx (by omega) (by omega), show wrap64 (((n + 1 + s0 : Nat) : Int) + (s1 : Int)) = ((n + 1 + s0 + s1 : Nat) : Int) from wrx (by omega) (by omega), show wrap64 ((j : Int) + 1) = ((j + 1 : Nat) : Int) from wrx (by omega) (by omega), hd, szA, hs0, hs1]
          have := ih (j + 1) (n + 1 + s0 + s1) k (by omega) (by omega) (by omega) (by omega) (by omega)
          obtain ⟨w, e, h2, h3⟩ := this
          exact ⟨w, e, h2, fun h => by have := h3 h; omega⟩
    · rw [decide_eq_false hnb, if_neg (by decide), if_pos (by omega)]
      exact Tells.top
theorem weight_l0 (l : List S43) (b d : Nat) (hb : b ≤ 1500)
    (H : ∀ (l : List S43) (b k : Nat), 1 ≤ b → b ≤ 1500 → 10 * b + 12 ≤ k → Tells (marginaliaref09_Weight.f k l (b : Int) (d : Int)) b (szL d l)) (hd1 : d ≤ 100) :
    ∀ (m i n k : Nat), i + m = l.length → i ≤ n → n ≤ b → 10 * (b - n) + 10 ≤ k → Tells (marginaliaref09_Weight.l0 k l (b : Int) ((d + 1 : Nat) : Int) (n : Int) (i : Int)) b (n + szR (szL d) (l.drop i)) := by
  intro m
  induction m with
  | zero =>
    intro i n k hi hin hn hk
    obtain ⟨k, rfl⟩ : ∃ m, k = m + 1 := ⟨k - 1, by omega⟩
    obtain ⟨k, rfl⟩ : ∃ m, k = m + 1 := ⟨k - 1, by omega⟩
    rw [marginaliaref09_Weight.l0, if_neg (by omega), marginaliaref09_Weight.j1, if_neg (by decide), List.drop_of_length_le (by omega)]
    exact ⟨n, rfl, hn, fun _ => rfl⟩
  | succ m ih =>
    intro i n k hi hin hn hk
    obtain ⟨k, rfl⟩ : ∃ m, k = m + 1 := ⟨k - 1, by omega⟩
    obtain ⟨k, rfl⟩ : ∃ m, k = m + 1 := ⟨k - 1, by omega⟩
    have hlt : i < l.length := by omega
    obtain ⟨nd, hr, hd⟩ : ∃ nd, rd_T43 l (i : Int) = nd ∧ l.drop i = nd :: l.drop (i + 1) := ⟨l[i], by simp [rd_T43, hlt], List.drop_eq_getElem_cons hlt⟩
    obtain ⟨s2, hs2⟩ : ∃ s, nd.f2.size = s := ⟨_, rfl⟩
    obtain ⟨s4, hs4⟩ : ∃ s, nd.f4.size = s := ⟨_, rfl⟩
    rw [marginaliaref09_Weight.l0, if_pos (by omega), marginaliaref09_Weight.j1]
    by_cases hnb : (n : Int) < (b : Int)
    · obtain ⟨k, rfl⟩ : ∃ m, k = m + 1 := ⟨k - 1, by omega⟩
      rw [decide_eq_true hnb, if_pos rfl, if_pos (by omega), if_pos (by omega), hr, hs2, hs4, show wrap64 ((n : Int) + 1) = ((n + 1 : Nat) : Int) from wrx (by omega) (by omega)]
      by_cases h0 : (b : Int) ≤ (s2 : Int)
      · rw [if_pos h0, marginaliaref09_Weight.j2, if_pos rfl]; exact Tells.top
      · rw [if_neg h0]
        by_cases h1 : (b : Int) ≤ (s4 : Int)
        · rw [if_pos h1, marginaliaref09_Weight.j2, if_pos rfl]; exact Tells.top
        · rw [if_neg h1, marginaliaref09_Weight.j2]
          by_cases h2 : (b : Int) ≤ (nd.f3.length : Int)
          · rw [decide_eq_true h2, if_pos rfl]; exact Tells.top
          · rw [decide_eq_false h2, if_neg (by decide), if_pos (by omega), if_pos (by omega), hr, hs2, hs4, show wrap64 (((n + 1 : Nat) : Int) + (s2 : Int)) = ((n + 1 + s2 : Nat) : Int) from wrx (by omega) (by omega), show wrap64 (((n + 1 + s2 : Nat) : Int) + (s4 : Int)) = ((n + 1 + s2 + s4 : Nat) : Int) from wrx (by omega) (by omega)]
            have L := weight_l1 l b d i hb hlt (szL d nd.f5 + szR (szL d) (l.drop (i + 1))) nd hr (fun n' k' hi' hn' hk' => by
              obtain ⟨w, e, h3, h4⟩ := H nd.f5 (b - n') k' (by omega) (by omega) (by omega)
              rw [show wrap64 ((b : Int) - (n' : Int)) = ((b - n' : Nat) : Int) from wrx (by omega) (by omega), show wrap64 (((d + 1 : Nat) : Int) - 1) = (d : Int) from wrx (by omega) (by omega), e, Option.bind_some, show wrap64 ((i : Int) + 1) = ((i + 1 : Nat) : Int) from wrx (by omega) (by omega), show wrap64 ((n' : Int) + (w : Int)) = ((n' + w : Nat) : Int) from wrx (by omega) (by omega)]
              obtain ⟨w', e', h5, h6⟩ := ih (i + 1) (n' + w) k' (by omega) (by omega) (by omega) (by omega)
              refine ⟨w', e', h5, fun h => ?_⟩
              have h7 := h6 h
              have h8 := h4 (by omega)
              omega) nd.f3.length 0 (n + 1 + s2 + s4) k (by omega) (by omega) (by omega) (by omega) (by omega)
            rw [List.drop_zero] at L
            obtain ⟨w, e, h3, h4⟩ := L
            refine ⟨w, e, h3, fun h => ?_⟩
            have := h4 h
            rw [hd, szR, hs2, hs4]; omega
    · rw [decide_eq_false hnb, if_neg (by decide)]
      exact ⟨n, rfl, hn, fun h => absurd h (by omega)⟩
theorem weight_ok (d : Nat) (hd : d ≤ 100) : ∀ (l : List S43) (b k : Nat), 1 ≤ b → b ≤ 1500 → 10 * b + 12 ≤ k → Tells (marginaliaref09_Weight.f k l (b : Int) (d : Int)) b (szL d l) := by
  induction d with
  | zero =>
    intro l b k h1 hb hk
    obtain ⟨k, rfl⟩ : ∃ m, k = m + 1 := ⟨k - 1, by omega⟩
    rw [marginaliaref09_Weight.f, if_pos Int.ofNat_zero]
    exact Tells.top
  | succ d ih =>
    intro l b k h1 hb hk
    obtain ⟨k, rfl⟩ : ∃ m, k = m + 1 := ⟨k - 1, by omega⟩
    rw [marginaliaref09_Weight.f, if_neg (by omega)]
    have := weight_l0 l b d hb (ih (by omega)) (by omega) l.length 0 0 k (by omega) (by omega) (by omega) (by omega)
    rw [Nat.zero_add, List.drop_zero] at this
    exact this

end Go.Proofs.Ythialihgamlljaa.Pure
