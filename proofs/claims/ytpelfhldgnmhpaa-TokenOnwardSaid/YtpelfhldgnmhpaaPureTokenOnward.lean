/- The next token of any text goes onward; condition: the law's own bound on the text's reach. -/
import Derived.Test.YtpelfhldgnmhpaaPureOnw
import Derived.Test.YtpelfhldgnmhpaaG33
namespace Go.Proofs.Ytpelfhldgnmhpaa.Pure
open Go.RowKit Go.Proofs.Ytpelfhldgnmhpaa.G Go.Proofs.YtpelfhldgnmhpaaW.PrintWords Go.Proofs.YtpelfhldgnmhpaaW.PrintLast Go.Proofs.Ytpelfhldgnmhpaa.Spec
set_option linter.unusedVariables false
set_option linter.unusedSimpArgs false

theorem onw_l1 (kd : Int) (nm : ByteArray) (l : List S41) (c : Bool) (tx : ByteArray) (hl : l.length ≤ 1000000) (hn : Names l) (i : Nat) (hi : i < l.length) (d : Nat) : ∀ (j k : Nat), j + d = i →
    marginalialaw04_TokenOnward.l1 (k + d + 1) (i : Int) (j : Int) kd nm l c tx = marginalialaw04_TokenOnward.l0 k (((i + 1 : Nat) : Int)) kd nm l c tx := by
  induction d with
  | zero =>
    intro j k hj
    rw [marginalialaw04_TokenOnward.l1, if_neg (by omega), wr1 (by omega)]
  | succ d ih =>
    intro j k hj
    have hjl : j < l.length := by omega
    have hne : ¬ l[i].f0.toList = l[j].f0.toList := List.pairwise_iff_getElem.1 hn j i hjl hi (by omega)
    rw [marginalialaw04_TokenOnward.l1, if_pos (by omega), if_pos (by omega), if_pos (by omega), if_pos (by omega), if_pos (by omega), rd41 l i hi, rd41 l j hjl, if_neg hne, wr1 (by omega)]
    exact ih (j + 1) k (by omega)
theorem onw_l0 (kd : Int) (nm : ByteArray) (l : List S41) (c : Bool) (tx : ByteArray) (hl : l.length ≤ 1000000) (hn : Names l) (hk : kd ≠ 2 → l = [] ∧ c = false) (d : Nat) : ∀ (i k : Nat), i + d = l.length → (d * (l.length + 3) + 100 ≤ k) →
    marginalialaw04_TokenOnward.l0 k (i : Int) kd nm l c tx = some true := by
  induction d with
  | zero =>
    intro i k hi hk2
    obtain ⟨k, rfl⟩ : ∃ m, k = m + 1 := ⟨k - 1, by omega⟩
    rw [marginalialaw04_TokenOnward.l0, if_neg (by omega), alive04 (by omega), Option.bind_some, if_pos rfl]
    by_cases h2 : kd = 2
    · rw [if_pos h2]
    · obtain ⟨rfl, rfl⟩ := hk h2
      rw [if_neg h2]; rfl
  | succ d ih =>
    intro i k hi hk2
    have e : (d + 1) * (l.length + 3) = d * (l.length + 3) + (l.length + 3) := Nat.succ_mul _ _
    obtain ⟨k, rfl⟩ : ∃ m, k = (m + i + 1) + 1 := ⟨k - i - 2, by omega⟩
    rw [marginalialaw04_TokenOnward.l0, if_pos (by omega), show (0 : Int) = ((0 : Nat) : Int) from rfl, onw_l1 kd nm l c tx hl hn i (by omega) i 0 k (by omega)]
    exact ih (i + 1) k (by omega) (by omega)
theorem TokenOnward (a0 : ByteArray) (a1_0 a1_1 : Int) (a1_2 : ByteArray) (a1_3 : Bool) (_ : a0.size ≤ 140737488351232) : ∃ k, marginalialaw04_TokenOnward.f k a0 a1_0 a1_1 a1_2 a1_3 = some true := by
  suffices h : ∃ k, (∀ b, marginalialaw04_TokenOnward.j0 (k + 1) a0 true a1_0 a1_1 a1_2 a1_3 = some true) ∧ (a0.size ≤ 200 → a1_2.size ≤ 200 → marginalialaw04_TokenOnward.j0 (k + 1) a0 false a1_0 a1_1 a1_2 a1_3 = some true) by
    obtain ⟨k, h1, h2⟩ := h
    refine ⟨k + 1, ?_⟩
    unfold marginalialaw04_TokenOnward.f
    by_cases g0 : (a0.size : Int) > 200
    · rw [if_pos g0]; exact h1 true
    · rw [if_neg g0]
      by_cases g1 : (a1_2.size : Int) > 200
      · rw [decide_eq_true g1]; exact h1 true
      · rw [decide_eq_false g1]; exact h2 (by omega) (by omega)
  generalize hn : (nextT a0 a1_0 a1_1 a1_2 a1_3).l.length = n
  refine ⟨2200000 + n * (n + 3) + 200, fun _ => ?_, fun g0 g1 => ?_⟩
  · rw [marginalialaw04_TokenOnward.j0, if_pos rfl, alive04 (by omega)]; rfl
  · rw [marginalialaw04_TokenOnward.j0, if_neg (by simp), next_ok a0 a1_0 a1_1 a1_2 a1_3 (by omega) (by omega) (by omega), Option.bind_some]
    by_cases ha : a1_0 < 0 ∨ (a0.size : Int) ≤ a1_0
    · have e : nextT a0 a1_0 a1_1 a1_2 a1_3 = TokV.end_ a0.size := by unfold nextT; rw [if_pos ha]
      rw [e]
      have hj : ∀ k, 61 ≤ k → marginalialaw04_TokenOnward.j1 k a0 (TokV.end_ a0.size).tuple.2.2.2.2.2 true a1_0 a1_1 a1_2 a1_3 (TokV.end_ a0.size).tuple.1 (TokV.end_ a0.size).tuple.2.1 (TokV.end_ a0.size).tuple.2.2.1 (TokV.end_ a0.size).tuple.2.2.2.1 (TokV.end_ a0.size).tuple.2.2.2.2.1 = some true := by
        intro k hk
        obtain ⟨k, rfl⟩ : ∃ m, k = m + 1 := ⟨k - 1, by omega⟩
        rw [marginalialaw04_TokenOnward.j1, if_pos rfl, alive04 (by omega), Option.bind_some, if_pos rfl]
        simp [TokV.end_, TokV.tuple]
      by_cases h0 : a1_0 < 0
      · rw [if_pos h0]; exact hj _ (by omega)
      · rw [if_neg h0, decide_eq_true (by omega)]; exact hj _ (by omega)
    · obtain ⟨hg, hlt, hend⟩ := next_good a0 a1_0 a1_1 a1_2 a1_3 (by omega) ha
      generalize nextT a0 a1_0 a1_1 a1_2 a1_3 = t at hg hlt hend hn
      have hle := hg.le
      rw [if_neg (by omega), decide_eq_false (by omega)]
      show marginalialaw04_TokenOnward.j1 _ a0 (t.e : Int) false a1_0 a1_1 a1_2 a1_3 t.kd t.nm t.l t.c t.tx = some true
      have h4 : ∀ k, n * (n + 3) + 100 ≤ k → marginalialaw04_TokenOnward.j4 (k + 1) false t.kd t.nm t.l t.c t.tx = some true := by
        intro k hk
        have hlen := hg.len
        rw [marginalialaw04_TokenOnward.j4, if_neg (by simp)]
        exact onw_l0 t.kd t.nm t.l t.c t.tx (by omega) hg.ds hg.no n 0 k (by omega) (by rw [hn]; exact hk)
      have h3 : ∀ k, n * (n + 3) + 101 ≤ k → marginalialaw04_TokenOnward.j3 (k + 1) false t.kd t.nm t.l t.c t.tx = some true := by
        intro k hk
        obtain ⟨k, rfl⟩ : ∃ m, k = m + 1 := ⟨k - 1, by omega⟩
        rw [marginalialaw04_TokenOnward.j3, if_neg (by simp)]
        by_cases h2 : t.kd = 2
        · obtain ⟨c, r, hcr, hc1, hc2⟩ := hg.nm h2
          have hsz : 0 < t.nm.size := by
            have := congrArg List.length hcr
            simp at this; omega
          have hb : bt t.nm 0 = (c.toNat : Int) := by
            have h3 : t.nm.data.toList[0]? = some c := by rw [hcr]; rfl
            have h4 : t.nm[0]'hsz = c := by
              have h5 : t.nm.data.toList[0]'(by simpa using hsz) = c := by
                rw [List.getElem?_eq_getElem (by simpa using hsz)] at h3
                exact Option.some.inj h3
              exact h5
            unfold bt
            rw [dif_pos (show (0 : Int).toNat < t.nm.size from hsz)]
            exact congrArg (fun x : UInt8 => (x.toNat : Int)) h4
          rw [if_pos h2, if_neg (by rw [toList_data, hcr]; simp), if_pos (by omega), hb, if_neg (by omega), decide_eq_false (by omega)]
          exact h4 k (by omega)
        · rw [if_neg h2]; exact h4 k (by omega)
      have h2 : ∀ k, n * (n + 3) + 102 ≤ k → marginalialaw04_TokenOnward.j2 (k + 1) false t.kd t.nm t.l t.c t.tx = some true := by
        intro k hk
        obtain ⟨k, rfl⟩ : ∃ m, k = m + 1 := ⟨k - 1, by omega⟩
        rw [marginalialaw04_TokenOnward.j2, if_neg (by simp)]
        by_cases h1 : t.kd = 1
        · rw [if_pos h1, beq_eq_false_iff_ne.2 (hg.tx h1)]; exact h3 k (by omega)
        · rw [if_neg h1]; exact h3 k (by omega)
      obtain ⟨k, hk⟩ : ∃ m, 2200000 + n * (n + 3) + 200 = m + 2 := ⟨2200000 + n * (n + 3) + 198, by omega⟩
      rw [hk, marginalialaw04_TokenOnward.j1, if_neg (by simp), if_neg (by omega), if_neg (by omega)]
      by_cases h0 : t.kd = 0
      · have := hend h0
        rw [if_pos h0, this, show ((a0.size : Int) != (a0.size : Int)) = false by simp]
        exact h2 k (by omega)
      · rw [if_neg h0]; exact h2 k (by omega)

end Go.Proofs.Ytpelfhldgnmhpaa.Pure
