/- All tokens of a text are as the reference tells; condition: the law's own bound on the text's reach. -/
import Derived.Test.YtpelfhldgnmhpaaPB
import Derived.Test.YtpelfhldgnmhpaaGE
namespace Go.Proofs.Ytpelfhldgnmhpaa.Pure
open Go.RowKit Go.Proofs.Ytpelfhldgnmhpaa.G Go.Proofs.YtpelfhldgnmhpaaW.PrintWords Go.Proofs.YtpelfhldgnmhpaaW.PrintLast Go.Proofs.Ytpelfhldgnmhpaa.Spec
set_option linter.unusedVariables false
set_option linter.unusedSimpArgs false
/-- All tokens from a place on. -/
def allT (s : ByteArray) (i : Nat) : List S29 :=
  if (nextT s (i : Int) 0 ⟨#[]⟩ false).kd = 0 then []
  else if h : i < (nextT s (i : Int) 0 ⟨#[]⟩ false).e ∧ (nextT s (i : Int) 0 ⟨#[]⟩ false).e ≤ s.size then
    (⟨(nextT s (i : Int) 0 ⟨#[]⟩ false).kd, (nextT s (i : Int) 0 ⟨#[]⟩ false).nm, (nextT s (i : Int) 0 ⟨#[]⟩ false).l, (nextT s (i : Int) 0 ⟨#[]⟩ false).c, (nextT s (i : Int) 0 ⟨#[]⟩ false).tx⟩ : S29) :: allT s (nextT s (i : Int) 0 ⟨#[]⟩ false).e
  else []
termination_by s.size - i
theorem next_on (s : ByteArray) (i : Nat) (hs : s.size ≤ 400000) (h : ¬ (nextT s (i : Int) 0 ⟨#[]⟩ false).kd = 0) : i < (nextT s (i : Int) 0 ⟨#[]⟩ false).e ∧ (nextT s (i : Int) 0 ⟨#[]⟩ false).e ≤ s.size := by
 by_cases ha : (i : Int) < 0 ∨ (s.size : Int) ≤ (i : Int)
 ·
  exfalso; apply h; unfold nextT; rw [if_pos ha]; rfl
 ·
  obtain ⟨hg, hlt, _⟩ := next_good s (i : Int) 0 ⟨#[]⟩ false hs ha
  have := hg.le
  rw [Int.toNat_natCast] at hlt
  exact ⟨hlt, this⟩
theorem all_ok (s : ByteArray) (hs : s.size ≤ 400000) (d : Nat) : ∀ (i k : Nat) (l : List S29), i + d = s.size → l.length ≤ i → 2200001 + d ≤ k → token_All.l0 k s l (i : Int) = some (l ++ allT s i) := by
 induction d using Nat.strongRecOn with
 | _ d ih =>
  intro i k l hi hl hk
  obtain ⟨k, rfl⟩ : ∃ m, k = m + 1 := ⟨k - 1, by omega⟩
  rw [token_All.l0, next_ok s (i : Int) 0 ⟨#[]⟩ false hs (Nat.zero_le _) (by omega), Option.bind_some, allT]
  have hon := next_on s i hs
  generalize nextT s (i : Int) 0 ⟨#[]⟩ false = T at hon
  by_cases h0 : T.kd = 0
  ·
   rw [if_pos h0, List.append_nil]; exact if_pos h0
  ·
   have h1 := hon h0
   rw [if_neg h0, dif_pos h1]
   refine (if_neg h0).trans ?_
   rw [if_pos (by omega)]
   have := ih (s.size - T.e) (by omega) T.e k (l ++ [(⟨T.kd, T.nm, T.l, T.c, T.tx⟩ : S29)]) (by omega) (by rw [List.length_append, List.length_singleton]; omega) (by omega)
   refine Eq.trans this ?_
   rw [List.append_assoc]; rfl
theorem refAll_ok (s : ByteArray) (hs : s.size ≤ 400000) (d : Nat) : ∀ (i k : Nat) (l : List S29), i + d = s.size → l.length ≤ i → 18000001 + d ≤ k →
    marginaliaref04_All.l0 k s l ((nextT s (i : Int) 0 ⟨#[]⟩ false).e : Int) (nextT s (i : Int) 0 ⟨#[]⟩ false).kd (nextT s (i : Int) 0 ⟨#[]⟩ false).nm (nextT s (i : Int) 0 ⟨#[]⟩ false).l (nextT s (i : Int) 0 ⟨#[]⟩ false).c (nextT s (i : Int) 0 ⟨#[]⟩ false).tx = some (l ++ allT s i) := by
 induction d using Nat.strongRecOn with
 | _ d ih =>
  intro i k l hi hl hk
  obtain ⟨k, rfl⟩ : ∃ m, k = m + 1 := ⟨k - 1, by omega⟩
  rw [allT]
  have hon := next_on s i hs
  generalize nextT s (i : Int) 0 ⟨#[]⟩ false = T at hon
  rw [marginaliaref04_All.l0]
  by_cases h0 : T.kd = 0
  ·
   rw [if_pos h0, if_pos h0, List.append_nil]
  ·
   have h1 := hon h0
   rw [if_neg h0, if_neg h0, dif_pos h1, if_pos (by omega), refNext_ok s (T.e : Int) 0 ⟨#[]⟩ false hs (Nat.zero_le _) (by omega), Option.bind_some]
   have := ih (s.size - T.e) (by omega) T.e k (l ++ [(⟨T.kd, T.nm, T.l, T.c, T.tx⟩ : S29)]) (by omega) (by rw [List.length_append, List.length_singleton]; omega) (by omega)
   refine Eq.trans this ?_
   rw [List.append_assoc]; rfl
theorem all_len (s : ByteArray) (hs : s.size ≤ 400000) (d : Nat) : ∀ i, s.size - i = d → (allT s i).length ≤ d ∧ ∀ t ∈ allT s i, t.f2.length ≤ s.size := by
 induction d using Nat.strongRecOn with
 | _ d ih =>
  intro i hi
  rw [allT]
  have hon := next_on s i hs
  have hl := next_len s (i : Int) 0 ⟨#[]⟩ false hs
  generalize nextT s (i : Int) 0 ⟨#[]⟩ false = T at hon hl
  by_cases h0 : T.kd = 0
  ·
   rw [if_pos h0]; exact ⟨Nat.zero_le _, fun t ht => by cases ht⟩
  ·
   have h1 := hon h0
   rw [if_neg h0, dif_pos h1]
   have h2 := ih (s.size - T.e) (by omega) T.e rfl
   refine ⟨by rw [List.length_cons]; omega, fun t ht => ?_⟩
   rcases List.mem_cons.1 ht with rfl | ht
   ·
    exact hl
   ·
    exact h2.2 t ht
theorem law_l0 (l : List S29) (n : Nat) (hl : l.length ≤ 1000000) (hn : n ≤ 1000000) (hm : ∀ t ∈ l, t.f2.length ≤ n) (d : Nat) : ∀ (i k : Nat), i + d = l.length → n + 100 + d ≤ k → marginalialaw04_TokenAll.l0 k l l (i : Int) = some true := by
 induction d with
 | zero =>
  intro i k hi hk
  obtain ⟨k, rfl⟩ : ∃ m, k = m + 1 := ⟨k - 1, by omega⟩
  rw [marginalialaw04_TokenAll.l0, if_neg (by omega), alive04 (by omega), Option.bind_some]
 | succ d ih =>
  intro i k hi hk
  obtain ⟨k, rfl⟩ : ∃ m, k = m + 1 := ⟨k - 1, by omega⟩
  have hlt : i < l.length := by omega
  have hr : rd_T29 l (i : Int) = l[i] := by
   unfold rd_T29
   rw [Int.toNat_natCast, List.getD, List.getElem?_eq_getElem hlt]; rfl
  have h2 := hm l[i] (List.getElem_mem hlt)
  rw [marginalialaw04_TokenAll.l0, if_pos (by omega), if_pos (by omega), if_pos (by omega), hr]
  generalize l[i] = t at h2
  rw [same_self t.f0 t.f1 t.f2 t.f3 t.f4 (by omega) (by omega), Option.bind_some, if_pos rfl, wr1 (by omega)]
  exact ih (i + 1) k (by omega) (by omega)
theorem TokenAll : marginalialaw04_TokenAll.Pure := by
 intro a0 _
 refine ⟨20000000, ?_⟩
 unfold marginalialaw04_TokenAll.f
 by_cases g0 : (a0.size : Int) > 200
 ·
  rw [if_pos g0, alive04 (by omega)]; rfl
 ·
  rw [if_neg g0]
  have h1 : token_All.f 20000000 a0 = some (allT a0 0) := all_ok a0 (by omega) a0.size 0 20000000 [] (by omega) (Nat.le_refl _) (by omega)
  have h2 : marginaliaref04_All.f 20000000 a0 = some (allT a0 0) := by
   unfold marginaliaref04_All.f
   rw [show (0 : Int) = ((0 : Nat) : Int) from rfl, refNext_ok a0 ((0 : Nat) : Int) ((0 : Nat) : Int) ⟨#[]⟩ false (by omega) (Nat.zero_le _) (by omega), Option.bind_some]
   exact refAll_ok a0 (by omega) a0.size 0 20000000 [] (by omega) (Nat.le_refl _) (by omega)
  have h3 := all_len a0 (by omega) a0.size 0 (by omega)
  rw [h1, Option.bind_some, h2, Option.bind_some, if_pos rfl]
  exact law_l0 (allT a0 0) a0.size (by omega) (by omega) h3.2 (allT a0 0).length 0 20000000 (by omega) (by omega)
end Go.Proofs.Ytpelfhldgnmhpaa.Pure
