/- Two lists, one behind the other, are written as the one and then the other: the law. No condition: beyond the bound the law asks nothing. -/
import Derived.Test.YthialihgamlljaaPureWeight
namespace Go.Proofs.Ythialihgamlljaa.Pure
open Go.RowKit Go.Proofs.Ythialihgamlljaa.G Go.Proofs.YthialihgamlljaaW.PrintWords Go.Proofs.YthialihgamlljaaW.PrintLast Go.Proofs.Ythialihgamlljaa.Spec
set_option linter.unusedVariables false
set_option linter.unusedSimpArgs false

theorem rowS_append (one : S43 → Bs) (a b : List S43) : rowS one (a ++ b) = rowS one a ++ rowS one b := by
  induction a with
  | nil => rfl
  | cons n r ih => simp only [List.cons_append, rowS, ih, List.append_assoc]
theorem szR_append (sub : List S43 → Nat) (a b : List S43) : szR sub (a ++ b) = szR sub a + szR sub b := by
  induction a with
  | nil => simp [szR]
  | cons n r ih => simp only [List.cons_append, szR, ih]; omega
/-- As nodes_ok, for a list of any weight below a million whose elements are light. -/
theorem nodes_light (d : Nat) (raw : Bool) (l : List S43) : (∀ n ∈ l, szL (d + 1) [n] < 1500) → szL (d + 1) l ≤ 1000000 → ∀ k, szL (d + 1) l + d + 31 ≤ k → print_Fragment.nodes k raw l = some (mkB (outL (d + 1) raw l)) := by
  induction l with
  | nil =>
    intro _ h k hk
    obtain ⟨k, rfl⟩ : ∃ m, k = m + 1 := ⟨k - 1, by omega⟩
    rfl
  | cons n r ih2 =>
    intro hm h k hk
    obtain ⟨k, rfl⟩ : ∃ m, k = m + 1 := ⟨k - 1, by omega⟩
    have e : szL (d + 1) (n :: r) = 1 + n.f2.size + n.f4.size + szA n.f3 + szL d n.f5 + szL (d + 1) r := rfl
    have e1 : szL (d + 1) [n] = 1 + n.f2.size + n.f4.size + szA n.f3 + szL d n.f5 + 0 := rfl
    have hr : r.length ≤ szL (d + 1) r := szR_len _ _
    have hn := hm n (List.mem_cons_self ..)
    rw [e] at h hk
    rw [e1] at hn
    rw [print_Fragment.nodes, if_pos (by omega), one_ok _ (outL d) raw n (by omega) (by omega) (by omega) (fun b => nodes_ok d b n.f5 k (by omega) (by omega)) (by omega), Option.bind_some, ih2 (fun m hm' => hm m (List.mem_cons_of_mem _ hm')) (by omega) k (by omega), Option.bind_some, mkB_append]
    rfl
theorem szL_mem (d : Nat) (l : List S43) (n : S43) (h : n ∈ l) : szL (d + 1) [n] ≤ szL (d + 1) l := by
  induction l with
  | nil => cases h
  | cons m r ih =>
    have e : szL (d + 1) (m :: r) = szL (d + 1) [m] + szL (d + 1) r := szR_append (szL d) [m] r
    rcases List.mem_cons.1 h with rfl | h
    · omega
    · have := ih h; omega
theorem PrintParts : ∀ l0 l1 : List S43, ∃ k, marginalialaw09_PrintParts.f k l0 l1 = some true := by
  intro a b
  refine ⟨30001, ?_⟩
  obtain ⟨w, e, h1, h2⟩ := weight_ok 40 (by omega) a 1500 30001 (by omega) (by omega) (by omega)
  have e' : marginaliaref09_Weight.f 30001 a 1500 40 = some (w : Int) := e
  rw [marginalialaw09_PrintParts.f, e', Option.bind_some]
  by_cases h : (1500 : Int) ≤ (w : Int)
  · rw [if_pos h, marginalialaw09_PrintParts.j0, if_pos rfl, alive09 (by omega), Option.bind_some]
  · obtain ⟨v, f, g1, g2⟩ := weight_ok 40 (by omega) b 1500 30001 (by omega) (by omega) (by omega)
    have f' : marginaliaref09_Weight.f 30001 b 1500 40 = some (v : Int) := f
    rw [if_neg h, f', Option.bind_some, marginalialaw09_PrintParts.j0]
    by_cases g : (1500 : Int) ≤ (v : Int)
    · rw [if_pos (decide_eq_true g), alive09 (by omega), Option.bind_some]
    · have ha := h2 (by omega)
      have hb := g2 (by omega)
      have la : a.length ≤ szL 40 a := szR_len _ _
      have lb : b.length ≤ szL 40 b := szR_len _ _
      have oa := outL_len 40 false a
      have ob := outL_len 40 false b
      have hab : szL 40 (a ++ b) = szL 40 a + szL 40 b := szR_append (szL 39) a b
      have oab : outL 40 false (a ++ b) = outL 40 false a ++ outL 40 false b := rowS_append _ a b
      have fab : print_Fragment.f 30000 (a ++ b) = some (mkB (outL 40 false a ++ outL 40 false b)) := by
        have := nodes_light 39 false (a ++ b) (fun n hn => by
          rcases List.mem_append.1 hn with h | h
          · have := szL_mem 39 a n h
            have e3 : szL (39 + 1) a = szL 40 a := rfl
            omega
          · have := szL_mem 39 b n h
            have e3 : szL (39 + 1) b = szL 40 b := rfl
            omega) (by have e3 : szL (39 + 1) (a ++ b) = szL 40 (a ++ b) := rfl; omega) 30000 (by have e3 : szL (39 + 1) (a ++ b) = szL 40 (a ++ b) := rfl; omega)
        have e4 : outL (39 + 1) false (a ++ b) = outL 40 false (a ++ b) := rfl
        rw [print_Fragment.f, this, Option.bind_some, e4, oab, if_pos (by rw [mkB_size, List.length_append]; omega)]
      have fn : print_Fragment.f 30000 ([] : List S43) = some (mkB []) := rfl
      rw [if_neg (by simpa using g), Option.bind_some, if_pos (by simp only [List.length_nil]; omega), Option.bind_some, List.nil_append, if_pos (by omega), fragment_ok (d := 40) (by omega) (by omega), Option.bind_some, fragment_ok (d := 40) (by omega) (by omega), Option.bind_some, alive09 (by omega), Option.bind_some, if_pos rfl, fab, Option.bind_some, if_pos (by rw [mkB_size, mkB_size]; omega), if_pos (by rw [mkB_append]), fn, Option.bind_some, mkB_toList]
      rfl

end Go.Proofs.Ythialihgamlljaa.Pure
