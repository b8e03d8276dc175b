-- laid by a program of this session's (wip/tools/myprint.py) over the translation
import Derived.Test.YtpelfhldgnmhpaaG0
import Derived.Test.YtpelfhldgnmhpaaG21
import Derived.Test.YtpelfhldgnmhpaaG31
import Derived.Test.YtpelfhldgnmhpaaG32
import Derived.Test.YtpelfhldgnmhpaaG33
namespace Go.Proofs.Ytpelfhldgnmhpaa.G
open Go.RowKit Go.Proofs.YtpelfhldgnmhpaaW.PrintWords Go.Proofs.YtpelfhldgnmhpaaW.PrintLast Go.Proofs.YtpelfhldgnmhpaaW.PrintMore
attribute [local go_sem] max2_int min2_int max_two min_two max_three min_three max_four min_four   -- for this text's walks alone
set_option linter.unusedVariables false
set_option linter.unusedSimpArgs false

/-! ### marginalialaw04_TokenBack: function 7 -/
mutual
def marginalialaw04_TokenBack.j0 : Nat → ByteArray → Bool → Int → ByteArray → List (S41) → Bool → ByteArray → Option (Bool)
  | 0, _, _, _, _, _, _, _ => none
  | k + 1, x1, x30, x200000, x200001, x200002, x200003, x200004 => if x30 = true then ((marginalialaw04_alive.f k).bind fun t201 => (some t201)) else (if 1 + x200001.size ≤ 9223372036854775807 then (marginalialaw04_TokenBack.l0 k x1 ((⟨#[60]⟩ : ByteArray) ++ x200001) 0 x200000 x200001 x200002 x200003 x200004) else (none))
def marginalialaw04_TokenBack.l0 : Nat → ByteArray → ByteArray → Int → Int → ByteArray → List (S41) → Bool → ByteArray → Option (Bool)
  | 0, _, _, _, _, _, _, _, _ => none
  | k + 1, x1, x5, x6, x200000, x200001, x200002, x200003, x200004 => if x6 < (x200002.length : Int) then (if 0 ≤ x6 then ((marginalialaw04_small.f k ((rd_T41 x200002 x6).f0)).bind fun t204 => (if t204 = true then (marginalialaw04_TokenBack.j2 k x1 x5 x6 (decide ((((rd_T41 x200002 x6).f1).size : Int) > 60)) x200000 x200001 x200002 x200003 x200004 ((rd_T41 x200002 x6).f0) ((rd_T41 x200002 x6).f1)) else (marginalialaw04_TokenBack.j2 k x1 x5 x6 true x200000 x200001 x200002 x200003 x200004 ((rd_T41 x200002 x6).f0) ((rd_T41 x200002 x6).f1)))) else (none)) else (if x200003 = true then (if x5.size + 1 ≤ 9223372036854775807 then (marginalialaw04_TokenBack.j4 k x1 (x5 ++ (⟨#[47]⟩ : ByteArray)) x200000 x200001 x200002 x200003 x200004) else (none)) else (marginalialaw04_TokenBack.j4 k x1 x5 x200000 x200001 x200002 x200003 x200004))
def marginalialaw04_TokenBack.j2 : Nat → ByteArray → ByteArray → Int → Bool → Int → ByteArray → List (S41) → Bool → ByteArray → ByteArray → ByteArray → Option (Bool)
  | 0, _, _, _, _, _, _, _, _, _, _, _ => none
  | k + 1, x1, x5, x6, x56, x200000, x200001, x200002, x200003, x200004, x204000, x204001 => if x56 = true then ((marginalialaw04_alive.f k).bind fun t205 => (some t205)) else (marginalialaw04_TokenBack.l1 k x1 x5 x6 0 x200000 x200001 x200002 x200003 x200004 x204000 x204001)
def marginalialaw04_TokenBack.l1 : Nat → ByteArray → ByteArray → Int → Int → Int → ByteArray → List (S41) → Bool → ByteArray → ByteArray → ByteArray → Option (Bool)
  | 0, _, _, _, _, _, _, _, _, _, _, _ => none
  | k + 1, x1, x5, x6, x8, x200000, x200001, x200002, x200003, x200004, x204000, x204001 => if x8 < x6 then (if 0 ≤ x8 then (if x8 < (x200002.length : Int) then (if ((rd_T41 x200002 x8).f0).toList = x204000.toList then ((marginalialaw04_alive.f k).bind fun t207 => (some t207)) else (marginalialaw04_TokenBack.l1 k x1 x5 x6 (wrap64 (x8 + 1)) x200000 x200001 x200002 x200003 x200004 x204000 x204001)) else (none)) else (none)) else (if x5.size + 1 ≤ 9223372036854775807 then (if x5.size + 1 + x204000.size ≤ 9223372036854775807 then (if x5.size + 1 + x204000.size + 1 ≤ 9223372036854775807 then ((marginalialaw04_quoted.f k x204001).bind fun t208 => (if x5.size + 1 + x204000.size + 1 + t208.size ≤ 9223372036854775807 then (marginalialaw04_TokenBack.l0 k x1 ((((x5 ++ (⟨#[32]⟩ : ByteArray)) ++ x204000) ++ (⟨#[61]⟩ : ByteArray)) ++ t208) (wrap64 (x6 + 1)) x200000 x200001 x200002 x200003 x200004) else (none))) else (none)) else (none)) else (none))
def marginalialaw04_TokenBack.j4 : Nat → ByteArray → ByteArray → Int → ByteArray → List (S41) → Bool → ByteArray → Option (Bool)
  | 0, _, _, _, _, _, _, _ => none
  | k + 1, x1, x5, x200000, x200001, x200002, x200003, x200004 => if x5.size + 1 ≤ 9223372036854775807 then (if x5.size + 1 + x1.size ≤ 9223372036854775807 then ((token_Next.f k ((x5 ++ (⟨#[62]⟩ : ByteArray)) ++ x1) 0 0 (⟨#[]⟩ : ByteArray) false).bind fun bt210 => (if 2 + x200001.size ≤ 9223372036854775807 then (if 2 + x200001.size + 1 ≤ 9223372036854775807 then (if 2 + x200001.size + 1 + x1.size ≤ 9223372036854775807 then ((token_Next.f k ((((⟨#[60, 47]⟩ : ByteArray) ++ x200001) ++ (⟨#[62]⟩ : ByteArray)) ++ x1) 0 0 (⟨#[]⟩ : ByteArray) false).bind fun bt219 => ((token_Next.f k x5 0 0 (⟨#[]⟩ : ByteArray) false).bind fun bt228 => ((marginalialaw04_alive.f k).bind fun t237 => (if t237 = true then ((marginaliaref04_Same.f k bt210.1 bt210.2.1 bt210.2.2.1 bt210.2.2.2.1 bt210.2.2.2.2.1 2 x200001 x200002 x200003 (⟨#[]⟩ : ByteArray)).bind fun t238 => (if t238 = true then (if bt210.2.2.2.2.2 = (wrap64 ((x5.size : Int) + 1)) then ((marginaliaref04_Same.f k bt219.1 bt219.2.1 bt219.2.2.1 bt219.2.2.2.1 bt219.2.2.2.2.1 3 x200001 ([] : List (S41)) false (⟨#[]⟩ : ByteArray)).bind fun t239 => (if t239 = true then (if bt219.2.2.2.2.2 = (wrap64 ((x200001.size : Int) + 3)) then (if bt228.1 = 0 then (some (bt228.2.2.2.2.2 == (x5.size : Int))) else (some false)) else (some false)) else (some false))) else (some false)) else (some false))) else (some false))))) else (none)) else (none)) else (none))) else (none)) else (none)
end
def marginalialaw04_TokenBack.f (k : Nat) (a0_0 : Int) (a0_1 : ByteArray) (l0_2 : List (S41)) (a0_3 : Bool) (a0_4 : ByteArray) (a1 : ByteArray) : Option (Bool) := if (l0_2.length : Int) > 6 then (marginalialaw04_TokenBack.j0 k a1 true a0_0 a0_1 l0_2 a0_3 a0_4) else (if (a1.size : Int) > 200 then (marginalialaw04_TokenBack.j0 k a1 true a0_0 a0_1 l0_2 a0_3 a0_4) else ((marginalialaw04_small.f k a0_1).bind fun t200 => (marginalialaw04_TokenBack.j0 k a1 (!t200) a0_0 a0_1 l0_2 a0_3 a0_4)))
theorem marginalialaw04_TokenBack.mono_l : ∀ k, (∀ y0 y1 y2 y3 y4 y5 y6, LeO (marginalialaw04_TokenBack.j0 k y0 y1 y2 y3 y4 y5 y6) (marginalialaw04_TokenBack.j0 (k + 1) y0 y1 y2 y3 y4 y5 y6)) ∧ (∀ y0 y1 y2 y3 y4 y5 y6 y7, LeO (marginalialaw04_TokenBack.l0 k y0 y1 y2 y3 y4 y5 y6 y7) (marginalialaw04_TokenBack.l0 (k + 1) y0 y1 y2 y3 y4 y5 y6 y7)) ∧ (∀ y0 y1 y2 y3 y4 y5 y6 y7 y8 y9 y10, LeO (marginalialaw04_TokenBack.j2 k y0 y1 y2 y3 y4 y5 y6 y7 y8 y9 y10) (marginalialaw04_TokenBack.j2 (k + 1) y0 y1 y2 y3 y4 y5 y6 y7 y8 y9 y10)) ∧ (∀ y0 y1 y2 y3 y4 y5 y6 y7 y8 y9 y10, LeO (marginalialaw04_TokenBack.l1 k y0 y1 y2 y3 y4 y5 y6 y7 y8 y9 y10) (marginalialaw04_TokenBack.l1 (k + 1) y0 y1 y2 y3 y4 y5 y6 y7 y8 y9 y10)) ∧ (∀ y0 y1 y2 y3 y4 y5 y6, LeO (marginalialaw04_TokenBack.j4 k y0 y1 y2 y3 y4 y5 y6) (marginalialaw04_TokenBack.j4 (k + 1) y0 y1 y2 y3 y4 y5 y6))
  | 0 => ⟨fun _ _ _ _ _ _ _ r h => by simp [marginalialaw04_TokenBack.j0] at h, fun _ _ _ _ _ _ _ _ r h => by simp [marginalialaw04_TokenBack.l0] at h, fun _ _ _ _ _ _ _ _ _ _ _ r h => by simp [marginalialaw04_TokenBack.j2] at h, fun _ _ _ _ _ _ _ _ _ _ _ r h => by simp [marginalialaw04_TokenBack.l1] at h, fun _ _ _ _ _ _ _ r h => by simp [marginalialaw04_TokenBack.j4] at h⟩
  | k + 1 => by
    obtain ⟨ih0, ih1, ih2, ih3, ih4⟩ := marginalialaw04_TokenBack.mono_l k
    refine ⟨?_, ?_, ?_, ?_, ?_⟩
    · intro y0 y1 y2 y3 y4 y5 y6
      unfold marginalialaw04_TokenBack.j0
      repeat' first
      | (with_reducible exact ih0 _ _ _ _ _ _ _)
      | (with_reducible exact ih1 _ _ _ _ _ _ _ _)
      | (with_reducible exact ih2 _ _ _ _ _ _ _ _ _ _ _)
      | (with_reducible exact ih3 _ _ _ _ _ _ _ _ _ _ _)
      | (with_reducible exact ih4 _ _ _ _ _ _ _)
      | (with_reducible exact marginalialaw04_alive.mono _)
      | (with_reducible exact marginalialaw04_quoted.mono _ _)
      | (with_reducible exact marginalialaw04_small.mono _ _)
      | (with_reducible exact marginaliaref04_Same.mono _ _ _ _ _ _ _ _ _ _ _)
      | (with_reducible exact token_Next.mono _ _ _ _ _ _)
      | (with_reducible exact LeO.refl _)
      | (with_reducible exact LeO.none _)
      | (with_reducible refine LeO.ite ?_ ?_)
      | (with_reducible refine LeO.bind ?_ (fun _ => ?_))
      | exact ih0 _ _ _ _ _ _ _
      | exact ih1 _ _ _ _ _ _ _ _
      | exact ih2 _ _ _ _ _ _ _ _ _ _ _
      | exact ih3 _ _ _ _ _ _ _ _ _ _ _
      | exact ih4 _ _ _ _ _ _ _
      | exact marginalialaw04_alive.mono _
      | exact marginalialaw04_quoted.mono _ _
      | exact marginalialaw04_small.mono _ _
      | exact marginaliaref04_Same.mono _ _ _ _ _ _ _ _ _ _ _
      | exact token_Next.mono _ _ _ _ _ _
      | exact LeO.none _
      | refine LeO.ite ?_ ?_
      | refine LeO.bind ?_ (fun _ => ?_)
    · intro y0 y1 y2 y3 y4 y5 y6 y7
      unfold marginalialaw04_TokenBack.l0
      repeat' first
      | (with_reducible exact ih0 _ _ _ _ _ _ _)
      | (with_reducible exact ih1 _ _ _ _ _ _ _ _)
      | (with_reducible exact ih2 _ _ _ _ _ _ _ _ _ _ _)
      | (with_reducible exact ih3 _ _ _ _ _ _ _ _ _ _ _)
      | (with_reducible exact ih4 _ _ _ _ _ _ _)
      | (with_reducible exact marginalialaw04_alive.mono _)
      | (with_reducible exact marginalialaw04_quoted.mono _ _)
      | (with_reducible exact marginalialaw04_small.mono _ _)
      | (with_reducible exact marginaliaref04_Same.mono _ _ _ _ _ _ _ _ _ _ _)
      | (with_reducible exact token_Next.mono _ _ _ _ _ _)
      | (with_reducible exact LeO.refl _)
      | (with_reducible exact LeO.none _)
      | (with_reducible refine LeO.ite ?_ ?_)
      | (with_reducible refine LeO.bind ?_ (fun _ => ?_))
      | exact ih0 _ _ _ _ _ _ _
      | exact ih1 _ _ _ _ _ _ _ _
      | exact ih2 _ _ _ _ _ _ _ _ _ _ _
      | exact ih3 _ _ _ _ _ _ _ _ _ _ _
      | exact ih4 _ _ _ _ _ _ _
      | exact marginalialaw04_alive.mono _
      | exact marginalialaw04_quoted.mono _ _
      | exact marginalialaw04_small.mono _ _
      | exact marginaliaref04_Same.mono _ _ _ _ _ _ _ _ _ _ _
      | exact token_Next.mono _ _ _ _ _ _
      | exact LeO.none _
      | refine LeO.ite ?_ ?_
      | refine LeO.bind ?_ (fun _ => ?_)
    · intro y0 y1 y2 y3 y4 y5 y6 y7 y8 y9 y10
      unfold marginalialaw04_TokenBack.j2
      repeat' first
      | (with_reducible exact ih0 _ _ _ _ _ _ _)
      | (with_reducible exact ih1 _ _ _ _ _ _ _ _)
      | (with_reducible exact ih2 _ _ _ _ _ _ _ _ _ _ _)
      | (with_reducible exact ih3 _ _ _ _ _ _ _ _ _ _ _)
      | (with_reducible exact ih4 _ _ _ _ _ _ _)
      | (with_reducible exact marginalialaw04_alive.mono _)
      | (with_reducible exact marginalialaw04_quoted.mono _ _)
      | (with_reducible exact marginalialaw04_small.mono _ _)
      | (with_reducible exact marginaliaref04_Same.mono _ _ _ _ _ _ _ _ _ _ _)
      | (with_reducible exact token_Next.mono _ _ _ _ _ _)
      | (with_reducible exact LeO.refl _)
      | (with_reducible exact LeO.none _)
      | (with_reducible refine LeO.ite ?_ ?_)
      | (with_reducible refine LeO.bind ?_ (fun _ => ?_))
      | exact ih0 _ _ _ _ _ _ _
      | exact ih1 _ _ _ _ _ _ _ _
      | exact ih2 _ _ _ _ _ _ _ _ _ _ _
      | exact ih3 _ _ _ _ _ _ _ _ _ _ _
      | exact ih4 _ _ _ _ _ _ _
      | exact marginalialaw04_alive.mono _
      | exact marginalialaw04_quoted.mono _ _
      | exact marginalialaw04_small.mono _ _
      | exact marginaliaref04_Same.mono _ _ _ _ _ _ _ _ _ _ _
      | exact token_Next.mono _ _ _ _ _ _
      | exact LeO.none _
      | refine LeO.ite ?_ ?_
      | refine LeO.bind ?_ (fun _ => ?_)
    · intro y0 y1 y2 y3 y4 y5 y6 y7 y8 y9 y10
      unfold marginalialaw04_TokenBack.l1
      repeat' first
      | (with_reducible exact ih0 _ _ _ _ _ _ _)
      | (with_reducible exact ih1 _ _ _ _ _ _ _ _)
      | (with_reducible exact ih2 _ _ _ _ _ _ _ _ _ _ _)
      | (with_reducible exact ih3 _ _ _ _ _ _ _ _ _ _ _)
      | (with_reducible exact ih4 _ _ _ _ _ _ _)
      | (with_reducible exact marginalialaw04_alive.mono _)
      | (with_reducible exact marginalialaw04_quoted.mono _ _)
      | (with_reducible exact marginalialaw04_small.mono _ _)
      | (with_reducible exact marginaliaref04_Same.mono _ _ _ _ _ _ _ _ _ _ _)
      | (with_reducible exact token_Next.mono _ _ _ _ _ _)
      | (with_reducible exact LeO.refl _)
      | (with_reducible exact LeO.none _)
      | (with_reducible refine LeO.ite ?_ ?_)
      | (with_reducible refine LeO.bind ?_ (fun _ => ?_))
      | exact ih0 _ _ _ _ _ _ _
      | exact ih1 _ _ _ _ _ _ _ _
      | exact ih2 _ _ _ _ _ _ _ _ _ _ _
      | exact ih3 _ _ _ _ _ _ _ _ _ _ _
      | exact ih4 _ _ _ _ _ _ _
      | exact marginalialaw04_alive.mono _
      | exact marginalialaw04_quoted.mono _ _
      | exact marginalialaw04_small.mono _ _
      | exact marginaliaref04_Same.mono _ _ _ _ _ _ _ _ _ _ _
      | exact token_Next.mono _ _ _ _ _ _
      | exact LeO.none _
      | refine LeO.ite ?_ ?_
      | refine LeO.bind ?_ (fun _ => ?_)
    · intro y0 y1 y2 y3 y4 y5 y6
      unfold marginalialaw04_TokenBack.j4
      repeat' first
      | (with_reducible exact ih0 _ _ _ _ _ _ _)
      | (with_reducible exact ih1 _ _ _ _ _ _ _ _)
      | (with_reducible exact ih2 _ _ _ _ _ _ _ _ _ _ _)
      | (with_reducible exact ih3 _ _ _ _ _ _ _ _ _ _ _)
      | (with_reducible exact ih4 _ _ _ _ _ _ _)
      | (with_reducible exact marginalialaw04_alive.mono _)
      | (with_reducible exact marginalialaw04_quoted.mono _ _)
      | (with_reducible exact marginalialaw04_small.mono _ _)
      | (with_reducible exact marginaliaref04_Same.mono _ _ _ _ _ _ _ _ _ _ _)
      | (with_reducible exact token_Next.mono _ _ _ _ _ _)
      | (with_reducible exact LeO.refl _)
      | (with_reducible exact LeO.none _)
      | (with_reducible refine LeO.ite ?_ ?_)
      | (with_reducible refine LeO.bind ?_ (fun _ => ?_))
      | exact ih0 _ _ _ _ _ _ _
      | exact ih1 _ _ _ _ _ _ _ _
      | exact ih2 _ _ _ _ _ _ _ _ _ _ _
      | exact ih3 _ _ _ _ _ _ _ _ _ _ _
      | exact ih4 _ _ _ _ _ _ _
      | exact marginalialaw04_alive.mono _
      | exact marginalialaw04_quoted.mono _ _
      | exact marginalialaw04_small.mono _ _
      | exact marginaliaref04_Same.mono _ _ _ _ _ _ _ _ _ _ _
      | exact token_Next.mono _ _ _ _ _ _
      | exact LeO.none _
      | refine LeO.ite ?_ ?_
      | refine LeO.bind ?_ (fun _ => ?_)
theorem marginalialaw04_TokenBack.mono : ∀ a0 a1 a2 a3 a4 a5 k, LeO (marginalialaw04_TokenBack.f k a0 a1 a2 a3 a4 a5) (marginalialaw04_TokenBack.f (k + 1) a0 a1 a2 a3 a4 a5) := by
  intro a0 a1 a2 a3 a4 a5 k
  obtain ⟨ih0, ih1, ih2, ih3, ih4⟩ := marginalialaw04_TokenBack.mono_l k
  unfold marginalialaw04_TokenBack.f
  repeat' first
      | (with_reducible exact ih0 _ _ _ _ _ _ _)
      | (with_reducible exact ih1 _ _ _ _ _ _ _ _)
      | (with_reducible exact ih2 _ _ _ _ _ _ _ _ _ _ _)
      | (with_reducible exact ih3 _ _ _ _ _ _ _ _ _ _ _)
      | (with_reducible exact ih4 _ _ _ _ _ _ _)
      | (with_reducible exact marginalialaw04_alive.mono _)
      | (with_reducible exact marginalialaw04_quoted.mono _ _)
      | (with_reducible exact marginalialaw04_small.mono _ _)
      | (with_reducible exact marginaliaref04_Same.mono _ _ _ _ _ _ _ _ _ _ _)
      | (with_reducible exact token_Next.mono _ _ _ _ _ _)
      | (with_reducible exact LeO.refl _)
      | (with_reducible exact LeO.none _)
      | (with_reducible refine LeO.ite ?_ ?_)
      | (with_reducible refine LeO.bind ?_ (fun _ => ?_))
      | exact ih0 _ _ _ _ _ _ _
      | exact ih1 _ _ _ _ _ _ _ _
      | exact ih2 _ _ _ _ _ _ _ _ _ _ _
      | exact ih3 _ _ _ _ _ _ _ _ _ _ _
      | exact ih4 _ _ _ _ _ _ _
      | exact marginalialaw04_alive.mono _
      | exact marginalialaw04_quoted.mono _ _
      | exact marginalialaw04_small.mono _ _
      | exact marginaliaref04_Same.mono _ _ _ _ _ _ _ _ _ _ _
      | exact token_Next.mono _ _ _ _ _ _
      | exact LeO.none _
      | refine LeO.ite ?_ ?_
      | refine LeO.bind ?_ (fun _ => ?_)
section
variable {w w0 : World} {B : Nat} {k k0 : Int} {nm nm0 : ByteArray} {v v0 : Value} {c c0 : Bool} {tx tx0 : ByteArray}
/-- All that a walk asks about a token's block. -/
theorem TB.all (h : TB w B k nm v c tx) : w.cell? ⟨B, 0, none⟩ = some (.int .i64 k) ∧ w.cell? ⟨B, 1, none⟩ = some (.string nm) ∧ w.cell? ⟨B, 2, none⟩ = some v ∧ w.cell? ⟨B, 3, none⟩ = some (.bool c) ∧ w.cell? ⟨B, 4, none⟩ = some (.string tx) ∧ w.frozen? ⟨B, 0, none⟩ = false ∧ w.frozen? ⟨B, 1, none⟩ = false ∧ w.frozen? ⟨B, 2, none⟩ = false ∧ w.frozen? ⟨B, 3, none⟩ = false ∧ w.frozen? ⟨B, 4, none⟩ = false :=
  ⟨h.cell 0, h.cell 1, h.cell 2, h.cell 3, h.cell 4, h.free 0, h.free 1, h.free 2, h.free 3, h.free 4⟩
theorem TB.put (h : TB w B k0 nm0 v0 c0 tx0) (k : Int) (nm : ByteArray) (v : Value) (c : Bool) (tx : ByteArray) :
    (∀ j, (((((w.setCell ⟨B, 0, none⟩ (.int .i64 k)).setCell ⟨B, 1, none⟩ (.string nm)).setCell ⟨B, 2, none⟩ v).setCell ⟨B, 3, none⟩ (.bool c)).setCell ⟨B, 4, none⟩ (.string tx)).cell? ⟨B, j, none⟩ = #[Value.int .i64 k, .string nm, v, .bool c, .string tx][j]?) := fun j => (put5_tb h k nm v c tx).cell j
theorem put5_bel {W : World} (h : Below W.heap.size W w) (k : Int) (nm : ByteArray) (v : Value) (c : Bool) (tx : ByteArray) : Below W.heap.size W (put5 w W.heap.size k nm v c tx) :=
  Fr.to_below h (put5_fr (G := fun k => k = W.heap.size) (Fr.refl _ _) W.heap.size _ _ _ _ _ (Or.inl rfl)) h.size (fun i hi => by subst hi; exact Nat.le_refl _)
end
/-- A token and a place that are handed back. -/
def TokI (w : World) (r1 : Int) (r2 : ByteArray) (r3 : List S41) (r4 : Bool) (r5 : ByteArray) (r6 : Int) (e : Ending) (w' : World) : Prop :=
  ∃ v2_ : Value, e = .returned (.tuple #[.agg #[.int .i64 r1, .string r2, v2_, .bool r4, .string r5], .int .i64 r6]) ∧ Kd.R k41 41 w' w.heap.size (fun _ => True) v2_ r3 ∧ Below w.heap.size w w'
theorem TB.zero (w : World) : TB (w.alloc (.cells #[.int .i64 0, .string ⟨#[]⟩, .slice none 0 0, .bool false, .string ⟨#[]⟩] 29)) w.heap.size 0 ⟨#[]⟩ (.slice none 0 0) false ⟨#[]⟩ := TB.new w 0 ⟨#[]⟩ (.slice none 0 0) false ⟨#[]⟩
theorem Below.zero (w : World) : Below w.heap.size w (w.alloc (.cells #[.int .i64 0, .string ⟨#[]⟩, .slice none 0 0, .bool false, .string ⟨#[]⟩] 29)) := (Below.refl _ w).alloc (Nat.le_refl _) _
theorem AB.all {w : World} {B : Nat} {a b : ByteArray} (h : AB w B a b) : w.cell? ⟨B, 0, none⟩ = some (.string a) ∧ w.cell? ⟨B, 1, none⟩ = some (.string b) := ⟨h.c0, h.c1⟩
set_option maxHeartbeats 4000000 in
set_option maxRecDepth 100000 in
theorem marginalialaw04_TokenBack.callsT (k : Nat) (kd : Int) (nm : ByteArray) (A : Option Addr) (cp : Nat) (l : List S41) (c : Bool) (tx : ByteArray) (a1 : ByteArray) (w : World) (hC : Kd.C k41 w A l.length l) (hcp : l.length ≤ cp) (hm : HM w) (h : marginalialaw04_TokenBack.f k kd nm l c tx a1 = some true) :
    Calls Try.prog 7 #[.agg #[.int .i64 kd, .string nm, .slice A l.length cp, .bool c, .string tx], .string a1] w fun e w' => e = .returned (.bool true) ∧ Below w.heap.size w w' := by
 have H := Aside0.mk h
 have HC := Aside0.mk hC
 have HCP := Aside0.mk hcp
 have HM0 := Aside0.mk hm
 have HT := Aside0.mk (TB.new w kd nm (.slice A l.length cp) c tx)
 have HB : Aside0 (Below w.heap.size w (w.alloc (.cells #[.int .i64 kd, .string nm, .slice A l.length cp, .bool c, .string tx] 29))) := ⟨(Below.refl _ _).alloc (Nat.le_refl _) _⟩
 clear h hC hcp hm
 obtain ⟨tt0, tt1, tt2, tt3, tt4, _, _, _, _, _⟩ := HT.out.all
 go_enter Try.func7, Try.ntmps7
 go_upto_region 1 with fail
 go_cut [30] (fun v30 wc => ∃ b : Bool, v30 = .bool b ∧ Aside0 (marginalialaw04_TokenBack.j0 k a1 b kd nm l c tx = some true) ∧ Aside0 (TB wc w.heap.size kd nm (.slice A l.length cp) c tx) ∧ Aside0 (Below w.heap.size w wc))
 case first =>
  have h := H.out
  unfold marginalialaw04_TokenBack.f at h
  clear H
  by_cases c1 : (l.length : Int) > 6
  ·
   replace h := (if_pos c1).symm.trans h
   have d1 : decide ((l.length : Int) > 6) = true := decide_eq_true c1
   have H2 := Aside0.mk h
   clear h
   go_wp2_with fail
   go_meet
   exact ⟨true, rfl, H2, HT, HB⟩
  replace h := (if_neg c1).symm.trans h
  have d1 : decide ((l.length : Int) > 6) = false := decide_eq_false c1
  by_cases c2 : (a1.size : Int) > 200
  ·
   replace h := (if_pos c2).symm.trans h
   have d2 : decide ((a1.size : Int) > 200) = true := decide_eq_true c2
   have H2 := Aside0.mk h
   clear h
   go_wp2_with fail
   go_meet
   exact ⟨true, rfl, H2, HT, HB⟩
  replace h := (if_neg c2).symm.trans h
  have d2 : decide ((a1.size : Int) > 200) = false := decide_eq_false c2
  replace h := Option.bind_eq_some_iff.mp h
  obtain ⟨t, hx, h⟩ := h
  have HX := Aside0.mk hx
  have H2 := Aside0.mk h
  clear hx h
  go_wp2_with fail
  refine (marginalialaw04_small.calls k nm t _ HX.out).mono ?_
  rintro e w1 ⟨rfl, hd⟩
  have hb := hd.below
  replace HT := Aside0.mk (HT.out.keep hb)
  replace HB := Aside0.mk (below_step HB.out hb)
  clear hb hd HX
  go_wp2_with fail
  go_meet
  exact ⟨_, rfl, H2, HT, HB⟩
 case rest =>
  clear H HT HB tt0 tt1 tt2 tt3 tt4
  obtain ⟨b, rfl, HJ, HT, HB⟩ := hcut
  have h := HJ.out
  clear HJ
  rcases k with _ | k1
  · exact absurd h (by simp [marginalialaw04_TokenBack.j0])
  rw [marginalialaw04_TokenBack.j0] at h
  cases b with
  | true =>
   replace h := (if_pos rfl).symm.trans h
   replace h := Option.bind_eq_some_iff.mp h
   obtain ⟨t, hx, h⟩ := h
   have HX := Aside0.mk hx
   obtain rfl := Option.some.inj h
   clear hx h
   go_wp2_with fail
   refine (marginalialaw04_alive.calls k1 true _ (HM0.out.at_ HB.out) HX.out).mono ?_
   rintro e w1 ⟨rfl, hb⟩
   replace HB := Aside0.mk (below_step HB.out hb)
   clear hb
   go_wp2
   go_ret
   exact ⟨rfl, HB.out⟩
  | false =>
   replace h := (if_neg Bool.false_ne_true).symm.trans h
   by_cases e0 : 1 + nm.size ≤ 9223372036854775807
   case neg => exact absurd ((if_neg e0).symm.trans h) (by simp)
   replace h := (if_pos e0).symm.trans h
   have H := Aside0.mk h
   clear h
   obtain ⟨tt0, tt1, tt2, tt3, tt4, _, _, _, _, _⟩ := HT.out.all
   go_wp2_with fail
   go_loopg [5, 6] k1 (fun kq v5 v6 wc => ∃ (s : ByteArray) (i : Int), v5 = .string s ∧ v6 = .int .i64 i ∧ Aside0 (marginalialaw04_TokenBack.l0 kq a1 s i kd nm l c tx = some true) ∧ Aside0 (TB wc w.heap.size kd nm (.slice A l.length cp) c tx) ∧ Aside0 (Below w.heap.size w wc))
   case atStart => exact ⟨_, 0, rfl, rfl, H, HT, HB⟩
   case round =>
    clear H HT HB tt0 tt1 tt2 tt3 tt4
    obtain ⟨s, i, rfl, rfl, HA, HT, HB⟩ := hrel
    cases gk with
    | zero => exact absurd HA.out (by simp [marginalialaw04_TokenBack.l0])
    | succ k2 =>
     have h := HA.out
     clear HA
     rw [marginalialaw04_TokenBack.l0] at h
     by_cases c1 : i < (l.length : Int)
     ·
      replace h := (if_pos c1).symm.trans h
      have d1 : decide (i < (l.length : Int)) = true := decide_eq_true c1
      by_cases e1 : 0 ≤ i
      case neg => exact absurd ((if_neg e1).symm.trans h) (by simp)
      replace h := (if_pos e1).symm.trans h
      obtain ⟨ad, ea, hx0, hx1⟩ := at_T41 (Kd.C_below HC.out HB.out) i e1 (by omega)
      cases ea
      have p1 := eq_true e1
      have q1 := eq_true c1
      obtain ⟨n, hn⟩ : ∃ n, (rd_T41 l i).f0 = n := ⟨_, rfl⟩
      obtain ⟨v, hv⟩ : ∃ v, (rd_T41 l i).f1 = v := ⟨_, rfl⟩
      rw [hn] at h hx0
      rw [hv] at h hx1
      have H := Aside0.mk h
      have HA := Aside0.mk (AB.new wr n v)
      have ha : Below wr.heap.size wr (wr.alloc (.cells #[.string n, .string v] 41)) := (Below.refl _ _).alloc (Nat.le_refl _) _
      have HTa := Aside0.mk (HT.out.keep ha)
      have HBa := Aside0.mk (below_step HB.out ha)
      clear h hn hv ha
      obtain ⟨tt0, tt1, tt2, tt3, tt4, _, _, _, _, _⟩ := HT.out.all
      obtain ⟨aa0, aa1⟩ := HA.out.all
      go_upto_region 8 with fail
      go_cut [56] (fun v56 wc => ∃ b : Bool, v56 = .bool b ∧ Aside0 (marginalialaw04_TokenBack.j2 k2 a1 s i b kd nm l c tx n v = some true) ∧ Aside0 (TB wc w.heap.size kd nm (.slice (some ad) l.length cp) c tx) ∧ Aside0 (AB wc wr.heap.size n v) ∧ Aside0 (Below w.heap.size w wc))
      case first =>
       have h := H.out
       clear H
       replace h := Option.bind_eq_some_iff.mp h
       obtain ⟨t, hx, h⟩ := h
       have HX := Aside0.mk hx
       have H := Aside0.mk h
       clear hx h
       go_wp2_with fail
       refine (marginalialaw04_small.calls k2 n t _ HX.out).mono ?_
       rintro e w1 ⟨rfl, hd⟩
       have hb := hd.below
       replace HTa := Aside0.mk (HTa.out.keep hb)
       replace HA : Aside0 (AB w1 wr.heap.size n v) := ⟨(hb.block _ HA.out.lt).trans HA.out⟩
       replace HBa := Aside0.mk (below_step HBa.out hb)
       clear hb hd HX
       obtain ⟨ab0, ab1⟩ := HA.out.all
       have h := H.out
       clear H
       cases t with
       | true =>
        replace h := (if_pos rfl).symm.trans h
        have H2 := Aside0.mk h
        clear h
        go_wp2_with fail
        go_meet
        exact ⟨_, rfl, H2, HTa, HA, HBa⟩
       | false =>
        replace h := (if_neg Bool.false_ne_true).symm.trans h
        have H2 := Aside0.mk h
        clear h
        go_wp2_with fail
        go_meet
        exact ⟨true, rfl, H2, HTa, HA, HBa⟩
      case rest =>
       clear H HT HB HA HTa HBa tt0 tt1 tt2 tt3 tt4 aa0 aa1 hx0 hx1
       obtain ⟨b, rfl, HJ, HT, HA, HB⟩ := hcut
       have h := HJ.out
       clear HJ
       rcases k2 with _ | k3
       · exact absurd h (by simp [marginalialaw04_TokenBack.j2])
       rw [marginalialaw04_TokenBack.j2] at h
       cases b with
       | true =>
        replace h := (if_pos rfl).symm.trans h
        replace h := Option.bind_eq_some_iff.mp h
        obtain ⟨t, hx, h⟩ := h
        have HX := Aside0.mk hx
        obtain rfl := Option.some.inj h
        clear hx h
        go_wp2_with fail
        refine (marginalialaw04_alive.calls k3 true _ (HM0.out.at_ HB.out) HX.out).mono ?_
        rintro e w1 ⟨rfl, hb⟩
        replace HB := Aside0.mk (below_step HB.out hb)
        clear hb
        go_wp2
        go_ret
        exact ⟨rfl, HB.out⟩
       | false =>
        replace h := (if_neg Bool.false_ne_true).symm.trans h
        have H := Aside0.mk h
        clear h
        go_wp2_with fail
        go_loopg [8] k3 (fun kq v8 wc => ∃ j : Int, v8 = .int .i64 j ∧ Aside0 (marginalialaw04_TokenBack.l1 kq a1 s i j kd nm l c tx n v = some true) ∧ Aside0 (kq ≤ k3) ∧ Aside0 (TB wc w.heap.size kd nm (.slice (some ad) l.length cp) c tx) ∧ Aside0 (AB wc wr.heap.size n v) ∧ Aside0 (Below w.heap.size w wc))
        case atStart => exact ⟨0, rfl, H, ⟨Nat.le_refl _⟩, HT, HA, HB⟩
        case round =>
         clear H HT HB HA
         obtain ⟨j, rfl, HJ, HK, HT, HA, HB⟩ := hrel
         cases gk with
         | zero => exact absurd HJ.out (by simp [marginalialaw04_TokenBack.l1])
         | succ k5 =>
          have h := HJ.out
          clear HJ
          rw [marginalialaw04_TokenBack.l1] at h
          obtain ⟨tt0, tt1, tt2, tt3, tt4, _, _, _, _, _⟩ := HT.out.all
          obtain ⟨aa0, aa1⟩ := HA.out.all
          by_cases c2 : j < i
          ·
           replace h := (if_pos c2).symm.trans h
           have d2 : decide (j < i) = true := decide_eq_true c2
           by_cases e2 : 0 ≤ j
           case neg => exact absurd ((if_neg e2).symm.trans h) (by simp)
           replace h := (if_pos e2).symm.trans h
           by_cases e3 : j < (l.length : Int)
           case neg => exact absurd ((if_neg e3).symm.trans h) (by simp)
           replace h := (if_pos e3).symm.trans h
           obtain ⟨ad2, ea, hy0, hy1⟩ := at_T41 (Kd.C_below HC.out HB.out) j e2 e3
           obtain rfl : ad = ad2 := (by injection ea)
           have p2 := eq_true e2
           have q2 := eq_true e3
           obtain ⟨n2, hn2⟩ : ∃ n2, (rd_T41 l j).f0 = n2 := ⟨_, rfl⟩
           rw [hn2] at h hy0
           by_cases c3 : n2.toList = n.toList
           ·
            replace h := (if_pos c3).symm.trans h
            have j1 : (n2.toList == n.toList) = true := beq_iff_eq.mpr c3
            have j2 : (n2.toList != n.toList) = false := bne_eq_false_iff_eq.mpr c3
            replace h := Option.bind_eq_some_iff.mp h
            obtain ⟨t, hx, h⟩ := h
            have HX := Aside0.mk hx
            obtain rfl := Option.some.inj h
            clear hx h c3 hn2
            go_wp2_with fail
            go_quiet (fail)
            go_wp2_with fail
            refine (marginalialaw04_alive.calls k5 true _ (HM0.out.at_ (Below.drN HB.out nq)) HX.out).mono ?_
            rintro e w1 ⟨rfl, hb⟩
            replace HB := Aside0.mk (below_step (Below.drN HB.out nq) hb)
            clear hb
            go_wp2
            go_ret
            exact ⟨rfl, HB.out⟩
           replace h := (if_neg c3).symm.trans h
           have j1 : (n2.toList == n.toList) = false := beq_eq_false_iff_ne.mpr c3
           have j2 : (n2.toList != n.toList) = true := bne_iff_ne.mpr c3
           have H := Aside0.mk h
           clear h c3 hn2
           go_wp2_with fail
           go_quiet (fail)
           go_wp2
           go_roundg k5
           case measure => exact Nat.lt_succ_self k5
           case rel => exact ⟨wrap64 (j + 1), rfl, H, ⟨by have := HK.out; omega⟩, ⟨HT.out.drN nq⟩, ⟨HA.out⟩, ⟨Below.drN HB.out nq⟩⟩
          ·
           replace h := (if_neg c2).symm.trans h
           have d2 : decide (j < i) = false := decide_eq_false c2
           by_cases e2 : s.size + 1 ≤ 9223372036854775807
           case neg => exact absurd ((if_neg e2).symm.trans h) (by simp)
           replace h := (if_pos e2).symm.trans h
           by_cases e3 : s.size + 1 + n.size ≤ 9223372036854775807
           case neg => exact absurd ((if_neg e3).symm.trans h) (by simp)
           replace h := (if_pos e3).symm.trans h
           by_cases e4 : s.size + 1 + n.size + 1 ≤ 9223372036854775807
           case neg => exact absurd ((if_neg e4).symm.trans h) (by simp)
           replace h := (if_pos e4).symm.trans h
           replace h := Option.bind_eq_some_iff.mp h
           obtain ⟨q, hx, h⟩ := h
           have HX := Aside0.mk hx
           by_cases e5 : s.size + 1 + n.size + 1 + q.size ≤ 9223372036854775807
           case neg => exact absurd ((if_neg e5).symm.trans h) (by simp)
           replace h := (if_pos e5).symm.trans h
           have H := Aside0.mk h
           clear hx h
           go_wp2_with fail
           go_quiet (first | (go_at_call 19; (with_reducible refine (marginalialaw04_quoted.calls k5 v q _ HX.out).mono ?_); rintro e w' ⟨rfl, ⟨nd, rfl⟩⟩; (try first | exact ⟨rfl, _, World.drewN_drewN _ _ _⟩ | exact ⟨rfl, _, Eq.trans (World.drewN_drewN _ _ _) (congrArg (World.drewN _) (Nat.add_assoc _ _ _))⟩)))
           go_wp2
           go_roundg k5
           case measure => have := HK.out; omega
           case rel => exact ⟨_, wrap64 (i + 1), rfl, rfl, H, ⟨HT.out.drN nq⟩, ⟨Below.drN HB.out nq⟩⟩
     ·
      replace h := (if_neg c1).symm.trans h
      have d1 : decide (i < (l.length : Int)) = false := decide_eq_false c1
      have H := Aside0.mk h
      clear h
      obtain ⟨tt0, tt1, tt2, tt3, tt4, _, _, _, _, _⟩ := HT.out.all
      go_upto_if 84 with fail
      go_cut [5] (fun v5 wc => ∃ s2 : ByteArray, v5 = .string s2 ∧ Aside0 (marginalialaw04_TokenBack.j4 k2 a1 s2 kd nm l c tx = some true) ∧ Aside0 (TB wc w.heap.size kd nm (.slice A l.length cp) c tx) ∧ Aside0 (Below w.heap.size w wc))
      case first =>
       have h := H.out
       clear H
       cases c with
       | true =>
        replace h := (if_pos rfl).symm.trans h
        by_cases e2 : s.size + 1 ≤ 9223372036854775807
        case neg => exact absurd ((if_neg e2).symm.trans h) (by simp)
        replace h := (if_pos e2).symm.trans h
        have H2 := Aside0.mk h
        clear h
        go_wp2_with fail
        go_meet
        exact ⟨_, rfl, H2, HT, HB⟩
       | false =>
        replace h := (if_neg Bool.false_ne_true).symm.trans h
        have H2 := Aside0.mk h
        clear h
        go_wp2_with fail
        go_meet
        exact ⟨_, rfl, H2, HT, HB⟩
      case rest =>
       clear H HT HB tt0 tt1 tt2 tt3 tt4
       obtain ⟨s2, rfl, HJ, HT, HB⟩ := hcut
       have h := HJ.out
       clear HJ
       rcases k2 with _ | k3
       · exact absurd h (by simp [marginalialaw04_TokenBack.j4])
       rw [marginalialaw04_TokenBack.j4] at h
       by_cases e2 : s2.size + 1 ≤ 9223372036854775807
       case neg => exact absurd ((if_neg e2).symm.trans h) (by simp)
       replace h := (if_pos e2).symm.trans h
       by_cases e3 : s2.size + 1 + a1.size ≤ 9223372036854775807
       case neg => exact absurd ((if_neg e3).symm.trans h) (by simp)
       replace h := (if_pos e3).symm.trans h
       replace h := Option.bind_eq_some_iff.mp h
       obtain ⟨⟨p1, p2, p3, p4, p5, p6⟩, hx1, h⟩ := h
       by_cases e4 : 2 + nm.size ≤ 9223372036854775807
       case neg => exact absurd ((if_neg e4).symm.trans h) (by simp)
       replace h := (if_pos e4).symm.trans h
       by_cases e5 : 2 + nm.size + 1 ≤ 9223372036854775807
       case neg => exact absurd ((if_neg e5).symm.trans h) (by simp)
       replace h := (if_pos e5).symm.trans h
       by_cases e6 : 2 + nm.size + 1 + a1.size ≤ 9223372036854775807
       case neg => exact absurd ((if_neg e6).symm.trans h) (by simp)
       replace h := (if_pos e6).symm.trans h
       replace h := Option.bind_eq_some_iff.mp h
       obtain ⟨⟨q1, q2, q3, q4, q5, q6⟩, hx2, h⟩ := h
       replace h := Option.bind_eq_some_iff.mp h
       obtain ⟨⟨y1, y2, y3, y4, y5, y6⟩, hx3, h⟩ := h
       replace h := Option.bind_eq_some_iff.mp h
       obtain ⟨t3, hx4, h⟩ := h
       have HX1 := Aside0.mk hx1
       have HX2 := Aside0.mk hx2
       have HX3 := Aside0.mk hx3
       have HX4 := Aside0.mk hx4
       have H := Aside0.mk h
       clear hx1 hx2 hx3 hx4 h
       obtain ⟨tt0, tt1, tt2, tt3, tt4, _, _, _, _, _⟩ := HT.out.all
       go_wp2_with fail
       obtain ⟨wW, hwW⟩ : ∃ W, wc.alloc (.cells #[.int .i64 2, .string nm, (.slice A l.length cp), .bool c, .string ⟨#[]⟩] 29) = W := ⟨_, rfl⟩
       have hb : Below wc.heap.size wc wW := by rw [← hwW]; exact (Below.refl _ _).alloc (Nat.le_refl _) _
       have HW : Aside0 (TB wW wc.heap.size 2 nm (.slice A l.length cp) c ⟨#[]⟩) := ⟨by rw [← hwW]; exact TB.new _ _ _ _ _ _⟩
       replace HT := Aside0.mk (HT.out.keep hb)
       replace HB := Aside0.mk (below_step HB.out hb)
       clear hb
       rw [hwW]
       clear hwW
       refine (token_Next.calls k3 _ _ _ _ _ _ _ _ _ _ _ _ (HM0.out.at_ HB.out) HX1.out).mono ?_
       rintro e w1 ⟨v, rfl, hO, hb⟩
       obtain ⟨A1, c1, rfl, _⟩ := Kd.R_reads hO
       have HO1 := Aside0.mk (Kd.R_lower hO HB.out.size)
       replace HT := Aside0.mk (HT.out.keep hb)
       replace HW := Aside0.mk (HW.out.keep hb)
       replace HB := Aside0.mk (below_step HB.out hb)
       clear hO hb HX1 tt0 tt1 tt2 tt3 tt4
       obtain ⟨w2, hw2⟩ : ∃ W, w1.alloc (.cells #[.int .i64 p1, .string p2, (.slice A1 p3.length c1), .bool p4, .string p5] 29) = W := ⟨_, rfl⟩
       have hb : Below w1.heap.size w1 w2 := by rw [← hw2]; exact (Below.refl _ _).alloc (Nat.le_refl _) _
       have HTa : Aside0 (TB w2 w1.heap.size p1 p2 (.slice A1 p3.length c1) p4 p5) := ⟨by rw [← hw2]; exact TB.new _ _ _ _ _ _⟩
       replace HT := Aside0.mk (HT.out.keep hb)
       replace HW := Aside0.mk (HW.out.keep hb)
       replace HO1 := Aside0.mk (Kd.R_below HO1.out hb)
       replace HB := Aside0.mk (below_step HB.out hb)
       clear hb
       obtain ⟨tt0, tt1, tt2, tt3, tt4, _, _, _, _, _⟩ := HT.out.all
       go_wp2_with fail
       refine (token_Next.calls k3 _ _ _ _ _ _ _ _ _ _ _ _ (HM0.out.at_ HB.out) HX2.out).mono ?_
       rintro e w3 ⟨v, rfl, hO, hb⟩
       obtain ⟨A2, c2, rfl, _⟩ := Kd.R_reads hO
       have HO2 := Aside0.mk (Kd.R_lower hO HB.out.size)
       replace HT := Aside0.mk (HT.out.keep hb)
       replace HW := Aside0.mk (HW.out.keep hb)
       replace HTa := Aside0.mk (HTa.out.keep hb)
       replace HO1 := Aside0.mk (Kd.R_below HO1.out hb)
       replace HB := Aside0.mk (below_step HB.out hb)
       clear hO hb HX2 hw2 tt0 tt1 tt2 tt3 tt4
       obtain ⟨w4, hw4⟩ : ∃ W, w3.alloc (.cells #[.int .i64 q1, .string q2, (.slice A2 q3.length c2), .bool q4, .string q5] 29) = W := ⟨_, rfl⟩
       have hb : Below w3.heap.size w3 w4 := by rw [← hw4]; exact (Below.refl _ _).alloc (Nat.le_refl _) _
       have HTb : Aside0 (TB w4 w3.heap.size q1 q2 (.slice A2 q3.length c2) q4 q5) := ⟨by rw [← hw4]; exact TB.new _ _ _ _ _ _⟩
       replace HT := Aside0.mk (HT.out.keep hb)
       replace HW := Aside0.mk (HW.out.keep hb)
       replace HTa := Aside0.mk (HTa.out.keep hb)
       replace HO1 := Aside0.mk (Kd.R_below HO1.out hb)
       replace HO2 := Aside0.mk (Kd.R_below HO2.out hb)
       replace HB := Aside0.mk (below_step HB.out hb)
       clear hb
       go_wp2_with fail
       refine (token_Next.calls k3 _ _ _ _ _ _ _ _ _ _ _ _ (HM0.out.at_ HB.out) HX3.out).mono ?_
       rintro e w5 ⟨v, rfl, hO, hb⟩
       obtain ⟨A3, c3, rfl, _⟩ := Kd.R_reads hO
       have HO3 := Aside0.mk (Kd.R_lower hO HB.out.size)
       replace HT := Aside0.mk (HT.out.keep hb)
       replace HW := Aside0.mk (HW.out.keep hb)
       replace HTa := Aside0.mk (HTa.out.keep hb)
       replace HTb := Aside0.mk (HTb.out.keep hb)
       replace HO1 := Aside0.mk (Kd.R_below HO1.out hb)
       replace HO2 := Aside0.mk (Kd.R_below HO2.out hb)
       replace HB := Aside0.mk (below_step HB.out hb)
       clear hO hb HX3 hw4
       obtain ⟨w6, hw6⟩ : ∃ W, w5.alloc (.cells #[.int .i64 y1, .string y2, (.slice A3 y3.length c3), .bool y4, .string y5] 29) = W := ⟨_, rfl⟩
       have hb : Below w5.heap.size w5 w6 := by rw [← hw6]; exact (Below.refl _ _).alloc (Nat.le_refl _) _
       have HTn : Aside0 (TB w6 w5.heap.size y1 y2 (.slice A3 y3.length c3) y4 y5) := ⟨by rw [← hw6]; exact TB.new _ _ _ _ _ _⟩
       replace HT := Aside0.mk (HT.out.keep hb)
       replace HW := Aside0.mk (HW.out.keep hb)
       replace HTa := Aside0.mk (HTa.out.keep hb)
       replace HTb := Aside0.mk (HTb.out.keep hb)
       replace HO1 := Aside0.mk (Kd.R_below HO1.out hb)
       replace HO2 := Aside0.mk (Kd.R_below HO2.out hb)
       replace HO3 := Aside0.mk (Kd.R_below HO3.out hb)
       replace HB := Aside0.mk (below_step HB.out hb)
       clear hb
       go_wp2_with fail
       refine (marginalialaw04_alive.calls k3 t3 _ (HM0.out.at_ HB.out) HX4.out).mono ?_
       rintro e w7 ⟨rfl, hb⟩
       replace HT := Aside0.mk (HT.out.keep hb)
       replace HW := Aside0.mk (HW.out.keep hb)
       replace HTa := Aside0.mk (HTa.out.keep hb)
       replace HTb := Aside0.mk (HTb.out.keep hb)
       replace HTn := Aside0.mk (HTn.out.keep hb)
       replace HO1 := Aside0.mk (Kd.R_below HO1.out hb)
       replace HO2 := Aside0.mk (Kd.R_below HO2.out hb)
       replace HO3 := Aside0.mk (Kd.R_below HO3.out hb)
       replace HB := Aside0.mk (below_step HB.out hb)
       clear hb hw6 HX4
       have h := H.out
       clear H
       cases t3 with
       | false => exact absurd ((if_neg Bool.false_ne_true).symm.trans h) (by simp)
       | true =>
        replace h := (if_pos rfl).symm.trans h
        replace h := Option.bind_eq_some_iff.mp h
        obtain ⟨t4, hx, h⟩ := h
        have HX := Aside0.mk hx
        clear hx
        obtain ⟨aa0, aa1, aa2, aa3, aa4, _, _, _, _, _⟩ := HTa.out.all
        obtain ⟨ww0, ww1, ww2, ww3, ww4, _, _, _, _, _⟩ := HW.out.all
        obtain ⟨_, _, e8, hl1, hC1⟩ := Kd.R_reads HO1.out
        cases e8
        have L1 := Aside0.mk hl1
        have C1 := Aside0.mk hC1
        have C2 := Aside0.mk (Kd.C_below HC.out HB.out)
        have H := Aside0.mk h
        clear hl1 hC1 h
        go_wp2_with fail
        refine (marginaliaref04_Same.calls k3 _ _ _ _ _ _ _ _ _ _ _ _ _ _ t4 _ C1.out L1.out C2.out HCP.out HX.out).mono ?_
        rintro e w8 ⟨rfl, hb⟩
        replace HT := Aside0.mk (HT.out.keep hb)
        replace HW := Aside0.mk (HW.out.keep hb)
        replace HTa := Aside0.mk (HTa.out.keep hb)
        replace HTb := Aside0.mk (HTb.out.keep hb)
        replace HTn := Aside0.mk (HTn.out.keep hb)
        replace HO1 := Aside0.mk (Kd.R_below HO1.out hb)
        replace HO2 := Aside0.mk (Kd.R_below HO2.out hb)
        replace HO3 := Aside0.mk (Kd.R_below HO3.out hb)
        replace HB := Aside0.mk (below_step HB.out hb)
        clear hb HX aa0 aa1 aa2 aa3 aa4 ww0 ww1 ww2 ww3 ww4 C1 C2 L1
        have h := H.out
        clear H
        cases t4 with
        | false => exact absurd ((if_neg Bool.false_ne_true).symm.trans h) (by simp)
        | true =>
         replace h := (if_pos rfl).symm.trans h
         by_cases e7 : p6 = wrap64 ((s2.size : Int) + 1)
         case neg => exact absurd ((if_neg e7).symm.trans h) (by simp)
         replace h := (if_pos e7).symm.trans h
         have hw1 : IntKind.i64.wrap ((s2.size : Int) + 1) = p6 := (i64_w _).trans e7.symm
         replace h := Option.bind_eq_some_iff.mp h
         obtain ⟨t5, hx, h⟩ := h
         have HX := Aside0.mk hx
         have H := Aside0.mk h
         clear hx h e7
         obtain ⟨bb0, bb1, bb2, bb3, bb4, _, _, _, _, _⟩ := HTb.out.all
         obtain ⟨tt0, tt1, tt2, tt3, tt4, _, _, _, _, _⟩ := HT.out.all
         obtain ⟨_, _, e8, hl1, hC1⟩ := Kd.R_reads HO2.out
         cases e8
         have L1 := Aside0.mk hl1
         have C1 := Aside0.mk hC1
         clear hl1 hC1
         go_wp2_with fail
         refine (marginaliaref04_Same.calls k3 _ _ _ _ _ _ _ 3 nm none 0 [] false ⟨#[]⟩ t5 _ C1.out L1.out (Kd.C_nil _ _) (Nat.le_refl _) HX.out).mono ?_
         rintro e w9 ⟨rfl, hb⟩
         replace HT := Aside0.mk (HT.out.keep hb)
         replace HW := Aside0.mk (HW.out.keep hb)
         replace HTa := Aside0.mk (HTa.out.keep hb)
         replace HTb := Aside0.mk (HTb.out.keep hb)
         replace HTn := Aside0.mk (HTn.out.keep hb)
         replace HO1 := Aside0.mk (Kd.R_below HO1.out hb)
         replace HO2 := Aside0.mk (Kd.R_below HO2.out hb)
         replace HO3 := Aside0.mk (Kd.R_below HO3.out hb)
         replace HB := Aside0.mk (below_step HB.out hb)
         clear hb HX bb0 bb1 bb2 bb3 bb4 C1 L1 tt0 tt1 tt2 tt3 tt4
         have h := H.out
         clear H
         cases t5 with
         | false => exact absurd ((if_neg Bool.false_ne_true).symm.trans h) (by simp)
         | true =>
          replace h := (if_pos rfl).symm.trans h
          by_cases e7 : q6 = wrap64 ((nm.size : Int) + 3)
          case neg => exact absurd ((if_neg e7).symm.trans h) (by simp)
          replace h := (if_pos e7).symm.trans h
          have hw2 : IntKind.i64.wrap ((nm.size : Int) + 3) = q6 := (i64_w _).trans e7.symm
          by_cases e9 : y1 = 0
          case neg => exact absurd ((if_neg e9).symm.trans h) (by simp)
          replace h := (if_pos e9).symm.trans h
          have h10 : (y6 == (s2.size : Int)) = true := Option.some.inj h
          have h11 : (y1 == 0) = true := beq_iff_eq.mpr e9
          obtain ⟨nn0, nn1, nn2, nn3, nn4, _, _, _, _, _⟩ := HTn.out.all
          obtain ⟨tt0, tt1, tt2, tt3, tt4, _, _, _, _, _⟩ := HT.out.all
          clear h e7 e9
          go_wp2
          go_ret
          exact ⟨rfl, HB.out⟩

end Go.Proofs.Ytpelfhldgnmhpaa.G
