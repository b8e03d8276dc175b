-- laid by a program of this session's (wip/tools/myprint.py) over the translation
import Derived.Test.YtpelfhldgnmhpaaG0
import Derived.Test.YtpelfhldgnmhpaaG21
import Derived.Test.YtpelfhldgnmhpaaG31
import Derived.Test.YtpelfhldgnmhpaaG32
namespace Go.Proofs.Ytpelfhldgnmhpaa.G
open Go.RowKit Go.Proofs.YtpelfhldgnmhpaaW.PrintWords Go.Proofs.YtpelfhldgnmhpaaW.PrintLast Go.Proofs.YtpelfhldgnmhpaaW.PrintMore
attribute [local go_sem] max2_int min2_int max_two min_two max_three min_three max_four min_four   -- for this text's walks alone
set_option linter.unusedVariables false
set_option linter.unusedSimpArgs false

/-! ### marginalialaw04_TokenOnward: function 6 -/
mutual
def marginalialaw04_TokenOnward.j0 : Nat → ByteArray → Bool → Int → Int → ByteArray → Bool → Option (Bool)
  | 0, _, _, _, _, _, _ => none
  | k + 1, x0, x17, x195000, x195001, x195002, x195003 => if x17 = true then ((marginalialaw04_alive.f k).bind fun t195 => (some t195)) else ((token_Next.f k x0 x195000 x195001 x195002 x195003).bind fun bt196 => (if x195000 < 0 then (marginalialaw04_TokenOnward.j1 k x0 bt196.2.2.2.2.2 true x195000 x195001 x195002 x195003 bt196.1 bt196.2.1 bt196.2.2.1 bt196.2.2.2.1 bt196.2.2.2.2.1) else (marginalialaw04_TokenOnward.j1 k x0 bt196.2.2.2.2.2 (decide (x195000 ≥ (x0.size : Int))) x195000 x195001 x195002 x195003 bt196.1 bt196.2.1 bt196.2.2.1 bt196.2.2.2.1 bt196.2.2.2.2.1)))
def marginalialaw04_TokenOnward.j1 : Nat → ByteArray → Int → Bool → Int → Int → ByteArray → Bool → Int → ByteArray → List (S41) → Bool → ByteArray → Option (Bool)
  | 0, _, _, _, _, _, _, _, _, _, _, _, _ => none
  | k + 1, x0, x6, x41, x195000, x195001, x195002, x195003, x205000, x205001, x205002, x205003, x205004 => if x41 = true then ((marginalialaw04_alive.f k).bind fun t205 => (if t205 = true then (if x205000 = 0 then (some (x6 == (x0.size : Int))) else (some false)) else (some false))) else (if x6 ≤ x195000 then (marginalialaw04_TokenOnward.j2 k true x205000 x205001 x205002 x205003 x205004) else (if x6 > (x0.size : Int) then (marginalialaw04_TokenOnward.j2 k true x205000 x205001 x205002 x205003 x205004) else (if x205000 = 0 then (marginalialaw04_TokenOnward.j2 k (x6 != (x0.size : Int)) x205000 x205001 x205002 x205003 x205004) else (marginalialaw04_TokenOnward.j2 k false x205000 x205001 x205002 x205003 x205004))))
def marginalialaw04_TokenOnward.j2 : Nat → Bool → Int → ByteArray → List (S41) → Bool → ByteArray → Option (Bool)
  | 0, _, _, _, _, _, _ => none
  | k + 1, x74, x205000, x205001, x205002, x205003, x205004 => if x74 = true then (some false) else (if x205000 = 1 then (marginalialaw04_TokenOnward.j3 k (x205004.toList == ([] : List UInt8)) x205000 x205001 x205002 x205003 x205004) else (marginalialaw04_TokenOnward.j3 k false x205000 x205001 x205002 x205003 x205004))
def marginalialaw04_TokenOnward.j3 : Nat → Bool → Int → ByteArray → List (S41) → Bool → ByteArray → Option (Bool)
  | 0, _, _, _, _, _, _ => none
  | k + 1, x82, x205000, x205001, x205002, x205003, x205004 => if x82 = true then (some false) else (if x205000 = 2 then (if x205001.toList = ([] : List UInt8) then (marginalialaw04_TokenOnward.j4 k true x205000 x205001 x205002 x205003 x205004) else (if 0 < (x205001.size : Int) then (if (bt x205001 0) < 97 then (marginalialaw04_TokenOnward.j4 k true x205000 x205001 x205002 x205003 x205004) else (marginalialaw04_TokenOnward.j4 k (decide ((bt x205001 0) > 122)) x205000 x205001 x205002 x205003 x205004)) else (none))) else (marginalialaw04_TokenOnward.j4 k false x205000 x205001 x205002 x205003 x205004))
def marginalialaw04_TokenOnward.j4 : Nat → Bool → Int → ByteArray → List (S41) → Bool → ByteArray → Option (Bool)
  | 0, _, _, _, _, _, _ => none
  | k + 1, x102, x205000, x205001, x205002, x205003, x205004 => if x102 = true then (some false) else (marginalialaw04_TokenOnward.l0 k 0 x205000 x205001 x205002 x205003 x205004)
def marginalialaw04_TokenOnward.l0 : Nat → Int → Int → ByteArray → List (S41) → Bool → ByteArray → Option (Bool)
  | 0, _, _, _, _, _, _ => none
  | k + 1, x7, x205000, x205001, x205002, x205003, x205004 => if x7 < (x205002.length : Int) then (marginalialaw04_TokenOnward.l1 k x7 0 x205000 x205001 x205002 x205003 x205004) else ((marginalialaw04_alive.f k).bind fun t206 => (if t206 = true then (if x205000 = 2 then (some true) else (if (x205002.length : Int) = 0 then (some (!x205003)) else (some false))) else (some false)))
def marginalialaw04_TokenOnward.l1 : Nat → Int → Int → Int → ByteArray → List (S41) → Bool → ByteArray → Option (Bool)
  | 0, _, _, _, _, _, _, _ => none
  | k + 1, x7, x8, x205000, x205001, x205002, x205003, x205004 => if x8 < x7 then (if 0 ≤ x7 then (if x7 < (x205002.length : Int) then (if 0 ≤ x8 then (if x8 < (x205002.length : Int) then (if ((rd_T41 x205002 x7).f0).toList = ((rd_T41 x205002 x8).f0).toList then (some false) else (marginalialaw04_TokenOnward.l1 k x7 (wrap64 (x8 + 1)) x205000 x205001 x205002 x205003 x205004)) else (none)) else (none)) else (none)) else (none)) else (marginalialaw04_TokenOnward.l0 k (wrap64 (x7 + 1)) x205000 x205001 x205002 x205003 x205004)
end
def marginalialaw04_TokenOnward.f (k : Nat) (a0 : ByteArray) (a1_0 : Int) (a1_1 : Int) (a1_2 : ByteArray) (a1_3 : Bool) : Option (Bool) := if (a0.size : Int) > 200 then (marginalialaw04_TokenOnward.j0 k a0 true a1_0 a1_1 a1_2 a1_3) else (marginalialaw04_TokenOnward.j0 k a0 (decide ((a1_2.size : Int) > 200)) a1_0 a1_1 a1_2 a1_3)
theorem marginalialaw04_TokenOnward.mono_l : ∀ k, (∀ y0 y1 y2 y3 y4 y5, LeO (marginalialaw04_TokenOnward.j0 k y0 y1 y2 y3 y4 y5) (marginalialaw04_TokenOnward.j0 (k + 1) y0 y1 y2 y3 y4 y5)) ∧ (∀ y0 y1 y2 y3 y4 y5 y6 y7 y8 y9 y10 y11, LeO (marginalialaw04_TokenOnward.j1 k y0 y1 y2 y3 y4 y5 y6 y7 y8 y9 y10 y11) (marginalialaw04_TokenOnward.j1 (k + 1) y0 y1 y2 y3 y4 y5 y6 y7 y8 y9 y10 y11)) ∧ (∀ y0 y1 y2 y3 y4 y5, LeO (marginalialaw04_TokenOnward.j2 k y0 y1 y2 y3 y4 y5) (marginalialaw04_TokenOnward.j2 (k + 1) y0 y1 y2 y3 y4 y5)) ∧ (∀ y0 y1 y2 y3 y4 y5, LeO (marginalialaw04_TokenOnward.j3 k y0 y1 y2 y3 y4 y5) (marginalialaw04_TokenOnward.j3 (k + 1) y0 y1 y2 y3 y4 y5)) ∧ (∀ y0 y1 y2 y3 y4 y5, LeO (marginalialaw04_TokenOnward.j4 k y0 y1 y2 y3 y4 y5) (marginalialaw04_TokenOnward.j4 (k + 1) y0 y1 y2 y3 y4 y5)) ∧ (∀ y0 y1 y2 y3 y4 y5, LeO (marginalialaw04_TokenOnward.l0 k y0 y1 y2 y3 y4 y5) (marginalialaw04_TokenOnward.l0 (k + 1) y0 y1 y2 y3 y4 y5)) ∧ (∀ y0 y1 y2 y3 y4 y5 y6, LeO (marginalialaw04_TokenOnward.l1 k y0 y1 y2 y3 y4 y5 y6) (marginalialaw04_TokenOnward.l1 (k + 1) y0 y1 y2 y3 y4 y5 y6))
  | 0 => ⟨fun _ _ _ _ _ _ r h => by simp [marginalialaw04_TokenOnward.j0] at h, fun _ _ _ _ _ _ _ _ _ _ _ _ r h => by simp [marginalialaw04_TokenOnward.j1] at h, fun _ _ _ _ _ _ r h => by simp [marginalialaw04_TokenOnward.j2] at h, fun _ _ _ _ _ _ r h => by simp [marginalialaw04_TokenOnward.j3] at h, fun _ _ _ _ _ _ r h => by simp [marginalialaw04_TokenOnward.j4] at h, fun _ _ _ _ _ _ r h => by simp [marginalialaw04_TokenOnward.l0] at h, fun _ _ _ _ _ _ _ r h => by simp [marginalialaw04_TokenOnward.l1] at h⟩
  | k + 1 => by
    obtain ⟨ih0, ih1, ih2, ih3, ih4, ih5, ih6⟩ := marginalialaw04_TokenOnward.mono_l k
    refine ⟨?_, ?_, ?_, ?_, ?_, ?_, ?_⟩
    · intro y0 y1 y2 y3 y4 y5
      unfold marginalialaw04_TokenOnward.j0
      repeat' first
      | (with_reducible exact ih0 _ _ _ _ _ _)
      | (with_reducible exact ih1 _ _ _ _ _ _ _ _ _ _ _ _)
      | (with_reducible exact ih2 _ _ _ _ _ _)
      | (with_reducible exact ih3 _ _ _ _ _ _)
      | (with_reducible exact ih4 _ _ _ _ _ _)
      | (with_reducible exact ih5 _ _ _ _ _ _)
      | (with_reducible exact ih6 _ _ _ _ _ _ _)
      | (with_reducible exact marginalialaw04_alive.mono _)
      | (with_reducible exact token_Next.mono _ _ _ _ _ _)
      | (with_reducible exact LeO.refl _)
      | (with_reducible exact LeO.none _)
      | (with_reducible refine LeO.ite ?_ ?_)
      | (with_reducible refine LeO.bind ?_ (fun _ => ?_))
      | exact ih0 _ _ _ _ _ _
      | exact ih1 _ _ _ _ _ _ _ _ _ _ _ _
      | exact ih2 _ _ _ _ _ _
      | exact ih3 _ _ _ _ _ _
      | exact ih4 _ _ _ _ _ _
      | exact ih5 _ _ _ _ _ _
      | exact ih6 _ _ _ _ _ _ _
      | exact marginalialaw04_alive.mono _
      | exact token_Next.mono _ _ _ _ _ _
      | exact LeO.none _
      | refine LeO.ite ?_ ?_
      | refine LeO.bind ?_ (fun _ => ?_)
    · intro y0 y1 y2 y3 y4 y5 y6 y7 y8 y9 y10 y11
      unfold marginalialaw04_TokenOnward.j1
      repeat' first
      | (with_reducible exact ih0 _ _ _ _ _ _)
      | (with_reducible exact ih1 _ _ _ _ _ _ _ _ _ _ _ _)
      | (with_reducible exact ih2 _ _ _ _ _ _)
      | (with_reducible exact ih3 _ _ _ _ _ _)
      | (with_reducible exact ih4 _ _ _ _ _ _)
      | (with_reducible exact ih5 _ _ _ _ _ _)
      | (with_reducible exact ih6 _ _ _ _ _ _ _)
      | (with_reducible exact marginalialaw04_alive.mono _)
      | (with_reducible exact token_Next.mono _ _ _ _ _ _)
      | (with_reducible exact LeO.refl _)
      | (with_reducible exact LeO.none _)
      | (with_reducible refine LeO.ite ?_ ?_)
      | (with_reducible refine LeO.bind ?_ (fun _ => ?_))
      | exact ih0 _ _ _ _ _ _
      | exact ih1 _ _ _ _ _ _ _ _ _ _ _ _
      | exact ih2 _ _ _ _ _ _
      | exact ih3 _ _ _ _ _ _
      | exact ih4 _ _ _ _ _ _
      | exact ih5 _ _ _ _ _ _
      | exact ih6 _ _ _ _ _ _ _
      | exact marginalialaw04_alive.mono _
      | exact token_Next.mono _ _ _ _ _ _
      | exact LeO.none _
      | refine LeO.ite ?_ ?_
      | refine LeO.bind ?_ (fun _ => ?_)
    · intro y0 y1 y2 y3 y4 y5
      unfold marginalialaw04_TokenOnward.j2
      repeat' first
      | (with_reducible exact ih0 _ _ _ _ _ _)
      | (with_reducible exact ih1 _ _ _ _ _ _ _ _ _ _ _ _)
      | (with_reducible exact ih2 _ _ _ _ _ _)
      | (with_reducible exact ih3 _ _ _ _ _ _)
      | (with_reducible exact ih4 _ _ _ _ _ _)
      | (with_reducible exact ih5 _ _ _ _ _ _)
      | (with_reducible exact ih6 _ _ _ _ _ _ _)
      | (with_reducible exact marginalialaw04_alive.mono _)
      | (with_reducible exact token_Next.mono _ _ _ _ _ _)
      | (with_reducible exact LeO.refl _)
      | (with_reducible exact LeO.none _)
      | (with_reducible refine LeO.ite ?_ ?_)
      | (with_reducible refine LeO.bind ?_ (fun _ => ?_))
      | exact ih0 _ _ _ _ _ _
      | exact ih1 _ _ _ _ _ _ _ _ _ _ _ _
      | exact ih2 _ _ _ _ _ _
      | exact ih3 _ _ _ _ _ _
      | exact ih4 _ _ _ _ _ _
      | exact ih5 _ _ _ _ _ _
      | exact ih6 _ _ _ _ _ _ _
      | exact marginalialaw04_alive.mono _
      | exact token_Next.mono _ _ _ _ _ _
      | exact LeO.none _
      | refine LeO.ite ?_ ?_
      | refine LeO.bind ?_ (fun _ => ?_)
    · intro y0 y1 y2 y3 y4 y5
      unfold marginalialaw04_TokenOnward.j3
      repeat' first
      | (with_reducible exact ih0 _ _ _ _ _ _)
      | (with_reducible exact ih1 _ _ _ _ _ _ _ _ _ _ _ _)
      | (with_reducible exact ih2 _ _ _ _ _ _)
      | (with_reducible exact ih3 _ _ _ _ _ _)
      | (with_reducible exact ih4 _ _ _ _ _ _)
      | (with_reducible exact ih5 _ _ _ _ _ _)
      | (with_reducible exact ih6 _ _ _ _ _ _ _)
      | (with_reducible exact marginalialaw04_alive.mono _)
      | (with_reducible exact token_Next.mono _ _ _ _ _ _)
      | (with_reducible exact LeO.refl _)
      | (with_reducible exact LeO.none _)
      | (with_reducible refine LeO.ite ?_ ?_)
      | (with_reducible refine LeO.bind ?_ (fun _ => ?_))
      | exact ih0 _ _ _ _ _ _
      | exact ih1 _ _ _ _ _ _ _ _ _ _ _ _
      | exact ih2 _ _ _ _ _ _
      | exact ih3 _ _ _ _ _ _
      | exact ih4 _ _ _ _ _ _
      | exact ih5 _ _ _ _ _ _
      | exact ih6 _ _ _ _ _ _ _
      | exact marginalialaw04_alive.mono _
      | exact token_Next.mono _ _ _ _ _ _
      | exact LeO.none _
      | refine LeO.ite ?_ ?_
      | refine LeO.bind ?_ (fun _ => ?_)
    · intro y0 y1 y2 y3 y4 y5
      unfold marginalialaw04_TokenOnward.j4
      repeat' first
      | (with_reducible exact ih0 _ _ _ _ _ _)
      | (with_reducible exact ih1 _ _ _ _ _ _ _ _ _ _ _ _)
      | (with_reducible exact ih2 _ _ _ _ _ _)
      | (with_reducible exact ih3 _ _ _ _ _ _)
      | (with_reducible exact ih4 _ _ _ _ _ _)
      | (with_reducible exact ih5 _ _ _ _ _ _)
      | (with_reducible exact ih6 _ _ _ _ _ _ _)
      | (with_reducible exact marginalialaw04_alive.mono _)
      | (with_reducible exact token_Next.mono _ _ _ _ _ _)
      | (with_reducible exact LeO.refl _)
      | (with_reducible exact LeO.none _)
      | (with_reducible refine LeO.ite ?_ ?_)
      | (with_reducible refine LeO.bind ?_ (fun _ => ?_))
      | exact ih0 _ _ _ _ _ _
      | exact ih1 _ _ _ _ _ _ _ _ _ _ _ _
      | exact ih2 _ _ _ _ _ _
      | exact ih3 _ _ _ _ _ _
      | exact ih4 _ _ _ _ _ _
      | exact ih5 _ _ _ _ _ _
      | exact ih6 _ _ _ _ _ _ _
      | exact marginalialaw04_alive.mono _
      | exact token_Next.mono _ _ _ _ _ _
      | exact LeO.none _
      | refine LeO.ite ?_ ?_
      | refine LeO.bind ?_ (fun _ => ?_)
    · intro y0 y1 y2 y3 y4 y5
      unfold marginalialaw04_TokenOnward.l0
      repeat' first
      | (with_reducible exact ih0 _ _ _ _ _ _)
      | (with_reducible exact ih1 _ _ _ _ _ _ _ _ _ _ _ _)
      | (with_reducible exact ih2 _ _ _ _ _ _)
      | (with_reducible exact ih3 _ _ _ _ _ _)
      | (with_reducible exact ih4 _ _ _ _ _ _)
      | (with_reducible exact ih5 _ _ _ _ _ _)
      | (with_reducible exact ih6 _ _ _ _ _ _ _)
      | (with_reducible exact marginalialaw04_alive.mono _)
      | (with_reducible exact token_Next.mono _ _ _ _ _ _)
      | (with_reducible exact LeO.refl _)
      | (with_reducible exact LeO.none _)
      | (with_reducible refine LeO.ite ?_ ?_)
      | (with_reducible refine LeO.bind ?_ (fun _ => ?_))
      | exact ih0 _ _ _ _ _ _
      | exact ih1 _ _ _ _ _ _ _ _ _ _ _ _
      | exact ih2 _ _ _ _ _ _
      | exact ih3 _ _ _ _ _ _
      | exact ih4 _ _ _ _ _ _
      | exact ih5 _ _ _ _ _ _
      | exact ih6 _ _ _ _ _ _ _
      | exact marginalialaw04_alive.mono _
      | exact token_Next.mono _ _ _ _ _ _
      | exact LeO.none _
      | refine LeO.ite ?_ ?_
      | refine LeO.bind ?_ (fun _ => ?_)
    · intro y0 y1 y2 y3 y4 y5 y6
      unfold marginalialaw04_TokenOnward.l1
      repeat' first
      | (with_reducible exact ih0 _ _ _ _ _ _)
      | (with_reducible exact ih1 _ _ _ _ _ _ _ _ _ _ _ _)
      | (with_reducible exact ih2 _ _ _ _ _ _)
      | (with_reducible exact ih3 _ _ _ _ _ _)
      | (with_reducible exact ih4 _ _ _ _ _ _)
      | (with_reducible exact ih5 _ _ _ _ _ _)
      | (with_reducible exact ih6 _ _ _ _ _ _ _)
      | (with_reducible exact marginalialaw04_alive.mono _)
      | (with_reducible exact token_Next.mono _ _ _ _ _ _)
      | (with_reducible exact LeO.refl _)
      | (with_reducible exact LeO.none _)
      | (with_reducible refine LeO.ite ?_ ?_)
      | (with_reducible refine LeO.bind ?_ (fun _ => ?_))
      | exact ih0 _ _ _ _ _ _
      | exact ih1 _ _ _ _ _ _ _ _ _ _ _ _
      | exact ih2 _ _ _ _ _ _
      | exact ih3 _ _ _ _ _ _
      | exact ih4 _ _ _ _ _ _
      | exact ih5 _ _ _ _ _ _
      | exact ih6 _ _ _ _ _ _ _
      | exact marginalialaw04_alive.mono _
      | exact token_Next.mono _ _ _ _ _ _
      | exact LeO.none _
      | refine LeO.ite ?_ ?_
      | refine LeO.bind ?_ (fun _ => ?_)
theorem marginalialaw04_TokenOnward.mono : ∀ a0 a1 a2 a3 a4 k, LeO (marginalialaw04_TokenOnward.f k a0 a1 a2 a3 a4) (marginalialaw04_TokenOnward.f (k + 1) a0 a1 a2 a3 a4) := by
  intro a0 a1 a2 a3 a4 k
  obtain ⟨ih0, ih1, ih2, ih3, ih4, ih5, ih6⟩ := marginalialaw04_TokenOnward.mono_l k
  unfold marginalialaw04_TokenOnward.f
  repeat' first
      | (with_reducible exact ih0 _ _ _ _ _ _)
      | (with_reducible exact ih1 _ _ _ _ _ _ _ _ _ _ _ _)
      | (with_reducible exact ih2 _ _ _ _ _ _)
      | (with_reducible exact ih3 _ _ _ _ _ _)
      | (with_reducible exact ih4 _ _ _ _ _ _)
      | (with_reducible exact ih5 _ _ _ _ _ _)
      | (with_reducible exact ih6 _ _ _ _ _ _ _)
      | (with_reducible exact marginalialaw04_alive.mono _)
      | (with_reducible exact token_Next.mono _ _ _ _ _ _)
      | (with_reducible exact LeO.refl _)
      | (with_reducible exact LeO.none _)
      | (with_reducible refine LeO.ite ?_ ?_)
      | (with_reducible refine LeO.bind ?_ (fun _ => ?_))
      | exact ih0 _ _ _ _ _ _
      | exact ih1 _ _ _ _ _ _ _ _ _ _ _ _
      | exact ih2 _ _ _ _ _ _
      | exact ih3 _ _ _ _ _ _
      | exact ih4 _ _ _ _ _ _
      | exact ih5 _ _ _ _ _ _
      | exact ih6 _ _ _ _ _ _ _
      | exact marginalialaw04_alive.mono _
      | exact token_Next.mono _ _ _ _ _ _
      | exact LeO.none _
      | refine LeO.ite ?_ ?_
      | refine LeO.bind ?_ (fun _ => ?_)
set_option maxHeartbeats 8000000 in
set_option maxRecDepth 100000 in
theorem marginalialaw04_TokenOnward.calls (k : Nat) (a0 : ByteArray) (a1_0 : Int) (a1_1 : Int) (a1_2 : ByteArray) (a1_3 : Bool) (r : Bool) (w : World) (hm : HM w) (h : marginalialaw04_TokenOnward.f k a0 a1_0 a1_1 a1_2 a1_3 = some r) :
    Calls Try.prog 6 #[.string a0, .agg #[.int .i64 a1_0, .int .i64 a1_1, .string a1_2, .bool a1_3]] w fun e w' => e = .returned (.bool r) ∧ Below w.heap.size w w' := by
  have HM0 := Aside0.mk hm
  clear hm
  have hu24 := Try.underlying24
  have hu29 := Try.underlying29
  have HB := Aside0.mk (Below.refl w.heap.size w)
  have H : (if (a0.size : Int) > 200 then (marginalialaw04_TokenOnward.j0 k a0 true a1_0 a1_1 a1_2 a1_3) else (marginalialaw04_TokenOnward.j0 k a0 (decide ((a1_2.size : Int) > 200)) a1_0 a1_1 a1_2 a1_3)) = some r := h
  clear h
  have HC3 := Aside0.mk H
  clear H
  go_enter Try.func6, Try.ntmps6
  go_upto_region 1 with (first | ((with_reducible refine gate_dst (N := 3) rfl ?_); (try (refine gate_guard (by rfl) ?_; dsimp only)); refine box_event ?hg (N := 3) ?hd (cs := #[.int .i64 a1_0, .int .i64 a1_1, .string a1_2, .bool a1_3]) (t := 24) ?hr ?_; (case hd => rfl); (case hg => rfl); (case hr => first | (go_simp; done) | (go_simp; rfl)); intro gb194 hg w4 hbox hb; have n0_ := Aside0.mk (below_step (by repeat (first | (with_reducible first | exact HB.out | apply below_alloc | apply pw_below_drewN | apply below_drew1) | exact HB.out)) hb); have n1_ := Aside0.mk (hbox); have n2_ := Aside0.mk ((by rw [hg]; exact (below_size (by repeat (first | (with_reducible first | exact HB.out | apply below_alloc | apply pw_below_drewN | apply below_drew1) | exact HB.out))) : w.heap.size ≤ gb194)); have n3_ := Aside0.mk ((by rw [hg]; exact (below_size (by repeat (first | (with_reducible first | exact HB.out | apply below_alloc | apply pw_below_drewN | apply below_drew1) | exact HB.out))) : w.heap.size ≤ gb194)); clear HB; have HB := n0_; have BK194 := n1_; have GW194 := n2_; have GE194 := n3_; clear n0_ n1_ n2_ n3_; clear hb hbox hg))
  repeat (go_quiet (first | ((with_reducible refine gate_dst (N := 3) rfl ?_); (try (refine gate_guard (by rfl) ?_; dsimp only)); refine box_event ?hg (N := 3) ?hd (cs := #[.int .i64 a1_0, .int .i64 a1_1, .string a1_2, .bool a1_3]) (t := 24) ?hr ?_; (case hd => rfl); (case hg => rfl); (case hr => first | (go_simp; done) | (go_simp; rfl)); intro gb194 hg w4 hbox hb; have n0_ := Aside0.mk (below_step (by repeat (first | (with_reducible first | exact HB.out | apply below_alloc | apply pw_below_drewN | apply below_drew1) | exact HB.out)) hb); have n1_ := Aside0.mk (hbox); have n2_ := Aside0.mk ((by rw [hg]; exact (below_size (by repeat (first | (with_reducible first | exact HB.out | apply below_alloc | apply pw_below_drewN | apply below_drew1) | exact HB.out))) : w.heap.size ≤ gb194)); have n3_ := Aside0.mk ((by rw [hg]; exact (below_size (by repeat (first | (with_reducible first | exact HB.out | apply below_alloc | apply pw_below_drewN | apply below_drew1) | exact HB.out))) : w.heap.size ≤ gb194)); clear HB; have HB := n0_; have BK194 := n1_; have GW194 := n2_; have GE194 := n3_; clear n0_ n1_ n2_ n3_; clear hb hbox hg)); go_upto_region 1 with (first | ((with_reducible refine gate_dst (N := 3) rfl ?_); (try (refine gate_guard (by rfl) ?_; dsimp only)); refine box_event ?hg (N := 3) ?hd (cs := #[.int .i64 a1_0, .int .i64 a1_1, .string a1_2, .bool a1_3]) (t := 24) ?hr ?_; (case hd => rfl); (case hg => rfl); (case hr => first | (go_simp; done) | (go_simp; rfl)); intro gb194 hg w4 hbox hb; have n0_ := Aside0.mk (below_step (by repeat (first | (with_reducible first | exact HB.out | apply below_alloc | apply pw_below_drewN | apply below_drew1) | exact HB.out)) hb); have n1_ := Aside0.mk (hbox); have n2_ := Aside0.mk ((by rw [hg]; exact (below_size (by repeat (first | (with_reducible first | exact HB.out | apply below_alloc | apply pw_below_drewN | apply below_drew1) | exact HB.out))) : w.heap.size ≤ gb194)); have n3_ := Aside0.mk ((by rw [hg]; exact (below_size (by repeat (first | (with_reducible first | exact HB.out | apply below_alloc | apply pw_below_drewN | apply below_drew1) | exact HB.out))) : w.heap.size ≤ gb194)); clear HB; have HB := n0_; have BK194 := n1_; have GW194 := n2_; have GE194 := n3_; clear n0_ n1_ n2_ n3_; clear hb hbox hg)))
  (try simp only [Act.put, List.setIfInBounds_toArray, List.set_cons_zero, List.set_cons_succ])
  go_cut [17] (fun v17 wc => ∃ (kq : Nat) (x17_2 : Bool), v17 = .bool x17_2 ∧ Aside0 (marginalialaw04_TokenOnward.j0 kq a0 x17_2 a1_0 a1_1 a1_2 a1_3 = some r) ∧ Aside0 (kq ≤ k) ∧ Aside0 (wc.heap[gb194]? = some (.cells #[.int .i64 a1_0, .int .i64 a1_1, .string a1_2, .bool a1_3] 24 (0, 0))) ∧ Aside0 (Below w.heap.size w wc))
  case first =>
    have H := HC3.out
    clear HC3
    by_cases c5 : (a0.size : Int) > 200
    · rw [if_pos c5] at H
      have c5b0 : decide (200 < (a0.size : Int)) = true := decide_eq_true c5
      have c5b1 : decide (200 < a0.size) = true := decide_eq_true (by omega)
      clear c5
      (first | rw [c5b0] | (simp only [i64_w, i32_w]; rw [c5b0]) | skip)
      have H' := Aside0.mk H
      clear H
      go_wp2
      repeat (go_quiet (fail); try go_wp2)
      go_meet
      case rel => exact ⟨_, (true), (by first | rfl | (simp; done) | (simp [*]; done)), H', ⟨by first | omega | exact Nat.le_refl _⟩, ⟨by (with_reducible repeat (first | refine blk_drewN ?_ _ | refine blk_drew ?_ | refine blk_alloc ?_ _)); exact BK194.out⟩, ⟨by repeat (first | (with_reducible first | exact HB.out | apply below_alloc | apply pw_below_drewN | apply below_drew1 | refine below_set ?_ GE194.out) | exact HB.out)⟩⟩
    · rw [if_neg c5] at H
      have c5b0 : decide (200 < (a0.size : Int)) = false := decide_eq_false c5
      have c5b1 : decide (200 < a0.size) = false := decide_eq_false (by omega)
      clear c5
      (first | rw [c5b0] | (simp only [i64_w, i32_w]; rw [c5b0]) | skip)
      have H' := Aside0.mk H
      clear H
      have hcz6_0 : w4.cell? ⟨gb194, 0, none⟩ = some (.int .i64 a1_0) := (blk_cell BK194.out 0).trans rfl
      have hcz6_1 : w4.cell? ⟨gb194, 1, none⟩ = some (.int .i64 a1_1) := (blk_cell BK194.out 1).trans rfl
      have hcz6_2 : w4.cell? ⟨gb194, 2, none⟩ = some (.string a1_2) := (blk_cell BK194.out 2).trans rfl
      have hcz6_3 : w4.cell? ⟨gb194, 3, none⟩ = some (.bool a1_3) := (blk_cell BK194.out 3).trans rfl
      have hfz6_0 := blk_frozen BK194.out 0
      have hfz6_1 := blk_frozen BK194.out 1
      have hfz6_2 := blk_frozen BK194.out 2
      have hfz6_3 := blk_frozen BK194.out 3
      go_wp2
      repeat (go_quiet (fail); try go_wp2)
      go_meet
      case rel => exact ⟨_, (decide ((a1_2.size : Int) > 200)), (by first | rfl | (simp; done) | (simp [*]; done)), H', ⟨by first | omega | exact Nat.le_refl _⟩, ⟨by (with_reducible repeat (first | refine blk_drewN ?_ _ | refine blk_drew ?_ | refine blk_alloc ?_ _)); exact BK194.out⟩, ⟨by repeat (first | (with_reducible first | exact HB.out | apply below_alloc | apply pw_below_drewN | apply below_drew1 | refine below_set ?_ GE194.out) | exact HB.out)⟩⟩
  case rest =>
    clear HC3
    try clear p2
    try clear c5
    try clear c5b0
    try clear c5b1
    try clear c6
    try clear hcz6_0
    try clear hcz6_1
    try clear hcz6_2
    try clear hcz6_3
    try clear hfz6_0
    try clear hfz6_1
    try clear hfz6_2
    try clear hfz6_3
    obtain ⟨kq, x17_2, rfl, HA, HJ2, BK194, HB⟩ := hcut
    cases kq with
    | zero => exact absurd HA.out (by simp [marginalialaw04_TokenOnward.j0])
    | succ kj2 =>
      have H := HA.out
      clear HA
      simp only [marginalialaw04_TokenOnward.j0] at H
      by_cases c7 : x17_2 = true
      · subst c7
        have H1 : ((marginalialaw04_alive.f kj2).bind fun t195 => (some t195)) = some r := by rw [if_pos rfl] at H; exact H
        clear H
        have H := H1
        clear H1
        replace H := Option.bind_eq_some_iff.mp H
        obtain ⟨t195, A80, H⟩ := H
        replace H : (some t195) = some r := H
        have A8 := Aside0.mk A80
        clear A80
        obtain rfl := Option.some.inj H
        go_wp2_with (first | (go_at_call 10; (with_reducible refine (marginalialaw04_alive.calls kj2  t195 _ ?side1 A8.out).mono ?_); (case side1 => exact HM.at_ HM0.out (by repeat (first | (with_reducible first | exact HB.out | apply below_alloc | apply pw_below_drewN | apply below_drew1 | refine below_set ?_ GE194.out) | exact HB.out))); rintro e w9 ⟨rfl, hb⟩; have n0_ := Aside0.mk (blk_below (g := gb194) (o := .cells #[.int .i64 a1_0, .int .i64 a1_1, .string a1_2, .bool a1_3] 24 (0, 0)) (by (with_reducible repeat (first | refine blk_drewN ?_ _ | refine blk_drew ?_ | refine blk_alloc ?_ _)); exact BK194.out) hb); have n1_ := Aside0.mk (below_step (by repeat (first | (with_reducible first | exact HB.out | apply below_alloc | apply pw_below_drewN | apply below_drew1 | refine below_set ?_ GE194.out) | exact HB.out)) hb); clear BK194; clear HB; have BK194 := n0_; have HB := n1_; clear n0_ n1_; (try clear hb); (try clear hb2); (try clear hk); (try clear hi)))
        repeat (go_quiet (first | (go_at_call 10; (with_reducible refine (marginalialaw04_alive.calls kj2  t195 _ ?side1 A8.out).mono ?_); (case side1 => exact HM.at_ HM0.out (by repeat (first | (with_reducible first | exact HB.out | apply below_alloc | apply pw_below_drewN | apply below_drew1 | refine below_set ?_ GE194.out) | exact HB.out))); rintro e w9 ⟨rfl, hb⟩; have n0_ := Aside0.mk (blk_below (g := gb194) (o := .cells #[.int .i64 a1_0, .int .i64 a1_1, .string a1_2, .bool a1_3] 24 (0, 0)) (by (with_reducible repeat (first | refine blk_drewN ?_ _ | refine blk_drew ?_ | refine blk_alloc ?_ _)); exact BK194.out) hb); have n1_ := Aside0.mk (below_step (by repeat (first | (with_reducible first | exact HB.out | apply below_alloc | apply pw_below_drewN | apply below_drew1 | refine below_set ?_ GE194.out) | exact HB.out)) hb); clear BK194; clear HB; have BK194 := n0_; have HB := n1_; clear n0_ n1_; (try clear hb); (try clear hb2); (try clear hk); (try clear hi))); try go_wp2_with (first | (go_at_call 10; (with_reducible refine (marginalialaw04_alive.calls kj2  t195 _ ?side1 A8.out).mono ?_); (case side1 => exact HM.at_ HM0.out (by repeat (first | (with_reducible first | exact HB.out | apply below_alloc | apply pw_below_drewN | apply below_drew1 | refine below_set ?_ GE194.out) | exact HB.out))); rintro e w9 ⟨rfl, hb⟩; have n0_ := Aside0.mk (blk_below (g := gb194) (o := .cells #[.int .i64 a1_0, .int .i64 a1_1, .string a1_2, .bool a1_3] 24 (0, 0)) (by (with_reducible repeat (first | refine blk_drewN ?_ _ | refine blk_drew ?_ | refine blk_alloc ?_ _)); exact BK194.out) hb); have n1_ := Aside0.mk (below_step (by repeat (first | (with_reducible first | exact HB.out | apply below_alloc | apply pw_below_drewN | apply below_drew1 | refine below_set ?_ GE194.out) | exact HB.out)) hb); clear BK194; clear HB; have BK194 := n0_; have HB := n1_; clear n0_ n1_; (try clear hb); (try clear hb2); (try clear hk); (try clear hi))))
        go_ret
        exact ⟨by first | rfl | (simp [errW_none, errW_some] <;> rfl) | (simp [*, errW_none, errW_some] <;> rfl), by repeat (first | (with_reducible first | exact HB.out | apply below_alloc | apply pw_below_drewN | apply below_drew1 | refine below_set ?_ GE194.out) | exact HB.out)⟩
      · replace c7 := Bool.eq_false_iff.mpr c7
        subst c7
        have H1 : ((token_Next.f kj2 a0 a1_0 a1_1 a1_2 a1_3).bind fun bt196 => (if a1_0 < 0 then (marginalialaw04_TokenOnward.j1 kj2 a0 bt196.2.2.2.2.2 true a1_0 a1_1 a1_2 a1_3 bt196.1 bt196.2.1 bt196.2.2.1 bt196.2.2.2.1 bt196.2.2.2.2.1) else (marginalialaw04_TokenOnward.j1 kj2 a0 bt196.2.2.2.2.2 (decide (a1_0 ≥ (a0.size : Int))) a1_0 a1_1 a1_2 a1_3 bt196.1 bt196.2.1 bt196.2.2.1 bt196.2.2.2.1 bt196.2.2.2.2.1))) = some r := by rw [if_neg (show ¬ (false = true) by decide)] at H; exact H
        clear H
        have H := H1
        clear H1
        replace H := Option.bind_eq_some_iff.mp H
        obtain ⟨⟨t196, t197, t198, t201, t202, t203⟩, A100, H⟩ := H
        replace H : (if a1_0 < 0 then (marginalialaw04_TokenOnward.j1 kj2 a0 t203 true a1_0 a1_1 a1_2 a1_3 t196 t197 t198 t201 t202) else (marginalialaw04_TokenOnward.j1 kj2 a0 t203 (decide (a1_0 ≥ (a0.size : Int))) a1_0 a1_1 a1_2 a1_3 t196 t197 t198 t201 t202)) = some r := H
        have A10 := Aside0.mk A100
        clear A100
        have HC11 := Aside0.mk H
        clear H
        have hcz12_0 : wc.cell? ⟨gb194, 0, none⟩ = some (.int .i64 a1_0) := (blk_cell BK194.out 0).trans rfl
        have hcz12_1 : wc.cell? ⟨gb194, 1, none⟩ = some (.int .i64 a1_1) := (blk_cell BK194.out 1).trans rfl
        have hcz12_2 : wc.cell? ⟨gb194, 2, none⟩ = some (.string a1_2) := (blk_cell BK194.out 2).trans rfl
        have hcz12_3 : wc.cell? ⟨gb194, 3, none⟩ = some (.bool a1_3) := (blk_cell BK194.out 3).trans rfl
        have hfz12_0 := blk_frozen BK194.out 0
        have hfz12_1 := blk_frozen BK194.out 1
        have hfz12_2 := blk_frozen BK194.out 2
        have hfz12_3 := blk_frozen BK194.out 3
        go_upto_region 4 with (first | (go_at_call 11; (with_reducible refine (token_Next.calls kj2 a0 a1_0 a1_1 a1_2 a1_3 t196 t197 t198 t201 t202 t203 _ ?side1 A10.out).mono ?_); (case side1 => exact HM.at_ HM0.out (by repeat (first | (with_reducible first | exact HB.out | apply below_alloc | apply pw_below_drewN | apply below_drew1 | refine below_set ?_ GE194.out) | exact HB.out))); rintro e w13 ⟨v199, rfl, ho0, hb⟩; have n0_ := Aside0.mk (Kd.R_lower ho0 (below_size (by repeat (first | (with_reducible first | exact HB.out | apply below_alloc | apply pw_below_drewN | apply below_drew1 | refine below_set ?_ GE194.out) | exact HB.out)))); have n1_ := Aside0.mk (blk_below (g := gb194) (o := .cells #[.int .i64 a1_0, .int .i64 a1_1, .string a1_2, .bool a1_3] 24 (0, 0)) (by (with_reducible repeat (first | refine blk_drewN ?_ _ | refine blk_drew ?_ | refine blk_alloc ?_ _)); exact BK194.out) hb); have n2_ := Aside0.mk (below_step (by repeat (first | (with_reducible first | exact HB.out | apply below_alloc | apply pw_below_drewN | apply below_drew1 | refine below_set ?_ GE194.out) | exact HB.out)) hb); clear BK194; clear HB; have HO200 := n0_; have BK194 := n1_; have HB := n2_; clear n0_ n1_ n2_; (try clear hb); (try clear hb2); (try clear hk); (try clear hi); (try clear ho0)) | ((with_reducible refine gate_dst (N := 5) rfl ?_); (try (refine gate_guard (by rfl) ?_; dsimp only)); refine box_event ?hg (N := 5) ?hd (cs := #[.int .i64 0, .string (⟨#[]⟩ : ByteArray), .slice none 0 0, .bool false, .string (⟨#[]⟩ : ByteArray)]) (t := 29) ?hr ?_; (case hd => rfl); (case hg => rfl); (case hr => first | (go_simp; done) | (go_simp; rfl)); intro gb204 hg w14 hbox hb; have n0_ := Aside0.mk (Kd.R_below (by (with_reducible repeat (first | apply Kd.R_alloc | apply Kd.R_drewN | apply Kd.R_drew)); exact HO200.out) hb); have n1_ := Aside0.mk (blk_below (g := gb194) (o := .cells #[.int .i64 a1_0, .int .i64 a1_1, .string a1_2, .bool a1_3] 24 (0, 0)) (by (with_reducible repeat (first | refine blk_drewN ?_ _ | refine blk_drew ?_ | refine blk_alloc ?_ _)); exact BK194.out) hb); have n2_ := Aside0.mk (below_step (by repeat (first | (with_reducible first | exact HB.out | apply below_alloc | apply pw_below_drewN | apply below_drew1 | refine below_set ?_ GE194.out) | exact HB.out)) hb); have n3_ := Aside0.mk (hbox); have n4_ := Aside0.mk ((by rw [hg]; exact (below_size (by repeat (first | (with_reducible first | exact HB.out | apply below_alloc | apply pw_below_drewN | apply below_drew1 | refine below_set ?_ GE194.out) | exact HB.out))) : w.heap.size ≤ gb204)); have n5_ := Aside0.mk ((by rw [hg]; exact (below_size (by repeat (first | (with_reducible first | exact HB.out | apply below_alloc | apply pw_below_drewN | apply below_drew1 | refine below_set ?_ GE194.out) | exact HB.out))) : w.heap.size ≤ gb204)); have n6_ := Aside0.mk ((by rw [hg]; exact Nat.ne_of_lt (blk_lt (g := gb194) (o := .cells #[.int .i64 a1_0, .int .i64 a1_1, .string a1_2, .bool a1_3] 24 (0, 0)) (by (with_reducible repeat (first | refine blk_drewN ?_ _ | refine blk_drew ?_ | refine blk_alloc ?_ _)); exact BK194.out)) : gb194 ≠ gb204)); have n7_ := Aside0.mk ((by rw [hg]; exact Nat.ne_of_gt (blk_lt (g := gb194) (o := .cells #[.int .i64 a1_0, .int .i64 a1_1, .string a1_2, .bool a1_3] 24 (0, 0)) (by (with_reducible repeat (first | refine blk_drewN ?_ _ | refine blk_drew ?_ | refine blk_alloc ?_ _)); exact BK194.out)) : gb204 ≠ gb194)); clear HO200; clear BK194; clear HB; have HO200 := n0_; have BK194 := n1_; have HB := n2_; have BK204 := n3_; have GW204 := n4_; have GE204 := n5_; have NB194_204 := n6_; have NB204_194 := n7_; clear n0_ n1_ n2_ n3_ n4_ n5_ n6_ n7_; clear hb hbox hg; have hnb15 := NB204_194.out; have hnc15 := NB194_204.out; have hcz16_0 : w14.cell? ⟨gb204, 0, none⟩ = some (.int .i64 0) := (blk_cell BK204.out 0).trans rfl; have hcz16_1 : w14.cell? ⟨gb204, 1, none⟩ = some (.string (⟨#[]⟩ : ByteArray)) := (blk_cell BK204.out 1).trans rfl; have hcz16_2 : w14.cell? ⟨gb204, 2, none⟩ = some (.slice none 0 0) := (blk_cell BK204.out 2).trans rfl; have hcz16_3 : w14.cell? ⟨gb204, 3, none⟩ = some (.bool false) := (blk_cell BK204.out 3).trans rfl; have hcz16_4 : w14.cell? ⟨gb204, 4, none⟩ = some (.string (⟨#[]⟩ : ByteArray)) := (blk_cell BK204.out 4).trans rfl; have hfz16_0 := blk_frozen BK204.out 0; have hfz16_1 := blk_frozen BK204.out 1; have hfz16_2 := blk_frozen BK204.out 2; have hfz16_3 := blk_frozen BK204.out 3; have hfz16_4 := blk_frozen BK204.out 4; obtain ⟨Ao17, co17, eo17⟩ := Kd.R_slice HO200.out; subst eo17))
        repeat (go_quiet (first | (go_at_call 11; (with_reducible refine (token_Next.calls kj2 a0 a1_0 a1_1 a1_2 a1_3 t196 t197 t198 t201 t202 t203 _ ?side1 A10.out).mono ?_); (case side1 => exact HM.at_ HM0.out (by repeat (first | (with_reducible first | exact HB.out | apply below_alloc | apply pw_below_drewN | apply below_drew1 | refine below_set ?_ GE194.out) | exact HB.out))); rintro e w13 ⟨v199, rfl, ho0, hb⟩; have n0_ := Aside0.mk (Kd.R_lower ho0 (below_size (by repeat (first | (with_reducible first | exact HB.out | apply below_alloc | apply pw_below_drewN | apply below_drew1 | refine below_set ?_ GE194.out) | exact HB.out)))); have n1_ := Aside0.mk (blk_below (g := gb194) (o := .cells #[.int .i64 a1_0, .int .i64 a1_1, .string a1_2, .bool a1_3] 24 (0, 0)) (by (with_reducible repeat (first | refine blk_drewN ?_ _ | refine blk_drew ?_ | refine blk_alloc ?_ _)); exact BK194.out) hb); have n2_ := Aside0.mk (below_step (by repeat (first | (with_reducible first | exact HB.out | apply below_alloc | apply pw_below_drewN | apply below_drew1 | refine below_set ?_ GE194.out) | exact HB.out)) hb); clear BK194; clear HB; have HO200 := n0_; have BK194 := n1_; have HB := n2_; clear n0_ n1_ n2_; (try clear hb); (try clear hb2); (try clear hk); (try clear hi); (try clear ho0)) | ((with_reducible refine gate_dst (N := 5) rfl ?_); (try (refine gate_guard (by rfl) ?_; dsimp only)); refine box_event ?hg (N := 5) ?hd (cs := #[.int .i64 0, .string (⟨#[]⟩ : ByteArray), .slice none 0 0, .bool false, .string (⟨#[]⟩ : ByteArray)]) (t := 29) ?hr ?_; (case hd => rfl); (case hg => rfl); (case hr => first | (go_simp; done) | (go_simp; rfl)); intro gb204 hg w14 hbox hb; have n0_ := Aside0.mk (Kd.R_below (by (with_reducible repeat (first | apply Kd.R_alloc | apply Kd.R_drewN | apply Kd.R_drew)); exact HO200.out) hb); have n1_ := Aside0.mk (blk_below (g := gb194) (o := .cells #[.int .i64 a1_0, .int .i64 a1_1, .string a1_2, .bool a1_3] 24 (0, 0)) (by (with_reducible repeat (first | refine blk_drewN ?_ _ | refine blk_drew ?_ | refine blk_alloc ?_ _)); exact BK194.out) hb); have n2_ := Aside0.mk (below_step (by repeat (first | (with_reducible first | exact HB.out | apply below_alloc | apply pw_below_drewN | apply below_drew1 | refine below_set ?_ GE194.out) | exact HB.out)) hb); have n3_ := Aside0.mk (hbox); have n4_ := Aside0.mk ((by rw [hg]; exact (below_size (by repeat (first | (with_reducible first | exact HB.out | apply below_alloc | apply pw_below_drewN | apply below_drew1 | refine below_set ?_ GE194.out) | exact HB.out))) : w.heap.size ≤ gb204)); have n5_ := Aside0.mk ((by rw [hg]; exact (below_size (by repeat (first | (with_reducible first | exact HB.out | apply below_alloc | apply pw_below_drewN | apply below_drew1 | refine below_set ?_ GE194.out) | exact HB.out))) : w.heap.size ≤ gb204)); have n6_ := Aside0.mk ((by rw [hg]; exact Nat.ne_of_lt (blk_lt (g := gb194) (o := .cells #[.int .i64 a1_0, .int .i64 a1_1, .string a1_2, .bool a1_3] 24 (0, 0)) (by (with_reducible repeat (first | refine blk_drewN ?_ _ | refine blk_drew ?_ | refine blk_alloc ?_ _)); exact BK194.out)) : gb194 ≠ gb204)); have n7_ := Aside0.mk ((by rw [hg]; exact Nat.ne_of_gt (blk_lt (g := gb194) (o := .cells #[.int .i64 a1_0, .int .i64 a1_1, .string a1_2, .bool a1_3] 24 (0, 0)) (by (with_reducible repeat (first | refine blk_drewN ?_ _ | refine blk_drew ?_ | refine blk_alloc ?_ _)); exact BK194.out)) : gb204 ≠ gb194)); clear HO200; clear BK194; clear HB; have HO200 := n0_; have BK194 := n1_; have HB := n2_; have BK204 := n3_; have GW204 := n4_; have GE204 := n5_; have NB194_204 := n6_; have NB204_194 := n7_; clear n0_ n1_ n2_ n3_ n4_ n5_ n6_ n7_; clear hb hbox hg; have hnb15 := NB204_194.out; have hnc15 := NB194_204.out; have hcz16_0 : w14.cell? ⟨gb204, 0, none⟩ = some (.int .i64 0) := (blk_cell BK204.out 0).trans rfl; have hcz16_1 : w14.cell? ⟨gb204, 1, none⟩ = some (.string (⟨#[]⟩ : ByteArray)) := (blk_cell BK204.out 1).trans rfl; have hcz16_2 : w14.cell? ⟨gb204, 2, none⟩ = some (.slice none 0 0) := (blk_cell BK204.out 2).trans rfl; have hcz16_3 : w14.cell? ⟨gb204, 3, none⟩ = some (.bool false) := (blk_cell BK204.out 3).trans rfl; have hcz16_4 : w14.cell? ⟨gb204, 4, none⟩ = some (.string (⟨#[]⟩ : ByteArray)) := (blk_cell BK204.out 4).trans rfl; have hfz16_0 := blk_frozen BK204.out 0; have hfz16_1 := blk_frozen BK204.out 1; have hfz16_2 := blk_frozen BK204.out 2; have hfz16_3 := blk_frozen BK204.out 3; have hfz16_4 := blk_frozen BK204.out 4; obtain ⟨Ao17, co17, eo17⟩ := Kd.R_slice HO200.out; subst eo17)); go_upto_region 4 with (first | (go_at_call 11; (with_reducible refine (token_Next.calls kj2 a0 a1_0 a1_1 a1_2 a1_3 t196 t197 t198 t201 t202 t203 _ ?side1 A10.out).mono ?_); (case side1 => exact HM.at_ HM0.out (by repeat (first | (with_reducible first | exact HB.out | apply below_alloc | apply pw_below_drewN | apply below_drew1 | refine below_set ?_ GE194.out) | exact HB.out))); rintro e w13 ⟨v199, rfl, ho0, hb⟩; have n0_ := Aside0.mk (Kd.R_lower ho0 (below_size (by repeat (first | (with_reducible first | exact HB.out | apply below_alloc | apply pw_below_drewN | apply below_drew1 | refine below_set ?_ GE194.out) | exact HB.out)))); have n1_ := Aside0.mk (blk_below (g := gb194) (o := .cells #[.int .i64 a1_0, .int .i64 a1_1, .string a1_2, .bool a1_3] 24 (0, 0)) (by (with_reducible repeat (first | refine blk_drewN ?_ _ | refine blk_drew ?_ | refine blk_alloc ?_ _)); exact BK194.out) hb); have n2_ := Aside0.mk (below_step (by repeat (first | (with_reducible first | exact HB.out | apply below_alloc | apply pw_below_drewN | apply below_drew1 | refine below_set ?_ GE194.out) | exact HB.out)) hb); clear BK194; clear HB; have HO200 := n0_; have BK194 := n1_; have HB := n2_; clear n0_ n1_ n2_; (try clear hb); (try clear hb2); (try clear hk); (try clear hi); (try clear ho0)) | ((with_reducible refine gate_dst (N := 5) rfl ?_); (try (refine gate_guard (by rfl) ?_; dsimp only)); refine box_event ?hg (N := 5) ?hd (cs := #[.int .i64 0, .string (⟨#[]⟩ : ByteArray), .slice none 0 0, .bool false, .string (⟨#[]⟩ : ByteArray)]) (t := 29) ?hr ?_; (case hd => rfl); (case hg => rfl); (case hr => first | (go_simp; done) | (go_simp; rfl)); intro gb204 hg w14 hbox hb; have n0_ := Aside0.mk (Kd.R_below (by (with_reducible repeat (first | apply Kd.R_alloc | apply Kd.R_drewN | apply Kd.R_drew)); exact HO200.out) hb); have n1_ := Aside0.mk (blk_below (g := gb194) (o := .cells #[.int .i64 a1_0, .int .i64 a1_1, .string a1_2, .bool a1_3] 24 (0, 0)) (by (with_reducible repeat (first | refine blk_drewN ?_ _ | refine blk_drew ?_ | refine blk_alloc ?_ _)); exact BK194.out) hb); have n2_ := Aside0.mk (below_step (by repeat (first | (with_reducible first | exact HB.out | apply below_alloc | apply pw_below_drewN | apply below_drew1 | refine below_set ?_ GE194.out) | exact HB.out)) hb); have n3_ := Aside0.mk (hbox); have n4_ := Aside0.mk ((by rw [hg]; exact (below_size (by repeat (first | (with_reducible first | exact HB.out | apply below_alloc | apply pw_below_drewN | apply below_drew1 | refine below_set ?_ GE194.out) | exact HB.out))) : w.heap.size ≤ gb204)); have n5_ := Aside0.mk ((by rw [hg]; exact (below_size (by repeat (first | (with_reducible first | exact HB.out | apply below_alloc | apply pw_below_drewN | apply below_drew1 | refine below_set ?_ GE194.out) | exact HB.out))) : w.heap.size ≤ gb204)); have n6_ := Aside0.mk ((by rw [hg]; exact Nat.ne_of_lt (blk_lt (g := gb194) (o := .cells #[.int .i64 a1_0, .int .i64 a1_1, .string a1_2, .bool a1_3] 24 (0, 0)) (by (with_reducible repeat (first | refine blk_drewN ?_ _ | refine blk_drew ?_ | refine blk_alloc ?_ _)); exact BK194.out)) : gb194 ≠ gb204)); have n7_ := Aside0.mk ((by rw [hg]; exact Nat.ne_of_gt (blk_lt (g := gb194) (o := .cells #[.int .i64 a1_0, .int .i64 a1_1, .string a1_2, .bool a1_3] 24 (0, 0)) (by (with_reducible repeat (first | refine blk_drewN ?_ _ | refine blk_drew ?_ | refine blk_alloc ?_ _)); exact BK194.out)) : gb204 ≠ gb194)); clear HO200; clear BK194; clear HB; have HO200 := n0_; have BK194 := n1_; have HB := n2_; have BK204 := n3_; have GW204 := n4_; have GE204 := n5_; have NB194_204 := n6_; have NB204_194 := n7_; clear n0_ n1_ n2_ n3_ n4_ n5_ n6_ n7_; clear hb hbox hg; have hnb15 := NB204_194.out; have hnc15 := NB194_204.out; have hcz16_0 : w14.cell? ⟨gb204, 0, none⟩ = some (.int .i64 0) := (blk_cell BK204.out 0).trans rfl; have hcz16_1 : w14.cell? ⟨gb204, 1, none⟩ = some (.string (⟨#[]⟩ : ByteArray)) := (blk_cell BK204.out 1).trans rfl; have hcz16_2 : w14.cell? ⟨gb204, 2, none⟩ = some (.slice none 0 0) := (blk_cell BK204.out 2).trans rfl; have hcz16_3 : w14.cell? ⟨gb204, 3, none⟩ = some (.bool false) := (blk_cell BK204.out 3).trans rfl; have hcz16_4 : w14.cell? ⟨gb204, 4, none⟩ = some (.string (⟨#[]⟩ : ByteArray)) := (blk_cell BK204.out 4).trans rfl; have hfz16_0 := blk_frozen BK204.out 0; have hfz16_1 := blk_frozen BK204.out 1; have hfz16_2 := blk_frozen BK204.out 2; have hfz16_3 := blk_frozen BK204.out 3; have hfz16_4 := blk_frozen BK204.out 4; obtain ⟨Ao17, co17, eo17⟩ := Kd.R_slice HO200.out; subst eo17)))
        (try simp only [Act.put, List.setIfInBounds_toArray, List.set_cons_zero, List.set_cons_succ])
        go_cut [41] (fun v41 wc => ∃ (kq : Nat) (x41_10 : Bool), v41 = .bool x41_10 ∧ Aside0 (marginalialaw04_TokenOnward.j1 kq a0 t203 x41_10 a1_0 a1_1 a1_2 a1_3 t196 t197 t198 t201 t202 = some r) ∧ Aside0 (kq ≤ kj2) ∧ Aside0 (Kd.R k41 41 wc w.heap.size (fun _ => True) (.slice Ao17 t198.length co17) t198) ∧ Aside0 (wc.heap[gb194]? = some (.cells #[.int .i64 a1_0, .int .i64 a1_1, .string a1_2, .bool a1_3] 24 (0, 0))) ∧ Aside0 (wc.heap[gb204]? = some (.cells #[.int .i64 t196, .string t197, (.slice Ao17 t198.length co17), .bool t201, .string t202] 29 (0, 0))) ∧ Aside0 (Below w.heap.size w wc))
        case first =>
          have H := HC11.out
          clear HC11
          by_cases c18 : a1_0 < 0
          · rw [if_pos c18] at H
            have c18b0 : decide (a1_0 < 0) = true := decide_eq_true c18
            clear c18
            (first | rw [c18b0] | (simp only [i64_w, i32_w]; rw [c18b0]) | skip)
            have H' := Aside0.mk H
            clear H
            have hnb19 := NB194_204.out
            have hnc19 := NB204_194.out
            have hcz20_0 : w14.cell? ⟨gb194, 0, none⟩ = some (.int .i64 a1_0) := (blk_cell BK194.out 0).trans rfl
            have hcz20_1 : w14.cell? ⟨gb194, 1, none⟩ = some (.int .i64 a1_1) := (blk_cell BK194.out 1).trans rfl
            have hcz20_2 : w14.cell? ⟨gb194, 2, none⟩ = some (.string a1_2) := (blk_cell BK194.out 2).trans rfl
            have hcz20_3 : w14.cell? ⟨gb194, 3, none⟩ = some (.bool a1_3) := (blk_cell BK194.out 3).trans rfl
            have hfz20_0 := blk_frozen BK194.out 0
            have hfz20_1 := blk_frozen BK194.out 1
            have hfz20_2 := blk_frozen BK194.out 2
            have hfz20_3 := blk_frozen BK194.out 3
            go_wp2
            repeat (go_quiet (fail); try go_wp2)
            go_meet
            case rel => exact ⟨_, (true), (by first | rfl | (simp; done) | (simp [*]; done)), H', ⟨by have := HJ2.out; first | omega | exact Nat.le_refl _⟩, ⟨by (with_reducible repeat (first | apply Kd.R_alloc | apply Kd.R_drewN | apply Kd.R_drew)); exact Kd.R_mono (Kd.R_far (p := ⟨gb204, 4, none⟩) (Kd.R_far (p := ⟨gb204, 3, none⟩) (Kd.R_far (p := ⟨gb204, 2, none⟩) (Kd.R_far (p := ⟨gb204, 1, none⟩) (Kd.R_far (p := ⟨gb204, 0, none⟩) (Kd.R_types HO200.out BK204.out (by decide)) (fun _ hk => hk.2) (.int .i64 t196)) (fun _ hk => hk.2) (.string t197)) (fun _ hk => hk.2) (.slice Ao17 t198.length co17)) (fun _ hk => hk.2) (.bool t201)) (fun _ hk => hk.2) (.string t202)) (fun _ hk => trivial)⟩, ⟨by (with_reducible repeat (first | refine blk_drewN ?_ _ | refine blk_drew ?_ | refine blk_alloc ?_ _)); refine blk_far ?_ NB194_204.out _; (with_reducible repeat (first | refine blk_drewN ?_ _ | refine blk_drew ?_ | refine blk_alloc ?_ _)); refine blk_far ?_ NB194_204.out _; (with_reducible repeat (first | refine blk_drewN ?_ _ | refine blk_drew ?_ | refine blk_alloc ?_ _)); refine blk_far ?_ NB194_204.out _; (with_reducible repeat (first | refine blk_drewN ?_ _ | refine blk_drew ?_ | refine blk_alloc ?_ _)); refine blk_far ?_ NB194_204.out _; (with_reducible repeat (first | refine blk_drewN ?_ _ | refine blk_drew ?_ | refine blk_alloc ?_ _)); refine blk_far ?_ NB194_204.out _; (with_reducible repeat (first | refine blk_drewN ?_ _ | refine blk_drew ?_ | refine blk_alloc ?_ _)); exact BK194.out⟩, ⟨by (with_reducible repeat (first | refine blk_drewN ?_ _ | refine blk_drew ?_ | refine blk_alloc ?_ _)); refine blk_put (cs := #[.int .i64 t196, .string t197, .slice Ao17 t198.length co17, .bool t201, .string (⟨#[]⟩ : ByteArray)]) ?_ 4 _ rfl; (with_reducible repeat (first | refine blk_drewN ?_ _ | refine blk_drew ?_ | refine blk_alloc ?_ _)); refine blk_put (cs := #[.int .i64 t196, .string t197, .slice Ao17 t198.length co17, .bool false, .string (⟨#[]⟩ : ByteArray)]) ?_ 3 _ rfl; (with_reducible repeat (first | refine blk_drewN ?_ _ | refine blk_drew ?_ | refine blk_alloc ?_ _)); refine blk_put (cs := #[.int .i64 t196, .string t197, .slice none 0 0, .bool false, .string (⟨#[]⟩ : ByteArray)]) ?_ 2 _ rfl; (with_reducible repeat (first | refine blk_drewN ?_ _ | refine blk_drew ?_ | refine blk_alloc ?_ _)); refine blk_put (cs := #[.int .i64 t196, .string (⟨#[]⟩ : ByteArray), .slice none 0 0, .bool false, .string (⟨#[]⟩ : ByteArray)]) ?_ 1 _ rfl; (with_reducible repeat (first | refine blk_drewN ?_ _ | refine blk_drew ?_ | refine blk_alloc ?_ _)); refine blk_put (cs := #[.int .i64 0, .string (⟨#[]⟩ : ByteArray), .slice none 0 0, .bool false, .string (⟨#[]⟩ : ByteArray)]) ?_ 0 _ rfl; (with_reducible repeat (first | refine blk_drewN ?_ _ | refine blk_drew ?_ | refine blk_alloc ?_ _)); exact BK204.out⟩, ⟨by repeat (first | (with_reducible first | exact HB.out | apply below_alloc | apply pw_below_drewN | apply below_drew1 | refine below_set ?_ GE194.out | refine below_set ?_ GE204.out) | exact HB.out)⟩⟩
          · rw [if_neg c18] at H
            have c18b0 : decide (a1_0 < 0) = false := decide_eq_false c18
            clear c18
            (first | rw [c18b0] | (simp only [i64_w, i32_w]; rw [c18b0]) | skip)
            have H' := Aside0.mk H
            clear H
            have hnb21 := NB194_204.out
            have hnc21 := NB204_194.out
            have hcz22_0 : w14.cell? ⟨gb194, 0, none⟩ = some (.int .i64 a1_0) := (blk_cell BK194.out 0).trans rfl
            have hcz22_1 : w14.cell? ⟨gb194, 1, none⟩ = some (.int .i64 a1_1) := (blk_cell BK194.out 1).trans rfl
            have hcz22_2 : w14.cell? ⟨gb194, 2, none⟩ = some (.string a1_2) := (blk_cell BK194.out 2).trans rfl
            have hcz22_3 : w14.cell? ⟨gb194, 3, none⟩ = some (.bool a1_3) := (blk_cell BK194.out 3).trans rfl
            have hfz22_0 := blk_frozen BK194.out 0
            have hfz22_1 := blk_frozen BK194.out 1
            have hfz22_2 := blk_frozen BK194.out 2
            have hfz22_3 := blk_frozen BK194.out 3
            go_wp2
            repeat (go_quiet (fail); try go_wp2)
            go_meet
            case rel => exact ⟨_, (decide (a1_0 ≥ (a0.size : Int))), (by first | rfl | (simp; done) | (simp [*]; done)), H', ⟨by have := HJ2.out; first | omega | exact Nat.le_refl _⟩, ⟨by (with_reducible repeat (first | apply Kd.R_alloc | apply Kd.R_drewN | apply Kd.R_drew)); exact Kd.R_mono (Kd.R_far (p := ⟨gb204, 4, none⟩) (Kd.R_far (p := ⟨gb204, 3, none⟩) (Kd.R_far (p := ⟨gb204, 2, none⟩) (Kd.R_far (p := ⟨gb204, 1, none⟩) (Kd.R_far (p := ⟨gb204, 0, none⟩) (Kd.R_types HO200.out BK204.out (by decide)) (fun _ hk => hk.2) (.int .i64 t196)) (fun _ hk => hk.2) (.string t197)) (fun _ hk => hk.2) (.slice Ao17 t198.length co17)) (fun _ hk => hk.2) (.bool t201)) (fun _ hk => hk.2) (.string t202)) (fun _ hk => trivial)⟩, ⟨by (with_reducible repeat (first | refine blk_drewN ?_ _ | refine blk_drew ?_ | refine blk_alloc ?_ _)); refine blk_far ?_ NB194_204.out _; (with_reducible repeat (first | refine blk_drewN ?_ _ | refine blk_drew ?_ | refine blk_alloc ?_ _)); refine blk_far ?_ NB194_204.out _; (with_reducible repeat (first | refine blk_drewN ?_ _ | refine blk_drew ?_ | refine blk_alloc ?_ _)); refine blk_far ?_ NB194_204.out _; (with_reducible repeat (first | refine blk_drewN ?_ _ | refine blk_drew ?_ | refine blk_alloc ?_ _)); refine blk_far ?_ NB194_204.out _; (with_reducible repeat (first | refine blk_drewN ?_ _ | refine blk_drew ?_ | refine blk_alloc ?_ _)); refine blk_far ?_ NB194_204.out _; (with_reducible repeat (first | refine blk_drewN ?_ _ | refine blk_drew ?_ | refine blk_alloc ?_ _)); exact BK194.out⟩, ⟨by (with_reducible repeat (first | refine blk_drewN ?_ _ | refine blk_drew ?_ | refine blk_alloc ?_ _)); refine blk_put (cs := #[.int .i64 t196, .string t197, .slice Ao17 t198.length co17, .bool t201, .string (⟨#[]⟩ : ByteArray)]) ?_ 4 _ rfl; (with_reducible repeat (first | refine blk_drewN ?_ _ | refine blk_drew ?_ | refine blk_alloc ?_ _)); refine blk_put (cs := #[.int .i64 t196, .string t197, .slice Ao17 t198.length co17, .bool false, .string (⟨#[]⟩ : ByteArray)]) ?_ 3 _ rfl; (with_reducible repeat (first | refine blk_drewN ?_ _ | refine blk_drew ?_ | refine blk_alloc ?_ _)); refine blk_put (cs := #[.int .i64 t196, .string t197, .slice none 0 0, .bool false, .string (⟨#[]⟩ : ByteArray)]) ?_ 2 _ rfl; (with_reducible repeat (first | refine blk_drewN ?_ _ | refine blk_drew ?_ | refine blk_alloc ?_ _)); refine blk_put (cs := #[.int .i64 t196, .string (⟨#[]⟩ : ByteArray), .slice none 0 0, .bool false, .string (⟨#[]⟩ : ByteArray)]) ?_ 1 _ rfl; (with_reducible repeat (first | refine blk_drewN ?_ _ | refine blk_drew ?_ | refine blk_alloc ?_ _)); refine blk_put (cs := #[.int .i64 0, .string (⟨#[]⟩ : ByteArray), .slice none 0 0, .bool false, .string (⟨#[]⟩ : ByteArray)]) ?_ 0 _ rfl; (with_reducible repeat (first | refine blk_drewN ?_ _ | refine blk_drew ?_ | refine blk_alloc ?_ _)); exact BK204.out⟩, ⟨by repeat (first | (with_reducible first | exact HB.out | apply below_alloc | apply pw_below_drewN | apply below_drew1 | refine below_set ?_ GE194.out | refine below_set ?_ GE204.out) | exact HB.out)⟩⟩
        case rest =>
          clear HC11
          try clear c1
          try clear c2
          try clear p2
          try clear c5
          try clear c5b0
          try clear c5b1
          try clear c6
          try clear c7
          try clear c15
          try clear c18
          try clear c18b0
          try clear c19
          try clear c21
          try clear hcz12_0
          try clear hcz12_1
          try clear hcz12_2
          try clear hcz12_3
          try clear hcz16_0
          try clear hcz16_1
          try clear hcz16_2
          try clear hcz16_3
          try clear hcz16_4
          try clear hcz20_0
          try clear hcz20_1
          try clear hcz20_2
          try clear hcz20_3
          try clear hcz22_0
          try clear hcz22_1
          try clear hcz22_2
          try clear hcz22_3
          try clear hcz6_0
          try clear hcz6_1
          try clear hcz6_2
          try clear hcz6_3
          try clear hfz12_0
          try clear hfz12_1
          try clear hfz12_2
          try clear hfz12_3
          try clear hfz16_0
          try clear hfz16_1
          try clear hfz16_2
          try clear hfz16_3
          try clear hfz16_4
          try clear hfz20_0
          try clear hfz20_1
          try clear hfz20_2
          try clear hfz20_3
          try clear hfz22_0
          try clear hfz22_1
          try clear hfz22_2
          try clear hfz22_3
          try clear hfz6_0
          try clear hfz6_1
          try clear hfz6_2
          try clear hfz6_3
          try clear p2
          obtain ⟨kq, x41_10, rfl, HA, HJ10, HO_205002, BK194, BK204, HB⟩ := hcut
          cases kq with
          | zero => exact absurd HA.out (by simp [marginalialaw04_TokenOnward.j1])
          | succ kj10 =>
            have H := HA.out
            clear HA
            simp only [marginalialaw04_TokenOnward.j1] at H
            by_cases c23 : x41_10 = true
            · subst c23
              have H1 : ((marginalialaw04_alive.f kj10).bind fun t205 => (if t205 = true then (if t196 = 0 then (some (t203 == (a0.size : Int))) else (some false)) else (some false))) = some r := by rw [if_pos rfl] at H; exact H
              clear H
              have H := H1
              clear H1
              replace H := Option.bind_eq_some_iff.mp H
              obtain ⟨t205, A240, H⟩ := H
              replace H : (if t205 = true then (if t196 = 0 then (some (t203 == (a0.size : Int))) else (some false)) else (some false)) = some r := H
              have A24 := Aside0.mk A240
              clear A240
              by_cases c25 : t205 = true
              · subst c25
                have H1 : (if t196 = 0 then (some (t203 == (a0.size : Int))) else (some false)) = some r := by rw [if_pos rfl] at H; exact H
                clear H
                have H := H1
                clear H1
                by_cases c26 : t196 = 0
                · rw [if_pos c26] at H
                  have c26b0 : (t196 == 0) = true := beq_iff_eq.mpr c26
                  have c26b1 : (t196 != 0) = false := bne_eq_false_iff_eq.mpr c26
                  clear c26
                  obtain rfl := Option.some.inj H
                  go_wp2_with (first | (go_at_call 10; (with_reducible refine (marginalialaw04_alive.calls kj10  true _ ?side1 A24.out).mono ?_); (case side1 => exact HM.at_ HM0.out (by repeat (first | (with_reducible first | exact HB.out | apply below_alloc | apply pw_below_drewN | apply below_drew1 | refine below_set ?_ GE194.out | refine below_set ?_ GE204.out) | exact HB.out))); rintro e w27 ⟨rfl, hb⟩; have n0_ := Aside0.mk (Kd.R_below (by (with_reducible repeat (first | apply Kd.R_alloc | apply Kd.R_drewN | apply Kd.R_drew)); exact HO_205002.out) hb); have n1_ := Aside0.mk (blk_below (g := gb194) (o := .cells #[.int .i64 a1_0, .int .i64 a1_1, .string a1_2, .bool a1_3] 24 (0, 0)) (by (with_reducible repeat (first | refine blk_drewN ?_ _ | refine blk_drew ?_ | refine blk_alloc ?_ _)); exact BK194.out) hb); have n2_ := Aside0.mk (blk_below (g := gb204) (o := .cells #[.int .i64 t196, .string t197, .slice Ao17 t198.length co17, .bool t201, .string t202] 29 (0, 0)) (by (with_reducible repeat (first | refine blk_drewN ?_ _ | refine blk_drew ?_ | refine blk_alloc ?_ _)); exact BK204.out) hb); have n3_ := Aside0.mk (below_step (by repeat (first | (with_reducible first | exact HB.out | apply below_alloc | apply pw_below_drewN | apply below_drew1 | refine below_set ?_ GE194.out | refine below_set ?_ GE204.out) | exact HB.out)) hb); clear HO_205002; clear BK194; clear BK204; clear HB; have HO_205002 := n0_; have BK194 := n1_; have BK204 := n2_; have HB := n3_; clear n0_ n1_ n2_ n3_; (try clear hb); (try clear hb2); (try clear hk); (try clear hi); have hnb28 := NB204_194.out; have hnc28 := NB194_204.out; have hcz29_0 : w27.cell? ⟨gb204, 0, none⟩ = some (.int .i64 t196) := (blk_cell BK204.out 0).trans rfl; have hcz29_1 : w27.cell? ⟨gb204, 1, none⟩ = some (.string t197) := (blk_cell BK204.out 1).trans rfl; have hcz29_2 : w27.cell? ⟨gb204, 2, none⟩ = some (.slice Ao17 t198.length co17) := (blk_cell BK204.out 2).trans rfl; have hcz29_3 : w27.cell? ⟨gb204, 3, none⟩ = some (.bool t201) := (blk_cell BK204.out 3).trans rfl; have hcz29_4 : w27.cell? ⟨gb204, 4, none⟩ = some (.string t202) := (blk_cell BK204.out 4).trans rfl; have hfz29_0 := blk_frozen BK204.out 0; have hfz29_1 := blk_frozen BK204.out 1; have hfz29_2 := blk_frozen BK204.out 2; have hfz29_3 := blk_frozen BK204.out 3; have hfz29_4 := blk_frozen BK204.out 4))
                  repeat (go_quiet (first | (go_at_call 10; (with_reducible refine (marginalialaw04_alive.calls kj10  true _ ?side1 A24.out).mono ?_); (case side1 => exact HM.at_ HM0.out (by repeat (first | (with_reducible first | exact HB.out | apply below_alloc | apply pw_below_drewN | apply below_drew1 | refine below_set ?_ GE194.out | refine below_set ?_ GE204.out) | exact HB.out))); rintro e w27 ⟨rfl, hb⟩; have n0_ := Aside0.mk (Kd.R_below (by (with_reducible repeat (first | apply Kd.R_alloc | apply Kd.R_drewN | apply Kd.R_drew)); exact HO_205002.out) hb); have n1_ := Aside0.mk (blk_below (g := gb194) (o := .cells #[.int .i64 a1_0, .int .i64 a1_1, .string a1_2, .bool a1_3] 24 (0, 0)) (by (with_reducible repeat (first | refine blk_drewN ?_ _ | refine blk_drew ?_ | refine blk_alloc ?_ _)); exact BK194.out) hb); have n2_ := Aside0.mk (blk_below (g := gb204) (o := .cells #[.int .i64 t196, .string t197, .slice Ao17 t198.length co17, .bool t201, .string t202] 29 (0, 0)) (by (with_reducible repeat (first | refine blk_drewN ?_ _ | refine blk_drew ?_ | refine blk_alloc ?_ _)); exact BK204.out) hb); have n3_ := Aside0.mk (below_step (by repeat (first | (with_reducible first | exact HB.out | apply below_alloc | apply pw_below_drewN | apply below_drew1 | refine below_set ?_ GE194.out | refine below_set ?_ GE204.out) | exact HB.out)) hb); clear HO_205002; clear BK194; clear BK204; clear HB; have HO_205002 := n0_; have BK194 := n1_; have BK204 := n2_; have HB := n3_; clear n0_ n1_ n2_ n3_; (try clear hb); (try clear hb2); (try clear hk); (try clear hi); have hnb28 := NB204_194.out; have hnc28 := NB194_204.out; have hcz29_0 : w27.cell? ⟨gb204, 0, none⟩ = some (.int .i64 t196) := (blk_cell BK204.out 0).trans rfl; have hcz29_1 : w27.cell? ⟨gb204, 1, none⟩ = some (.string t197) := (blk_cell BK204.out 1).trans rfl; have hcz29_2 : w27.cell? ⟨gb204, 2, none⟩ = some (.slice Ao17 t198.length co17) := (blk_cell BK204.out 2).trans rfl; have hcz29_3 : w27.cell? ⟨gb204, 3, none⟩ = some (.bool t201) := (blk_cell BK204.out 3).trans rfl; have hcz29_4 : w27.cell? ⟨gb204, 4, none⟩ = some (.string t202) := (blk_cell BK204.out 4).trans rfl; have hfz29_0 := blk_frozen BK204.out 0; have hfz29_1 := blk_frozen BK204.out 1; have hfz29_2 := blk_frozen BK204.out 2; have hfz29_3 := blk_frozen BK204.out 3; have hfz29_4 := blk_frozen BK204.out 4)); try go_wp2_with (first | (go_at_call 10; (with_reducible refine (marginalialaw04_alive.calls kj10  true _ ?side1 A24.out).mono ?_); (case side1 => exact HM.at_ HM0.out (by repeat (first | (with_reducible first | exact HB.out | apply below_alloc | apply pw_below_drewN | apply below_drew1 | refine below_set ?_ GE194.out | refine below_set ?_ GE204.out) | exact HB.out))); rintro e w27 ⟨rfl, hb⟩; have n0_ := Aside0.mk (Kd.R_below (by (with_reducible repeat (first | apply Kd.R_alloc | apply Kd.R_drewN | apply Kd.R_drew)); exact HO_205002.out) hb); have n1_ := Aside0.mk (blk_below (g := gb194) (o := .cells #[.int .i64 a1_0, .int .i64 a1_1, .string a1_2, .bool a1_3] 24 (0, 0)) (by (with_reducible repeat (first | refine blk_drewN ?_ _ | refine blk_drew ?_ | refine blk_alloc ?_ _)); exact BK194.out) hb); have n2_ := Aside0.mk (blk_below (g := gb204) (o := .cells #[.int .i64 t196, .string t197, .slice Ao17 t198.length co17, .bool t201, .string t202] 29 (0, 0)) (by (with_reducible repeat (first | refine blk_drewN ?_ _ | refine blk_drew ?_ | refine blk_alloc ?_ _)); exact BK204.out) hb); have n3_ := Aside0.mk (below_step (by repeat (first | (with_reducible first | exact HB.out | apply below_alloc | apply pw_below_drewN | apply below_drew1 | refine below_set ?_ GE194.out | refine below_set ?_ GE204.out) | exact HB.out)) hb); clear HO_205002; clear BK194; clear BK204; clear HB; have HO_205002 := n0_; have BK194 := n1_; have BK204 := n2_; have HB := n3_; clear n0_ n1_ n2_ n3_; (try clear hb); (try clear hb2); (try clear hk); (try clear hi); have hnb28 := NB204_194.out; have hnc28 := NB194_204.out; have hcz29_0 : w27.cell? ⟨gb204, 0, none⟩ = some (.int .i64 t196) := (blk_cell BK204.out 0).trans rfl; have hcz29_1 : w27.cell? ⟨gb204, 1, none⟩ = some (.string t197) := (blk_cell BK204.out 1).trans rfl; have hcz29_2 : w27.cell? ⟨gb204, 2, none⟩ = some (.slice Ao17 t198.length co17) := (blk_cell BK204.out 2).trans rfl; have hcz29_3 : w27.cell? ⟨gb204, 3, none⟩ = some (.bool t201) := (blk_cell BK204.out 3).trans rfl; have hcz29_4 : w27.cell? ⟨gb204, 4, none⟩ = some (.string t202) := (blk_cell BK204.out 4).trans rfl; have hfz29_0 := blk_frozen BK204.out 0; have hfz29_1 := blk_frozen BK204.out 1; have hfz29_2 := blk_frozen BK204.out 2; have hfz29_3 := blk_frozen BK204.out 3; have hfz29_4 := blk_frozen BK204.out 4)))
                  go_ret
                  exact ⟨by first | rfl | (simp [errW_none, errW_some] <;> rfl) | (simp [*, errW_none, errW_some] <;> rfl), by repeat (first | (with_reducible first | exact HB.out | apply below_alloc | apply pw_below_drewN | apply below_drew1 | refine below_set ?_ GE194.out | refine below_set ?_ GE204.out) | exact HB.out)⟩
                · rw [if_neg c26] at H
                  have c26b0 : (t196 == 0) = false := beq_eq_false_iff_ne.mpr c26
                  have c26b1 : (t196 != 0) = true := bne_iff_ne.mpr c26
                  obtain rfl := Option.some.inj H
                  go_wp2_with (first | (go_at_call 10; (with_reducible refine (marginalialaw04_alive.calls kj10  true _ ?side1 A24.out).mono ?_); (case side1 => exact HM.at_ HM0.out (by repeat (first | (with_reducible first | exact HB.out | apply below_alloc | apply pw_below_drewN | apply below_drew1 | refine below_set ?_ GE194.out | refine below_set ?_ GE204.out) | exact HB.out))); rintro e w30 ⟨rfl, hb⟩; have n0_ := Aside0.mk (Kd.R_below (by (with_reducible repeat (first | apply Kd.R_alloc | apply Kd.R_drewN | apply Kd.R_drew)); exact HO_205002.out) hb); have n1_ := Aside0.mk (blk_below (g := gb194) (o := .cells #[.int .i64 a1_0, .int .i64 a1_1, .string a1_2, .bool a1_3] 24 (0, 0)) (by (with_reducible repeat (first | refine blk_drewN ?_ _ | refine blk_drew ?_ | refine blk_alloc ?_ _)); exact BK194.out) hb); have n2_ := Aside0.mk (blk_below (g := gb204) (o := .cells #[.int .i64 t196, .string t197, .slice Ao17 t198.length co17, .bool t201, .string t202] 29 (0, 0)) (by (with_reducible repeat (first | refine blk_drewN ?_ _ | refine blk_drew ?_ | refine blk_alloc ?_ _)); exact BK204.out) hb); have n3_ := Aside0.mk (below_step (by repeat (first | (with_reducible first | exact HB.out | apply below_alloc | apply pw_below_drewN | apply below_drew1 | refine below_set ?_ GE194.out | refine below_set ?_ GE204.out) | exact HB.out)) hb); clear HO_205002; clear BK194; clear BK204; clear HB; have HO_205002 := n0_; have BK194 := n1_; have BK204 := n2_; have HB := n3_; clear n0_ n1_ n2_ n3_; (try clear hb); (try clear hb2); (try clear hk); (try clear hi); have hnb31 := NB204_194.out; have hnc31 := NB194_204.out; have hcz32_0 : w30.cell? ⟨gb204, 0, none⟩ = some (.int .i64 t196) := (blk_cell BK204.out 0).trans rfl; have hcz32_1 : w30.cell? ⟨gb204, 1, none⟩ = some (.string t197) := (blk_cell BK204.out 1).trans rfl; have hcz32_2 : w30.cell? ⟨gb204, 2, none⟩ = some (.slice Ao17 t198.length co17) := (blk_cell BK204.out 2).trans rfl; have hcz32_3 : w30.cell? ⟨gb204, 3, none⟩ = some (.bool t201) := (blk_cell BK204.out 3).trans rfl; have hcz32_4 : w30.cell? ⟨gb204, 4, none⟩ = some (.string t202) := (blk_cell BK204.out 4).trans rfl; have hfz32_0 := blk_frozen BK204.out 0; have hfz32_1 := blk_frozen BK204.out 1; have hfz32_2 := blk_frozen BK204.out 2; have hfz32_3 := blk_frozen BK204.out 3; have hfz32_4 := blk_frozen BK204.out 4))
                  repeat (go_quiet (first | (go_at_call 10; (with_reducible refine (marginalialaw04_alive.calls kj10  true _ ?side1 A24.out).mono ?_); (case side1 => exact HM.at_ HM0.out (by repeat (first | (with_reducible first | exact HB.out | apply below_alloc | apply pw_below_drewN | apply below_drew1 | refine below_set ?_ GE194.out | refine below_set ?_ GE204.out) | exact HB.out))); rintro e w30 ⟨rfl, hb⟩; have n0_ := Aside0.mk (Kd.R_below (by (with_reducible repeat (first | apply Kd.R_alloc | apply Kd.R_drewN | apply Kd.R_drew)); exact HO_205002.out) hb); have n1_ := Aside0.mk (blk_below (g := gb194) (o := .cells #[.int .i64 a1_0, .int .i64 a1_1, .string a1_2, .bool a1_3] 24 (0, 0)) (by (with_reducible repeat (first | refine blk_drewN ?_ _ | refine blk_drew ?_ | refine blk_alloc ?_ _)); exact BK194.out) hb); have n2_ := Aside0.mk (blk_below (g := gb204) (o := .cells #[.int .i64 t196, .string t197, .slice Ao17 t198.length co17, .bool t201, .string t202] 29 (0, 0)) (by (with_reducible repeat (first | refine blk_drewN ?_ _ | refine blk_drew ?_ | refine blk_alloc ?_ _)); exact BK204.out) hb); have n3_ := Aside0.mk (below_step (by repeat (first | (with_reducible first | exact HB.out | apply below_alloc | apply pw_below_drewN | apply below_drew1 | refine below_set ?_ GE194.out | refine below_set ?_ GE204.out) | exact HB.out)) hb); clear HO_205002; clear BK194; clear BK204; clear HB; have HO_205002 := n0_; have BK194 := n1_; have BK204 := n2_; have HB := n3_; clear n0_ n1_ n2_ n3_; (try clear hb); (try clear hb2); (try clear hk); (try clear hi); have hnb31 := NB204_194.out; have hnc31 := NB194_204.out; have hcz32_0 : w30.cell? ⟨gb204, 0, none⟩ = some (.int .i64 t196) := (blk_cell BK204.out 0).trans rfl; have hcz32_1 : w30.cell? ⟨gb204, 1, none⟩ = some (.string t197) := (blk_cell BK204.out 1).trans rfl; have hcz32_2 : w30.cell? ⟨gb204, 2, none⟩ = some (.slice Ao17 t198.length co17) := (blk_cell BK204.out 2).trans rfl; have hcz32_3 : w30.cell? ⟨gb204, 3, none⟩ = some (.bool t201) := (blk_cell BK204.out 3).trans rfl; have hcz32_4 : w30.cell? ⟨gb204, 4, none⟩ = some (.string t202) := (blk_cell BK204.out 4).trans rfl; have hfz32_0 := blk_frozen BK204.out 0; have hfz32_1 := blk_frozen BK204.out 1; have hfz32_2 := blk_frozen BK204.out 2; have hfz32_3 := blk_frozen BK204.out 3; have hfz32_4 := blk_frozen BK204.out 4)); try go_wp2_with (first | (go_at_call 10; (with_reducible refine (marginalialaw04_alive.calls kj10  true _ ?side1 A24.out).mono ?_); (case side1 => exact HM.at_ HM0.out (by repeat (first | (with_reducible first | exact HB.out | apply below_alloc | apply pw_below_drewN | apply below_drew1 | refine below_set ?_ GE194.out | refine below_set ?_ GE204.out) | exact HB.out))); rintro e w30 ⟨rfl, hb⟩; have n0_ := Aside0.mk (Kd.R_below (by (with_reducible repeat (first | apply Kd.R_alloc | apply Kd.R_drewN | apply Kd.R_drew)); exact HO_205002.out) hb); have n1_ := Aside0.mk (blk_below (g := gb194) (o := .cells #[.int .i64 a1_0, .int .i64 a1_1, .string a1_2, .bool a1_3] 24 (0, 0)) (by (with_reducible repeat (first | refine blk_drewN ?_ _ | refine blk_drew ?_ | refine blk_alloc ?_ _)); exact BK194.out) hb); have n2_ := Aside0.mk (blk_below (g := gb204) (o := .cells #[.int .i64 t196, .string t197, .slice Ao17 t198.length co17, .bool t201, .string t202] 29 (0, 0)) (by (with_reducible repeat (first | refine blk_drewN ?_ _ | refine blk_drew ?_ | refine blk_alloc ?_ _)); exact BK204.out) hb); have n3_ := Aside0.mk (below_step (by repeat (first | (with_reducible first | exact HB.out | apply below_alloc | apply pw_below_drewN | apply below_drew1 | refine below_set ?_ GE194.out | refine below_set ?_ GE204.out) | exact HB.out)) hb); clear HO_205002; clear BK194; clear BK204; clear HB; have HO_205002 := n0_; have BK194 := n1_; have BK204 := n2_; have HB := n3_; clear n0_ n1_ n2_ n3_; (try clear hb); (try clear hb2); (try clear hk); (try clear hi); have hnb31 := NB204_194.out; have hnc31 := NB194_204.out; have hcz32_0 : w30.cell? ⟨gb204, 0, none⟩ = some (.int .i64 t196) := (blk_cell BK204.out 0).trans rfl; have hcz32_1 : w30.cell? ⟨gb204, 1, none⟩ = some (.string t197) := (blk_cell BK204.out 1).trans rfl; have hcz32_2 : w30.cell? ⟨gb204, 2, none⟩ = some (.slice Ao17 t198.length co17) := (blk_cell BK204.out 2).trans rfl; have hcz32_3 : w30.cell? ⟨gb204, 3, none⟩ = some (.bool t201) := (blk_cell BK204.out 3).trans rfl; have hcz32_4 : w30.cell? ⟨gb204, 4, none⟩ = some (.string t202) := (blk_cell BK204.out 4).trans rfl; have hfz32_0 := blk_frozen BK204.out 0; have hfz32_1 := blk_frozen BK204.out 1; have hfz32_2 := blk_frozen BK204.out 2; have hfz32_3 := blk_frozen BK204.out 3; have hfz32_4 := blk_frozen BK204.out 4)))
                  go_ret
                  exact ⟨by first | rfl | (simp [errW_none, errW_some] <;> rfl) | (simp [*, errW_none, errW_some] <;> rfl), by repeat (first | (with_reducible first | exact HB.out | apply below_alloc | apply pw_below_drewN | apply below_drew1 | refine below_set ?_ GE194.out | refine below_set ?_ GE204.out) | exact HB.out)⟩
              · replace c25 := Bool.eq_false_iff.mpr c25
                subst c25
                have H1 : (some false) = some r := by rw [if_neg (show ¬ (false = true) by decide)] at H; exact H
                clear H
                have H := H1
                clear H1
                obtain rfl := Option.some.inj H
                go_wp2_with (first | (go_at_call 10; (with_reducible refine (marginalialaw04_alive.calls kj10  false _ ?side1 A24.out).mono ?_); (case side1 => exact HM.at_ HM0.out (by repeat (first | (with_reducible first | exact HB.out | apply below_alloc | apply pw_below_drewN | apply below_drew1 | refine below_set ?_ GE194.out | refine below_set ?_ GE204.out) | exact HB.out))); rintro e w33 ⟨rfl, hb⟩; have n0_ := Aside0.mk (Kd.R_below (by (with_reducible repeat (first | apply Kd.R_alloc | apply Kd.R_drewN | apply Kd.R_drew)); exact HO_205002.out) hb); have n1_ := Aside0.mk (blk_below (g := gb194) (o := .cells #[.int .i64 a1_0, .int .i64 a1_1, .string a1_2, .bool a1_3] 24 (0, 0)) (by (with_reducible repeat (first | refine blk_drewN ?_ _ | refine blk_drew ?_ | refine blk_alloc ?_ _)); exact BK194.out) hb); have n2_ := Aside0.mk (blk_below (g := gb204) (o := .cells #[.int .i64 t196, .string t197, .slice Ao17 t198.length co17, .bool t201, .string t202] 29 (0, 0)) (by (with_reducible repeat (first | refine blk_drewN ?_ _ | refine blk_drew ?_ | refine blk_alloc ?_ _)); exact BK204.out) hb); have n3_ := Aside0.mk (below_step (by repeat (first | (with_reducible first | exact HB.out | apply below_alloc | apply pw_below_drewN | apply below_drew1 | refine below_set ?_ GE194.out | refine below_set ?_ GE204.out) | exact HB.out)) hb); clear HO_205002; clear BK194; clear BK204; clear HB; have HO_205002 := n0_; have BK194 := n1_; have BK204 := n2_; have HB := n3_; clear n0_ n1_ n2_ n3_; (try clear hb); (try clear hb2); (try clear hk); (try clear hi)))
                repeat (go_quiet (first | (go_at_call 10; (with_reducible refine (marginalialaw04_alive.calls kj10  false _ ?side1 A24.out).mono ?_); (case side1 => exact HM.at_ HM0.out (by repeat (first | (with_reducible first | exact HB.out | apply below_alloc | apply pw_below_drewN | apply below_drew1 | refine below_set ?_ GE194.out | refine below_set ?_ GE204.out) | exact HB.out))); rintro e w33 ⟨rfl, hb⟩; have n0_ := Aside0.mk (Kd.R_below (by (with_reducible repeat (first | apply Kd.R_alloc | apply Kd.R_drewN | apply Kd.R_drew)); exact HO_205002.out) hb); have n1_ := Aside0.mk (blk_below (g := gb194) (o := .cells #[.int .i64 a1_0, .int .i64 a1_1, .string a1_2, .bool a1_3] 24 (0, 0)) (by (with_reducible repeat (first | refine blk_drewN ?_ _ | refine blk_drew ?_ | refine blk_alloc ?_ _)); exact BK194.out) hb); have n2_ := Aside0.mk (blk_below (g := gb204) (o := .cells #[.int .i64 t196, .string t197, .slice Ao17 t198.length co17, .bool t201, .string t202] 29 (0, 0)) (by (with_reducible repeat (first | refine blk_drewN ?_ _ | refine blk_drew ?_ | refine blk_alloc ?_ _)); exact BK204.out) hb); have n3_ := Aside0.mk (below_step (by repeat (first | (with_reducible first | exact HB.out | apply below_alloc | apply pw_below_drewN | apply below_drew1 | refine below_set ?_ GE194.out | refine below_set ?_ GE204.out) | exact HB.out)) hb); clear HO_205002; clear BK194; clear BK204; clear HB; have HO_205002 := n0_; have BK194 := n1_; have BK204 := n2_; have HB := n3_; clear n0_ n1_ n2_ n3_; (try clear hb); (try clear hb2); (try clear hk); (try clear hi))); try go_wp2_with (first | (go_at_call 10; (with_reducible refine (marginalialaw04_alive.calls kj10  false _ ?side1 A24.out).mono ?_); (case side1 => exact HM.at_ HM0.out (by repeat (first | (with_reducible first | exact HB.out | apply below_alloc | apply pw_below_drewN | apply below_drew1 | refine below_set ?_ GE194.out | refine below_set ?_ GE204.out) | exact HB.out))); rintro e w33 ⟨rfl, hb⟩; have n0_ := Aside0.mk (Kd.R_below (by (with_reducible repeat (first | apply Kd.R_alloc | apply Kd.R_drewN | apply Kd.R_drew)); exact HO_205002.out) hb); have n1_ := Aside0.mk (blk_below (g := gb194) (o := .cells #[.int .i64 a1_0, .int .i64 a1_1, .string a1_2, .bool a1_3] 24 (0, 0)) (by (with_reducible repeat (first | refine blk_drewN ?_ _ | refine blk_drew ?_ | refine blk_alloc ?_ _)); exact BK194.out) hb); have n2_ := Aside0.mk (blk_below (g := gb204) (o := .cells #[.int .i64 t196, .string t197, .slice Ao17 t198.length co17, .bool t201, .string t202] 29 (0, 0)) (by (with_reducible repeat (first | refine blk_drewN ?_ _ | refine blk_drew ?_ | refine blk_alloc ?_ _)); exact BK204.out) hb); have n3_ := Aside0.mk (below_step (by repeat (first | (with_reducible first | exact HB.out | apply below_alloc | apply pw_below_drewN | apply below_drew1 | refine below_set ?_ GE194.out | refine below_set ?_ GE204.out) | exact HB.out)) hb); clear HO_205002; clear BK194; clear BK204; clear HB; have HO_205002 := n0_; have BK194 := n1_; have BK204 := n2_; have HB := n3_; clear n0_ n1_ n2_ n3_; (try clear hb); (try clear hb2); (try clear hk); (try clear hi))))
                go_ret
                exact ⟨by first | rfl | (simp [errW_none, errW_some] <;> rfl) | (simp [*, errW_none, errW_some] <;> rfl), by repeat (first | (with_reducible first | exact HB.out | apply below_alloc | apply pw_below_drewN | apply below_drew1 | refine below_set ?_ GE194.out | refine below_set ?_ GE204.out) | exact HB.out)⟩
            · replace c23 := Bool.eq_false_iff.mpr c23
              subst c23
              have H1 : (if t203 ≤ a1_0 then (marginalialaw04_TokenOnward.j2 kj10 true t196 t197 t198 t201 t202) else (if t203 > (a0.size : Int) then (marginalialaw04_TokenOnward.j2 kj10 true t196 t197 t198 t201 t202) else (if t196 = 0 then (marginalialaw04_TokenOnward.j2 kj10 (t203 != (a0.size : Int)) t196 t197 t198 t201 t202) else (marginalialaw04_TokenOnward.j2 kj10 false t196 t197 t198 t201 t202)))) = some r := by rw [if_neg (show ¬ (false = true) by decide)] at H; exact H
              clear H
              have H := H1
              clear H1
              have HC34 := Aside0.mk H
              clear H
              go_upto_region 6 with (fail)
              repeat (go_quiet (fail); go_upto_region 6 with (fail))
              go_cut [74] (fun v74 wc => ∃ (kq : Nat) (x74_33 : Bool), v74 = .bool x74_33 ∧ Aside0 (marginalialaw04_TokenOnward.j2 kq x74_33 t196 t197 t198 t201 t202 = some r) ∧ Aside0 (kq ≤ kj10) ∧ Aside0 (Kd.R k41 41 wc w.heap.size (fun _ => True) (.slice Ao17 t198.length co17) t198) ∧ Aside0 (wc.heap[gb194]? = some (.cells #[.int .i64 a1_0, .int .i64 a1_1, .string a1_2, .bool a1_3] 24 (0, 0))) ∧ Aside0 (wc.heap[gb204]? = some (.cells #[.int .i64 t196, .string t197, (.slice Ao17 t198.length co17), .bool t201, .string t202] 29 (0, 0))) ∧ Aside0 (Below w.heap.size w wc))
              case first =>
                have H := HC34.out
                clear HC34
                by_cases c35 : t203 ≤ a1_0
                · rw [if_pos c35] at H
                  have c35b0 : decide (t203 ≤ a1_0) = true := decide_eq_true c35
                  clear c35
                  (first | rw [c35b0] | (simp only [i64_w, i32_w]; rw [c35b0]) | skip)
                  have H' := Aside0.mk H
                  clear H
                  have hnb36 := NB194_204.out
                  have hnc36 := NB204_194.out
                  have hcz37_0 : wc.cell? ⟨gb194, 0, none⟩ = some (.int .i64 a1_0) := (blk_cell BK194.out 0).trans rfl
                  have hcz37_1 : wc.cell? ⟨gb194, 1, none⟩ = some (.int .i64 a1_1) := (blk_cell BK194.out 1).trans rfl
                  have hcz37_2 : wc.cell? ⟨gb194, 2, none⟩ = some (.string a1_2) := (blk_cell BK194.out 2).trans rfl
                  have hcz37_3 : wc.cell? ⟨gb194, 3, none⟩ = some (.bool a1_3) := (blk_cell BK194.out 3).trans rfl
                  have hfz37_0 := blk_frozen BK194.out 0
                  have hfz37_1 := blk_frozen BK194.out 1
                  have hfz37_2 := blk_frozen BK194.out 2
                  have hfz37_3 := blk_frozen BK194.out 3
                  go_wp2
                  repeat (go_quiet (fail); try go_wp2)
                  go_meet
                  case rel => exact ⟨_, (true), (by first | rfl | (simp; done) | (simp [*]; done)), H', ⟨by have := HJ2.out; have := HJ10.out; first | omega | exact Nat.le_refl _⟩, ⟨by (with_reducible repeat (first | apply Kd.R_alloc | apply Kd.R_drewN | apply Kd.R_drew)); exact HO_205002.out⟩, ⟨by (with_reducible repeat (first | refine blk_drewN ?_ _ | refine blk_drew ?_ | refine blk_alloc ?_ _)); exact BK194.out⟩, ⟨by (with_reducible repeat (first | refine blk_drewN ?_ _ | refine blk_drew ?_ | refine blk_alloc ?_ _)); exact BK204.out⟩, ⟨by repeat (first | (with_reducible first | exact HB.out | apply below_alloc | apply pw_below_drewN | apply below_drew1 | refine below_set ?_ GE194.out | refine below_set ?_ GE204.out) | exact HB.out)⟩⟩
                · rw [if_neg c35] at H
                  have c35b0 : decide (t203 ≤ a1_0) = false := decide_eq_false c35
                  clear c35
                  (first | rw [c35b0] | (simp only [i64_w, i32_w]; rw [c35b0]) | skip)
                  by_cases c38 : t203 > (a0.size : Int)
                  · rw [if_pos c38] at H
                    have c38b0 : decide ((a0.size : Int) < t203) = true := decide_eq_true c38
                    clear c38
                    have H' := Aside0.mk H
                    clear H
                    have hnb39 := NB194_204.out
                    have hnc39 := NB204_194.out
                    have hcz40_0 : wc.cell? ⟨gb194, 0, none⟩ = some (.int .i64 a1_0) := (blk_cell BK194.out 0).trans rfl
                    have hcz40_1 : wc.cell? ⟨gb194, 1, none⟩ = some (.int .i64 a1_1) := (blk_cell BK194.out 1).trans rfl
                    have hcz40_2 : wc.cell? ⟨gb194, 2, none⟩ = some (.string a1_2) := (blk_cell BK194.out 2).trans rfl
                    have hcz40_3 : wc.cell? ⟨gb194, 3, none⟩ = some (.bool a1_3) := (blk_cell BK194.out 3).trans rfl
                    have hfz40_0 := blk_frozen BK194.out 0
                    have hfz40_1 := blk_frozen BK194.out 1
                    have hfz40_2 := blk_frozen BK194.out 2
                    have hfz40_3 := blk_frozen BK194.out 3
                    go_wp2
                    repeat (go_quiet (fail); try go_wp2)
                    go_meet
                    case rel => exact ⟨_, (true), (by first | rfl | (simp; done) | (simp [*]; done)), H', ⟨by have := HJ2.out; have := HJ10.out; first | omega | exact Nat.le_refl _⟩, ⟨by (with_reducible repeat (first | apply Kd.R_alloc | apply Kd.R_drewN | apply Kd.R_drew)); exact HO_205002.out⟩, ⟨by (with_reducible repeat (first | refine blk_drewN ?_ _ | refine blk_drew ?_ | refine blk_alloc ?_ _)); exact BK194.out⟩, ⟨by (with_reducible repeat (first | refine blk_drewN ?_ _ | refine blk_drew ?_ | refine blk_alloc ?_ _)); exact BK204.out⟩, ⟨by repeat (first | (with_reducible first | exact HB.out | apply below_alloc | apply pw_below_drewN | apply below_drew1 | refine below_set ?_ GE194.out | refine below_set ?_ GE204.out) | exact HB.out)⟩⟩
                  · rw [if_neg c38] at H
                    have c38b0 : decide ((a0.size : Int) < t203) = false := decide_eq_false c38
                    clear c38
                    by_cases c41 : t196 = 0
                    · rw [if_pos c41] at H
                      have c41b0 : (t196 == 0) = true := beq_iff_eq.mpr c41
                      have c41b1 : (t196 != 0) = false := bne_eq_false_iff_eq.mpr c41
                      clear c41
                      have H' := Aside0.mk H
                      clear H
                      have hnb42 := NB194_204.out
                      have hnc42 := NB204_194.out
                      have hcz43_0 : wc.cell? ⟨gb194, 0, none⟩ = some (.int .i64 a1_0) := (blk_cell BK194.out 0).trans rfl
                      have hcz43_1 : wc.cell? ⟨gb194, 1, none⟩ = some (.int .i64 a1_1) := (blk_cell BK194.out 1).trans rfl
                      have hcz43_2 : wc.cell? ⟨gb194, 2, none⟩ = some (.string a1_2) := (blk_cell BK194.out 2).trans rfl
                      have hcz43_3 : wc.cell? ⟨gb194, 3, none⟩ = some (.bool a1_3) := (blk_cell BK194.out 3).trans rfl
                      have hfz43_0 := blk_frozen BK194.out 0
                      have hfz43_1 := blk_frozen BK194.out 1
                      have hfz43_2 := blk_frozen BK194.out 2
                      have hfz43_3 := blk_frozen BK194.out 3
                      have hcz44_0 : wc.cell? ⟨gb204, 0, none⟩ = some (.int .i64 t196) := (blk_cell BK204.out 0).trans rfl
                      have hcz44_1 : wc.cell? ⟨gb204, 1, none⟩ = some (.string t197) := (blk_cell BK204.out 1).trans rfl
                      have hcz44_2 : wc.cell? ⟨gb204, 2, none⟩ = some (.slice Ao17 t198.length co17) := (blk_cell BK204.out 2).trans rfl
                      have hcz44_3 : wc.cell? ⟨gb204, 3, none⟩ = some (.bool t201) := (blk_cell BK204.out 3).trans rfl
                      have hcz44_4 : wc.cell? ⟨gb204, 4, none⟩ = some (.string t202) := (blk_cell BK204.out 4).trans rfl
                      have hfz44_0 := blk_frozen BK204.out 0
                      have hfz44_1 := blk_frozen BK204.out 1
                      have hfz44_2 := blk_frozen BK204.out 2
                      have hfz44_3 := blk_frozen BK204.out 3
                      have hfz44_4 := blk_frozen BK204.out 4
                      go_wp2
                      repeat (go_quiet (fail); try go_wp2)
                      go_meet
                      case rel => exact ⟨_, ((t203 != (a0.size : Int))), (by first | rfl | (simp; done) | (simp [*]; done)), H', ⟨by have := HJ2.out; have := HJ10.out; first | omega | exact Nat.le_refl _⟩, ⟨by (with_reducible repeat (first | apply Kd.R_alloc | apply Kd.R_drewN | apply Kd.R_drew)); exact HO_205002.out⟩, ⟨by (with_reducible repeat (first | refine blk_drewN ?_ _ | refine blk_drew ?_ | refine blk_alloc ?_ _)); exact BK194.out⟩, ⟨by (with_reducible repeat (first | refine blk_drewN ?_ _ | refine blk_drew ?_ | refine blk_alloc ?_ _)); exact BK204.out⟩, ⟨by repeat (first | (with_reducible first | exact HB.out | apply below_alloc | apply pw_below_drewN | apply below_drew1 | refine below_set ?_ GE194.out | refine below_set ?_ GE204.out) | exact HB.out)⟩⟩
                    · rw [if_neg c41] at H
                      have c41b0 : (t196 == 0) = false := beq_eq_false_iff_ne.mpr c41
                      have c41b1 : (t196 != 0) = true := bne_iff_ne.mpr c41
                      have H' := Aside0.mk H
                      clear H
                      have hnb45 := NB194_204.out
                      have hnc45 := NB204_194.out
                      have hcz46_0 : wc.cell? ⟨gb194, 0, none⟩ = some (.int .i64 a1_0) := (blk_cell BK194.out 0).trans rfl
                      have hcz46_1 : wc.cell? ⟨gb194, 1, none⟩ = some (.int .i64 a1_1) := (blk_cell BK194.out 1).trans rfl
                      have hcz46_2 : wc.cell? ⟨gb194, 2, none⟩ = some (.string a1_2) := (blk_cell BK194.out 2).trans rfl
                      have hcz46_3 : wc.cell? ⟨gb194, 3, none⟩ = some (.bool a1_3) := (blk_cell BK194.out 3).trans rfl
                      have hfz46_0 := blk_frozen BK194.out 0
                      have hfz46_1 := blk_frozen BK194.out 1
                      have hfz46_2 := blk_frozen BK194.out 2
                      have hfz46_3 := blk_frozen BK194.out 3
                      have hcz47_0 : wc.cell? ⟨gb204, 0, none⟩ = some (.int .i64 t196) := (blk_cell BK204.out 0).trans rfl
                      have hcz47_1 : wc.cell? ⟨gb204, 1, none⟩ = some (.string t197) := (blk_cell BK204.out 1).trans rfl
                      have hcz47_2 : wc.cell? ⟨gb204, 2, none⟩ = some (.slice Ao17 t198.length co17) := (blk_cell BK204.out 2).trans rfl
                      have hcz47_3 : wc.cell? ⟨gb204, 3, none⟩ = some (.bool t201) := (blk_cell BK204.out 3).trans rfl
                      have hcz47_4 : wc.cell? ⟨gb204, 4, none⟩ = some (.string t202) := (blk_cell BK204.out 4).trans rfl
                      have hfz47_0 := blk_frozen BK204.out 0
                      have hfz47_1 := blk_frozen BK204.out 1
                      have hfz47_2 := blk_frozen BK204.out 2
                      have hfz47_3 := blk_frozen BK204.out 3
                      have hfz47_4 := blk_frozen BK204.out 4
                      go_wp2
                      repeat (go_quiet (fail); try go_wp2)
                      go_meet
                      case rel => exact ⟨_, (false), (by first | rfl | (simp; done) | (simp [*]; done)), H', ⟨by have := HJ2.out; have := HJ10.out; first | omega | exact Nat.le_refl _⟩, ⟨by (with_reducible repeat (first | apply Kd.R_alloc | apply Kd.R_drewN | apply Kd.R_drew)); exact HO_205002.out⟩, ⟨by (with_reducible repeat (first | refine blk_drewN ?_ _ | refine blk_drew ?_ | refine blk_alloc ?_ _)); exact BK194.out⟩, ⟨by (with_reducible repeat (first | refine blk_drewN ?_ _ | refine blk_drew ?_ | refine blk_alloc ?_ _)); exact BK204.out⟩, ⟨by repeat (first | (with_reducible first | exact HB.out | apply below_alloc | apply pw_below_drewN | apply below_drew1 | refine below_set ?_ GE194.out | refine below_set ?_ GE204.out) | exact HB.out)⟩⟩
              case rest =>
                clear HC34
                try clear c1
                try clear c2
                try clear p2
                try clear c3
                try clear c4
                try clear c5
                try clear c5b0
                try clear c5b1
                try clear c6
                try clear c7
                try clear c15
                try clear c18
                try clear c18b0
                try clear c19
                try clear c21
                try clear c23
                try clear c25
                try clear c26
                try clear c26b0
                try clear c26b1
                try clear c28
                try clear c31
                try clear c35
                try clear c35b0
                try clear c36
                try clear c38
                try clear c38b0
                try clear c39
                try clear c41
                try clear c41b0
                try clear c41b1
                try clear c42
                try clear c45
                try clear hcz12_0
                try clear hcz12_1
                try clear hcz12_2
                try clear hcz12_3
                try clear hcz16_0
                try clear hcz16_1
                try clear hcz16_2
                try clear hcz16_3
                try clear hcz16_4
                try clear hcz20_0
                try clear hcz20_1
                try clear hcz20_2
                try clear hcz20_3
                try clear hcz22_0
                try clear hcz22_1
                try clear hcz22_2
                try clear hcz22_3
                try clear hcz29_0
                try clear hcz29_1
                try clear hcz29_2
                try clear hcz29_3
                try clear hcz29_4
                try clear hcz32_0
                try clear hcz32_1
                try clear hcz32_2
                try clear hcz32_3
                try clear hcz32_4
                try clear hcz37_0
                try clear hcz37_1
                try clear hcz37_2
                try clear hcz37_3
                try clear hcz40_0
                try clear hcz40_1
                try clear hcz40_2
                try clear hcz40_3
                try clear hcz43_0
                try clear hcz43_1
                try clear hcz43_2
                try clear hcz43_3
                try clear hcz44_0
                try clear hcz44_1
                try clear hcz44_2
                try clear hcz44_3
                try clear hcz44_4
                try clear hcz46_0
                try clear hcz46_1
                try clear hcz46_2
                try clear hcz46_3
                try clear hcz47_0
                try clear hcz47_1
                try clear hcz47_2
                try clear hcz47_3
                try clear hcz47_4
                try clear hcz6_0
                try clear hcz6_1
                try clear hcz6_2
                try clear hcz6_3
                try clear hfz12_0
                try clear hfz12_1
                try clear hfz12_2
                try clear hfz12_3
                try clear hfz16_0
                try clear hfz16_1
                try clear hfz16_2
                try clear hfz16_3
                try clear hfz16_4
                try clear hfz20_0
                try clear hfz20_1
                try clear hfz20_2
                try clear hfz20_3
                try clear hfz22_0
                try clear hfz22_1
                try clear hfz22_2
                try clear hfz22_3
                try clear hfz29_0
                try clear hfz29_1
                try clear hfz29_2
                try clear hfz29_3
                try clear hfz29_4
                try clear hfz32_0
                try clear hfz32_1
                try clear hfz32_2
                try clear hfz32_3
                try clear hfz32_4
                try clear hfz37_0
                try clear hfz37_1
                try clear hfz37_2
                try clear hfz37_3
                try clear hfz40_0
                try clear hfz40_1
                try clear hfz40_2
                try clear hfz40_3
                try clear hfz43_0
                try clear hfz43_1
                try clear hfz43_2
                try clear hfz43_3
                try clear hfz44_0
                try clear hfz44_1
                try clear hfz44_2
                try clear hfz44_3
                try clear hfz44_4
                try clear hfz46_0
                try clear hfz46_1
                try clear hfz46_2
                try clear hfz46_3
                try clear hfz47_0
                try clear hfz47_1
                try clear hfz47_2
                try clear hfz47_3
                try clear hfz47_4
                try clear hfz6_0
                try clear hfz6_1
                try clear hfz6_2
                try clear hfz6_3
                try clear p2
                obtain ⟨kq, x74_33, rfl, HA, HJ33, HO_205002, BK194, BK204, HB⟩ := hcut
                cases kq with
                | zero => exact absurd HA.out (by simp [marginalialaw04_TokenOnward.j2])
                | succ kj33 =>
                  have H := HA.out
                  clear HA
                  simp only [marginalialaw04_TokenOnward.j2] at H
                  by_cases c48 : x74_33 = true
                  · subst c48
                    have H1 : (some false) = some r := by rw [if_pos rfl] at H; exact H
                    clear H
                    have H := H1
                    clear H1
                    obtain rfl := Option.some.inj H
                    go_wp2
                    repeat (go_quiet (fail); try go_wp2)
                    go_ret
                    exact ⟨by first | rfl | (simp [errW_none, errW_some] <;> rfl) | (simp [*, errW_none, errW_some] <;> rfl), by repeat (first | (with_reducible first | exact HB.out | apply below_alloc | apply pw_below_drewN | apply below_drew1 | refine below_set ?_ GE194.out | refine below_set ?_ GE204.out) | exact HB.out)⟩
                  · replace c48 := Bool.eq_false_iff.mpr c48
                    subst c48
                    have H1 : (if t196 = 1 then (marginalialaw04_TokenOnward.j3 kj33 (t202.toList == ([] : List UInt8)) t196 t197 t198 t201 t202) else (marginalialaw04_TokenOnward.j3 kj33 false t196 t197 t198 t201 t202)) = some r := by rw [if_neg (show ¬ (false = true) by decide)] at H; exact H
                    clear H
                    have H := H1
                    clear H1
                    have HC49 := Aside0.mk H
                    clear H
                    go_upto_region 8 with (fail)
                    repeat (go_quiet (fail); go_upto_region 8 with (fail))
                    go_cut [82] (fun v82 wc => ∃ (kq : Nat) (x82_48 : Bool), v82 = .bool x82_48 ∧ Aside0 (marginalialaw04_TokenOnward.j3 kq x82_48 t196 t197 t198 t201 t202 = some r) ∧ Aside0 (kq ≤ kj33) ∧ Aside0 (Kd.R k41 41 wc w.heap.size (fun _ => True) (.slice Ao17 t198.length co17) t198) ∧ Aside0 (wc.heap[gb194]? = some (.cells #[.int .i64 a1_0, .int .i64 a1_1, .string a1_2, .bool a1_3] 24 (0, 0))) ∧ Aside0 (wc.heap[gb204]? = some (.cells #[.int .i64 t196, .string t197, (.slice Ao17 t198.length co17), .bool t201, .string t202] 29 (0, 0))) ∧ Aside0 (Below w.heap.size w wc))
                    case first =>
                      have H := HC49.out
                      clear HC49
                      by_cases c50 : t196 = 1
                      · rw [if_pos c50] at H
                        have c50b0 : (t196 == 1) = true := beq_iff_eq.mpr c50
                        have c50b1 : (t196 != 1) = false := bne_eq_false_iff_eq.mpr c50
                        clear c50
                        (first | rw [c50b0] | (simp only [i64_w, i32_w]; rw [c50b0]) | skip)
                        have H' := Aside0.mk H
                        clear H
                        have hnb51 := NB204_194.out
                        have hnc51 := NB194_204.out
                        have hcz52_0 : wc.cell? ⟨gb204, 0, none⟩ = some (.int .i64 t196) := (blk_cell BK204.out 0).trans rfl
                        have hcz52_1 : wc.cell? ⟨gb204, 1, none⟩ = some (.string t197) := (blk_cell BK204.out 1).trans rfl
                        have hcz52_2 : wc.cell? ⟨gb204, 2, none⟩ = some (.slice Ao17 t198.length co17) := (blk_cell BK204.out 2).trans rfl
                        have hcz52_3 : wc.cell? ⟨gb204, 3, none⟩ = some (.bool t201) := (blk_cell BK204.out 3).trans rfl
                        have hcz52_4 : wc.cell? ⟨gb204, 4, none⟩ = some (.string t202) := (blk_cell BK204.out 4).trans rfl
                        have hfz52_0 := blk_frozen BK204.out 0
                        have hfz52_1 := blk_frozen BK204.out 1
                        have hfz52_2 := blk_frozen BK204.out 2
                        have hfz52_3 := blk_frozen BK204.out 3
                        have hfz52_4 := blk_frozen BK204.out 4
                        go_wp2
                        repeat (go_quiet (fail); try go_wp2)
                        go_meet
                        case rel => exact ⟨_, ((t202.toList == ([] : List UInt8))), (by first | rfl | (simp; done) | (simp [*]; done)), H', ⟨by have := HJ2.out; have := HJ10.out; have := HJ33.out; first | omega | exact Nat.le_refl _⟩, ⟨by (with_reducible repeat (first | apply Kd.R_alloc | apply Kd.R_drewN | apply Kd.R_drew)); exact HO_205002.out⟩, ⟨by (with_reducible repeat (first | refine blk_drewN ?_ _ | refine blk_drew ?_ | refine blk_alloc ?_ _)); exact BK194.out⟩, ⟨by (with_reducible repeat (first | refine blk_drewN ?_ _ | refine blk_drew ?_ | refine blk_alloc ?_ _)); exact BK204.out⟩, ⟨by repeat (first | (with_reducible first | exact HB.out | apply below_alloc | apply pw_below_drewN | apply below_drew1 | refine below_set ?_ GE194.out | refine below_set ?_ GE204.out) | exact HB.out)⟩⟩
                      · rw [if_neg c50] at H
                        have c50b0 : (t196 == 1) = false := beq_eq_false_iff_ne.mpr c50
                        have c50b1 : (t196 != 1) = true := bne_iff_ne.mpr c50
                        (first | rw [c50b0] | (simp only [i64_w, i32_w]; rw [c50b0]) | skip)
                        have H' := Aside0.mk H
                        clear H
                        have hnb53 := NB204_194.out
                        have hnc53 := NB194_204.out
                        have hcz54_0 : wc.cell? ⟨gb204, 0, none⟩ = some (.int .i64 t196) := (blk_cell BK204.out 0).trans rfl
                        have hcz54_1 : wc.cell? ⟨gb204, 1, none⟩ = some (.string t197) := (blk_cell BK204.out 1).trans rfl
                        have hcz54_2 : wc.cell? ⟨gb204, 2, none⟩ = some (.slice Ao17 t198.length co17) := (blk_cell BK204.out 2).trans rfl
                        have hcz54_3 : wc.cell? ⟨gb204, 3, none⟩ = some (.bool t201) := (blk_cell BK204.out 3).trans rfl
                        have hcz54_4 : wc.cell? ⟨gb204, 4, none⟩ = some (.string t202) := (blk_cell BK204.out 4).trans rfl
                        have hfz54_0 := blk_frozen BK204.out 0
                        have hfz54_1 := blk_frozen BK204.out 1
                        have hfz54_2 := blk_frozen BK204.out 2
                        have hfz54_3 := blk_frozen BK204.out 3
                        have hfz54_4 := blk_frozen BK204.out 4
                        go_wp2
                        repeat (go_quiet (fail); try go_wp2)
                        go_meet
                        case rel => exact ⟨_, (false), (by first | rfl | (simp; done) | (simp [*]; done)), H', ⟨by have := HJ2.out; have := HJ10.out; have := HJ33.out; first | omega | exact Nat.le_refl _⟩, ⟨by (with_reducible repeat (first | apply Kd.R_alloc | apply Kd.R_drewN | apply Kd.R_drew)); exact HO_205002.out⟩, ⟨by (with_reducible repeat (first | refine blk_drewN ?_ _ | refine blk_drew ?_ | refine blk_alloc ?_ _)); exact BK194.out⟩, ⟨by (with_reducible repeat (first | refine blk_drewN ?_ _ | refine blk_drew ?_ | refine blk_alloc ?_ _)); exact BK204.out⟩, ⟨by repeat (first | (with_reducible first | exact HB.out | apply below_alloc | apply pw_below_drewN | apply below_drew1 | refine below_set ?_ GE194.out | refine below_set ?_ GE204.out) | exact HB.out)⟩⟩
                    case rest =>
                      clear HC49
                      try clear c1
                      try clear c2
                      try clear p2
                      try clear c3
                      try clear c4
                      try clear c5
                      try clear c5b0
                      try clear c5b1
                      try clear c6
                      try clear c7
                      try clear c15
                      try clear c18
                      try clear c18b0
                      try clear c19
                      try clear c21
                      try clear c23
                      try clear c25
                      try clear c26
                      try clear c26b0
                      try clear c26b1
                      try clear c28
                      try clear c31
                      try clear c35
                      try clear c35b0
                      try clear c36
                      try clear c38
                      try clear c38b0
                      try clear c39
                      try clear c41
                      try clear c41b0
                      try clear c41b1
                      try clear c42
                      try clear c45
                      try clear c48
                      try clear c50
                      try clear c50b0
                      try clear c50b1
                      try clear c51
                      try clear c53
                      try clear hcz12_0
                      try clear hcz12_1
                      try clear hcz12_2
                      try clear hcz12_3
                      try clear hcz16_0
                      try clear hcz16_1
                      try clear hcz16_2
                      try clear hcz16_3
                      try clear hcz16_4
                      try clear hcz20_0
                      try clear hcz20_1
                      try clear hcz20_2
                      try clear hcz20_3
                      try clear hcz22_0
                      try clear hcz22_1
                      try clear hcz22_2
                      try clear hcz22_3
                      try clear hcz29_0
                      try clear hcz29_1
                      try clear hcz29_2
                      try clear hcz29_3
                      try clear hcz29_4
                      try clear hcz32_0
                      try clear hcz32_1
                      try clear hcz32_2
                      try clear hcz32_3
                      try clear hcz32_4
                      try clear hcz37_0
                      try clear hcz37_1
                      try clear hcz37_2
                      try clear hcz37_3
                      try clear hcz40_0
                      try clear hcz40_1
                      try clear hcz40_2
                      try clear hcz40_3
                      try clear hcz43_0
                      try clear hcz43_1
                      try clear hcz43_2
                      try clear hcz43_3
                      try clear hcz44_0
                      try clear hcz44_1
                      try clear hcz44_2
                      try clear hcz44_3
                      try clear hcz44_4
                      try clear hcz46_0
                      try clear hcz46_1
                      try clear hcz46_2
                      try clear hcz46_3
                      try clear hcz47_0
                      try clear hcz47_1
                      try clear hcz47_2
                      try clear hcz47_3
                      try clear hcz47_4
                      try clear hcz52_0
                      try clear hcz52_1
                      try clear hcz52_2
                      try clear hcz52_3
                      try clear hcz52_4
                      try clear hcz54_0
                      try clear hcz54_1
                      try clear hcz54_2
                      try clear hcz54_3
                      try clear hcz54_4
                      try clear hcz6_0
                      try clear hcz6_1
                      try clear hcz6_2
                      try clear hcz6_3
                      try clear hfz12_0
                      try clear hfz12_1
                      try clear hfz12_2
                      try clear hfz12_3
                      try clear hfz16_0
                      try clear hfz16_1
                      try clear hfz16_2
                      try clear hfz16_3
                      try clear hfz16_4
                      try clear hfz20_0
                      try clear hfz20_1
                      try clear hfz20_2
                      try clear hfz20_3
                      try clear hfz22_0
                      try clear hfz22_1
                      try clear hfz22_2
                      try clear hfz22_3
                      try clear hfz29_0
                      try clear hfz29_1
                      try clear hfz29_2
                      try clear hfz29_3
                      try clear hfz29_4
                      try clear hfz32_0
                      try clear hfz32_1
                      try clear hfz32_2
                      try clear hfz32_3
                      try clear hfz32_4
                      try clear hfz37_0
                      try clear hfz37_1
                      try clear hfz37_2
                      try clear hfz37_3
                      try clear hfz40_0
                      try clear hfz40_1
                      try clear hfz40_2
                      try clear hfz40_3
                      try clear hfz43_0
                      try clear hfz43_1
                      try clear hfz43_2
                      try clear hfz43_3
                      try clear hfz44_0
                      try clear hfz44_1
                      try clear hfz44_2
                      try clear hfz44_3
                      try clear hfz44_4
                      try clear hfz46_0
                      try clear hfz46_1
                      try clear hfz46_2
                      try clear hfz46_3
                      try clear hfz47_0
                      try clear hfz47_1
                      try clear hfz47_2
                      try clear hfz47_3
                      try clear hfz47_4
                      try clear hfz52_0
                      try clear hfz52_1
                      try clear hfz52_2
                      try clear hfz52_3
                      try clear hfz52_4
                      try clear hfz54_0
                      try clear hfz54_1
                      try clear hfz54_2
                      try clear hfz54_3
                      try clear hfz54_4
                      try clear hfz6_0
                      try clear hfz6_1
                      try clear hfz6_2
                      try clear hfz6_3
                      try clear p2
                      obtain ⟨kq, x82_48, rfl, HA, HJ48, HO_205002, BK194, BK204, HB⟩ := hcut
                      cases kq with
                      | zero => exact absurd HA.out (by simp [marginalialaw04_TokenOnward.j3])
                      | succ kj48 =>
                        have H := HA.out
                        clear HA
                        simp only [marginalialaw04_TokenOnward.j3] at H
                        by_cases c55 : x82_48 = true
                        · subst c55
                          have H1 : (some false) = some r := by rw [if_pos rfl] at H; exact H
                          clear H
                          have H := H1
                          clear H1
                          obtain rfl := Option.some.inj H
                          go_wp2
                          repeat (go_quiet (fail); try go_wp2)
                          go_ret
                          exact ⟨by first | rfl | (simp [errW_none, errW_some] <;> rfl) | (simp [*, errW_none, errW_some] <;> rfl), by repeat (first | (with_reducible first | exact HB.out | apply below_alloc | apply pw_below_drewN | apply below_drew1 | refine below_set ?_ GE194.out | refine below_set ?_ GE204.out) | exact HB.out)⟩
                        · replace c55 := Bool.eq_false_iff.mpr c55
                          subst c55
                          have H1 : (if t196 = 2 then (if t197.toList = ([] : List UInt8) then (marginalialaw04_TokenOnward.j4 kj48 true t196 t197 t198 t201 t202) else (if 0 < (t197.size : Int) then (if (bt t197 0) < 97 then (marginalialaw04_TokenOnward.j4 kj48 true t196 t197 t198 t201 t202) else (marginalialaw04_TokenOnward.j4 kj48 (decide ((bt t197 0) > 122)) t196 t197 t198 t201 t202)) else (none))) else (marginalialaw04_TokenOnward.j4 kj48 false t196 t197 t198 t201 t202)) = some r := by rw [if_neg (show ¬ (false = true) by decide)] at H; exact H
                          clear H
                          have H := H1
                          clear H1
                          have HC56 := Aside0.mk H
                          clear H
                          go_upto_region 10 with (fail)
                          repeat (go_quiet (fail); go_upto_region 10 with (fail))
                          go_cut [102] (fun v102 wc => ∃ (kq : Nat) (x102_55 : Bool), v102 = .bool x102_55 ∧ Aside0 (marginalialaw04_TokenOnward.j4 kq x102_55 t196 t197 t198 t201 t202 = some r) ∧ Aside0 (kq ≤ kj48) ∧ Aside0 (Kd.R k41 41 wc w.heap.size (fun _ => True) (.slice Ao17 t198.length co17) t198) ∧ Aside0 (wc.heap[gb194]? = some (.cells #[.int .i64 a1_0, .int .i64 a1_1, .string a1_2, .bool a1_3] 24 (0, 0))) ∧ Aside0 (wc.heap[gb204]? = some (.cells #[.int .i64 t196, .string t197, (.slice Ao17 t198.length co17), .bool t201, .string t202] 29 (0, 0))) ∧ Aside0 (Below w.heap.size w wc))
                          case first =>
                            have H := HC56.out
                            clear HC56
                            by_cases c57 : t196 = 2
                            · rw [if_pos c57] at H
                              have c57b0 : (t196 == 2) = true := beq_iff_eq.mpr c57
                              have c57b1 : (t196 != 2) = false := bne_eq_false_iff_eq.mpr c57
                              clear c57
                              (first | rw [c57b0] | (simp only [i64_w, i32_w]; rw [c57b0]) | skip)
                              by_cases c58 : t197.toList = ([] : List UInt8)
                              · rw [if_pos c58] at H
                                have c58b0 : (t197.toList == ([] : List UInt8)) = true := beq_iff_eq.mpr c58
                                have c58b1 : (t197.toList != ([] : List UInt8)) = false := bne_eq_false_iff_eq.mpr c58
                                clear c58
                                have H' := Aside0.mk H
                                clear H
                                have hnb59 := NB204_194.out
                                have hnc59 := NB194_204.out
                                have hcz60_0 : wc.cell? ⟨gb204, 0, none⟩ = some (.int .i64 t196) := (blk_cell BK204.out 0).trans rfl
                                have hcz60_1 : wc.cell? ⟨gb204, 1, none⟩ = some (.string t197) := (blk_cell BK204.out 1).trans rfl
                                have hcz60_2 : wc.cell? ⟨gb204, 2, none⟩ = some (.slice Ao17 t198.length co17) := (blk_cell BK204.out 2).trans rfl
                                have hcz60_3 : wc.cell? ⟨gb204, 3, none⟩ = some (.bool t201) := (blk_cell BK204.out 3).trans rfl
                                have hcz60_4 : wc.cell? ⟨gb204, 4, none⟩ = some (.string t202) := (blk_cell BK204.out 4).trans rfl
                                have hfz60_0 := blk_frozen BK204.out 0
                                have hfz60_1 := blk_frozen BK204.out 1
                                have hfz60_2 := blk_frozen BK204.out 2
                                have hfz60_3 := blk_frozen BK204.out 3
                                have hfz60_4 := blk_frozen BK204.out 4
                                go_wp2
                                repeat (go_quiet (fail); try go_wp2)
                                go_meet
                                case rel => exact ⟨_, (true), (by first | rfl | (simp; done) | (simp [*]; done)), H', ⟨by have := HJ2.out; have := HJ10.out; have := HJ33.out; have := HJ48.out; first | omega | exact Nat.le_refl _⟩, ⟨by (with_reducible repeat (first | apply Kd.R_alloc | apply Kd.R_drewN | apply Kd.R_drew)); exact HO_205002.out⟩, ⟨by (with_reducible repeat (first | refine blk_drewN ?_ _ | refine blk_drew ?_ | refine blk_alloc ?_ _)); exact BK194.out⟩, ⟨by (with_reducible repeat (first | refine blk_drewN ?_ _ | refine blk_drew ?_ | refine blk_alloc ?_ _)); exact BK204.out⟩, ⟨by repeat (first | (with_reducible first | exact HB.out | apply below_alloc | apply pw_below_drewN | apply below_drew1 | refine below_set ?_ GE194.out | refine below_set ?_ GE204.out) | exact HB.out)⟩⟩
                              · rw [if_neg c58] at H
                                have c58b0 : (t197.toList == ([] : List UInt8)) = false := beq_eq_false_iff_ne.mpr c58
                                have c58b1 : (t197.toList != ([] : List UInt8)) = true := bne_iff_ne.mpr c58
                                by_cases c61 : 0 < (t197.size : Int)
                                · rw [if_pos c61] at H
                                  have c61b0 : decide (0 < (t197.size : Int)) = true := decide_eq_true c61
                                  have c61b1 : decide (0 < t197.size) = true := decide_eq_true (by omega)
                                  clear c61
                                  by_cases c63 : (bt t197 0) < 97
                                  · rw [if_pos c63] at H
                                    have c63b0 : decide ((bt t197 0) < 97) = true := decide_eq_true c63
                                    clear c63
                                    have H' := Aside0.mk H
                                    clear H
                                    have hnb64 := NB204_194.out
                                    have hnc64 := NB194_204.out
                                    have hcz65_0 : wc.cell? ⟨gb204, 0, none⟩ = some (.int .i64 t196) := (blk_cell BK204.out 0).trans rfl
                                    have hcz65_1 : wc.cell? ⟨gb204, 1, none⟩ = some (.string t197) := (blk_cell BK204.out 1).trans rfl
                                    have hcz65_2 : wc.cell? ⟨gb204, 2, none⟩ = some (.slice Ao17 t198.length co17) := (blk_cell BK204.out 2).trans rfl
                                    have hcz65_3 : wc.cell? ⟨gb204, 3, none⟩ = some (.bool t201) := (blk_cell BK204.out 3).trans rfl
                                    have hcz65_4 : wc.cell? ⟨gb204, 4, none⟩ = some (.string t202) := (blk_cell BK204.out 4).trans rfl
                                    have hfz65_0 := blk_frozen BK204.out 0
                                    have hfz65_1 := blk_frozen BK204.out 1
                                    have hfz65_2 := blk_frozen BK204.out 2
                                    have hfz65_3 := blk_frozen BK204.out 3
                                    have hfz65_4 := blk_frozen BK204.out 4
                                    have p62 : 0 ≤ (0 : Int) := (by omega)
                                    have q62 : 0 < t197.size := (by have : (0 : Int) < (t197.size : Int) := of_decide_eq_true (by first | (with_reducible assumption) | assumption); omega)
                                    have hx62 : ∀ h : 0 < t197.size, ((t197[0]'h).toNat : Int) = bt t197 0 := bt_at t197 0
                                    clear p62
                                    have qi62 : (0 < (t197.size : Int)) = True := eq_true (of_decide_eq_true (by first | (with_reducible assumption) | assumption))
                                    replace q62 := eq_true q62
                                    go_wp2
                                    repeat (go_quiet (fail); try go_wp2)
                                    go_meet
                                    case rel => exact ⟨_, (true), (by first | rfl | (simp; done) | (simp [*]; done)), H', ⟨by have := HJ2.out; have := HJ10.out; have := HJ33.out; have := HJ48.out; first | omega | exact Nat.le_refl _⟩, ⟨by (with_reducible repeat (first | apply Kd.R_alloc | apply Kd.R_drewN | apply Kd.R_drew)); exact HO_205002.out⟩, ⟨by (with_reducible repeat (first | refine blk_drewN ?_ _ | refine blk_drew ?_ | refine blk_alloc ?_ _)); exact BK194.out⟩, ⟨by (with_reducible repeat (first | refine blk_drewN ?_ _ | refine blk_drew ?_ | refine blk_alloc ?_ _)); exact BK204.out⟩, ⟨by repeat (first | (with_reducible first | exact HB.out | apply below_alloc | apply pw_below_drewN | apply below_drew1 | refine below_set ?_ GE194.out | refine below_set ?_ GE204.out) | exact HB.out)⟩⟩
                                  · rw [if_neg c63] at H
                                    have c63b0 : decide ((bt t197 0) < 97) = false := decide_eq_false c63
                                    clear c63
                                    have H' := Aside0.mk H
                                    clear H
                                    have hnb67 := NB204_194.out
                                    have hnc67 := NB194_204.out
                                    have hcz68_0 : wc.cell? ⟨gb204, 0, none⟩ = some (.int .i64 t196) := (blk_cell BK204.out 0).trans rfl
                                    have hcz68_1 : wc.cell? ⟨gb204, 1, none⟩ = some (.string t197) := (blk_cell BK204.out 1).trans rfl
                                    have hcz68_2 : wc.cell? ⟨gb204, 2, none⟩ = some (.slice Ao17 t198.length co17) := (blk_cell BK204.out 2).trans rfl
                                    have hcz68_3 : wc.cell? ⟨gb204, 3, none⟩ = some (.bool t201) := (blk_cell BK204.out 3).trans rfl
                                    have hcz68_4 : wc.cell? ⟨gb204, 4, none⟩ = some (.string t202) := (blk_cell BK204.out 4).trans rfl
                                    have hfz68_0 := blk_frozen BK204.out 0
                                    have hfz68_1 := blk_frozen BK204.out 1
                                    have hfz68_2 := blk_frozen BK204.out 2
                                    have hfz68_3 := blk_frozen BK204.out 3
                                    have hfz68_4 := blk_frozen BK204.out 4
                                    have p62 : 0 ≤ (0 : Int) := (by omega)
                                    have q62 : 0 < t197.size := (by have : (0 : Int) < (t197.size : Int) := of_decide_eq_true (by first | (with_reducible assumption) | assumption); omega)
                                    have hx62 : ∀ h : 0 < t197.size, ((t197[0]'h).toNat : Int) = bt t197 0 := bt_at t197 0
                                    clear p62
                                    have qi62 : (0 < (t197.size : Int)) = True := eq_true (of_decide_eq_true (by first | (with_reducible assumption) | assumption))
                                    replace q62 := eq_true q62
                                    have p66 : 0 ≤ (0 : Int) := (by omega)
                                    have q66 : 0 < t197.size := (by have : (0 : Int) < (t197.size : Int) := of_decide_eq_true (by first | (with_reducible assumption) | assumption); omega)
                                    have hx66 : ∀ h : 0 < t197.size, ((t197[0]'h).toNat : Int) = bt t197 0 := bt_at t197 0
                                    clear p66
                                    have qi66 : (0 < (t197.size : Int)) = True := eq_true (of_decide_eq_true (by first | (with_reducible assumption) | assumption))
                                    replace q66 := eq_true q66
                                    go_wp2
                                    repeat (go_quiet (fail); try go_wp2)
                                    go_meet
                                    case rel => exact ⟨_, (decide ((bt t197 0) > 122)), (by first | rfl | (simp; done) | (simp [*]; done)), H', ⟨by have := HJ2.out; have := HJ10.out; have := HJ33.out; have := HJ48.out; first | omega | exact Nat.le_refl _⟩, ⟨by (with_reducible repeat (first | apply Kd.R_alloc | apply Kd.R_drewN | apply Kd.R_drew)); exact HO_205002.out⟩, ⟨by (with_reducible repeat (first | refine blk_drewN ?_ _ | refine blk_drew ?_ | refine blk_alloc ?_ _)); exact BK194.out⟩, ⟨by (with_reducible repeat (first | refine blk_drewN ?_ _ | refine blk_drew ?_ | refine blk_alloc ?_ _)); exact BK204.out⟩, ⟨by repeat (first | (with_reducible first | exact HB.out | apply below_alloc | apply pw_below_drewN | apply below_drew1 | refine below_set ?_ GE194.out | refine below_set ?_ GE204.out) | exact HB.out)⟩⟩
                                · rw [if_neg c61] at H
                                  exact absurd H (by simp)
                            · rw [if_neg c57] at H
                              have c57b0 : (t196 == 2) = false := beq_eq_false_iff_ne.mpr c57
                              have c57b1 : (t196 != 2) = true := bne_iff_ne.mpr c57
                              (first | rw [c57b0] | (simp only [i64_w, i32_w]; rw [c57b0]) | skip)
                              have H' := Aside0.mk H
                              clear H
                              have hnb69 := NB204_194.out
                              have hnc69 := NB194_204.out
                              have hcz70_0 : wc.cell? ⟨gb204, 0, none⟩ = some (.int .i64 t196) := (blk_cell BK204.out 0).trans rfl
                              have hcz70_1 : wc.cell? ⟨gb204, 1, none⟩ = some (.string t197) := (blk_cell BK204.out 1).trans rfl
                              have hcz70_2 : wc.cell? ⟨gb204, 2, none⟩ = some (.slice Ao17 t198.length co17) := (blk_cell BK204.out 2).trans rfl
                              have hcz70_3 : wc.cell? ⟨gb204, 3, none⟩ = some (.bool t201) := (blk_cell BK204.out 3).trans rfl
                              have hcz70_4 : wc.cell? ⟨gb204, 4, none⟩ = some (.string t202) := (blk_cell BK204.out 4).trans rfl
                              have hfz70_0 := blk_frozen BK204.out 0
                              have hfz70_1 := blk_frozen BK204.out 1
                              have hfz70_2 := blk_frozen BK204.out 2
                              have hfz70_3 := blk_frozen BK204.out 3
                              have hfz70_4 := blk_frozen BK204.out 4
                              go_wp2
                              repeat (go_quiet (fail); try go_wp2)
                              go_meet
                              case rel => exact ⟨_, (false), (by first | rfl | (simp; done) | (simp [*]; done)), H', ⟨by have := HJ2.out; have := HJ10.out; have := HJ33.out; have := HJ48.out; first | omega | exact Nat.le_refl _⟩, ⟨by (with_reducible repeat (first | apply Kd.R_alloc | apply Kd.R_drewN | apply Kd.R_drew)); exact HO_205002.out⟩, ⟨by (with_reducible repeat (first | refine blk_drewN ?_ _ | refine blk_drew ?_ | refine blk_alloc ?_ _)); exact BK194.out⟩, ⟨by (with_reducible repeat (first | refine blk_drewN ?_ _ | refine blk_drew ?_ | refine blk_alloc ?_ _)); exact BK204.out⟩, ⟨by repeat (first | (with_reducible first | exact HB.out | apply below_alloc | apply pw_below_drewN | apply below_drew1 | refine below_set ?_ GE194.out | refine below_set ?_ GE204.out) | exact HB.out)⟩⟩
                          case rest =>
                            clear HC56
                            try clear c1
                            try clear c2
                            try clear p2
                            try clear c3
                            try clear c4
                            try clear c5
                            try clear c5b0
                            try clear c5b1
                            try clear c6
                            try clear p6
                            try clear q6
                            try clear hx6
                            try clear qi6
                            try clear c7
                            try clear c15
                            try clear c18
                            try clear c18b0
                            try clear c19
                            try clear c21
                            try clear c23
                            try clear c25
                            try clear c26
                            try clear c26b0
                            try clear c26b1
                            try clear c28
                            try clear c31
                            try clear c35
                            try clear c35b0
                            try clear c36
                            try clear c38
                            try clear c38b0
                            try clear c39
                            try clear c41
                            try clear c41b0
                            try clear c41b1
                            try clear c42
                            try clear c45
                            try clear c48
                            try clear c50
                            try clear c50b0
                            try clear c50b1
                            try clear c51
                            try clear c53
                            try clear c55
                            try clear c57
                            try clear c57b0
                            try clear c57b1
                            try clear c58
                            try clear c58b0
                            try clear c58b1
                            try clear c59
                            try clear c61
                            try clear c61b0
                            try clear c61b1
                            try clear p62
                            try clear q62
                            try clear hx62
                            try clear qi62
                            try clear c63
                            try clear c63b0
                            try clear c64
                            try clear p66
                            try clear q66
                            try clear hx66
                            try clear qi66
                            try clear c67
                            try clear c69
                            try clear hcz12_0
                            try clear hcz12_1
                            try clear hcz12_2
                            try clear hcz12_3
                            try clear hcz16_0
                            try clear hcz16_1
                            try clear hcz16_2
                            try clear hcz16_3
                            try clear hcz16_4
                            try clear hcz20_0
                            try clear hcz20_1
                            try clear hcz20_2
                            try clear hcz20_3
                            try clear hcz22_0
                            try clear hcz22_1
                            try clear hcz22_2
                            try clear hcz22_3
                            try clear hcz29_0
                            try clear hcz29_1
                            try clear hcz29_2
                            try clear hcz29_3
                            try clear hcz29_4
                            try clear hcz32_0
                            try clear hcz32_1
                            try clear hcz32_2
                            try clear hcz32_3
                            try clear hcz32_4
                            try clear hcz37_0
                            try clear hcz37_1
                            try clear hcz37_2
                            try clear hcz37_3
                            try clear hcz40_0
                            try clear hcz40_1
                            try clear hcz40_2
                            try clear hcz40_3
                            try clear hcz43_0
                            try clear hcz43_1
                            try clear hcz43_2
                            try clear hcz43_3
                            try clear hcz44_0
                            try clear hcz44_1
                            try clear hcz44_2
                            try clear hcz44_3
                            try clear hcz44_4
                            try clear hcz46_0
                            try clear hcz46_1
                            try clear hcz46_2
                            try clear hcz46_3
                            try clear hcz47_0
                            try clear hcz47_1
                            try clear hcz47_2
                            try clear hcz47_3
                            try clear hcz47_4
                            try clear hcz52_0
                            try clear hcz52_1
                            try clear hcz52_2
                            try clear hcz52_3
                            try clear hcz52_4
                            try clear hcz54_0
                            try clear hcz54_1
                            try clear hcz54_2
                            try clear hcz54_3
                            try clear hcz54_4
                            try clear hcz60_0
                            try clear hcz60_1
                            try clear hcz60_2
                            try clear hcz60_3
                            try clear hcz60_4
                            try clear hcz65_0
                            try clear hcz65_1
                            try clear hcz65_2
                            try clear hcz65_3
                            try clear hcz65_4
                            try clear hcz68_0
                            try clear hcz68_1
                            try clear hcz68_2
                            try clear hcz68_3
                            try clear hcz68_4
                            try clear hcz6_0
                            try clear hcz6_1
                            try clear hcz6_2
                            try clear hcz6_3
                            try clear hcz70_0
                            try clear hcz70_1
                            try clear hcz70_2
                            try clear hcz70_3
                            try clear hcz70_4
                            try clear hfz12_0
                            try clear hfz12_1
                            try clear hfz12_2
                            try clear hfz12_3
                            try clear hfz16_0
                            try clear hfz16_1
                            try clear hfz16_2
                            try clear hfz16_3
                            try clear hfz16_4
                            try clear hfz20_0
                            try clear hfz20_1
                            try clear hfz20_2
                            try clear hfz20_3
                            try clear hfz22_0
                            try clear hfz22_1
                            try clear hfz22_2
                            try clear hfz22_3
                            try clear hfz29_0
                            try clear hfz29_1
                            try clear hfz29_2
                            try clear hfz29_3
                            try clear hfz29_4
                            try clear hfz32_0
                            try clear hfz32_1
                            try clear hfz32_2
                            try clear hfz32_3
                            try clear hfz32_4
                            try clear hfz37_0
                            try clear hfz37_1
                            try clear hfz37_2
                            try clear hfz37_3
                            try clear hfz40_0
                            try clear hfz40_1
                            try clear hfz40_2
                            try clear hfz40_3
                            try clear hfz43_0
                            try clear hfz43_1
                            try clear hfz43_2
                            try clear hfz43_3
                            try clear hfz44_0
                            try clear hfz44_1
                            try clear hfz44_2
                            try clear hfz44_3
                            try clear hfz44_4
                            try clear hfz46_0
                            try clear hfz46_1
                            try clear hfz46_2
                            try clear hfz46_3
                            try clear hfz47_0
                            try clear hfz47_1
                            try clear hfz47_2
                            try clear hfz47_3
                            try clear hfz47_4
                            try clear hfz52_0
                            try clear hfz52_1
                            try clear hfz52_2
                            try clear hfz52_3
                            try clear hfz52_4
                            try clear hfz54_0
                            try clear hfz54_1
                            try clear hfz54_2
                            try clear hfz54_3
                            try clear hfz54_4
                            try clear hfz60_0
                            try clear hfz60_1
                            try clear hfz60_2
                            try clear hfz60_3
                            try clear hfz60_4
                            try clear hfz65_0
                            try clear hfz65_1
                            try clear hfz65_2
                            try clear hfz65_3
                            try clear hfz65_4
                            try clear hfz68_0
                            try clear hfz68_1
                            try clear hfz68_2
                            try clear hfz68_3
                            try clear hfz68_4
                            try clear hfz6_0
                            try clear hfz6_1
                            try clear hfz6_2
                            try clear hfz6_3
                            try clear hfz70_0
                            try clear hfz70_1
                            try clear hfz70_2
                            try clear hfz70_3
                            try clear hfz70_4
                            try clear p2
                            try clear p62
                            try clear p66
                            try clear q62
                            try clear q66
                            obtain ⟨kq, x102_55, rfl, HA, HJ55, HO_205002, BK194, BK204, HB⟩ := hcut
                            cases kq with
                            | zero => exact absurd HA.out (by simp [marginalialaw04_TokenOnward.j4])
                            | succ kj55 =>
                              have H := HA.out
                              clear HA
                              simp only [marginalialaw04_TokenOnward.j4] at H
                              by_cases c71 : x102_55 = true
                              · subst c71
                                have H1 : (some false) = some r := by rw [if_pos rfl] at H; exact H
                                clear H
                                have H := H1
                                clear H1
                                obtain rfl := Option.some.inj H
                                go_wp2
                                repeat (go_quiet (fail); try go_wp2)
                                go_ret
                                exact ⟨by first | rfl | (simp [errW_none, errW_some] <;> rfl) | (simp [*, errW_none, errW_some] <;> rfl), by repeat (first | (with_reducible first | exact HB.out | apply below_alloc | apply pw_below_drewN | apply below_drew1 | refine below_set ?_ GE194.out | refine below_set ?_ GE204.out) | exact HB.out)⟩
                              · replace c71 := Bool.eq_false_iff.mpr c71
                                subst c71
                                have H1 : (marginalialaw04_TokenOnward.l0 kj55 0 t196 t197 t198 t201 t202) = some r := by rw [if_neg (show ¬ (false = true) by decide)] at H; exact H
                                clear H
                                have H := H1
                                clear H1
                                have H' := Aside0.mk H
                                clear H
                                go_wp2
                                repeat (go_quiet (fail); try go_wp2)
                                go_loopg [7] kj55 (fun kq v7 w' => ∃ (x7_6 : Int), v7 = .int .i64 x7_6 ∧ Aside0 (marginalialaw04_TokenOnward.l0 kq x7_6 t196 t197 t198 t201 t202 = some r) ∧ Aside0 (kq ≤ kj55) ∧ Aside0 (Kd.R k41 41 w' w.heap.size (fun _ => True) (.slice Ao17 t198.length co17) t198) ∧ Aside0 (w'.heap[gb194]? = some (.cells #[.int .i64 a1_0, .int .i64 a1_1, .string a1_2, .bool a1_3] 24 (0, 0))) ∧ Aside0 (w'.heap[gb204]? = some (.cells #[.int .i64 t196, .string t197, (.slice Ao17 t198.length co17), .bool t201, .string t202] 29 (0, 0))) ∧ Aside0 (Below w.heap.size w w'))
                                case atStart => exact ⟨(0), (by first | rfl | (simp; done) | (simp [*]; done)), H', ⟨Nat.le_refl _⟩, ⟨by (with_reducible repeat (first | apply Kd.R_alloc | apply Kd.R_drewN | apply Kd.R_drew)); exact HO_205002.out⟩, ⟨by (with_reducible repeat (first | refine blk_drewN ?_ _ | refine blk_drew ?_ | refine blk_alloc ?_ _)); exact BK194.out⟩, ⟨by (with_reducible repeat (first | refine blk_drewN ?_ _ | refine blk_drew ?_ | refine blk_alloc ?_ _)); exact BK204.out⟩, ⟨by repeat (first | (with_reducible first | exact HB.out | apply below_alloc | apply pw_below_drewN | apply below_drew1 | refine below_set ?_ GE194.out | refine below_set ?_ GE204.out) | exact HB.out)⟩⟩
                                case round =>
                                  clear H'
                                  try clear c1
                                  try clear c2
                                  try clear p2
                                  try clear c3
                                  try clear c4
                                  try clear c5
                                  try clear c5b0
                                  try clear c5b1
                                  try clear c6
                                  try clear p6
                                  try clear q6
                                  try clear hx6
                                  try clear qi6
                                  try clear c7
                                  try clear c15
                                  try clear c18
                                  try clear c18b0
                                  try clear c19
                                  try clear c21
                                  try clear c23
                                  try clear c25
                                  try clear c26
                                  try clear c26b0
                                  try clear c26b1
                                  try clear c28
                                  try clear c31
                                  try clear c35
                                  try clear c35b0
                                  try clear c36
                                  try clear c38
                                  try clear c38b0
                                  try clear c39
                                  try clear c41
                                  try clear c41b0
                                  try clear c41b1
                                  try clear c42
                                  try clear c45
                                  try clear c48
                                  try clear c50
                                  try clear c50b0
                                  try clear c50b1
                                  try clear c51
                                  try clear c53
                                  try clear c55
                                  try clear c57
                                  try clear c57b0
                                  try clear c57b1
                                  try clear c58
                                  try clear c58b0
                                  try clear c58b1
                                  try clear c59
                                  try clear c61
                                  try clear c61b0
                                  try clear c61b1
                                  try clear p62
                                  try clear q62
                                  try clear hx62
                                  try clear qi62
                                  try clear c63
                                  try clear c63b0
                                  try clear c64
                                  try clear p66
                                  try clear q66
                                  try clear hx66
                                  try clear qi66
                                  try clear c67
                                  try clear c69
                                  try clear c71
                                  try clear hcz12_0
                                  try clear hcz12_1
                                  try clear hcz12_2
                                  try clear hcz12_3
                                  try clear hcz16_0
                                  try clear hcz16_1
                                  try clear hcz16_2
                                  try clear hcz16_3
                                  try clear hcz16_4
                                  try clear hcz20_0
                                  try clear hcz20_1
                                  try clear hcz20_2
                                  try clear hcz20_3
                                  try clear hcz22_0
                                  try clear hcz22_1
                                  try clear hcz22_2
                                  try clear hcz22_3
                                  try clear hcz29_0
                                  try clear hcz29_1
                                  try clear hcz29_2
                                  try clear hcz29_3
                                  try clear hcz29_4
                                  try clear hcz32_0
                                  try clear hcz32_1
                                  try clear hcz32_2
                                  try clear hcz32_3
                                  try clear hcz32_4
                                  try clear hcz37_0
                                  try clear hcz37_1
                                  try clear hcz37_2
                                  try clear hcz37_3
                                  try clear hcz40_0
                                  try clear hcz40_1
                                  try clear hcz40_2
                                  try clear hcz40_3
                                  try clear hcz43_0
                                  try clear hcz43_1
                                  try clear hcz43_2
                                  try clear hcz43_3
                                  try clear hcz44_0
                                  try clear hcz44_1
                                  try clear hcz44_2
                                  try clear hcz44_3
                                  try clear hcz44_4
                                  try clear hcz46_0
                                  try clear hcz46_1
                                  try clear hcz46_2
                                  try clear hcz46_3
                                  try clear hcz47_0
                                  try clear hcz47_1
                                  try clear hcz47_2
                                  try clear hcz47_3
                                  try clear hcz47_4
                                  try clear hcz52_0
                                  try clear hcz52_1
                                  try clear hcz52_2
                                  try clear hcz52_3
                                  try clear hcz52_4
                                  try clear hcz54_0
                                  try clear hcz54_1
                                  try clear hcz54_2
                                  try clear hcz54_3
                                  try clear hcz54_4
                                  try clear hcz60_0
                                  try clear hcz60_1
                                  try clear hcz60_2
                                  try clear hcz60_3
                                  try clear hcz60_4
                                  try clear hcz65_0
                                  try clear hcz65_1
                                  try clear hcz65_2
                                  try clear hcz65_3
                                  try clear hcz65_4
                                  try clear hcz68_0
                                  try clear hcz68_1
                                  try clear hcz68_2
                                  try clear hcz68_3
                                  try clear hcz68_4
                                  try clear hcz6_0
                                  try clear hcz6_1
                                  try clear hcz6_2
                                  try clear hcz6_3
                                  try clear hcz70_0
                                  try clear hcz70_1
                                  try clear hcz70_2
                                  try clear hcz70_3
                                  try clear hcz70_4
                                  try clear hfz12_0
                                  try clear hfz12_1
                                  try clear hfz12_2
                                  try clear hfz12_3
                                  try clear hfz16_0
                                  try clear hfz16_1
                                  try clear hfz16_2
                                  try clear hfz16_3
                                  try clear hfz16_4
                                  try clear hfz20_0
                                  try clear hfz20_1
                                  try clear hfz20_2
                                  try clear hfz20_3
                                  try clear hfz22_0
                                  try clear hfz22_1
                                  try clear hfz22_2
                                  try clear hfz22_3
                                  try clear hfz29_0
                                  try clear hfz29_1
                                  try clear hfz29_2
                                  try clear hfz29_3
                                  try clear hfz29_4
                                  try clear hfz32_0
                                  try clear hfz32_1
                                  try clear hfz32_2
                                  try clear hfz32_3
                                  try clear hfz32_4
                                  try clear hfz37_0
                                  try clear hfz37_1
                                  try clear hfz37_2
                                  try clear hfz37_3
                                  try clear hfz40_0
                                  try clear hfz40_1
                                  try clear hfz40_2
                                  try clear hfz40_3
                                  try clear hfz43_0
                                  try clear hfz43_1
                                  try clear hfz43_2
                                  try clear hfz43_3
                                  try clear hfz44_0
                                  try clear hfz44_1
                                  try clear hfz44_2
                                  try clear hfz44_3
                                  try clear hfz44_4
                                  try clear hfz46_0
                                  try clear hfz46_1
                                  try clear hfz46_2
                                  try clear hfz46_3
                                  try clear hfz47_0
                                  try clear hfz47_1
                                  try clear hfz47_2
                                  try clear hfz47_3
                                  try clear hfz47_4
                                  try clear hfz52_0
                                  try clear hfz52_1
                                  try clear hfz52_2
                                  try clear hfz52_3
                                  try clear hfz52_4
                                  try clear hfz54_0
                                  try clear hfz54_1
                                  try clear hfz54_2
                                  try clear hfz54_3
                                  try clear hfz54_4
                                  try clear hfz60_0
                                  try clear hfz60_1
                                  try clear hfz60_2
                                  try clear hfz60_3
                                  try clear hfz60_4
                                  try clear hfz65_0
                                  try clear hfz65_1
                                  try clear hfz65_2
                                  try clear hfz65_3
                                  try clear hfz65_4
                                  try clear hfz68_0
                                  try clear hfz68_1
                                  try clear hfz68_2
                                  try clear hfz68_3
                                  try clear hfz68_4
                                  try clear hfz6_0
                                  try clear hfz6_1
                                  try clear hfz6_2
                                  try clear hfz6_3
                                  try clear hfz70_0
                                  try clear hfz70_1
                                  try clear hfz70_2
                                  try clear hfz70_3
                                  try clear hfz70_4
                                  try clear p2
                                  try clear p6
                                  try clear p62
                                  try clear p66
                                  try clear q6
                                  try clear q62
                                  try clear q66
                                  obtain ⟨x7_6, rfl, HA, HK6, HO_205002, BK194, BK204, HB⟩ := hrel
                                  cases gk with
                                  | zero => exact absurd HA.out (by simp [marginalialaw04_TokenOnward.l0])
                                  | succ k6 =>
                                    have H := HA.out
                                    clear HA
                                    simp only [marginalialaw04_TokenOnward.l0] at H
                                    by_cases c72 : x7_6 < (t198.length : Int)
                                    · rw [if_pos c72] at H
                                      have c72b0 : decide (x7_6 < (t198.length : Int)) = true := decide_eq_true c72
                                      clear c72
                                      have H' := Aside0.mk H
                                      clear H
                                      have hnb73 := NB204_194.out
                                      have hnc73 := NB194_204.out
                                      have hcz74_0 : wr.cell? ⟨gb204, 0, none⟩ = some (.int .i64 t196) := (blk_cell BK204.out 0).trans rfl
                                      have hcz74_1 : wr.cell? ⟨gb204, 1, none⟩ = some (.string t197) := (blk_cell BK204.out 1).trans rfl
                                      have hcz74_2 : wr.cell? ⟨gb204, 2, none⟩ = some (.slice Ao17 t198.length co17) := (blk_cell BK204.out 2).trans rfl
                                      have hcz74_3 : wr.cell? ⟨gb204, 3, none⟩ = some (.bool t201) := (blk_cell BK204.out 3).trans rfl
                                      have hcz74_4 : wr.cell? ⟨gb204, 4, none⟩ = some (.string t202) := (blk_cell BK204.out 4).trans rfl
                                      have hfz74_0 := blk_frozen BK204.out 0
                                      have hfz74_1 := blk_frozen BK204.out 1
                                      have hfz74_2 := blk_frozen BK204.out 2
                                      have hfz74_3 := blk_frozen BK204.out 3
                                      have hfz74_4 := blk_frozen BK204.out 4
                                      go_wp2
                                      repeat (go_quiet (fail); try go_wp2)
                                      go_loopg [8] k6 (fun kq v8 w' => ∃ (x8_7 : Int), v8 = .int .i64 x8_7 ∧ Aside0 (marginalialaw04_TokenOnward.l1 kq x7_6 x8_7 t196 t197 t198 t201 t202 = some r) ∧ Aside0 (kq ≤ k6) ∧ Aside0 (Kd.R k41 41 w' w.heap.size (fun _ => True) (.slice Ao17 t198.length co17) t198) ∧ Aside0 (w'.heap[gb194]? = some (.cells #[.int .i64 a1_0, .int .i64 a1_1, .string a1_2, .bool a1_3] 24 (0, 0))) ∧ Aside0 (w'.heap[gb204]? = some (.cells #[.int .i64 t196, .string t197, (.slice Ao17 t198.length co17), .bool t201, .string t202] 29 (0, 0))) ∧ Aside0 (Below w.heap.size w w'))
                                      case atStart => exact ⟨(0), (by first | rfl | (simp; done) | (simp [*]; done)), H', ⟨Nat.le_refl _⟩, ⟨by (with_reducible repeat (first | apply Kd.R_alloc | apply Kd.R_drewN | apply Kd.R_drew)); exact HO_205002.out⟩, ⟨by (with_reducible repeat (first | refine blk_drewN ?_ _ | refine blk_drew ?_ | refine blk_alloc ?_ _)); exact BK194.out⟩, ⟨by (with_reducible repeat (first | refine blk_drewN ?_ _ | refine blk_drew ?_ | refine blk_alloc ?_ _)); exact BK204.out⟩, ⟨by repeat (first | (with_reducible first | exact HB.out | apply below_alloc | apply pw_below_drewN | apply below_drew1 | refine below_set ?_ GE194.out | refine below_set ?_ GE204.out) | exact HB.out)⟩⟩
                                      case round =>
                                        clear H'
                                        try clear c1
                                        try clear c2
                                        try clear p2
                                        try clear c3
                                        try clear c4
                                        try clear c5
                                        try clear c5b0
                                        try clear c5b1
                                        try clear c6
                                        try clear p6
                                        try clear q6
                                        try clear hx6
                                        try clear qi6
                                        try clear c7
                                        try clear c15
                                        try clear c18
                                        try clear c18b0
                                        try clear c19
                                        try clear c21
                                        try clear c23
                                        try clear c25
                                        try clear c26
                                        try clear c26b0
                                        try clear c26b1
                                        try clear c28
                                        try clear c31
                                        try clear c35
                                        try clear c35b0
                                        try clear c36
                                        try clear c38
                                        try clear c38b0
                                        try clear c39
                                        try clear c41
                                        try clear c41b0
                                        try clear c41b1
                                        try clear c42
                                        try clear c45
                                        try clear c48
                                        try clear c50
                                        try clear c50b0
                                        try clear c50b1
                                        try clear c51
                                        try clear c53
                                        try clear c55
                                        try clear c57
                                        try clear c57b0
                                        try clear c57b1
                                        try clear c58
                                        try clear c58b0
                                        try clear c58b1
                                        try clear c59
                                        try clear c61
                                        try clear c61b0
                                        try clear c61b1
                                        try clear p62
                                        try clear q62
                                        try clear hx62
                                        try clear qi62
                                        try clear c63
                                        try clear c63b0
                                        try clear c64
                                        try clear p66
                                        try clear q66
                                        try clear hx66
                                        try clear qi66
                                        try clear c67
                                        try clear c69
                                        try clear c71
                                        try clear c72
                                        try clear c72b0
                                        try clear c73
                                        try clear hcz12_0
                                        try clear hcz12_1
                                        try clear hcz12_2
                                        try clear hcz12_3
                                        try clear hcz16_0
                                        try clear hcz16_1
                                        try clear hcz16_2
                                        try clear hcz16_3
                                        try clear hcz16_4
                                        try clear hcz20_0
                                        try clear hcz20_1
                                        try clear hcz20_2
                                        try clear hcz20_3
                                        try clear hcz22_0
                                        try clear hcz22_1
                                        try clear hcz22_2
                                        try clear hcz22_3
                                        try clear hcz29_0
                                        try clear hcz29_1
                                        try clear hcz29_2
                                        try clear hcz29_3
                                        try clear hcz29_4
                                        try clear hcz32_0
                                        try clear hcz32_1
                                        try clear hcz32_2
                                        try clear hcz32_3
                                        try clear hcz32_4
                                        try clear hcz37_0
                                        try clear hcz37_1
                                        try clear hcz37_2
                                        try clear hcz37_3
                                        try clear hcz40_0
                                        try clear hcz40_1
                                        try clear hcz40_2
                                        try clear hcz40_3
                                        try clear hcz43_0
                                        try clear hcz43_1
                                        try clear hcz43_2
                                        try clear hcz43_3
                                        try clear hcz44_0
                                        try clear hcz44_1
                                        try clear hcz44_2
                                        try clear hcz44_3
                                        try clear hcz44_4
                                        try clear hcz46_0
                                        try clear hcz46_1
                                        try clear hcz46_2
                                        try clear hcz46_3
                                        try clear hcz47_0
                                        try clear hcz47_1
                                        try clear hcz47_2
                                        try clear hcz47_3
                                        try clear hcz47_4
                                        try clear hcz52_0
                                        try clear hcz52_1
                                        try clear hcz52_2
                                        try clear hcz52_3
                                        try clear hcz52_4
                                        try clear hcz54_0
                                        try clear hcz54_1
                                        try clear hcz54_2
                                        try clear hcz54_3
                                        try clear hcz54_4
                                        try clear hcz60_0
                                        try clear hcz60_1
                                        try clear hcz60_2
                                        try clear hcz60_3
                                        try clear hcz60_4
                                        try clear hcz65_0
                                        try clear hcz65_1
                                        try clear hcz65_2
                                        try clear hcz65_3
                                        try clear hcz65_4
                                        try clear hcz68_0
                                        try clear hcz68_1
                                        try clear hcz68_2
                                        try clear hcz68_3
                                        try clear hcz68_4
                                        try clear hcz6_0
                                        try clear hcz6_1
                                        try clear hcz6_2
                                        try clear hcz6_3
                                        try clear hcz70_0
                                        try clear hcz70_1
                                        try clear hcz70_2
                                        try clear hcz70_3
                                        try clear hcz70_4
                                        try clear hcz74_0
                                        try clear hcz74_1
                                        try clear hcz74_2
                                        try clear hcz74_3
                                        try clear hcz74_4
                                        try clear hfz12_0
                                        try clear hfz12_1
                                        try clear hfz12_2
                                        try clear hfz12_3
                                        try clear hfz16_0
                                        try clear hfz16_1
                                        try clear hfz16_2
                                        try clear hfz16_3
                                        try clear hfz16_4
                                        try clear hfz20_0
                                        try clear hfz20_1
                                        try clear hfz20_2
                                        try clear hfz20_3
                                        try clear hfz22_0
                                        try clear hfz22_1
                                        try clear hfz22_2
                                        try clear hfz22_3
                                        try clear hfz29_0
                                        try clear hfz29_1
                                        try clear hfz29_2
                                        try clear hfz29_3
                                        try clear hfz29_4
                                        try clear hfz32_0
                                        try clear hfz32_1
                                        try clear hfz32_2
                                        try clear hfz32_3
                                        try clear hfz32_4
                                        try clear hfz37_0
                                        try clear hfz37_1
                                        try clear hfz37_2
                                        try clear hfz37_3
                                        try clear hfz40_0
                                        try clear hfz40_1
                                        try clear hfz40_2
                                        try clear hfz40_3
                                        try clear hfz43_0
                                        try clear hfz43_1
                                        try clear hfz43_2
                                        try clear hfz43_3
                                        try clear hfz44_0
                                        try clear hfz44_1
                                        try clear hfz44_2
                                        try clear hfz44_3
                                        try clear hfz44_4
                                        try clear hfz46_0
                                        try clear hfz46_1
                                        try clear hfz46_2
                                        try clear hfz46_3
                                        try clear hfz47_0
                                        try clear hfz47_1
                                        try clear hfz47_2
                                        try clear hfz47_3
                                        try clear hfz47_4
                                        try clear hfz52_0
                                        try clear hfz52_1
                                        try clear hfz52_2
                                        try clear hfz52_3
                                        try clear hfz52_4
                                        try clear hfz54_0
                                        try clear hfz54_1
                                        try clear hfz54_2
                                        try clear hfz54_3
                                        try clear hfz54_4
                                        try clear hfz60_0
                                        try clear hfz60_1
                                        try clear hfz60_2
                                        try clear hfz60_3
                                        try clear hfz60_4
                                        try clear hfz65_0
                                        try clear hfz65_1
                                        try clear hfz65_2
                                        try clear hfz65_3
                                        try clear hfz65_4
                                        try clear hfz68_0
                                        try clear hfz68_1
                                        try clear hfz68_2
                                        try clear hfz68_3
                                        try clear hfz68_4
                                        try clear hfz6_0
                                        try clear hfz6_1
                                        try clear hfz6_2
                                        try clear hfz6_3
                                        try clear hfz70_0
                                        try clear hfz70_1
                                        try clear hfz70_2
                                        try clear hfz70_3
                                        try clear hfz70_4
                                        try clear hfz74_0
                                        try clear hfz74_1
                                        try clear hfz74_2
                                        try clear hfz74_3
                                        try clear hfz74_4
                                        try clear p2
                                        try clear p6
                                        try clear p62
                                        try clear p66
                                        try clear q6
                                        try clear q62
                                        try clear q66
                                        obtain ⟨x8_7, rfl, HA, HK7, HO_205002, BK194, BK204, HB⟩ := hrel
                                        cases gk with
                                        | zero => exact absurd HA.out (by simp [marginalialaw04_TokenOnward.l1])
                                        | succ k7 =>
                                          have H := HA.out
                                          clear HA
                                          simp only [marginalialaw04_TokenOnward.l1] at H
                                          by_cases c75 : x8_7 < x7_6
                                          · rw [if_pos c75] at H
                                            have c75b0 : decide (x8_7 < x7_6) = true := decide_eq_true c75
                                            clear c75
                                            by_cases c76 : 0 ≤ x7_6
                                            · rw [if_pos c76] at H
                                              have c76b0 : decide (0 ≤ x7_6) = true := decide_eq_true c76
                                              clear c76
                                              by_cases c77 : x7_6 < (t198.length : Int)
                                              · rw [if_pos c77] at H
                                                have c77b0 : decide (x7_6 < (t198.length : Int)) = true := decide_eq_true c77
                                                clear c77
                                                by_cases c78 : 0 ≤ x8_7
                                                · rw [if_pos c78] at H
                                                  have c78b0 : decide (0 ≤ x8_7) = true := decide_eq_true c78
                                                  clear c78
                                                  by_cases c79 : x8_7 < (t198.length : Int)
                                                  · rw [if_pos c79] at H
                                                    have c79b0 : decide (x8_7 < (t198.length : Int)) = true := decide_eq_true c79
                                                    clear c79
                                                    by_cases c80 : ((rd_T41 t198 x7_6).f0).toList = ((rd_T41 t198 x8_7).f0).toList
                                                    · rw [if_pos c80] at H
                                                      have c80b0 : (((rd_T41 t198 x7_6).f0).toList == ((rd_T41 t198 x8_7).f0).toList) = true := beq_iff_eq.mpr c80
                                                      have c80b1 : (((rd_T41 t198 x7_6).f0).toList != ((rd_T41 t198 x8_7).f0).toList) = false := bne_eq_false_iff_eq.mpr c80
                                                      clear c80
                                                      obtain rfl := Option.some.inj H
                                                      have hnb81 := NB204_194.out
                                                      have hnc81 := NB194_204.out
                                                      have hcz82_0 : wr.cell? ⟨gb204, 0, none⟩ = some (.int .i64 t196) := (blk_cell BK204.out 0).trans rfl
                                                      have hcz82_1 : wr.cell? ⟨gb204, 1, none⟩ = some (.string t197) := (blk_cell BK204.out 1).trans rfl
                                                      have hcz82_2 : wr.cell? ⟨gb204, 2, none⟩ = some (.slice Ao17 t198.length co17) := (blk_cell BK204.out 2).trans rfl
                                                      have hcz82_3 : wr.cell? ⟨gb204, 3, none⟩ = some (.bool t201) := (blk_cell BK204.out 3).trans rfl
                                                      have hcz82_4 : wr.cell? ⟨gb204, 4, none⟩ = some (.string t202) := (blk_cell BK204.out 4).trans rfl
                                                      have hfz82_0 := blk_frozen BK204.out 0
                                                      have hfz82_1 := blk_frozen BK204.out 1
                                                      have hfz82_2 := blk_frozen BK204.out 2
                                                      have hfz82_3 := blk_frozen BK204.out 3
                                                      have hfz82_4 := blk_frozen BK204.out 4
                                                      have p207 : 0 ≤ (x7_6 : Int) := of_decide_eq_true (by first | (with_reducible assumption) | assumption)
                                                      have q207 : x7_6 < (t198.length : Int) := of_decide_eq_true (by first | (with_reducible assumption) | assumption)
                                                      obtain ⟨ad207, e207, hx207_0, hx207_1⟩ := at_T41 (Kd.R_reads' HO_205002.out).2.2 x7_6 p207 q207
                                                      cases e207
                                                      replace p207 := eq_true p207
                                                      replace q207 := eq_true q207
                                                      have p208 : 0 ≤ (x8_7 : Int) := of_decide_eq_true (by first | (with_reducible assumption) | assumption)
                                                      have q208 : x8_7 < (t198.length : Int) := of_decide_eq_true (by first | (with_reducible assumption) | assumption)
                                                      obtain ⟨ad208, e208, hx208_0, hx208_1⟩ := at_T41 (Kd.R_reads' HO_205002.out).2.2 x8_7 p208 q208
                                                      obtain rfl : ad207 = ad208 := (by injection e208)
                                                      replace p208 := eq_true p208
                                                      replace q208 := eq_true q208
                                                      go_wp2
                                                      repeat (go_quiet (fail); try go_wp2)
                                                      go_ret
                                                      exact ⟨by first | rfl | (simp [errW_none, errW_some] <;> rfl) | (simp [*, errW_none, errW_some] <;> rfl), by repeat (first | (with_reducible first | exact HB.out | apply below_alloc | apply pw_below_drewN | apply below_drew1 | refine below_set ?_ GE194.out | refine below_set ?_ GE204.out) | exact HB.out)⟩
                                                    · rw [if_neg c80] at H
                                                      have c80b0 : (((rd_T41 t198 x7_6).f0).toList == ((rd_T41 t198 x8_7).f0).toList) = false := beq_eq_false_iff_ne.mpr c80
                                                      have c80b1 : (((rd_T41 t198 x7_6).f0).toList != ((rd_T41 t198 x8_7).f0).toList) = true := bne_iff_ne.mpr c80
                                                      have H' := Aside0.mk H
                                                      clear H
                                                      have hnb83 := NB204_194.out
                                                      have hnc83 := NB194_204.out
                                                      have hcz84_0 : wr.cell? ⟨gb204, 0, none⟩ = some (.int .i64 t196) := (blk_cell BK204.out 0).trans rfl
                                                      have hcz84_1 : wr.cell? ⟨gb204, 1, none⟩ = some (.string t197) := (blk_cell BK204.out 1).trans rfl
                                                      have hcz84_2 : wr.cell? ⟨gb204, 2, none⟩ = some (.slice Ao17 t198.length co17) := (blk_cell BK204.out 2).trans rfl
                                                      have hcz84_3 : wr.cell? ⟨gb204, 3, none⟩ = some (.bool t201) := (blk_cell BK204.out 3).trans rfl
                                                      have hcz84_4 : wr.cell? ⟨gb204, 4, none⟩ = some (.string t202) := (blk_cell BK204.out 4).trans rfl
                                                      have hfz84_0 := blk_frozen BK204.out 0
                                                      have hfz84_1 := blk_frozen BK204.out 1
                                                      have hfz84_2 := blk_frozen BK204.out 2
                                                      have hfz84_3 := blk_frozen BK204.out 3
                                                      have hfz84_4 := blk_frozen BK204.out 4
                                                      have p207 : 0 ≤ (x7_6 : Int) := of_decide_eq_true (by first | (with_reducible assumption) | assumption)
                                                      have q207 : x7_6 < (t198.length : Int) := of_decide_eq_true (by first | (with_reducible assumption) | assumption)
                                                      obtain ⟨ad207, e207, hx207_0, hx207_1⟩ := at_T41 (Kd.R_reads' HO_205002.out).2.2 x7_6 p207 q207
                                                      cases e207
                                                      replace p207 := eq_true p207
                                                      replace q207 := eq_true q207
                                                      have p208 : 0 ≤ (x8_7 : Int) := of_decide_eq_true (by first | (with_reducible assumption) | assumption)
                                                      have q208 : x8_7 < (t198.length : Int) := of_decide_eq_true (by first | (with_reducible assumption) | assumption)
                                                      obtain ⟨ad208, e208, hx208_0, hx208_1⟩ := at_T41 (Kd.R_reads' HO_205002.out).2.2 x8_7 p208 q208
                                                      obtain rfl : ad207 = ad208 := (by injection e208)
                                                      replace p208 := eq_true p208
                                                      replace q208 := eq_true q208
                                                      go_wp2
                                                      repeat (go_quiet (fail); try go_wp2)
                                                      go_roundg k7
                                                      case measure => have := HJ2.out; have := HJ10.out; have := HJ33.out; have := HJ48.out; have := HJ55.out; have := HK6.out; have := HK7.out; omega
                                                      case rel => exact ⟨(wrap64 (x8_7 + 1)), (by first | rfl | (simp; done) | (simp [*]; done)), H', ⟨by have := HJ2.out; have := HJ10.out; have := HJ33.out; have := HJ48.out; have := HJ55.out; have := HK6.out; have := HK7.out; omega⟩, ⟨by (with_reducible repeat (first | apply Kd.R_alloc | apply Kd.R_drewN | apply Kd.R_drew)); exact HO_205002.out⟩, ⟨by (with_reducible repeat (first | refine blk_drewN ?_ _ | refine blk_drew ?_ | refine blk_alloc ?_ _)); exact BK194.out⟩, ⟨by (with_reducible repeat (first | refine blk_drewN ?_ _ | refine blk_drew ?_ | refine blk_alloc ?_ _)); exact BK204.out⟩, ⟨by repeat (first | (with_reducible first | exact HB.out | apply below_alloc | apply pw_below_drewN | apply below_drew1 | refine below_set ?_ GE194.out | refine below_set ?_ GE204.out) | exact HB.out)⟩⟩
                                                  · rw [if_neg c79] at H
                                                    exact absurd H (by simp)
                                                · rw [if_neg c78] at H
                                                  exact absurd H (by simp)
                                              · rw [if_neg c77] at H
                                                exact absurd H (by simp)
                                            · rw [if_neg c76] at H
                                              exact absurd H (by simp)
                                          · rw [if_neg c75] at H
                                            have c75b0 : decide (x8_7 < x7_6) = false := decide_eq_false c75
                                            clear c75
                                            have H' := Aside0.mk H
                                            clear H
                                            go_wp2
                                            repeat (go_quiet (fail); try go_wp2)
                                            go_roundg k7
                                            case measure => have := HJ2.out; have := HJ10.out; have := HJ33.out; have := HJ48.out; have := HJ55.out; have := HK6.out; have := HK7.out; omega
                                            case rel => exact ⟨(wrap64 (x7_6 + 1)), (by first | rfl | (simp; done) | (simp [*]; done)), H', ⟨by have := HJ2.out; have := HJ10.out; have := HJ33.out; have := HJ48.out; have := HJ55.out; have := HK6.out; have := HK7.out; omega⟩, ⟨by (with_reducible repeat (first | apply Kd.R_alloc | apply Kd.R_drewN | apply Kd.R_drew)); exact HO_205002.out⟩, ⟨by (with_reducible repeat (first | refine blk_drewN ?_ _ | refine blk_drew ?_ | refine blk_alloc ?_ _)); exact BK194.out⟩, ⟨by (with_reducible repeat (first | refine blk_drewN ?_ _ | refine blk_drew ?_ | refine blk_alloc ?_ _)); exact BK204.out⟩, ⟨by repeat (first | (with_reducible first | exact HB.out | apply below_alloc | apply pw_below_drewN | apply below_drew1 | refine below_set ?_ GE194.out | refine below_set ?_ GE204.out) | exact HB.out)⟩⟩
                                    · rw [if_neg c72] at H
                                      have c72b0 : decide (x7_6 < (t198.length : Int)) = false := decide_eq_false c72
                                      clear c72
                                      replace H := Option.bind_eq_some_iff.mp H
                                      obtain ⟨t206, A850, H⟩ := H
                                      replace H : (if t206 = true then (if t196 = 2 then (some true) else (if (t198.length : Int) = 0 then (some (!t201)) else (some false))) else (some false)) = some r := H
                                      have A85 := Aside0.mk A850
                                      clear A850
                                      by_cases c86 : t206 = true
                                      · subst c86
                                        have H1 : (if t196 = 2 then (some true) else (if (t198.length : Int) = 0 then (some (!t201)) else (some false))) = some r := by rw [if_pos rfl] at H; exact H
                                        clear H
                                        have H := H1
                                        clear H1
                                        by_cases c87 : t196 = 2
                                        · rw [if_pos c87] at H
                                          have c87b0 : (t196 == 2) = true := beq_iff_eq.mpr c87
                                          have c87b1 : (t196 != 2) = false := bne_eq_false_iff_eq.mpr c87
                                          clear c87
                                          obtain rfl := Option.some.inj H
                                          have hnb88 := NB204_194.out
                                          have hnc88 := NB194_204.out
                                          have hcz89_0 : wr.cell? ⟨gb204, 0, none⟩ = some (.int .i64 t196) := (blk_cell BK204.out 0).trans rfl
                                          have hcz89_1 : wr.cell? ⟨gb204, 1, none⟩ = some (.string t197) := (blk_cell BK204.out 1).trans rfl
                                          have hcz89_2 : wr.cell? ⟨gb204, 2, none⟩ = some (.slice Ao17 t198.length co17) := (blk_cell BK204.out 2).trans rfl
                                          have hcz89_3 : wr.cell? ⟨gb204, 3, none⟩ = some (.bool t201) := (blk_cell BK204.out 3).trans rfl
                                          have hcz89_4 : wr.cell? ⟨gb204, 4, none⟩ = some (.string t202) := (blk_cell BK204.out 4).trans rfl
                                          have hfz89_0 := blk_frozen BK204.out 0
                                          have hfz89_1 := blk_frozen BK204.out 1
                                          have hfz89_2 := blk_frozen BK204.out 2
                                          have hfz89_3 := blk_frozen BK204.out 3
                                          have hfz89_4 := blk_frozen BK204.out 4
                                          go_wp2_with (first | (go_at_call 10; (with_reducible refine (marginalialaw04_alive.calls k6  true _ ?side1 A85.out).mono ?_); (case side1 => exact HM.at_ HM0.out (by repeat (first | (with_reducible first | exact HB.out | apply below_alloc | apply pw_below_drewN | apply below_drew1 | refine below_set ?_ GE194.out | refine below_set ?_ GE204.out) | exact HB.out))); rintro e w90 ⟨rfl, hb⟩; have n0_ := Aside0.mk (Kd.R_below (by (with_reducible repeat (first | apply Kd.R_alloc | apply Kd.R_drewN | apply Kd.R_drew)); exact HO_205002.out) hb); have n1_ := Aside0.mk (blk_below (g := gb194) (o := .cells #[.int .i64 a1_0, .int .i64 a1_1, .string a1_2, .bool a1_3] 24 (0, 0)) (by (with_reducible repeat (first | refine blk_drewN ?_ _ | refine blk_drew ?_ | refine blk_alloc ?_ _)); exact BK194.out) hb); have n2_ := Aside0.mk (blk_below (g := gb204) (o := .cells #[.int .i64 t196, .string t197, .slice Ao17 t198.length co17, .bool t201, .string t202] 29 (0, 0)) (by (with_reducible repeat (first | refine blk_drewN ?_ _ | refine blk_drew ?_ | refine blk_alloc ?_ _)); exact BK204.out) hb); have n3_ := Aside0.mk (below_step (by repeat (first | (with_reducible first | exact HB.out | apply below_alloc | apply pw_below_drewN | apply below_drew1 | refine below_set ?_ GE194.out | refine below_set ?_ GE204.out) | exact HB.out)) hb); clear HO_205002; clear BK194; clear BK204; clear HB; have HO_205002 := n0_; have BK194 := n1_; have BK204 := n2_; have HB := n3_; clear n0_ n1_ n2_ n3_; (try clear hb); (try clear hb2); (try clear hk); (try clear hi); have hcz91_0 : w90.cell? ⟨gb204, 0, none⟩ = some (.int .i64 t196) := (blk_cell BK204.out 0).trans rfl; have hcz91_1 : w90.cell? ⟨gb204, 1, none⟩ = some (.string t197) := (blk_cell BK204.out 1).trans rfl; have hcz91_2 : w90.cell? ⟨gb204, 2, none⟩ = some (.slice Ao17 t198.length co17) := (blk_cell BK204.out 2).trans rfl; have hcz91_3 : w90.cell? ⟨gb204, 3, none⟩ = some (.bool t201) := (blk_cell BK204.out 3).trans rfl; have hcz91_4 : w90.cell? ⟨gb204, 4, none⟩ = some (.string t202) := (blk_cell BK204.out 4).trans rfl; have hfz91_0 := blk_frozen BK204.out 0; have hfz91_1 := blk_frozen BK204.out 1; have hfz91_2 := blk_frozen BK204.out 2; have hfz91_3 := blk_frozen BK204.out 3; have hfz91_4 := blk_frozen BK204.out 4))
                                          repeat (go_quiet (first | (go_at_call 10; (with_reducible refine (marginalialaw04_alive.calls k6  true _ ?side1 A85.out).mono ?_); (case side1 => exact HM.at_ HM0.out (by repeat (first | (with_reducible first | exact HB.out | apply below_alloc | apply pw_below_drewN | apply below_drew1 | refine below_set ?_ GE194.out | refine below_set ?_ GE204.out) | exact HB.out))); rintro e w90 ⟨rfl, hb⟩; have n0_ := Aside0.mk (Kd.R_below (by (with_reducible repeat (first | apply Kd.R_alloc | apply Kd.R_drewN | apply Kd.R_drew)); exact HO_205002.out) hb); have n1_ := Aside0.mk (blk_below (g := gb194) (o := .cells #[.int .i64 a1_0, .int .i64 a1_1, .string a1_2, .bool a1_3] 24 (0, 0)) (by (with_reducible repeat (first | refine blk_drewN ?_ _ | refine blk_drew ?_ | refine blk_alloc ?_ _)); exact BK194.out) hb); have n2_ := Aside0.mk (blk_below (g := gb204) (o := .cells #[.int .i64 t196, .string t197, .slice Ao17 t198.length co17, .bool t201, .string t202] 29 (0, 0)) (by (with_reducible repeat (first | refine blk_drewN ?_ _ | refine blk_drew ?_ | refine blk_alloc ?_ _)); exact BK204.out) hb); have n3_ := Aside0.mk (below_step (by repeat (first | (with_reducible first | exact HB.out | apply below_alloc | apply pw_below_drewN | apply below_drew1 | refine below_set ?_ GE194.out | refine below_set ?_ GE204.out) | exact HB.out)) hb); clear HO_205002; clear BK194; clear BK204; clear HB; have HO_205002 := n0_; have BK194 := n1_; have BK204 := n2_; have HB := n3_; clear n0_ n1_ n2_ n3_; (try clear hb); (try clear hb2); (try clear hk); (try clear hi); have hcz91_0 : w90.cell? ⟨gb204, 0, none⟩ = some (.int .i64 t196) := (blk_cell BK204.out 0).trans rfl; have hcz91_1 : w90.cell? ⟨gb204, 1, none⟩ = some (.string t197) := (blk_cell BK204.out 1).trans rfl; have hcz91_2 : w90.cell? ⟨gb204, 2, none⟩ = some (.slice Ao17 t198.length co17) := (blk_cell BK204.out 2).trans rfl; have hcz91_3 : w90.cell? ⟨gb204, 3, none⟩ = some (.bool t201) := (blk_cell BK204.out 3).trans rfl; have hcz91_4 : w90.cell? ⟨gb204, 4, none⟩ = some (.string t202) := (blk_cell BK204.out 4).trans rfl; have hfz91_0 := blk_frozen BK204.out 0; have hfz91_1 := blk_frozen BK204.out 1; have hfz91_2 := blk_frozen BK204.out 2; have hfz91_3 := blk_frozen BK204.out 3; have hfz91_4 := blk_frozen BK204.out 4)); try go_wp2_with (first | (go_at_call 10; (with_reducible refine (marginalialaw04_alive.calls k6  true _ ?side1 A85.out).mono ?_); (case side1 => exact HM.at_ HM0.out (by repeat (first | (with_reducible first | exact HB.out | apply below_alloc | apply pw_below_drewN | apply below_drew1 | refine below_set ?_ GE194.out | refine below_set ?_ GE204.out) | exact HB.out))); rintro e w90 ⟨rfl, hb⟩; have n0_ := Aside0.mk (Kd.R_below (by (with_reducible repeat (first | apply Kd.R_alloc | apply Kd.R_drewN | apply Kd.R_drew)); exact HO_205002.out) hb); have n1_ := Aside0.mk (blk_below (g := gb194) (o := .cells #[.int .i64 a1_0, .int .i64 a1_1, .string a1_2, .bool a1_3] 24 (0, 0)) (by (with_reducible repeat (first | refine blk_drewN ?_ _ | refine blk_drew ?_ | refine blk_alloc ?_ _)); exact BK194.out) hb); have n2_ := Aside0.mk (blk_below (g := gb204) (o := .cells #[.int .i64 t196, .string t197, .slice Ao17 t198.length co17, .bool t201, .string t202] 29 (0, 0)) (by (with_reducible repeat (first | refine blk_drewN ?_ _ | refine blk_drew ?_ | refine blk_alloc ?_ _)); exact BK204.out) hb); have n3_ := Aside0.mk (below_step (by repeat (first | (with_reducible first | exact HB.out | apply below_alloc | apply pw_below_drewN | apply below_drew1 | refine below_set ?_ GE194.out | refine below_set ?_ GE204.out) | exact HB.out)) hb); clear HO_205002; clear BK194; clear BK204; clear HB; have HO_205002 := n0_; have BK194 := n1_; have BK204 := n2_; have HB := n3_; clear n0_ n1_ n2_ n3_; (try clear hb); (try clear hb2); (try clear hk); (try clear hi); have hcz91_0 : w90.cell? ⟨gb204, 0, none⟩ = some (.int .i64 t196) := (blk_cell BK204.out 0).trans rfl; have hcz91_1 : w90.cell? ⟨gb204, 1, none⟩ = some (.string t197) := (blk_cell BK204.out 1).trans rfl; have hcz91_2 : w90.cell? ⟨gb204, 2, none⟩ = some (.slice Ao17 t198.length co17) := (blk_cell BK204.out 2).trans rfl; have hcz91_3 : w90.cell? ⟨gb204, 3, none⟩ = some (.bool t201) := (blk_cell BK204.out 3).trans rfl; have hcz91_4 : w90.cell? ⟨gb204, 4, none⟩ = some (.string t202) := (blk_cell BK204.out 4).trans rfl; have hfz91_0 := blk_frozen BK204.out 0; have hfz91_1 := blk_frozen BK204.out 1; have hfz91_2 := blk_frozen BK204.out 2; have hfz91_3 := blk_frozen BK204.out 3; have hfz91_4 := blk_frozen BK204.out 4)))
                                          go_ret
                                          exact ⟨by first | rfl | (simp [errW_none, errW_some] <;> rfl) | (simp [*, errW_none, errW_some] <;> rfl), by repeat (first | (with_reducible first | exact HB.out | apply below_alloc | apply pw_below_drewN | apply below_drew1 | refine below_set ?_ GE194.out | refine below_set ?_ GE204.out) | exact HB.out)⟩
                                        · rw [if_neg c87] at H
                                          have c87b0 : (t196 == 2) = false := beq_eq_false_iff_ne.mpr c87
                                          have c87b1 : (t196 != 2) = true := bne_iff_ne.mpr c87
                                          by_cases c92 : (t198.length : Int) = 0
                                          · rw [if_pos c92] at H
                                            have c92b0 : ((t198.length : Int) == 0) = true := beq_iff_eq.mpr c92
                                            have c92b1 : ((t198.length : Int) != 0) = false := bne_eq_false_iff_eq.mpr c92
                                            clear c92
                                            obtain rfl := Option.some.inj H
                                            have hnb93 := NB204_194.out
                                            have hnc93 := NB194_204.out
                                            have hcz94_0 : wr.cell? ⟨gb204, 0, none⟩ = some (.int .i64 t196) := (blk_cell BK204.out 0).trans rfl
                                            have hcz94_1 : wr.cell? ⟨gb204, 1, none⟩ = some (.string t197) := (blk_cell BK204.out 1).trans rfl
                                            have hcz94_2 : wr.cell? ⟨gb204, 2, none⟩ = some (.slice Ao17 t198.length co17) := (blk_cell BK204.out 2).trans rfl
                                            have hcz94_3 : wr.cell? ⟨gb204, 3, none⟩ = some (.bool t201) := (blk_cell BK204.out 3).trans rfl
                                            have hcz94_4 : wr.cell? ⟨gb204, 4, none⟩ = some (.string t202) := (blk_cell BK204.out 4).trans rfl
                                            have hfz94_0 := blk_frozen BK204.out 0
                                            have hfz94_1 := blk_frozen BK204.out 1
                                            have hfz94_2 := blk_frozen BK204.out 2
                                            have hfz94_3 := blk_frozen BK204.out 3
                                            have hfz94_4 := blk_frozen BK204.out 4
                                            go_wp2_with (first | (go_at_call 10; (with_reducible refine (marginalialaw04_alive.calls k6  true _ ?side1 A85.out).mono ?_); (case side1 => exact HM.at_ HM0.out (by repeat (first | (with_reducible first | exact HB.out | apply below_alloc | apply pw_below_drewN | apply below_drew1 | refine below_set ?_ GE194.out | refine below_set ?_ GE204.out) | exact HB.out))); rintro e w95 ⟨rfl, hb⟩; have n0_ := Aside0.mk (Kd.R_below (by (with_reducible repeat (first | apply Kd.R_alloc | apply Kd.R_drewN | apply Kd.R_drew)); exact HO_205002.out) hb); have n1_ := Aside0.mk (blk_below (g := gb194) (o := .cells #[.int .i64 a1_0, .int .i64 a1_1, .string a1_2, .bool a1_3] 24 (0, 0)) (by (with_reducible repeat (first | refine blk_drewN ?_ _ | refine blk_drew ?_ | refine blk_alloc ?_ _)); exact BK194.out) hb); have n2_ := Aside0.mk (blk_below (g := gb204) (o := .cells #[.int .i64 t196, .string t197, .slice Ao17 t198.length co17, .bool t201, .string t202] 29 (0, 0)) (by (with_reducible repeat (first | refine blk_drewN ?_ _ | refine blk_drew ?_ | refine blk_alloc ?_ _)); exact BK204.out) hb); have n3_ := Aside0.mk (below_step (by repeat (first | (with_reducible first | exact HB.out | apply below_alloc | apply pw_below_drewN | apply below_drew1 | refine below_set ?_ GE194.out | refine below_set ?_ GE204.out) | exact HB.out)) hb); clear HO_205002; clear BK194; clear BK204; clear HB; have HO_205002 := n0_; have BK194 := n1_; have BK204 := n2_; have HB := n3_; clear n0_ n1_ n2_ n3_; (try clear hb); (try clear hb2); (try clear hk); (try clear hi); have hcz96_0 : w95.cell? ⟨gb204, 0, none⟩ = some (.int .i64 t196) := (blk_cell BK204.out 0).trans rfl; have hcz96_1 : w95.cell? ⟨gb204, 1, none⟩ = some (.string t197) := (blk_cell BK204.out 1).trans rfl; have hcz96_2 : w95.cell? ⟨gb204, 2, none⟩ = some (.slice Ao17 t198.length co17) := (blk_cell BK204.out 2).trans rfl; have hcz96_3 : w95.cell? ⟨gb204, 3, none⟩ = some (.bool t201) := (blk_cell BK204.out 3).trans rfl; have hcz96_4 : w95.cell? ⟨gb204, 4, none⟩ = some (.string t202) := (blk_cell BK204.out 4).trans rfl; have hfz96_0 := blk_frozen BK204.out 0; have hfz96_1 := blk_frozen BK204.out 1; have hfz96_2 := blk_frozen BK204.out 2; have hfz96_3 := blk_frozen BK204.out 3; have hfz96_4 := blk_frozen BK204.out 4))
                                            repeat (go_quiet (first | (go_at_call 10; (with_reducible refine (marginalialaw04_alive.calls k6  true _ ?side1 A85.out).mono ?_); (case side1 => exact HM.at_ HM0.out (by repeat (first | (with_reducible first | exact HB.out | apply below_alloc | apply pw_below_drewN | apply below_drew1 | refine below_set ?_ GE194.out | refine below_set ?_ GE204.out) | exact HB.out))); rintro e w95 ⟨rfl, hb⟩; have n0_ := Aside0.mk (Kd.R_below (by (with_reducible repeat (first | apply Kd.R_alloc | apply Kd.R_drewN | apply Kd.R_drew)); exact HO_205002.out) hb); have n1_ := Aside0.mk (blk_below (g := gb194) (o := .cells #[.int .i64 a1_0, .int .i64 a1_1, .string a1_2, .bool a1_3] 24 (0, 0)) (by (with_reducible repeat (first | refine blk_drewN ?_ _ | refine blk_drew ?_ | refine blk_alloc ?_ _)); exact BK194.out) hb); have n2_ := Aside0.mk (blk_below (g := gb204) (o := .cells #[.int .i64 t196, .string t197, .slice Ao17 t198.length co17, .bool t201, .string t202] 29 (0, 0)) (by (with_reducible repeat (first | refine blk_drewN ?_ _ | refine blk_drew ?_ | refine blk_alloc ?_ _)); exact BK204.out) hb); have n3_ := Aside0.mk (below_step (by repeat (first | (with_reducible first | exact HB.out | apply below_alloc | apply pw_below_drewN | apply below_drew1 | refine below_set ?_ GE194.out | refine below_set ?_ GE204.out) | exact HB.out)) hb); clear HO_205002; clear BK194; clear BK204; clear HB; have HO_205002 := n0_; have BK194 := n1_; have BK204 := n2_; have HB := n3_; clear n0_ n1_ n2_ n3_; (try clear hb); (try clear hb2); (try clear hk); (try clear hi); have hcz96_0 : w95.cell? ⟨gb204, 0, none⟩ = some (.int .i64 t196) := (blk_cell BK204.out 0).trans rfl; have hcz96_1 : w95.cell? ⟨gb204, 1, none⟩ = some (.string t197) := (blk_cell BK204.out 1).trans rfl; have hcz96_2 : w95.cell? ⟨gb204, 2, none⟩ = some (.slice Ao17 t198.length co17) := (blk_cell BK204.out 2).trans rfl; have hcz96_3 : w95.cell? ⟨gb204, 3, none⟩ = some (.bool t201) := (blk_cell BK204.out 3).trans rfl; have hcz96_4 : w95.cell? ⟨gb204, 4, none⟩ = some (.string t202) := (blk_cell BK204.out 4).trans rfl; have hfz96_0 := blk_frozen BK204.out 0; have hfz96_1 := blk_frozen BK204.out 1; have hfz96_2 := blk_frozen BK204.out 2; have hfz96_3 := blk_frozen BK204.out 3; have hfz96_4 := blk_frozen BK204.out 4)); try go_wp2_with (first | (go_at_call 10; (with_reducible refine (marginalialaw04_alive.calls k6  true _ ?side1 A85.out).mono ?_); (case side1 => exact HM.at_ HM0.out (by repeat (first | (with_reducible first | exact HB.out | apply below_alloc | apply pw_below_drewN | apply below_drew1 | refine below_set ?_ GE194.out | refine below_set ?_ GE204.out) | exact HB.out))); rintro e w95 ⟨rfl, hb⟩; have n0_ := Aside0.mk (Kd.R_below (by (with_reducible repeat (first | apply Kd.R_alloc | apply Kd.R_drewN | apply Kd.R_drew)); exact HO_205002.out) hb); have n1_ := Aside0.mk (blk_below (g := gb194) (o := .cells #[.int .i64 a1_0, .int .i64 a1_1, .string a1_2, .bool a1_3] 24 (0, 0)) (by (with_reducible repeat (first | refine blk_drewN ?_ _ | refine blk_drew ?_ | refine blk_alloc ?_ _)); exact BK194.out) hb); have n2_ := Aside0.mk (blk_below (g := gb204) (o := .cells #[.int .i64 t196, .string t197, .slice Ao17 t198.length co17, .bool t201, .string t202] 29 (0, 0)) (by (with_reducible repeat (first | refine blk_drewN ?_ _ | refine blk_drew ?_ | refine blk_alloc ?_ _)); exact BK204.out) hb); have n3_ := Aside0.mk (below_step (by repeat (first | (with_reducible first | exact HB.out | apply below_alloc | apply pw_below_drewN | apply below_drew1 | refine below_set ?_ GE194.out | refine below_set ?_ GE204.out) | exact HB.out)) hb); clear HO_205002; clear BK194; clear BK204; clear HB; have HO_205002 := n0_; have BK194 := n1_; have BK204 := n2_; have HB := n3_; clear n0_ n1_ n2_ n3_; (try clear hb); (try clear hb2); (try clear hk); (try clear hi); have hcz96_0 : w95.cell? ⟨gb204, 0, none⟩ = some (.int .i64 t196) := (blk_cell BK204.out 0).trans rfl; have hcz96_1 : w95.cell? ⟨gb204, 1, none⟩ = some (.string t197) := (blk_cell BK204.out 1).trans rfl; have hcz96_2 : w95.cell? ⟨gb204, 2, none⟩ = some (.slice Ao17 t198.length co17) := (blk_cell BK204.out 2).trans rfl; have hcz96_3 : w95.cell? ⟨gb204, 3, none⟩ = some (.bool t201) := (blk_cell BK204.out 3).trans rfl; have hcz96_4 : w95.cell? ⟨gb204, 4, none⟩ = some (.string t202) := (blk_cell BK204.out 4).trans rfl; have hfz96_0 := blk_frozen BK204.out 0; have hfz96_1 := blk_frozen BK204.out 1; have hfz96_2 := blk_frozen BK204.out 2; have hfz96_3 := blk_frozen BK204.out 3; have hfz96_4 := blk_frozen BK204.out 4)))
                                            go_ret
                                            exact ⟨by first | rfl | (simp [errW_none, errW_some] <;> rfl) | (simp [*, errW_none, errW_some] <;> rfl), by repeat (first | (with_reducible first | exact HB.out | apply below_alloc | apply pw_below_drewN | apply below_drew1 | refine below_set ?_ GE194.out | refine below_set ?_ GE204.out) | exact HB.out)⟩
                                          · rw [if_neg c92] at H
                                            have c92b0 : ((t198.length : Int) == 0) = false := beq_eq_false_iff_ne.mpr c92
                                            have c92b1 : ((t198.length : Int) != 0) = true := bne_iff_ne.mpr c92
                                            have c92b2 : ¬ (t198 = []) := fun h_ => c92 (by rw [h_]; rfl)
                                            obtain rfl := Option.some.inj H
                                            have hnb97 := NB204_194.out
                                            have hnc97 := NB194_204.out
                                            have hcz98_0 : wr.cell? ⟨gb204, 0, none⟩ = some (.int .i64 t196) := (blk_cell BK204.out 0).trans rfl
                                            have hcz98_1 : wr.cell? ⟨gb204, 1, none⟩ = some (.string t197) := (blk_cell BK204.out 1).trans rfl
                                            have hcz98_2 : wr.cell? ⟨gb204, 2, none⟩ = some (.slice Ao17 t198.length co17) := (blk_cell BK204.out 2).trans rfl
                                            have hcz98_3 : wr.cell? ⟨gb204, 3, none⟩ = some (.bool t201) := (blk_cell BK204.out 3).trans rfl
                                            have hcz98_4 : wr.cell? ⟨gb204, 4, none⟩ = some (.string t202) := (blk_cell BK204.out 4).trans rfl
                                            have hfz98_0 := blk_frozen BK204.out 0
                                            have hfz98_1 := blk_frozen BK204.out 1
                                            have hfz98_2 := blk_frozen BK204.out 2
                                            have hfz98_3 := blk_frozen BK204.out 3
                                            have hfz98_4 := blk_frozen BK204.out 4
                                            go_wp2_with (first | (go_at_call 10; (with_reducible refine (marginalialaw04_alive.calls k6  true _ ?side1 A85.out).mono ?_); (case side1 => exact HM.at_ HM0.out (by repeat (first | (with_reducible first | exact HB.out | apply below_alloc | apply pw_below_drewN | apply below_drew1 | refine below_set ?_ GE194.out | refine below_set ?_ GE204.out) | exact HB.out))); rintro e w99 ⟨rfl, hb⟩; have n0_ := Aside0.mk (Kd.R_below (by (with_reducible repeat (first | apply Kd.R_alloc | apply Kd.R_drewN | apply Kd.R_drew)); exact HO_205002.out) hb); have n1_ := Aside0.mk (blk_below (g := gb194) (o := .cells #[.int .i64 a1_0, .int .i64 a1_1, .string a1_2, .bool a1_3] 24 (0, 0)) (by (with_reducible repeat (first | refine blk_drewN ?_ _ | refine blk_drew ?_ | refine blk_alloc ?_ _)); exact BK194.out) hb); have n2_ := Aside0.mk (blk_below (g := gb204) (o := .cells #[.int .i64 t196, .string t197, .slice Ao17 t198.length co17, .bool t201, .string t202] 29 (0, 0)) (by (with_reducible repeat (first | refine blk_drewN ?_ _ | refine blk_drew ?_ | refine blk_alloc ?_ _)); exact BK204.out) hb); have n3_ := Aside0.mk (below_step (by repeat (first | (with_reducible first | exact HB.out | apply below_alloc | apply pw_below_drewN | apply below_drew1 | refine below_set ?_ GE194.out | refine below_set ?_ GE204.out) | exact HB.out)) hb); clear HO_205002; clear BK194; clear BK204; clear HB; have HO_205002 := n0_; have BK194 := n1_; have BK204 := n2_; have HB := n3_; clear n0_ n1_ n2_ n3_; (try clear hb); (try clear hb2); (try clear hk); (try clear hi); have hcz100_0 : w99.cell? ⟨gb204, 0, none⟩ = some (.int .i64 t196) := (blk_cell BK204.out 0).trans rfl; have hcz100_1 : w99.cell? ⟨gb204, 1, none⟩ = some (.string t197) := (blk_cell BK204.out 1).trans rfl; have hcz100_2 : w99.cell? ⟨gb204, 2, none⟩ = some (.slice Ao17 t198.length co17) := (blk_cell BK204.out 2).trans rfl; have hcz100_3 : w99.cell? ⟨gb204, 3, none⟩ = some (.bool t201) := (blk_cell BK204.out 3).trans rfl; have hcz100_4 : w99.cell? ⟨gb204, 4, none⟩ = some (.string t202) := (blk_cell BK204.out 4).trans rfl; have hfz100_0 := blk_frozen BK204.out 0; have hfz100_1 := blk_frozen BK204.out 1; have hfz100_2 := blk_frozen BK204.out 2; have hfz100_3 := blk_frozen BK204.out 3; have hfz100_4 := blk_frozen BK204.out 4))
                                            repeat (go_quiet (first | (go_at_call 10; (with_reducible refine (marginalialaw04_alive.calls k6  true _ ?side1 A85.out).mono ?_); (case side1 => exact HM.at_ HM0.out (by repeat (first | (with_reducible first | exact HB.out | apply below_alloc | apply pw_below_drewN | apply below_drew1 | refine below_set ?_ GE194.out | refine below_set ?_ GE204.out) | exact HB.out))); rintro e w99 ⟨rfl, hb⟩; have n0_ := Aside0.mk (Kd.R_below (by (with_reducible repeat (first | apply Kd.R_alloc | apply Kd.R_drewN | apply Kd.R_drew)); exact HO_205002.out) hb); have n1_ := Aside0.mk (blk_below (g := gb194) (o := .cells #[.int .i64 a1_0, .int .i64 a1_1, .string a1_2, .bool a1_3] 24 (0, 0)) (by (with_reducible repeat (first | refine blk_drewN ?_ _ | refine blk_drew ?_ | refine blk_alloc ?_ _)); exact BK194.out) hb); have n2_ := Aside0.mk (blk_below (g := gb204) (o := .cells #[.int .i64 t196, .string t197, .slice Ao17 t198.length co17, .bool t201, .string t202] 29 (0, 0)) (by (with_reducible repeat (first | refine blk_drewN ?_ _ | refine blk_drew ?_ | refine blk_alloc ?_ _)); exact BK204.out) hb); have n3_ := Aside0.mk (below_step (by repeat (first | (with_reducible first | exact HB.out | apply below_alloc | apply pw_below_drewN | apply below_drew1 | refine below_set ?_ GE194.out | refine below_set ?_ GE204.out) | exact HB.out)) hb); clear HO_205002; clear BK194; clear BK204; clear HB; have HO_205002 := n0_; have BK194 := n1_; have BK204 := n2_; have HB := n3_; clear n0_ n1_ n2_ n3_; (try clear hb); (try clear hb2); (try clear hk); (try clear hi); have hcz100_0 : w99.cell? ⟨gb204, 0, none⟩ = some (.int .i64 t196) := (blk_cell BK204.out 0).trans rfl; have hcz100_1 : w99.cell? ⟨gb204, 1, none⟩ = some (.string t197) := (blk_cell BK204.out 1).trans rfl; have hcz100_2 : w99.cell? ⟨gb204, 2, none⟩ = some (.slice Ao17 t198.length co17) := (blk_cell BK204.out 2).trans rfl; have hcz100_3 : w99.cell? ⟨gb204, 3, none⟩ = some (.bool t201) := (blk_cell BK204.out 3).trans rfl; have hcz100_4 : w99.cell? ⟨gb204, 4, none⟩ = some (.string t202) := (blk_cell BK204.out 4).trans rfl; have hfz100_0 := blk_frozen BK204.out 0; have hfz100_1 := blk_frozen BK204.out 1; have hfz100_2 := blk_frozen BK204.out 2; have hfz100_3 := blk_frozen BK204.out 3; have hfz100_4 := blk_frozen BK204.out 4)); try go_wp2_with (first | (go_at_call 10; (with_reducible refine (marginalialaw04_alive.calls k6  true _ ?side1 A85.out).mono ?_); (case side1 => exact HM.at_ HM0.out (by repeat (first | (with_reducible first | exact HB.out | apply below_alloc | apply pw_below_drewN | apply below_drew1 | refine below_set ?_ GE194.out | refine below_set ?_ GE204.out) | exact HB.out))); rintro e w99 ⟨rfl, hb⟩; have n0_ := Aside0.mk (Kd.R_below (by (with_reducible repeat (first | apply Kd.R_alloc | apply Kd.R_drewN | apply Kd.R_drew)); exact HO_205002.out) hb); have n1_ := Aside0.mk (blk_below (g := gb194) (o := .cells #[.int .i64 a1_0, .int .i64 a1_1, .string a1_2, .bool a1_3] 24 (0, 0)) (by (with_reducible repeat (first | refine blk_drewN ?_ _ | refine blk_drew ?_ | refine blk_alloc ?_ _)); exact BK194.out) hb); have n2_ := Aside0.mk (blk_below (g := gb204) (o := .cells #[.int .i64 t196, .string t197, .slice Ao17 t198.length co17, .bool t201, .string t202] 29 (0, 0)) (by (with_reducible repeat (first | refine blk_drewN ?_ _ | refine blk_drew ?_ | refine blk_alloc ?_ _)); exact BK204.out) hb); have n3_ := Aside0.mk (below_step (by repeat (first | (with_reducible first | exact HB.out | apply below_alloc | apply pw_below_drewN | apply below_drew1 | refine below_set ?_ GE194.out | refine below_set ?_ GE204.out) | exact HB.out)) hb); clear HO_205002; clear BK194; clear BK204; clear HB; have HO_205002 := n0_; have BK194 := n1_; have BK204 := n2_; have HB := n3_; clear n0_ n1_ n2_ n3_; (try clear hb); (try clear hb2); (try clear hk); (try clear hi); have hcz100_0 : w99.cell? ⟨gb204, 0, none⟩ = some (.int .i64 t196) := (blk_cell BK204.out 0).trans rfl; have hcz100_1 : w99.cell? ⟨gb204, 1, none⟩ = some (.string t197) := (blk_cell BK204.out 1).trans rfl; have hcz100_2 : w99.cell? ⟨gb204, 2, none⟩ = some (.slice Ao17 t198.length co17) := (blk_cell BK204.out 2).trans rfl; have hcz100_3 : w99.cell? ⟨gb204, 3, none⟩ = some (.bool t201) := (blk_cell BK204.out 3).trans rfl; have hcz100_4 : w99.cell? ⟨gb204, 4, none⟩ = some (.string t202) := (blk_cell BK204.out 4).trans rfl; have hfz100_0 := blk_frozen BK204.out 0; have hfz100_1 := blk_frozen BK204.out 1; have hfz100_2 := blk_frozen BK204.out 2; have hfz100_3 := blk_frozen BK204.out 3; have hfz100_4 := blk_frozen BK204.out 4)))
                                            go_ret
                                            exact ⟨by first | rfl | (simp [errW_none, errW_some] <;> rfl) | (simp [*, errW_none, errW_some] <;> rfl), by repeat (first | (with_reducible first | exact HB.out | apply below_alloc | apply pw_below_drewN | apply below_drew1 | refine below_set ?_ GE194.out | refine below_set ?_ GE204.out) | exact HB.out)⟩
                                      · replace c86 := Bool.eq_false_iff.mpr c86
                                        subst c86
                                        have H1 : (some false) = some r := by rw [if_neg (show ¬ (false = true) by decide)] at H; exact H
                                        clear H
                                        have H := H1
                                        clear H1
                                        obtain rfl := Option.some.inj H
                                        have hnb101 := NB204_194.out
                                        have hnc101 := NB194_204.out
                                        have hcz102_0 : wr.cell? ⟨gb204, 0, none⟩ = some (.int .i64 t196) := (blk_cell BK204.out 0).trans rfl
                                        have hcz102_1 : wr.cell? ⟨gb204, 1, none⟩ = some (.string t197) := (blk_cell BK204.out 1).trans rfl
                                        have hcz102_2 : wr.cell? ⟨gb204, 2, none⟩ = some (.slice Ao17 t198.length co17) := (blk_cell BK204.out 2).trans rfl
                                        have hcz102_3 : wr.cell? ⟨gb204, 3, none⟩ = some (.bool t201) := (blk_cell BK204.out 3).trans rfl
                                        have hcz102_4 : wr.cell? ⟨gb204, 4, none⟩ = some (.string t202) := (blk_cell BK204.out 4).trans rfl
                                        have hfz102_0 := blk_frozen BK204.out 0
                                        have hfz102_1 := blk_frozen BK204.out 1
                                        have hfz102_2 := blk_frozen BK204.out 2
                                        have hfz102_3 := blk_frozen BK204.out 3
                                        have hfz102_4 := blk_frozen BK204.out 4
                                        go_wp2_with (first | (go_at_call 10; (with_reducible refine (marginalialaw04_alive.calls k6  false _ ?side1 A85.out).mono ?_); (case side1 => exact HM.at_ HM0.out (by repeat (first | (with_reducible first | exact HB.out | apply below_alloc | apply pw_below_drewN | apply below_drew1 | refine below_set ?_ GE194.out | refine below_set ?_ GE204.out) | exact HB.out))); rintro e w103 ⟨rfl, hb⟩; have n0_ := Aside0.mk (Kd.R_below (by (with_reducible repeat (first | apply Kd.R_alloc | apply Kd.R_drewN | apply Kd.R_drew)); exact HO_205002.out) hb); have n1_ := Aside0.mk (blk_below (g := gb194) (o := .cells #[.int .i64 a1_0, .int .i64 a1_1, .string a1_2, .bool a1_3] 24 (0, 0)) (by (with_reducible repeat (first | refine blk_drewN ?_ _ | refine blk_drew ?_ | refine blk_alloc ?_ _)); exact BK194.out) hb); have n2_ := Aside0.mk (blk_below (g := gb204) (o := .cells #[.int .i64 t196, .string t197, .slice Ao17 t198.length co17, .bool t201, .string t202] 29 (0, 0)) (by (with_reducible repeat (first | refine blk_drewN ?_ _ | refine blk_drew ?_ | refine blk_alloc ?_ _)); exact BK204.out) hb); have n3_ := Aside0.mk (below_step (by repeat (first | (with_reducible first | exact HB.out | apply below_alloc | apply pw_below_drewN | apply below_drew1 | refine below_set ?_ GE194.out | refine below_set ?_ GE204.out) | exact HB.out)) hb); clear HO_205002; clear BK194; clear BK204; clear HB; have HO_205002 := n0_; have BK194 := n1_; have BK204 := n2_; have HB := n3_; clear n0_ n1_ n2_ n3_; (try clear hb); (try clear hb2); (try clear hk); (try clear hi)))
                                        repeat (go_quiet (first | (go_at_call 10; (with_reducible refine (marginalialaw04_alive.calls k6  false _ ?side1 A85.out).mono ?_); (case side1 => exact HM.at_ HM0.out (by repeat (first | (with_reducible first | exact HB.out | apply below_alloc | apply pw_below_drewN | apply below_drew1 | refine below_set ?_ GE194.out | refine below_set ?_ GE204.out) | exact HB.out))); rintro e w103 ⟨rfl, hb⟩; have n0_ := Aside0.mk (Kd.R_below (by (with_reducible repeat (first | apply Kd.R_alloc | apply Kd.R_drewN | apply Kd.R_drew)); exact HO_205002.out) hb); have n1_ := Aside0.mk (blk_below (g := gb194) (o := .cells #[.int .i64 a1_0, .int .i64 a1_1, .string a1_2, .bool a1_3] 24 (0, 0)) (by (with_reducible repeat (first | refine blk_drewN ?_ _ | refine blk_drew ?_ | refine blk_alloc ?_ _)); exact BK194.out) hb); have n2_ := Aside0.mk (blk_below (g := gb204) (o := .cells #[.int .i64 t196, .string t197, .slice Ao17 t198.length co17, .bool t201, .string t202] 29 (0, 0)) (by (with_reducible repeat (first | refine blk_drewN ?_ _ | refine blk_drew ?_ | refine blk_alloc ?_ _)); exact BK204.out) hb); have n3_ := Aside0.mk (below_step (by repeat (first | (with_reducible first | exact HB.out | apply below_alloc | apply pw_below_drewN | apply below_drew1 | refine below_set ?_ GE194.out | refine below_set ?_ GE204.out) | exact HB.out)) hb); clear HO_205002; clear BK194; clear BK204; clear HB; have HO_205002 := n0_; have BK194 := n1_; have BK204 := n2_; have HB := n3_; clear n0_ n1_ n2_ n3_; (try clear hb); (try clear hb2); (try clear hk); (try clear hi))); try go_wp2_with (first | (go_at_call 10; (with_reducible refine (marginalialaw04_alive.calls k6  false _ ?side1 A85.out).mono ?_); (case side1 => exact HM.at_ HM0.out (by repeat (first | (with_reducible first | exact HB.out | apply below_alloc | apply pw_below_drewN | apply below_drew1 | refine below_set ?_ GE194.out | refine below_set ?_ GE204.out) | exact HB.out))); rintro e w103 ⟨rfl, hb⟩; have n0_ := Aside0.mk (Kd.R_below (by (with_reducible repeat (first | apply Kd.R_alloc | apply Kd.R_drewN | apply Kd.R_drew)); exact HO_205002.out) hb); have n1_ := Aside0.mk (blk_below (g := gb194) (o := .cells #[.int .i64 a1_0, .int .i64 a1_1, .string a1_2, .bool a1_3] 24 (0, 0)) (by (with_reducible repeat (first | refine blk_drewN ?_ _ | refine blk_drew ?_ | refine blk_alloc ?_ _)); exact BK194.out) hb); have n2_ := Aside0.mk (blk_below (g := gb204) (o := .cells #[.int .i64 t196, .string t197, .slice Ao17 t198.length co17, .bool t201, .string t202] 29 (0, 0)) (by (with_reducible repeat (first | refine blk_drewN ?_ _ | refine blk_drew ?_ | refine blk_alloc ?_ _)); exact BK204.out) hb); have n3_ := Aside0.mk (below_step (by repeat (first | (with_reducible first | exact HB.out | apply below_alloc | apply pw_below_drewN | apply below_drew1 | refine below_set ?_ GE194.out | refine below_set ?_ GE204.out) | exact HB.out)) hb); clear HO_205002; clear BK194; clear BK204; clear HB; have HO_205002 := n0_; have BK194 := n1_; have BK204 := n2_; have HB := n3_; clear n0_ n1_ n2_ n3_; (try clear hb); (try clear hb2); (try clear hk); (try clear hi))))
                                        go_ret
                                        exact ⟨by first | rfl | (simp [errW_none, errW_some] <;> rfl) | (simp [*, errW_none, errW_some] <;> rfl), by repeat (first | (with_reducible first | exact HB.out | apply below_alloc | apply pw_below_drewN | apply below_drew1 | refine below_set ?_ GE194.out | refine below_set ?_ GE204.out) | exact HB.out)⟩

end Go.Proofs.Ytpelfhldgnmhpaa.G
