/- What came in as data reads as the printed functions' rows and structs: an opening for each kind; for a struct that holds rows of itself by induction on the reading's depth. No condition. -/
import Derived.Test.YtpelfhldgnmhpaaG0
import Derived.Deep.Slices
namespace Go.Proofs.Ytpelfhldgnmhpaa.Op
open Go.RowKit Go.Proofs.YtpelfhldgnmhpaaW.PrintWords Go.Proofs.YtpelfhldgnmhpaaW.PrintLast Go.Proofs.Ytpelfhldgnmhpaa.G
set_option autoImplicit false
set_option linter.unusedVariables false
set_option linter.unusedSimpArgs false
section
variable {H : Type} {enc : TypeId × Value → H} {P : Program} {W : World}
def Opens {α : Type} (enc : TypeId × Value → H) (P : Program) (W : World) (t : TypeId) (d : Kd α) (n : Nat) : Prop :=
  ∀ base held cs x, DataW.trod enc P W base (fun _ => true) held n t cs = some x → ∃ v, d.K W v cs
theorem opens_int {t : TypeId} {k : IntKind} (hu : P.underlying t = some (.int k)) (n : Nat) : Opens enc P W t (Kd.int k) n := by
  intro base held cs x h
  cases n with
  | zero => simp [DataW.trod] at h
  | succ n =>
    unfold DataW.trod at h
    rw [hu] at h
    split at h <;> simp_all
    rename_i k' m he
    obtain ⟨⟨rfl, _⟩, _⟩ := h
    exact ⟨m, rfl⟩
theorem opens_bool {t : TypeId} (hu : P.underlying t = some .bool) (n : Nat) : Opens enc P W t Kd.bool n := by
  intro base held cs x h
  cases n with
  | zero => simp [DataW.trod] at h
  | succ n =>
    unfold DataW.trod at h
    rw [hu] at h
    split at h <;> simp_all
    rename_i b
    cases b
    · exact .inl rfl
    · exact .inr rfl
theorem opens_string {t : TypeId} (hu : P.underlying t = some .string) (n : Nat) : Opens enc P W t Kd.string n := by
  intro base held cs x h
  cases n with
  | zero => simp [DataW.trod] at h
  | succ n =>
    unfold DataW.trod at h
    rw [hu] at h
    split at h <;> simp_all
    rename_i s
    exact ⟨s, rfl⟩
theorem choose_list {α : Type} {p : Nat → α → Prop} (n : Nat) (h : ∀ i, i < n → ∃ v, p i v) : ∃ l : List α, l.length = n ∧ ∀ i v, l[i]? = some v → p i v := by
  induction n with
  | zero => exact ⟨[], rfl, by simp⟩
  | succ n ih =>
    obtain ⟨l, hl, hp⟩ := ih (fun i hi => h i (by omega))
    obtain ⟨v, hv⟩ := h n (by omega)
    refine ⟨l ++ [v], by simp [hl], fun i u hu => ?_⟩
    by_cases hi : i < n
    · rw [List.getElem?_append_left (by omega)] at hu
      exact hp i u hu
    · rw [List.getElem?_append_right (by omega)] at hu
      have hn : i - l.length = 0 := by
        by_cases h0 : i - l.length = 0
        · exact h0
        · rw [List.getElem?_eq_none (by simp; omega)] at hu; cases hu
      rw [hn] at hu
      have : i = n := by omega
      subst this
      cases hu
      exact hv
theorem opens_slice {α : Type} {t e : TypeId} {d : Kd α} (hu : P.underlying t = some (.slice e)) (hc : P.cellsOf e = d.sz) (n : Nat) (he : Opens enc P W e d n) : Opens enc P W t (Kd.slice e d) (n + 1) := by
  intro base held cs x h
  rcases DataW.trod_slice hu h with ⟨rfl, _⟩ | ⟨a, len, cap, elems, rest, m, hm, rfl, _, hb, hl, hcm, hlen, hel, _, _⟩
  · exact ⟨[], none, 0, rfl, Nat.le_refl _, rfl, by simp, fun h => absurd h (by simp)⟩
  · obtain rfl : n = m := by omega
    have each : ∀ i, i < len → ∃ v, ∃ c, c.length = d.sz ∧ d.K W v c ∧ ∀ j u, c[j]? = some u → W.cell? (a.add (i * d.sz + j)) = some u := by
      intro i hi
      have h1 := hel i hi
      rw [List.getElem?_eq_getElem (by omega)] at h1
      obtain ⟨c, hc1, hc2⟩ := Option.bind_eq_some_iff.1 h1
      obtain ⟨v, hv⟩ := he _ _ _ _ hc2
      obtain ⟨_, hcl, hcc⟩ := World.cells?_some hc1
      refine ⟨v, c, by rw [hcl, hc], hv, fun j u hj => ?_⟩
      have hjl : j < P.cellsOf e := by rw [← hcl]; exact (List.getElem?_eq_some_iff.1 hj).1
      have := (hcc j hjl).trans hj
      rw [Addr.add_add, hc] at this
      exact this
    obtain ⟨l, hll, hp⟩ := choose_list len each
    refine ⟨l, some a, cap, by rw [hll], by omega, hll.symm ▸ rfl, by unfold maxLen at hcm; omega, fun _ => ⟨a, rfl, fun j p hj => ?_⟩⟩
    exact hp j p hj
end

set_option maxRecDepth 100000 in
theorem opens_attr {H : Type} {enc : TypeId × Value → H} {W : World} (n : Nat) : Opens enc Try.prog W 41 k41 n := by
  intro base held cs x h
  obtain ⟨xs, m, hm, _, hl, hlen, hf⟩ := DataW.trod_struct Try.underlying41 h
  have hl2 : cs.length = 2 := hl.trans (by kernel_rfl)
  obtain ⟨u0, u1, rfl⟩ : ∃ u0 u1, cs = [u0, u1] := by
    match cs, hl2 with
    | [u0, u1], _ => exact ⟨u0, u1, rfl⟩
  have hx : xs.length = 2 := hlen
  obtain ⟨y0, y1, rfl⟩ : ∃ y0 y1, xs = [y0, y1] := by
    match xs, hx with
    | [y0, y1], _ => exact ⟨y0, y1, rfl⟩
  have c9 : Try.prog.cellsOf 9 = 1 := by kernel_rfl
  have h0 : DataW.trod enc Try.prog W base (fun _ => true) held m 9 (List.take (Try.prog.cellsOf 9) [u0, u1]) = some y0 := hf 0 _ rfl
  have h1 : DataW.trod enc Try.prog W base (fun _ => true) held m 9 (List.take (Try.prog.cellsOf 9) [u1]) = some y1 := hf 1 _ rfl
  rw [c9] at h0 h1
  obtain ⟨v0, e0⟩ := opens_string Try.underlying9 m _ _ _ _ h0
  obtain ⟨v1, e1⟩ := opens_string Try.underlying9 m _ _ _ _ h1
  have e0' : [u0] = [Value.string v0] := e0
  have e1' : [u1] = [Value.string v1] := e1
  cases e0'
  cases e1'
  exact ⟨⟨v0, v1⟩, k41_mk W ⟨v0, v1⟩⟩
theorem opens_attrs {H : Type} {enc : TypeId × Value → H} {W : World} (n : Nat) : Opens enc Try.prog W 27 (Kd.slice 41 k41) n := by
  cases n with
  | zero => intro base held cs x h; simp [DataW.trod] at h
  | succ n => exact opens_slice Try.underlying27 (by kernel_rfl) n (opens_attr n)
end Go.Proofs.Ytpelfhldgnmhpaa.Op
