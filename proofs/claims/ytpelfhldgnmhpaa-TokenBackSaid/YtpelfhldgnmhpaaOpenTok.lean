/- A token that came in reads as its fields; the names of its attributes are no longer than a text may be. No condition. -/
import Derived.Test.YtpelfhldgnmhpaaOpen
namespace Go.Proofs.Ytpelfhldgnmhpaa.Op
open Go.RowKit Go.Proofs.YtpelfhldgnmhpaaW.PrintWords Go.Proofs.YtpelfhldgnmhpaaW.PrintLast Go.Proofs.Ytpelfhldgnmhpaa.G
set_option autoImplicit false
set_option linter.unusedVariables false
set_option linter.unusedSimpArgs false
section
variable {H : Type} {enc : TypeId × Value → H} {P : Program} {W : World}
theorem opens_slice_b {α : Type} {t e : TypeId} {d : Kd α} (Q : α → Prop) (hu : P.underlying t = some (.slice e)) (hc : P.cellsOf e = d.sz) (n : Nat)
    (he : ∀ base held cs x, DataW.trod enc P W base (fun _ => true) held n e cs = some x → ∃ v, d.K W v cs ∧ Q v) :
    ∀ base held cs x, DataW.trod enc P W base (fun _ => true) held (n + 1) t cs = some x → ∃ l : List α, (Kd.slice e d).K W l cs ∧ ∀ a ∈ l, Q a := by
  intro base held cs x h
  rcases DataW.trod_slice hu h with ⟨rfl, _⟩ | ⟨a, len, cap, elems, rest, m, hm, rfl, _, hb, hl, hcm, hlen, hel, _, _⟩
  · exact ⟨[], ⟨none, 0, rfl, Nat.le_refl _, rfl, by simp, fun h => absurd h (by simp)⟩, fun a ha => by cases ha⟩
  · obtain rfl : n = m := by omega
    have each : ∀ i, i < len → ∃ v, (∃ c, c.length = d.sz ∧ d.K W v c ∧ ∀ j u, c[j]? = some u → W.cell? (a.add (i * d.sz + j)) = some u) ∧ Q v := by
      intro i hi
      have h1 := hel i hi
      rw [List.getElem?_eq_getElem (by omega)] at h1
      obtain ⟨c, hc1, hc2⟩ := Option.bind_eq_some_iff.1 h1
      obtain ⟨v, hv, hq⟩ := he _ _ _ _ hc2
      obtain ⟨_, hcl, hcc⟩ := World.cells?_some hc1
      refine ⟨v, ⟨c, by rw [hcl, hc], hv, fun j u hj => ?_⟩, hq⟩
      have hjl : j < P.cellsOf e := by rw [← hcl]; exact (List.getElem?_eq_some_iff.1 hj).1
      have := (hcc j hjl).trans hj
      rw [Addr.add_add, hc] at this
      exact this
    obtain ⟨l, hll, hp⟩ := choose_list len each
    refine ⟨l, ⟨some a, cap, by rw [hll], by omega, hll.symm ▸ rfl, by unfold maxLen at hcm; omega, fun _ => ⟨a, rfl, fun j p hj => (hp j p hj).1⟩⟩, fun x hx => ?_⟩
    obtain ⟨i, hi, rfl⟩ := List.getElem_of_mem hx
    exact (hp i _ (List.getElem?_eq_getElem hi)).2
theorem opens_string_b {t : TypeId} (hu : P.underlying t = some .string) (n : Nat) : ∀ base held cs x, DataW.trod enc P W base (fun _ => true) held n t cs = some x → ∃ s : ByteArray, cs = [Value.string s] ∧ s.size ≤ 9223372036854775807 := by
  intro base held cs x h
  obtain ⟨s, e, _, hs⟩ := DataW.trod_string hu h
  exact ⟨s, e, by unfold maxLen at hs; omega⟩
end
set_option maxRecDepth 100000 in
theorem opens_attr_b {H : Type} {enc : TypeId × Value → H} {W : World} (n : Nat) : ∀ base held cs x, DataW.trod enc Try.prog W base (fun _ => true) held n 41 cs = some x → ∃ v, k41.K W v cs ∧ v.f0.size ≤ 9223372036854775807 := by
  intro base held cs x h
  obtain ⟨xs, m, hm, _, hl, hlen, hf⟩ := DataW.trod_struct Try.underlying41 h
  have hl2 : cs.length = 2 := hl.trans (by kernel_rfl)
  obtain ⟨u0, u1, rfl⟩ : ∃ u0 u1, cs = [u0, u1] := by
    match cs, hl2 with
    | [u0, u1], _ => exact ⟨u0, u1, rfl⟩
  have hx : xs.length = 2 := hlen
  obtain ⟨y0, y1, rfl⟩ : ∃ y0 y1, xs = [y0, y1] := by
    match xs, hx with
    | [y0, y1], _ => exact ⟨y0, y1, rfl⟩
  have c9 : Try.prog.cellsOf 9 = 1 := by kernel_rfl
  have h0 : DataW.trod enc Try.prog W base (fun _ => true) held m 9 (List.take (Try.prog.cellsOf 9) [u0, u1]) = some y0 := hf 0 _ rfl
  have h1 : DataW.trod enc Try.prog W base (fun _ => true) held m 9 (List.take (Try.prog.cellsOf 9) [u1]) = some y1 := hf 1 _ rfl
  rw [c9] at h0 h1
  obtain ⟨v0, e0, b0⟩ := opens_string_b Try.underlying9 m _ _ _ _ h0
  obtain ⟨v1, e1, _⟩ := opens_string_b Try.underlying9 m _ _ _ _ h1
  have e0' : [u0] = [Value.string v0] := e0
  have e1' : [u1] = [Value.string v1] := e1
  cases e0'
  cases e1'
  exact ⟨⟨v0, v1⟩, k41_mk W ⟨v0, v1⟩, b0⟩
set_option maxRecDepth 100000 in
theorem opens_token {H : Type} {enc : TypeId × Value → H} {W : World} (n : Nat) : ∀ base held cs x, DataW.trod enc Try.prog W base (fun _ => true) held n 29 cs = some x →
    ∃ (kd : Int) (nm : ByteArray) (A : Option Addr) (cp : Nat) (l : List S41) (c : Bool) (tx : ByteArray), cs = [.int .i64 kd, .string nm, .slice A l.length cp, .bool c, .string tx] ∧ l.length ≤ cp ∧ Kd.C k41 W A l.length l ∧ nm.size ≤ 9223372036854775807 ∧ ∀ a ∈ l, a.f0.size ≤ 9223372036854775807 := by
  intro base held cs x h
  obtain ⟨xs, m, hm, _, hl, hlen, hf⟩ := DataW.trod_struct Try.underlying29 h
  have hl2 : cs.length = 5 := hl.trans (by kernel_rfl)
  obtain ⟨u0, u1, u2, u3, u4, rfl⟩ : ∃ u0 u1 u2 u3 u4, cs = [u0, u1, u2, u3, u4] := by
    match cs, hl2 with
    | [u0, u1, u2, u3, u4], _ => exact ⟨u0, u1, u2, u3, u4, rfl⟩
  have hx : xs.length = 5 := hlen
  obtain ⟨y0, y1, y2, y3, y4, rfl⟩ : ∃ y0 y1 y2 y3 y4, xs = [y0, y1, y2, y3, y4] := by
    match xs, hx with
    | [y0, y1, y2, y3, y4], _ => exact ⟨y0, y1, y2, y3, y4, rfl⟩
  have cK : Try.prog.cellsOf 26 = 1 := by kernel_rfl
  have c9 : Try.prog.cellsOf 9 = 1 := by kernel_rfl
  have cA : Try.prog.cellsOf 27 = 1 := by kernel_rfl
  have c4 : Try.prog.cellsOf 4 = 1 := by kernel_rfl
  have h0 : DataW.trod enc Try.prog W base (fun _ => true) held m 26 (List.take (Try.prog.cellsOf 26) [u0, u1, u2, u3, u4]) = some y0 := hf 0 _ rfl
  have h1 : DataW.trod enc Try.prog W base (fun _ => true) held m 9 (List.take (Try.prog.cellsOf 9) [u1, u2, u3, u4]) = some y1 := hf 1 _ rfl
  have h2 : DataW.trod enc Try.prog W base (fun _ => true) held m 27 (List.take (Try.prog.cellsOf 27) [u2, u3, u4]) = some y2 := hf 2 _ rfl
  have h3 : DataW.trod enc Try.prog W base (fun _ => true) held m 4 (List.take (Try.prog.cellsOf 4) [u3, u4]) = some y3 := hf 3 _ rfl
  have h4 : DataW.trod enc Try.prog W base (fun _ => true) held m 9 (List.take (Try.prog.cellsOf 9) [u4]) = some y4 := hf 4 _ rfl
  rw [cK] at h0
  rw [c9] at h1 h4
  rw [cA] at h2
  rw [c4] at h3
  obtain ⟨v0, e0⟩ := opens_int (k := .i64) Try.underlying26 m _ _ _ _ h0
  obtain ⟨v1, e1, b1⟩ := opens_string_b Try.underlying9 m _ _ _ _ h1
  obtain ⟨v2, ⟨A2, c2, e2, l2, g2⟩, q2⟩ : ∃ v, (Kd.slice 41 k41).K W v [u2] ∧ ∀ a ∈ v, a.f0.size ≤ 9223372036854775807 := by
    cases m with
    | zero => simp [DataW.trod] at h2
    | succ m => exact opens_slice_b _ Try.underlying27 (by kernel_rfl) m (opens_attr_b m) _ _ _ _ h2
  obtain ⟨v3, e3⟩ : ∃ b, [u3] = [Value.bool b] := by
    rcases opens_bool Try.underlying4 m _ _ _ _ h3 with ⟨v, e⟩
    exact ⟨_, e⟩
  obtain ⟨v4, e4⟩ := opens_string Try.underlying9 m _ _ _ _ h4
  have e0' : [u0] = [Value.int .i64 v0] := e0
  have e1' : [u1] = [Value.string v1] := e1
  have e2' : [u2] = [Value.slice A2 v2.length c2] := e2
  have e4' : [u4] = [Value.string v4] := e4
  cases e0'
  cases e1'
  cases e2'
  cases e3
  cases e4'
  exact ⟨v0, v1, A2, c2, v2, v3, v4, rfl, l2, g2, b1, q2⟩
end Go.Proofs.Ytpelfhldgnmhpaa.Op
