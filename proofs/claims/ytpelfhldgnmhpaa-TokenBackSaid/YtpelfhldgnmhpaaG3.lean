-- laid by a program of this session's (wip/tools/myprint.py) over the translation
import Derived.Test.YtpelfhldgnmhpaaG0
namespace Go.Proofs.Ytpelfhldgnmhpaa.G
open Go.RowKit Go.Proofs.YtpelfhldgnmhpaaW.PrintWords Go.Proofs.YtpelfhldgnmhpaaW.PrintLast Go.Proofs.YtpelfhldgnmhpaaW.PrintMore
attribute [local go_sem] max2_int min2_int max_two min_two max_three min_three max_four min_four   -- for this text's walks alone
set_option linter.unusedVariables false
set_option linter.unusedSimpArgs false

/-! HAND kind_Lower: function 55 -/
/-- A byte as a small letter. -/
def kind_Lower.c (c : UInt8) : UInt8 := if 65 ≤ c.toNat ∧ c.toNat ≤ 90 then c ||| 32 else c
def kind_Lower.l (l : List UInt8) : List UInt8 := l.map kind_Lower.c
def kind_Lower.low (s : ByteArray) : ByteArray := ⟨(kind_Lower.l s.data.toList).toArray⟩
def kind_Lower.f (s : ByteArray) : Option ByteArray := if s.size ≤ 1000000000000 then some (kind_Lower.low s) else none
/-- Block B's first cells are these bytes. -/
def LB (w : World) (B : Nat) (l : List UInt8) : Prop := ∃ (C : Array Value) (fz : Nat × Nat), w.heap[B]? = some (.cells C 5 fz) ∧ l.length ≤ fz.1 ∧ l.length ≤ C.size ∧ ∀ j (hj : j < l.length), C[j]? = some (.int .u8 (l[j].toNat : Int))
theorem LB.cell {w : World} {B : Nat} {l : List UInt8} (h : LB w B l) (j : Nat) (hj : j < l.length) : w.cell? ⟨B, j, none⟩ = some (.int .u8 (l[j].toNat : Int)) := by
  obtain ⟨C, fz, hb, _, _, hc⟩ := h
  rw [Lib.cell_of_heap hb j, hc j hj]
theorem LB.free {w : World} {B : Nat} {l : List UInt8} (h : LB w B l) (j : Nat) (hj : j < l.length) : w.frozen? ⟨B, j, none⟩ = false := by
  obtain ⟨C, fz, hb, h1, _, hc⟩ := h
  unfold World.frozen?
  rw [hb]
  simp; omega
theorem LB.set {w : World} {B : Nat} {l : List UInt8} (h : LB w B l) (j : Nat) (c : UInt8) : LB (w.setCell ⟨B, j, none⟩ (.int .u8 (c.toNat : Int))) B (l.set j c) := by
  obtain ⟨C, fz, hb, h1, h2, hc⟩ := h
  refine ⟨C.setIfInBounds j (.int .u8 (c.toNat : Int)), fz, by simp [World.setCell, Array.getElem?_modify, hb], by simpa using h1, by simpa using h2, ?_⟩
  intro k hk
  rw [List.length_set] at hk
  rw [Array.getElem?_setIfInBounds, List.getElem_set]
  by_cases e : j = k
  · subst e
    rw [if_pos rfl, if_pos rfl, if_pos (by omega)]
  · rw [if_neg e, if_neg e, hc k hk]
theorem kind_Lower.up {c : UInt8} (h0 : 65 ≤ c.toNat) (h1 : c.toNat ≤ 90) : Go.bits .or .u8 (c.toNat : Int) 32 = ((kind_Lower.c c).toNat : Int) := by
  have : ∀ n : Fin 256, 65 ≤ n.val → n.val ≤ 90 → Go.bits .or .u8 ((UInt8.ofNat n.val).toNat : Int) 32 = ((kind_Lower.c (UInt8.ofNat n.val)).toNat : Int) := by decide +kernel
  have h := this ⟨c.toNat, c.toNat_lt⟩ h0 h1
  simpa using h
theorem kind_Lower.step (l : List UInt8) (k : Nat) (hk : k < l.length) : ((kind_Lower.l (l.take k)) ++ l.drop k).set k (kind_Lower.c l[k]) = kind_Lower.l (l.take (k + 1)) ++ l.drop (k + 1) := by
  have hl : (kind_Lower.l (l.take k)).length = k := by simp [kind_Lower.l]; omega
  rw [List.set_append_right _ _ (by omega), hl, Nat.sub_self, List.drop_eq_getElem_cons hk, List.set_cons_zero, List.take_succ_eq_append_getElem hk]
  simp only [kind_Lower.l, List.map_append, List.map_cons, List.map_nil, List.append_assoc, List.cons_append, List.nil_append]
theorem kind_Lower.same (l : List UInt8) (k : Nat) (hk : k < l.length) (h : kind_Lower.c l[k] = l[k]) : (kind_Lower.l (l.take k)) ++ l.drop k = kind_Lower.l (l.take (k + 1)) ++ l.drop (k + 1) := by
  rw [← kind_Lower.step l k hk, h]
  have hl : (kind_Lower.l (l.take k)).length = k := by simp [kind_Lower.l]; omega
  rw [List.set_append_right _ _ (by omega), hl, Nat.sub_self, List.drop_eq_getElem_cons hk, List.set_cons_zero]
set_option maxHeartbeats 2000000 in
set_option maxRecDepth 100000 in
theorem kind_Lower.any (s : ByteArray) (w : World) (hs : s.size ≤ 1000000000000) :
    Calls Try.prog 55 #[.string s] w fun e w' => e = .returned (.string (kind_Lower.low s)) ∧ Below w.heap.size w w' := by
  have hcv := Lib.run_convert_string_bytes (P := Try.prog) w 9 59 5 s Try.underlying9 Try.underlying59 Try.underlying5
  obtain ⟨W1, hW1⟩ : ∃ W, Lib.bytesWorld w 5 s = W := ⟨_, rfl⟩
  obtain ⟨cap, hcap⟩ : ∃ n, grownCap w s.size 0 5 = n := ⟨_, rfl⟩
  rw [hW1, hcap] at hcv
  have HB : Aside0 (Below w.heap.size w W1) := ⟨by
    subst hW1
    refine ⟨?_, ?_, ?_, by rw [Lib.bytesWorld_size]; omega, fun k hk => Lib.bytesWorld_at_old w _ s k hk⟩ <;> (unfold Lib.bytesWorld World.freeze; split <;> rfl)⟩
  have HL : Aside0 (LB W1 w.heap.size s.data.toList) := ⟨by
    subst hW1
    refine ⟨_, _, Lib.bytesWorld_at_new w _ s, ?_, ?_, ?_⟩
    · simp [Lib.bytesCells]
    · simp [Lib.bytesCells]
    · intro j hj
      have hj' : j < s.data.size := by simpa using hj
      have hj2 : j < s.size := hj'
      simp [Lib.bytesCells, Array.getElem?_append, hj', hj2]⟩
  obtain ⟨b0, hb0⟩ : ∃ b, w.heap.size = b := ⟨_, rfl⟩
  have HWB := Aside0.mk hb0
  rw [hb0] at HL hcv
  clear hW1 hcap hb0
  go_enter Try.func55, Try.ntmps55
  go_wp2
  clear hcv
  go_loopw [10] (fun v10 wr => ∃ k : Nat, k ≤ s.size ∧ v10 = .int .i64 k ∧ Aside0 (LB wr b0 (kind_Lower.l (s.data.toList.take k) ++ s.data.toList.drop k)) ∧ Aside0 (Below w.heap.size w wr)) (fun v10 _ => s.size - (intOf v10).toNat)
  case atStart => exact ⟨0, Nat.zero_le _, rfl, by simpa [kind_Lower.l] using HL, HB⟩
  case round =>
    clear HL HB
    obtain ⟨k, hk, rfl, HL, HB⟩ := hrel
    have hlen : (kind_Lower.l (s.data.toList.take k) ++ s.data.toList.drop k).length = s.size := by simp [kind_Lower.l]; omega
    by_cases hlt : k < s.size
    · have hkd : k < s.data.toList.length := by simpa using hlt
      have hx : (kind_Lower.l (s.data.toList.take k) ++ s.data.toList.drop k)[k]'(by omega) = s.data.toList[k] := by
        rw [List.getElem_append_right (by simp [kind_Lower.l]; omega)]
        simp [kind_Lower.l, Nat.min_eq_left hk]
      have hcell := HL.out.cell k (by omega)
      rw [hx] at hcell
      have hfree := HL.out.free k (by omega)
      obtain ⟨c, hc⟩ : ∃ c, s.data.toList[k] = c := ⟨_, rfl⟩
      have hst := kind_Lower.step s.data.toList k hkd
      have hsm := kind_Lower.same s.data.toList k hkd
      rw [hc] at hcell hst hsm
      have HST := Aside0.mk hst
      have HSM := Aside0.mk hsm
      have hk0 : (0 : Int) ≤ (k : Int) := by omega
      have hk1 : (k : Int) < (s.size : Int) := by omega
      have hk9 : (k : Int) ≤ 1000000000000 := by omega
      clear hst hsm hx hc hlen hkd
      by_cases h0 : 65 ≤ c.toNat
      · by_cases h1 : c.toNat ≤ 90
        · have g0 : decide ((c.toNat : Int) ≥ 65) = true := by simp; omega
          have g1 : decide ((c.toNat : Int) ≤ 90) = true := by simp; omega
          have hor := kind_Lower.up h0 h1
          have HOR := Aside0.mk hor
          go_wp2
          go_roundw
          case rel => exact ⟨k + 1, by omega, by go_num, ⟨by have := HL.out.set k (kind_Lower.c c); rw [HST.out] at this; exact this⟩, ⟨HB.out.setCell (by rw [HWB.out]; exact Nat.le_refl _) _⟩⟩
          case measure => simp [intOf]; omega
        · have g0 : decide ((c.toNat : Int) ≥ 65) = true := by simp; omega
          have g1 : decide ((c.toNat : Int) ≤ 90) = false := by simp; omega
          have hq : kind_Lower.c c = c := by unfold kind_Lower.c; rw [if_neg (by omega)]
          have HQ := Aside0.mk (HSM.out hq)
          clear hq
          go_wp2
          go_roundw
          case rel => exact ⟨k + 1, by omega, by go_num, ⟨by rw [← HQ.out]; exact HL.out⟩, HB⟩
          case measure => simp [intOf]; omega
      · have g0 : decide ((c.toNat : Int) ≥ 65) = false := by simp; omega
        have hq : kind_Lower.c c = c := by unfold kind_Lower.c; rw [if_neg (by omega)]
        have HQ := Aside0.mk (HSM.out hq)
        clear hq
        go_wp2
        go_roundw
        case rel => exact ⟨k + 1, by omega, by go_num, ⟨by rw [← HQ.out]; exact HL.out⟩, HB⟩
        case measure => simp [intOf]; omega
    · obtain rfl : k = s.size := by omega
      have e : kind_Lower.l (s.data.toList.take s.size) ++ s.data.toList.drop s.size = kind_Lower.l s.data.toList := by
        rw [List.take_of_length_le (by simp), List.drop_of_length_le (by simp), List.append_nil]
      have hL := HL.out
      rw [e] at hL
      have hbk := run_convert_bytes_back (P := Try.prog) wr 59 9 5 ⟨b0, 0, none⟩ cap (kind_Lower.l s.data.toList) Try.underlying59 Try.underlying5 Try.underlying9 (fun j hj => by
        have := hL.cell j hj
        have e : (Addr.add ⟨b0, 0, none⟩ j : Addr) = ⟨b0, j, none⟩ := by unfold Addr.add; split <;> simp_all
        rw [e]; exact this)
      have hl2 : (kind_Lower.l s.data.toList).length = s.size := by simp [kind_Lower.l]
      rw [hl2] at hbk
      clear hL hl2 e hlen HL
      go_wp2
      go_ret
      exact ⟨rfl, HB.out⟩

end Go.Proofs.Ytpelfhldgnmhpaa.G
