-- laid by a program of this session's (wip/tools/myprint.py) over the translation
import Derived.Test.YthialihgamlljaaG0
namespace Go.Proofs.Ythialihgamlljaa.G
open Go.RowKit Go.Proofs.YthialihgamlljaaW.PrintWords Go.Proofs.YthialihgamlljaaW.PrintLast Go.Proofs.YthialihgamlljaaW.PrintMore
attribute [local go_sem] max2_int min2_int max_two min_two max_three min_three max_four min_four   -- for this text's walks alone
set_option linter.unusedVariables false
set_option linter.unusedSimpArgs false

/-! HAND print_Escape: function 18 -/
/-- A text's bytes, escaped; 'skip': the byte at hand is the second one of U+00A0. -/
def print_Escape.esc (attr : Bool) : Bool → List UInt8 → List UInt8
  | _, [] => []
  | true, _ :: r => print_Escape.esc attr false r
  | false, c :: r =>
    if c = 38 then [38, 97, 109, 112, 59] ++ print_Escape.esc attr false r
    else if c = 60 then [38, 108, 116, 59] ++ print_Escape.esc attr false r
    else if c = 62 then [38, 103, 116, 59] ++ print_Escape.esc attr false r
    else if c = 34 ∧ attr = true then [38, 113, 117, 111, 116, 59] ++ print_Escape.esc attr false r
    else if c = 194 ∧ r.head? = some 160 then [38, 110, 98, 115, 112, 59] ++ print_Escape.esc attr true r
    else c :: print_Escape.esc attr false r
def print_Escape.f (a0 : ByteArray) (a1 : Bool) : Option ByteArray :=
  if a0.size ≤ 1000000000000 then some ⟨(print_Escape.esc a1 false a0.data.toList).toArray⟩ else none
/-- What the loop holds at byte k: what was written, and what is still to come. -/
def print_Escape.At (a0 : ByteArray) (a1 : Bool) (k : Nat) (acc : List UInt8) : Prop :=
  k ≤ a0.size ∧ acc.length ≤ 6 * k ∧ acc ++ print_Escape.esc a1 false (a0.data.toList.drop k) = print_Escape.esc a1 false a0.data.toList
theorem print_Escape.drop1 (a0 : ByteArray) (k : Nat) (h : k < a0.size) : a0.data.toList.drop k = a0[k] :: a0.data.toList.drop (k + 1) := by
  have h' : k < a0.data.toList.length := by simpa using h
  rw [List.drop_eq_getElem_cons h']
  rfl
theorem print_Escape.At.one {a0 : ByteArray} {a1 : Bool} {k : Nat} {acc add : List UInt8} (h : print_Escape.At a0 a1 k acc) (hk : k < a0.size) (hl : add.length ≤ 6)
    (he : print_Escape.esc a1 false (a0[k] :: a0.data.toList.drop (k + 1)) = add ++ print_Escape.esc a1 false (a0.data.toList.drop (k + 1))) : print_Escape.At a0 a1 (k + 1) (acc ++ add) := by
  obtain ⟨_, h2, h3⟩ := h
  refine ⟨by omega, by simp; omega, ?_⟩
  rw [print_Escape.drop1 a0 k hk, he] at h3
  rw [List.append_assoc]; exact h3
theorem print_Escape.At.two {a0 : ByteArray} {a1 : Bool} {k : Nat} {acc add : List UInt8} (h : print_Escape.At a0 a1 k acc) (hk : k + 1 < a0.size) (hl : add.length ≤ 6)
    (he : print_Escape.esc a1 false (a0[k] :: a0.data.toList.drop (k + 1)) = add ++ print_Escape.esc a1 true (a0.data.toList.drop (k + 1))) : print_Escape.At a0 a1 (k + 1 + 1) (acc ++ add) := by
  obtain ⟨_, h2, h3⟩ := h
  refine ⟨by omega, by simp; omega, ?_⟩
  rw [print_Escape.drop1 a0 k (by omega), he, print_Escape.drop1 a0 (k + 1) (by omega), print_Escape.esc] at h3
  rw [List.append_assoc]; exact h3
theorem print_Escape.u8 (c : UInt8) (n : Int) (m : UInt8) (h : (m.toNat : Int) = n) : ((c.toNat : Int) == n) = decide (c = m) := by
  subst h
  rw [Bool.eq_iff_iff]
  simp only [beq_iff_eq, decide_eq_true_eq]
  exact ⟨fun h => UInt8.toNat_inj.1 (by omega), fun h => by rw [h]⟩
def print_Escape.pre (a0 : ByteArray) (k : Nat) : Bool := Lib.hasPrefix (a0.extract k a0.size).data.toList [194, 160]
theorem print_Escape.pre_iff (a0 : ByteArray) (k : Nat) (h : k < a0.size) : print_Escape.pre a0 k = true ↔ a0[k] = 194 ∧ (a0.data.toList.drop (k + 1)).head? = some 160 := by
  have e : (a0.extract k a0.size).data.toList = a0.data.toList.drop k := by
    rw [ByteArray.data_extract, Array.toList_extract]
    rw [List.extract_eq_take_drop]
    exact List.take_of_length_le (by simp)
  unfold print_Escape.pre Lib.hasPrefix
  rw [e, print_Escape.drop1 a0 k h]
  generalize a0.data.toList.drop (k + 1) = l
  cases l with
  | nil => simp [List.isPrefixOf]
  | cons d r =>
    simp only [List.isPrefixOf, Bool.and_true, Bool.and_eq_true, beq_iff_eq, List.head?_cons, Option.some.injEq]
    exact ⟨fun ⟨a, b⟩ => ⟨a.symm, b.symm⟩, fun ⟨a, b⟩ => ⟨a.symm, b.symm⟩⟩
theorem print_Escape.prefix (a0 : ByteArray) (k : Nat) (b : Bool) (hb : print_Escape.pre a0 k = b) (w : World) :
    Calls Try.prog 33 #[.string (a0.extract k a0.size), .string ⟨#[194, 160]⟩] w fun e w' => e = .returned (.bool b) ∧ w' = w := by
  subst hb
  exact Try.strings_HasPrefix _ _ w
theorem print_Escape.byteCells_str (acc : List UInt8) (s : ByteArray) : Lib.byteCells acc ++ Lib.strCells s = Lib.byteCells (acc ++ s.data.toList) := by
  simp [Lib.byteCells, Lib.strCells]
def print_Escape.Rel (a0 : ByteArray) (a1 : Bool) (w : World) (k : Nat) (wr : World) : Prop :=
  ∃ acc, print_Escape.At a0 a1 k acc ∧ BX.BX 50 [] w.heap.size w.heap.size (Lib.byteCells acc) wr ∧ Below w.heap.size w wr
theorem print_Escape.Rel.one {a0 : ByteArray} {a1 : Bool} {w : World} {k : Nat} {acc add : List UInt8} {w2 : World} {cells : List Value} (h : print_Escape.At a0 a1 k acc) (hk : k < a0.size)
    (he : print_Escape.esc a1 false (a0[k] :: a0.data.toList.drop (k + 1)) = add ++ print_Escape.esc a1 false (a0.data.toList.drop (k + 1))) (hl : add.length ≤ 6)
    (hc : Lib.byteCells acc ++ cells = Lib.byteCells (acc ++ add)) (hu : BX.Used 50 [] w.heap.size w.heap.size (Lib.byteCells acc ++ cells) w2) (hb : Below w.heap.size w w2) : print_Escape.Rel a0 a1 w (k + 1) w2 :=
  ⟨acc ++ add, h.one hk hl he, hc ▸ hu.bx, hb⟩
theorem print_Escape.Rel.two {a0 : ByteArray} {a1 : Bool} {w : World} {k : Nat} {acc add : List UInt8} {w2 : World} {cells : List Value} (h : print_Escape.At a0 a1 k acc) (hk : k + 1 < a0.size)
    (he : print_Escape.esc a1 false (a0[k] :: a0.data.toList.drop (k + 1)) = add ++ print_Escape.esc a1 true (a0.data.toList.drop (k + 1))) (hl : add.length ≤ 6)
    (hc : Lib.byteCells acc ++ cells = Lib.byteCells (acc ++ add)) (hu : BX.Used 50 [] w.heap.size w.heap.size (Lib.byteCells acc ++ cells) w2) (hb : Below w.heap.size w w2) : print_Escape.Rel a0 a1 w (k + 1 + 1) w2 :=
  ⟨acc ++ add, h.two hk hl he, hc ▸ hu.bx, hb⟩
theorem print_Escape.byteCells_one (acc : List UInt8) (c : UInt8) : Lib.byteCells acc ++ [.int .u8 (c.toNat : Int)] = Lib.byteCells (acc ++ [c]) := by
  simp [Lib.byteCells]
theorem print_Escape.str_len (acc : List UInt8) (a0 : ByteArray) (a1 : Bool) (k n : Nat) (h : print_Escape.At a0 a1 k acc) (hs : a0.size ≤ 1000000000000) (hn : n ≤ 6) : (Lib.byteCells acc).length + n ≤ 140737488355328 := by
  obtain ⟨h1, h2, _⟩ := h
  rw [Lib.byteCells_length]
  omega
set_option maxHeartbeats 4000000 in
set_option maxRecDepth 100000 in
theorem print_Escape.calls (a0 : ByteArray) (a1 : Bool) (r : ByteArray) (w : World) (h : print_Escape.f a0 a1 = some r) :
    Calls Try.prog 18 #[.string a0, .bool a1] w fun e w' => e = .returned (.string r) ∧ Below w.heap.size w w' := by
  unfold print_Escape.f at h
  by_cases hs : a0.size ≤ 1000000000000
  · rw [if_pos hs] at h
    obtain rfl := Option.some.inj h
    clear h
    have hF : Aside0 (BX.Fits 50 []) := ⟨⟨by kernel_rfl, by decide⟩⟩
    go_enter Try.func18, Try.ntmps18
    go_wp2
    go_loopw [6] (fun v6 wr => ∃ k : Nat, v6 = .int .i64 k ∧ k ≤ a0.size ∧ Aside0 (print_Escape.Rel a0 a1 w k wr)) (fun v6 _ => a0.size - (intOf v6).toNat)
    case atStart => exact ⟨0, rfl, Nat.zero_le _, ⟨[], ⟨Nat.zero_le _, Nat.zero_le _, rfl⟩, BX.BX.fresh, (Below.refl _ _).alloc (Nat.le_refl _) _⟩⟩
    case round =>
      obtain ⟨k, rfl, hk, HR⟩ := hrel
      by_cases hlt : k < a0.size
      · obtain ⟨acc, hAt, hBX, hBel⟩ := HR.out
        have HAT := Aside0.mk hAt
        have HBX := Aside0.mk hBX
        have HBL := Aside0.mk hBel
        clear HR hAt hBX hBel
        have HK : Aside0 (k < a0.size) := ⟨hlt⟩
        by_cases h38 : a0[k] = 38
        · have f38 : ((a0[k].toNat : Int) == 38) = true := by rw [print_Escape.u8 a0[k] 38 38 rfl]; exact decide_eq_true h38
          have HE : Aside0 (print_Escape.esc a1 false (a0[k] :: a0.data.toList.drop (k + 1)) = [38, 97, 109, 112, 59] ++ print_Escape.esc a1 false (a0.data.toList.drop (k + 1))) := ⟨by rw [print_Escape.esc]; simp [h38]⟩
          clear h38
          go_wp2_with (first | (go_at_call 33; refine (print_Escape.prefix a0 k _ HP.out _).mono ?_; rintro e w1 ⟨rfl, rfl⟩) | (go_at_call 32; refine (BX.writeString 50 [] hF.out _ _ (Lib.byteCells acc) ⟨#[38, 97, 109, 112, 59]⟩ _ HBX.out (print_Escape.str_len acc a0 a1 k 5 HAT.out hs (by decide)) HBL.out.size).mono ?_; rintro e w1 ⟨rfl, hu, hb, _⟩))
          go_roundw
          case rel => exact ⟨k + 1, by go_num, by have := HK.out; omega, ⟨print_Escape.Rel.one (add := [38, 97, 109, 112, 59]) HAT.out HK.out HE.out (by decide) (print_Escape.byteCells_str acc ⟨#[38, 97, 109, 112, 59]⟩) hu (HBL.out.trans hb)⟩⟩
          case measure => have := HK.out; simp [intOf]; omega
        · have f38 : ((a0[k].toNat : Int) == 38) = false := by rw [print_Escape.u8 a0[k] 38 38 rfl]; exact decide_eq_false h38
          by_cases h60 : a0[k] = 60
          · have f60 : ((a0[k].toNat : Int) == 60) = true := by rw [print_Escape.u8 a0[k] 60 60 rfl]; exact decide_eq_true h60
            have HE : Aside0 (print_Escape.esc a1 false (a0[k] :: a0.data.toList.drop (k + 1)) = [38, 108, 116, 59] ++ print_Escape.esc a1 false (a0.data.toList.drop (k + 1))) := ⟨by rw [print_Escape.esc]; simp [h60]⟩
            clear h38 h60
            go_wp2_with (first | (go_at_call 33; refine (print_Escape.prefix a0 k _ HP.out _).mono ?_; rintro e w1 ⟨rfl, rfl⟩) | (go_at_call 32; refine (BX.writeString 50 [] hF.out _ _ (Lib.byteCells acc) ⟨#[38, 108, 116, 59]⟩ _ HBX.out (print_Escape.str_len acc a0 a1 k 4 HAT.out hs (by decide)) HBL.out.size).mono ?_; rintro e w1 ⟨rfl, hu, hb, _⟩))
            go_roundw
            case rel => exact ⟨k + 1, by go_num, by have := HK.out; omega, ⟨print_Escape.Rel.one (add := [38, 108, 116, 59]) HAT.out HK.out HE.out (by decide) (print_Escape.byteCells_str acc ⟨#[38, 108, 116, 59]⟩) hu (HBL.out.trans hb)⟩⟩
            case measure => have := HK.out; simp [intOf]; omega
          · have f60 : ((a0[k].toNat : Int) == 60) = false := by rw [print_Escape.u8 a0[k] 60 60 rfl]; exact decide_eq_false h60
            by_cases h62 : a0[k] = 62
            · have f62 : ((a0[k].toNat : Int) == 62) = true := by rw [print_Escape.u8 a0[k] 62 62 rfl]; exact decide_eq_true h62
              have HE : Aside0 (print_Escape.esc a1 false (a0[k] :: a0.data.toList.drop (k + 1)) = [38, 103, 116, 59] ++ print_Escape.esc a1 false (a0.data.toList.drop (k + 1))) := ⟨by rw [print_Escape.esc]; simp [h62]⟩
              clear h38 h60 h62
              go_wp2_with (first | (go_at_call 33; refine (print_Escape.prefix a0 k _ HP.out _).mono ?_; rintro e w1 ⟨rfl, rfl⟩) | (go_at_call 32; refine (BX.writeString 50 [] hF.out _ _ (Lib.byteCells acc) ⟨#[38, 103, 116, 59]⟩ _ HBX.out (print_Escape.str_len acc a0 a1 k 4 HAT.out hs (by decide)) HBL.out.size).mono ?_; rintro e w1 ⟨rfl, hu, hb, _⟩))
              go_roundw
              case rel => exact ⟨k + 1, by go_num, by have := HK.out; omega, ⟨print_Escape.Rel.one (add := [38, 103, 116, 59]) HAT.out HK.out HE.out (by decide) (print_Escape.byteCells_str acc ⟨#[38, 103, 116, 59]⟩) hu (HBL.out.trans hb)⟩⟩
              case measure => have := HK.out; simp [intOf]; omega
            · have f62 : ((a0[k].toNat : Int) == 62) = false := by rw [print_Escape.u8 a0[k] 62 62 rfl]; exact decide_eq_false h62
              have HN : Aside0 (a0[k] ≠ 38 ∧ a0[k] ≠ 60 ∧ a0[k] ≠ 62) := ⟨h38, h60, h62⟩
              clear h38 h60 h62
              by_cases h34 : a0[k] = 34
              · have f34 : ((a0[k].toNat : Int) == 34) = true := by rw [print_Escape.u8 a0[k] 34 34 rfl]; exact decide_eq_true h34
                cases a1 with
                | true =>
                  have HE : Aside0 (print_Escape.esc true false (a0[k] :: a0.data.toList.drop (k + 1)) = [38, 113, 117, 111, 116, 59] ++ print_Escape.esc true false (a0.data.toList.drop (k + 1))) := ⟨by rw [print_Escape.esc]; simp [h34]⟩
                  clear h34
                  go_wp2_with (first | (go_at_call 32; refine (BX.writeString 50 [] hF.out _ _ (Lib.byteCells acc) ⟨#[38, 113, 117, 111, 116, 59]⟩ _ HBX.out (print_Escape.str_len acc a0 true k 6 HAT.out hs (by decide)) HBL.out.size).mono ?_; rintro e w1 ⟨rfl, hu, hb, _⟩))
                  go_roundw
                  case rel => exact ⟨k + 1, by go_num, by have := HK.out; omega, ⟨print_Escape.Rel.one (add := [38, 113, 117, 111, 116, 59]) HAT.out HK.out HE.out (by decide) (print_Escape.byteCells_str acc ⟨#[38, 113, 117, 111, 116, 59]⟩) hu (HBL.out.trans hb)⟩⟩
                  case measure => have := HK.out; simp [intOf]; omega
                | false =>
                  have HP : Aside0 (print_Escape.pre a0 k = false) := ⟨by rw [← Bool.not_eq_true, print_Escape.pre_iff a0 k hlt, h34]; intro h; exact absurd h.1 (by decide)⟩
                  have HE : Aside0 (print_Escape.esc false false (a0[k] :: a0.data.toList.drop (k + 1)) = [a0[k]] ++ print_Escape.esc false false (a0.data.toList.drop (k + 1))) := ⟨by rw [print_Escape.esc]; simp [h34]⟩
                  clear h34
                  go_wp2_with (first | (go_at_call 33; refine (print_Escape.prefix a0 k _ HP.out _).mono ?_; rintro e w1 ⟨rfl, rfl⟩) | (go_at_call 34; refine (BX.writeByte 50 [] hF.out _ _ (Lib.byteCells acc) _ _ HBX.out (print_Escape.str_len acc a0 false k 1 HAT.out hs (by decide)) HBL.out.size).mono ?_; rintro e w1 ⟨rfl, hu, hb, _⟩))
                  go_roundw
                  case rel => exact ⟨k + 1, by go_num, by have := HK.out; omega, ⟨print_Escape.Rel.one (add := [a0[k]]) HAT.out HK.out HE.out (by simp) (print_Escape.byteCells_one acc a0[k]) hu (HBL.out.trans hb)⟩⟩
                  case measure => have := HK.out; simp [intOf]; omega
              · have f34 : ((a0[k].toNat : Int) == 34) = false := by rw [print_Escape.u8 a0[k] 34 34 rfl]; exact decide_eq_false h34
                have HQ : Aside0 (¬ (a0[k] = 34 ∧ a1 = true)) := ⟨fun h => h34 h.1⟩
                clear h34
                by_cases hp : print_Escape.pre a0 k = true
                · have HP : Aside0 (print_Escape.pre a0 k = true) := ⟨hp⟩
                  obtain ⟨hc, hd⟩ := (print_Escape.pre_iff a0 k hlt).1 hp
                  have HK2 : Aside0 (k + 1 < a0.size) := ⟨by
                    rcases Nat.lt_or_ge (k + 1) a0.size with h | h
                    · exact h
                    · rw [List.drop_eq_nil_of_le (by simpa using h)] at hd; cases hd⟩
                  have HE : Aside0 (print_Escape.esc a1 false (a0[k] :: a0.data.toList.drop (k + 1)) = [38, 110, 98, 115, 112, 59] ++ print_Escape.esc a1 true (a0.data.toList.drop (k + 1))) := ⟨by
                    rw [print_Escape.esc, if_neg HN.out.1, if_neg HN.out.2.1, if_neg HN.out.2.2, if_neg HQ.out, if_pos ⟨hc, hd⟩]⟩
                  clear hp hc hd
                  go_wp2_with (first | (go_at_call 33; refine (print_Escape.prefix a0 k _ HP.out _).mono ?_; rintro e w1 ⟨rfl, rfl⟩) | (go_at_call 32; refine (BX.writeString 50 [] hF.out _ _ (Lib.byteCells acc) ⟨#[38, 110, 98, 115, 112, 59]⟩ _ HBX.out (print_Escape.str_len acc a0 a1 k 6 HAT.out hs (by decide)) HBL.out.size).mono ?_; rintro e w1 ⟨rfl, hu, hb, _⟩))
                  go_roundw
                  case rel => exact ⟨k + 1 + 1, by go_num, by have := HK2.out; omega, ⟨print_Escape.Rel.two (add := [38, 110, 98, 115, 112, 59]) HAT.out HK2.out HE.out (by decide) (print_Escape.byteCells_str acc ⟨#[38, 110, 98, 115, 112, 59]⟩) hu (HBL.out.trans hb)⟩⟩
                  case measure => have := HK2.out; simp [intOf]; omega
                · have HP : Aside0 (print_Escape.pre a0 k = false) := ⟨Bool.eq_false_iff.2 hp⟩
                  have HE : Aside0 (print_Escape.esc a1 false (a0[k] :: a0.data.toList.drop (k + 1)) = [a0[k]] ++ print_Escape.esc a1 false (a0.data.toList.drop (k + 1))) := ⟨by
                    rw [print_Escape.esc, if_neg HN.out.1, if_neg HN.out.2.1, if_neg HN.out.2.2, if_neg HQ.out, if_neg (fun h => hp ((print_Escape.pre_iff a0 k hlt).2 h))]; rfl⟩
                  clear hp
                  go_wp2_with (first | (go_at_call 33; refine (print_Escape.prefix a0 k _ HP.out _).mono ?_; rintro e w1 ⟨rfl, rfl⟩) | (go_at_call 34; refine (BX.writeByte 50 [] hF.out _ _ (Lib.byteCells acc) _ _ HBX.out (print_Escape.str_len acc a0 a1 k 1 HAT.out hs (by decide)) HBL.out.size).mono ?_; rintro e w1 ⟨rfl, hu, hb, _⟩))
                  go_roundw
                  case rel => exact ⟨k + 1, by go_num, by have := HK.out; omega, ⟨print_Escape.Rel.one (add := [a0[k]]) HAT.out HK.out HE.out (by simp) (print_Escape.byteCells_one acc a0[k]) hu (HBL.out.trans hb)⟩⟩
                  case measure => have := HK.out; simp [intOf]; omega
      · obtain ⟨acc, hAt, hBX, hBel⟩ := HR.out
        have hk' : k = a0.size := by omega
        have hacc : acc = print_Escape.esc a1 false a0.data.toList := by
          have := hAt.2.2
          rw [List.drop_eq_nil_of_le (by simp; omega)] at this
          simpa [print_Escape.esc] using this
        have HACC := Aside0.mk hacc
        have HBX := Aside0.mk hBX
        have HBL := Aside0.mk hBel
        clear HR hAt hBX hBel hacc hk'
        go_wp2_with (go_at_call 30; refine (BX.string 50 [] _ _ acc _ HBX.out HBL.out.size).mono ?_; rintro e w1 ⟨rfl, hb⟩)
        go_ret
        exact ⟨by rw [HACC.out]; rfl, HBL.out.trans hb⟩
  · rw [if_neg hs] at h
    exact absurd h (by simp)

end Go.Proofs.Ythialihgamlljaa.G
