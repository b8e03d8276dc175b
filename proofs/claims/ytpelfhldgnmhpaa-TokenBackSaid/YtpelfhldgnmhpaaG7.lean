-- laid by a program of this session's (wip/tools/myprint.py) over the translation
import Derived.Test.YtpelfhldgnmhpaaG0
import Derived.Test.YtpelfhldgnmhpaaG5
import Derived.Test.YtpelfhldgnmhpaaG6
namespace Go.Proofs.Ytpelfhldgnmhpaa.G
open Go.RowKit Go.Proofs.YtpelfhldgnmhpaaW.PrintWords Go.Proofs.YtpelfhldgnmhpaaW.PrintLast Go.Proofs.YtpelfhldgnmhpaaW.PrintMore
attribute [local go_sem] max2_int min2_int max_two min_two max_three min_three max_four min_four   -- for this text's walks alone
set_option linter.unusedVariables false
set_option linter.unusedSimpArgs false

/-! HAND token_reader_until: function 57 -/
/-- A reader's block. -/
def RD (w : World) (g : Nat) (s : ByteArray) (i : Int) : Prop := w.heap[g]? = some (.cells #[.string s, .int .i64 i] 48 (0, 0))
theorem RD.lt {w : World} {g : Nat} {s : ByteArray} {i : Int} (h : RD w g s i) : g < w.heap.size := (Array.getElem?_eq_some_iff.1 h).1
theorem RD.c0 {w : World} {g : Nat} {s : ByteArray} {i : Int} (h : RD w g s i) : w.cell? ⟨g, 0, none⟩ = some (.string s) := Lib.cell_of_heap h 0
theorem RD.c1 {w : World} {g : Nat} {s : ByteArray} {i : Int} (h : RD w g s i) : w.cell? ⟨g, 1, none⟩ = some (.int .i64 i) := Lib.cell_of_heap h 1
theorem RD.f {w : World} {g : Nat} {s : ByteArray} {i : Int} (h : RD w g s i) (j : Nat) : w.frozen? ⟨g, j, none⟩ = false := Lib.frozen_of_heap h j
theorem RD.set {w : World} {g : Nat} {s : ByteArray} {i : Int} (h : RD w g s i) (j : Int) : RD (w.setCell ⟨g, 1, none⟩ (.int .i64 j)) g s j := by
  unfold RD at *
  simp [World.setCell, Array.getElem?_modify, h]
theorem RD.keep {w w' : World} {g : Nat} {s : ByteArray} {i : Int} (h : RD w g s i) (hb : Below w.heap.size w w') : RD w' g s i := (hb.block g h.lt).trans h
/-- What a call leaves alone: all blocks that stood, but those of G. -/
structure Fr (G : Nat → Prop) (w w' : World) : Prop where
  os : w'.os = w.os
  tape : w'.tape = w.tape
  output : w'.output = w.output
  size : w.heap.size ≤ w'.heap.size
  block : ∀ k, k < w.heap.size → ¬ G k → w'.heap[k]? = w.heap[k]?
section
variable {G G1 : Nat → Prop} {w w1 w2 : World}
theorem Fr.refl (G : Nat → Prop) (w : World) : Fr G w w := ⟨rfl, rfl, rfl, Nat.le_refl _, fun _ _ _ => rfl⟩
theorem Fr.then_ (h : Fr G w w1) (k : Fr G1 w1 w2) (hs : ∀ i, G1 i → G i ∨ w.heap.size ≤ i) : Fr G w w2 :=
  ⟨k.os.trans h.os, k.tape.trans h.tape, k.output.trans h.output, Nat.le_trans h.size k.size, fun i hi hn => (k.block i (Nat.lt_of_lt_of_le hi h.size) (fun hg => (hs i hg).elim hn (by omega))).trans (h.block i hi hn)⟩
theorem Fr.trans (h : Fr G w w1) (k : Fr G w1 w2) : Fr G w w2 := h.then_ k fun _ h => Or.inl h
theorem Fr.of_below (h : Below w.heap.size w w1) : Fr G w w1 := ⟨h.os, h.tape, h.output, h.size, fun i hi _ => h.block i hi⟩
theorem Fr.below (h : Fr G w w1) (k : Below w1.heap.size w1 w2) : Fr G w w2 := h.trans (Fr.of_below k)
theorem Fr.drewN (h : Fr G w w1) (n : Nat) : Fr G w (w1.drewN n) := ⟨h.os, h.tape, h.output, h.size, h.block⟩
theorem Fr.drew (h : Fr G w w1) : Fr G w w1.drew := ⟨h.os, h.tape, h.output, h.size, h.block⟩
theorem Fr.alloc (h : Fr G w w1) (o : Obj) : Fr G w (w1.alloc o) := h.below ((Below.refl _ _).alloc (Nat.le_refl _) o)
theorem Fr.setCell (h : Fr G w w1) {p : Addr} (hp : G p.block ∨ w.heap.size ≤ p.block) (v : Value) : Fr G w (w1.setCell p v) :=
  ⟨h.os, h.tape, h.output, by simpa [World.setCell] using h.size, fun i hi hn => (Below.heap_setCell _ _ _ _ (fun e => by subst e; exact hp.elim hn (by omega))).trans (h.block i hi hn)⟩
theorem Fr.own {g : Nat} (h : Fr (· = g) w w1) (j : Nat) (v : Value) : Fr (· = g) w (w1.setCell ⟨g, j, none⟩ v) := h.setCell (p := ⟨g, j, none⟩) (Or.inl rfl) v
theorem Fr.to_below {B : Nat} {w0 : World} (h : Below B w0 w) (k : Fr G w w1) (hB : B ≤ w.heap.size) (hg : ∀ i, G i → B ≤ i) : Below B w0 w1 :=
  ⟨k.os.trans h.os, k.tape.trans h.tape, k.output.trans h.output, Nat.le_trans h.size k.size, fun i hi => (k.block i (by omega) (fun e => by have := hg i e; omega)).trans (h.block i hi)⟩
theorem Fr.keepBut {g : Nat} (h : Fr (· = g) w w1) : KeepBut w w1 g none := ⟨h.size, fun i hi hn _ => h.block i hi hn⟩
end
theorem RD.fr {w w' : World} {g : Nat} {s : ByteArray} {i : Int} {G : Nat → Prop} (h : RD w g s i) (hb : Fr G w w') (hg : ¬ G g) : RD w' g s i := (hb.block g h.lt hg).trans h
theorem RD.al {w : World} {g : Nat} {s : ByteArray} {i : Int} (h : RD w g s i) (o : Obj) : RD (w.alloc o) g s i := h.keep ((Below.refl _ _).alloc (Nat.le_refl _) _)
theorem RD.drN {w : World} {g : Nat} {s : ByteArray} {i : Int} (h : RD w g s i) (n : Nat) : RD (w.drewN n) g s i := h
theorem RD.dr {w : World} {g : Nat} {s : ByteArray} {i : Int} (h : RD w g s i) : RD w.drew g s i := h
theorem Below.drN {B : Nat} {w w1 : World} (h : Below B w w1) (n : Nat) : Below B w (w1.drewN n) := ⟨h.os, h.tape, h.output, h.size, h.block⟩
def token_until.sp (c : UInt8) : Bool := c == 9 || c == 10 || c == 12 || c == 13 || c == 32
theorem token_until.sp_ok (c : UInt8) : kind_Space.f (c.toNat : Int) = some (token_until.sp c) := by
  have : ∀ n : Fin 256, kind_Space.f ((UInt8.ofNat n.val).toNat : Int) = some (token_until.sp (UInt8.ofNat n.val)) := by decide +kernel
  have h := this ⟨c.toNat, c.toNat_lt⟩
  simpa using h
/-- How many bytes stand ahead of one that ends them. -/
def token_until.len (p : UInt8 → Bool) (l : List UInt8) : Nat := (l.takeWhile fun c => !p c).length
theorem token_until.len_le (p : UInt8 → Bool) (l : List UInt8) : token_until.len p l ≤ l.length := (List.takeWhile_prefix _).length_le
theorem token_until.len_stop (p : UInt8 → Bool) (s : ByteArray) (j : Nat) (h : j < s.size) (hp : p s[j] = true) : token_until.len p (s.data.toList.drop j) = 0 := by
  have h' : j < s.data.toList.length := by simpa using h
  have e : s.data.toList[j] = s[j] := rfl
  unfold token_until.len
  rw [List.drop_eq_getElem_cons h', e, List.takeWhile_cons, hp]; rfl
theorem token_until.len_go (p : UInt8 → Bool) (s : ByteArray) (j : Nat) (h : j < s.size) (hp : p s[j] = false) : token_until.len p (s.data.toList.drop j) = token_until.len p (s.data.toList.drop (j + 1)) + 1 := by
  have h' : j < s.data.toList.length := by simpa using h
  have e : s.data.toList[j] = s[j] := rfl
  unfold token_until.len
  rw [List.drop_eq_getElem_cons h', e, List.takeWhile_cons, hp]; rfl
theorem token_until.len_end (p : UInt8 → Bool) (s : ByteArray) (j : Nat) (h : ¬ j < s.size) : token_until.len p (s.data.toList.drop j) = 0 := by
  have h' : s.data.toList.length ≤ j := by simpa using h
  rw [List.drop_of_length_le h']; rfl
/-- Where the next byte that ends them stands, or the end. -/
def token_until.to (p : UInt8 → Bool) (s : ByteArray) (i : Nat) : Nat := i + token_until.len p (s.data.toList.drop i)
theorem token_until.to_le (p : UInt8 → Bool) (s : ByteArray) (i : Nat) (h : i ≤ s.size) : i ≤ token_until.to p s i ∧ token_until.to p s i ≤ s.size := by
  have := token_until.len_le p (s.data.toList.drop i)
  have e : (s.data.toList.drop i).length = s.size - i := by simp
  unfold token_until.to
  omega
theorem token_reader.done_any (g : Nat) (s : ByteArray) (j : Int) (b : Bool) (hb : decide (j ≥ (s.size : Int)) = b) (w : World) (h : RD w g s j) :
    Calls Try.prog 29 #[.pointer (some ⟨g, 0, none⟩)] w fun e w' => e = .returned (.bool b) ∧ ∃ n, w' = w.drewN n := by
  subst hb
  have c0 := h.c0
  have c1 := h.c1
  clear h
  go_enter Try.func29, Try.ntmps29
  go_wp2
  go_quiet (fail)
  go_wp2
  go_ret
  exact ⟨rfl, _, rfl⟩
def token_until.pN (c : UInt8) : Bool := !(token_until.sp c)
def token_until.pG (c : UInt8) : Bool := c != 47 && !(token_until.sp c)
def token_until.pE (t : ByteArray) (c : UInt8) : Bool := token_until.sp c || t.data.toList.contains c
theorem token_until.oneN (c : UInt8) (w : World) : Calls Try.prog 78 #[.int .u8 (c.toNat : Int)] w fun e w' => e = .returned (.bool (token_until.pN c)) ∧ ∃ n, w' = w.drewN n := by
  refine (token_notSpace.calls (c.toNat : Int) (token_until.pN c) w ?_).mono ?_
  · have : ∀ n : Fin 256, token_notSpace.f ((UInt8.ofNat n.val).toNat : Int) = some (token_until.pN (UInt8.ofNat n.val)) := by decide +kernel
    have h := this ⟨c.toNat, c.toNat_lt⟩
    simpa using h
  · rintro e w' ⟨rfl, n, h⟩; exact ⟨rfl, n, h⟩
set_option maxRecDepth 100000 in
theorem token_until.oneG (c : UInt8) (w : World) : Calls Try.prog 77 #[.int .u8 (c.toNat : Int)] w fun e w' => e = .returned (.bool (token_until.pG c)) ∧ ∃ n, w' = w.drewN n := by
  by_cases h : c = 47
  · subst h
    go_enter Try.func77, Try.ntmps77
    go_wp2
    go_ret
    exact ⟨rfl, 0, rfl⟩
  · have hb : ((c.toNat : Int) != 47) = true := by
      rw [bne_iff_ne]
      exact fun e => h (UInt8.toNat_inj.1 (by have : ((47 : UInt8).toNat : Int) = 47 := rfl; omega))
    have hp : token_until.pG c = !(token_until.sp c) := by
      unfold token_until.pG
      have : (c != 47) = true := by simpa using h
      rw [this, Bool.true_and]
    rw [hp]
    clear hp h
    go_enter Try.func77, Try.ntmps77
    go_wp2_with (first | (go_at_call 76; refine (kind_Space.calls (c.toNat : Int) (token_until.sp c) _ (token_until.sp_ok c)).mono ?_; rintro e w1 ⟨rfl, ⟨n1, rfl⟩⟩))
    go_ret
    exact ⟨rfl, n1, rfl⟩
theorem token_until.index (t : List UInt8) (c : UInt8) : decide (Lib.indexByte t c ≥ 0) = t.contains c := by
  rw [Bool.eq_iff_iff, decide_eq_true_iff, List.contains_iff_mem]
  constructor
  · intro h
    obtain ⟨o, ho⟩ : ∃ o : Nat, Lib.indexByte t c = o := ⟨(Lib.indexByte t c).toNat, by omega⟩
    exact List.mem_of_getElem? (Lib.indexByte_some ho).1
  · intro h
    have hge := Lib.indexByte_ge t c
    by_cases hn : Lib.indexByte t c = -1
    · obtain ⟨k, hk⟩ := List.mem_iff_getElem?.1 h
      exact absurd hk (Lib.indexByte_none hn k)
    · omega
theorem token_until.oneE (t : ByteArray) (c : UInt8) (w : World) : Calls Try.prog 56 #[.string t, .int .u8 (c.toNat : Int)] w fun e w' => e = .returned (.bool (token_until.pE t c)) ∧ ∃ n, w' = w.drewN n := by
  refine (token_ends_is.calls t (c.toNat : Int) (token_until.pE t c) w ?_).mono ?_
  · unfold token_ends_is.f token_until.pE
    rw [token_until.sp_ok, Option.bind_some]
    cases token_until.sp c with
    | true => rw [if_pos rfl]; rfl
    | false =>
      rw [if_neg (by simp)]
      unfold strings_IndexByte.f
      rw [Option.bind_some, Bool.false_or, ← token_until.index]
      have e : (c.toNat : Int).toNat.toUInt8 = c := by simp
      rw [e]
  · rintro e w' ⟨rfl, n, h⟩; exact ⟨rfl, n, h⟩
set_option maxHeartbeats 1000000 in
set_option maxRecDepth 100000 in
theorem token_reader.untilN (g : Nat) (s : ByteArray) (i : Nat) (w : World) (h : RD w g s i) (hi : i ≤ s.size) (hs : s.size ≤ 1000000000000) :
    Calls Try.prog 57 #[.pointer (some ⟨g, 0, none⟩), .func (.func 78) #[] #[]] w fun e w' => e = .returned (.string (s.extract i (token_until.to token_until.pN s i))) ∧ RD w' g s ((token_until.to token_until.pN s i : Nat) : Int) ∧ Fr (· = g) w w' := by
  have HS := Aside0.mk h
  have q1 := h.c1
  clear h
  go_enter Try.func57, Try.ntmps57
  go_wp2
  go_loopg [] (s.size - i) (fun kq wr => ∃ (j : Nat), Aside0 (i ≤ j ∧ j ≤ s.size ∧ kq + j = s.size ∧ token_until.to token_until.pN s j = token_until.to token_until.pN s i) ∧ Aside0 (RD wr g s j) ∧ Aside0 (Fr (· = g) w wr))
  case atStart => exact ⟨i, ⟨Nat.le_refl _, hi, by omega, rfl⟩, HS, ⟨Fr.refl _ w⟩⟩
  case round =>
    clear HS q1
    obtain ⟨j, HJ, HR, HK⟩ := hrel
    have HD := Aside0.mk HR.out
    have c0 := HR.out.c0
    have c1 := HR.out.c1
    have f1 := HR.out.f 1
    have hij : (i : Int) ≤ (j : Int) := by have := HJ.out; omega
    have hjs : (j : Int) ≤ (s.size : Int) := by have := HJ.out; omega
    have hi0 : (0 : Int) ≤ (i : Int) := by omega
    have hj9 : (j : Int) ≤ 1000000000000 := by omega
    by_cases hlt : j < s.size
    · have hb : decide ((j : Int) ≥ (s.size : Int)) = false := by simp; omega
      have hj0 : (0 : Int) ≤ j := by omega
      have hj1 : (j : Int) < s.size := by omega
      cases hp : token_until.pN s[j] with
      | true =>
        have h1 : ∀ wx, Calls Try.prog 78 #[.int .u8 (s[j].toNat : Int)] wx fun e w' => e = .returned (.bool true) ∧ ∃ n, w' = wx.drewN n := fun wx => by
          have := token_until.oneN s[j] wx
          rw [hp] at this; exact this
        have HP := Aside0.mk hp
        clear hp
        go_wp2
        go_quiet (first | (go_at_call 29; exact Calls.quiet_of (token_reader.done_any g s j false hb _ HD.out)) | (go_at_call 78; exact Calls.quiet_of (h1 _)))
        go_wp2
        go_quiet (fail)
        go_wp2
        go_ret
        have hn : token_until.to token_until.pN s i = j := by
          have hz := token_until.len_stop _ s j hlt HP.out
          rw [← HJ.out.2.2.2]; unfold token_until.to; omega
        rw [hn]
        exact ⟨rfl, HR.out, (HK.out.drewN _).drewN _⟩
      | false =>
        have h1 : ∀ wx, Calls Try.prog 78 #[.int .u8 (s[j].toNat : Int)] wx fun e w' => e = .returned (.bool false) ∧ ∃ n, w' = wx.drewN n := fun wx => by
          have := token_until.oneN s[j] wx
          rw [hp] at this; exact this
        have HP := Aside0.mk hp
        clear hp
        go_wp2
        go_quiet (first | (go_at_call 29; exact Calls.quiet_of (token_reader.done_any g s j false hb _ HD.out)) | (go_at_call 78; exact Calls.quiet_of (h1 _)))
        go_wp2
        go_roundg (s.size - (j + 1))
        case measure => have := HJ.out; omega
        case rel =>
          refine ⟨j + 1, ⟨by have := HJ.out; omega, hlt, by omega, ?_⟩, ⟨HR.out.set _⟩, ⟨(HK.out.setCell (p := ⟨g, 1, none⟩) (Or.inl rfl) _).drewN _⟩⟩
          have hg := token_until.len_go _ s j hlt HP.out
          rw [← HJ.out.2.2.2]; unfold token_until.to; omega
    · have hb : decide ((j : Int) ≥ (s.size : Int)) = true := by simp; omega
      go_wp2
      go_quiet (first | (go_at_call 29; exact Calls.quiet_of (token_reader.done_any g s j true hb _ HD.out)))
      go_wp2
      go_quiet (fail)
      go_wp2
      go_ret
      have hn : token_until.to token_until.pN s i = j := by
        have hz := token_until.len_end token_until.pN s j hlt
        rw [← HJ.out.2.2.2]; unfold token_until.to; omega
      rw [hn]
      exact ⟨rfl, HR.out, (HK.out.drewN _).drewN _⟩
set_option maxHeartbeats 1000000 in
set_option maxRecDepth 100000 in
theorem token_reader.untilG (g : Nat) (s : ByteArray) (i : Nat) (w : World) (h : RD w g s i) (hi : i ≤ s.size) (hs : s.size ≤ 1000000000000) :
    Calls Try.prog 57 #[.pointer (some ⟨g, 0, none⟩), .func (.func 77) #[] #[]] w fun e w' => e = .returned (.string (s.extract i (token_until.to token_until.pG s i))) ∧ RD w' g s ((token_until.to token_until.pG s i : Nat) : Int) ∧ Fr (· = g) w w' := by
  have HS := Aside0.mk h
  have q1 := h.c1
  clear h
  go_enter Try.func57, Try.ntmps57
  go_wp2
  go_loopg [] (s.size - i) (fun kq wr => ∃ (j : Nat), Aside0 (i ≤ j ∧ j ≤ s.size ∧ kq + j = s.size ∧ token_until.to token_until.pG s j = token_until.to token_until.pG s i) ∧ Aside0 (RD wr g s j) ∧ Aside0 (Fr (· = g) w wr))
  case atStart => exact ⟨i, ⟨Nat.le_refl _, hi, by omega, rfl⟩, HS, ⟨Fr.refl _ w⟩⟩
  case round =>
    clear HS q1
    obtain ⟨j, HJ, HR, HK⟩ := hrel
    have HD := Aside0.mk HR.out
    have c0 := HR.out.c0
    have c1 := HR.out.c1
    have f1 := HR.out.f 1
    have hij : (i : Int) ≤ (j : Int) := by have := HJ.out; omega
    have hjs : (j : Int) ≤ (s.size : Int) := by have := HJ.out; omega
    have hi0 : (0 : Int) ≤ (i : Int) := by omega
    have hj9 : (j : Int) ≤ 1000000000000 := by omega
    by_cases hlt : j < s.size
    · have hb : decide ((j : Int) ≥ (s.size : Int)) = false := by simp; omega
      have hj0 : (0 : Int) ≤ j := by omega
      have hj1 : (j : Int) < s.size := by omega
      cases hp : token_until.pG s[j] with
      | true =>
        have h1 : ∀ wx, Calls Try.prog 77 #[.int .u8 (s[j].toNat : Int)] wx fun e w' => e = .returned (.bool true) ∧ ∃ n, w' = wx.drewN n := fun wx => by
          have := token_until.oneG s[j] wx
          rw [hp] at this; exact this
        have HP := Aside0.mk hp
        clear hp
        go_wp2
        go_quiet (first | (go_at_call 29; exact Calls.quiet_of (token_reader.done_any g s j false hb _ HD.out)) | (go_at_call 77; exact Calls.quiet_of (h1 _)))
        go_wp2
        go_quiet (fail)
        go_wp2
        go_ret
        have hn : token_until.to token_until.pG s i = j := by
          have hz := token_until.len_stop _ s j hlt HP.out
          rw [← HJ.out.2.2.2]; unfold token_until.to; omega
        rw [hn]
        exact ⟨rfl, HR.out, (HK.out.drewN _).drewN _⟩
      | false =>
        have h1 : ∀ wx, Calls Try.prog 77 #[.int .u8 (s[j].toNat : Int)] wx fun e w' => e = .returned (.bool false) ∧ ∃ n, w' = wx.drewN n := fun wx => by
          have := token_until.oneG s[j] wx
          rw [hp] at this; exact this
        have HP := Aside0.mk hp
        clear hp
        go_wp2
        go_quiet (first | (go_at_call 29; exact Calls.quiet_of (token_reader.done_any g s j false hb _ HD.out)) | (go_at_call 77; exact Calls.quiet_of (h1 _)))
        go_wp2
        go_roundg (s.size - (j + 1))
        case measure => have := HJ.out; omega
        case rel =>
          refine ⟨j + 1, ⟨by have := HJ.out; omega, hlt, by omega, ?_⟩, ⟨HR.out.set _⟩, ⟨(HK.out.setCell (p := ⟨g, 1, none⟩) (Or.inl rfl) _).drewN _⟩⟩
          have hg := token_until.len_go _ s j hlt HP.out
          rw [← HJ.out.2.2.2]; unfold token_until.to; omega
    · have hb : decide ((j : Int) ≥ (s.size : Int)) = true := by simp; omega
      go_wp2
      go_quiet (first | (go_at_call 29; exact Calls.quiet_of (token_reader.done_any g s j true hb _ HD.out)))
      go_wp2
      go_quiet (fail)
      go_wp2
      go_ret
      have hn : token_until.to token_until.pG s i = j := by
        have hz := token_until.len_end token_until.pG s j hlt
        rw [← HJ.out.2.2.2]; unfold token_until.to; omega
      rw [hn]
      exact ⟨rfl, HR.out, (HK.out.drewN _).drewN _⟩
set_option maxHeartbeats 1000000 in
set_option maxRecDepth 100000 in
theorem token_reader.untilE (g : Nat) (s : ByteArray) (i : Nat) (t : ByteArray) (w : World) (h : RD w g s i) (hi : i ≤ s.size) (hs : s.size ≤ 1000000000000) :
    Calls Try.prog 57 #[.pointer (some ⟨g, 0, none⟩), .func (.func 56) #[.string t] #[]] w fun e w' => e = .returned (.string (s.extract i (token_until.to (token_until.pE t) s i))) ∧ RD w' g s ((token_until.to (token_until.pE t) s i : Nat) : Int) ∧ Fr (· = g) w w' := by
  have HS := Aside0.mk h
  have q1 := h.c1
  clear h
  go_enter Try.func57, Try.ntmps57
  go_wp2
  go_loopg [] (s.size - i) (fun kq wr => ∃ (j : Nat), Aside0 (i ≤ j ∧ j ≤ s.size ∧ kq + j = s.size ∧ token_until.to (token_until.pE t) s j = token_until.to (token_until.pE t) s i) ∧ Aside0 (RD wr g s j) ∧ Aside0 (Fr (· = g) w wr))
  case atStart => exact ⟨i, ⟨Nat.le_refl _, hi, by omega, rfl⟩, HS, ⟨Fr.refl _ w⟩⟩
  case round =>
    clear HS q1
    obtain ⟨j, HJ, HR, HK⟩ := hrel
    have HD := Aside0.mk HR.out
    have c0 := HR.out.c0
    have c1 := HR.out.c1
    have f1 := HR.out.f 1
    have hij : (i : Int) ≤ (j : Int) := by have := HJ.out; omega
    have hjs : (j : Int) ≤ (s.size : Int) := by have := HJ.out; omega
    have hi0 : (0 : Int) ≤ (i : Int) := by omega
    have hj9 : (j : Int) ≤ 1000000000000 := by omega
    by_cases hlt : j < s.size
    · have hb : decide ((j : Int) ≥ (s.size : Int)) = false := by simp; omega
      have hj0 : (0 : Int) ≤ j := by omega
      have hj1 : (j : Int) < s.size := by omega
      cases hp : (token_until.pE t) s[j] with
      | true =>
        have h1 : ∀ wx, Calls Try.prog 56 #[.string t, .int .u8 (s[j].toNat : Int)] wx fun e w' => e = .returned (.bool true) ∧ ∃ n, w' = wx.drewN n := fun wx => by
          have := token_until.oneE t s[j] wx
          rw [hp] at this; exact this
        have HP := Aside0.mk hp
        clear hp
        go_wp2
        go_quiet (first | (go_at_call 29; exact Calls.quiet_of (token_reader.done_any g s j false hb _ HD.out)) | (go_at_call 56; exact Calls.quiet_of (h1 _)))
        go_wp2
        go_quiet (fail)
        go_wp2
        go_ret
        have hn : token_until.to (token_until.pE t) s i = j := by
          have hz := token_until.len_stop _ s j hlt HP.out
          rw [← HJ.out.2.2.2]; unfold token_until.to; omega
        rw [hn]
        exact ⟨rfl, HR.out, (HK.out.drewN _).drewN _⟩
      | false =>
        have h1 : ∀ wx, Calls Try.prog 56 #[.string t, .int .u8 (s[j].toNat : Int)] wx fun e w' => e = .returned (.bool false) ∧ ∃ n, w' = wx.drewN n := fun wx => by
          have := token_until.oneE t s[j] wx
          rw [hp] at this; exact this
        have HP := Aside0.mk hp
        clear hp
        go_wp2
        go_quiet (first | (go_at_call 29; exact Calls.quiet_of (token_reader.done_any g s j false hb _ HD.out)) | (go_at_call 56; exact Calls.quiet_of (h1 _)))
        go_wp2
        go_roundg (s.size - (j + 1))
        case measure => have := HJ.out; omega
        case rel =>
          refine ⟨j + 1, ⟨by have := HJ.out; omega, hlt, by omega, ?_⟩, ⟨HR.out.set _⟩, ⟨(HK.out.setCell (p := ⟨g, 1, none⟩) (Or.inl rfl) _).drewN _⟩⟩
          have hg := token_until.len_go _ s j hlt HP.out
          rw [← HJ.out.2.2.2]; unfold token_until.to; omega
    · have hb : decide ((j : Int) ≥ (s.size : Int)) = true := by simp; omega
      go_wp2
      go_quiet (first | (go_at_call 29; exact Calls.quiet_of (token_reader.done_any g s j true hb _ HD.out)))
      go_wp2
      go_quiet (fail)
      go_wp2
      go_ret
      have hn : token_until.to (token_until.pE t) s i = j := by
        have hz := token_until.len_end (token_until.pE t) s j hlt
        rw [← HJ.out.2.2.2]; unfold token_until.to; omega
      rw [hn]
      exact ⟨rfl, HR.out, (HK.out.drewN _).drewN _⟩

end Go.Proofs.Ytpelfhldgnmhpaa.G
