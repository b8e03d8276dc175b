-- laid by a program of this session's (wip/tools/myprint.py) over the translation
import Derived.Test.YtpelfhldgnmhpaaG0
import Derived.Test.YtpelfhldgnmhpaaG12
namespace Go.Proofs.Ytpelfhldgnmhpaa.G
open Go.RowKit Go.Proofs.YtpelfhldgnmhpaaW.PrintWords Go.Proofs.YtpelfhldgnmhpaaW.PrintLast Go.Proofs.YtpelfhldgnmhpaaW.PrintMore
attribute [local go_sem] max2_int min2_int max_two min_two max_three min_three max_four min_four   -- for this text's walks alone
set_option linter.unusedVariables false
set_option linter.unusedSimpArgs false

/-! HAND token_begins: function 37 -/
def token_begins.letter (c : UInt8) : Bool := (65 ≤ c.toNat && c.toNat ≤ 90) || (97 ≤ c.toNat && c.toNat ≤ 122)
theorem token_begins.letter_ok (c : UInt8) : kind_Letter.f (c.toNat : Int) = some (token_begins.letter c) := by
  have : ∀ n : Fin 256, kind_Letter.f ((UInt8.ofNat n.val).toNat : Int) = some (token_begins.letter (UInt8.ofNat n.val)) := by decide +kernel
  have h := this ⟨c.toNat, c.toNat_lt⟩
  simpa using h
/-- Whether a text begins with markup. -/
def token_begins.b : List UInt8 → Bool
  | 60 :: c :: r => c == 33 || (c == 63 || (if c = 47 then !r.isEmpty else token_begins.letter c))
  | _ => false
theorem token_begins.b_cons (c0 c : UInt8) (r : List UInt8) : token_begins.b (c0 :: c :: r) = (c0 == 60 && (c == 33 || (c == 63 || (if c = 47 then !r.isEmpty else token_begins.letter c)))) := by
  by_cases h : c0 = 60
  · subst h; rw [token_begins.b]; simp
  · have : (c0 == 60) = false := by simpa using h
    rw [this, Bool.false_and]
    unfold token_begins.b
    split
    · rename_i h2; simp only [List.cons.injEq] at h2; exact absurd h2.1 h
    · rfl
theorem token_begins.int_beq (c : UInt8) (n : UInt8) : ((c.toNat : Int) == (n.toNat : Int)) = (c == n) := by
  rw [Bool.eq_iff_iff, beq_iff_eq, beq_iff_eq, ← UInt8.toNat_inj]; omega
set_option maxRecDepth 100000 in
theorem token_begins.any (s : ByteArray) (b : Bool) (w : World) (hs : s.size ≤ 1000000000) (hb : token_begins.b s.data.toList = b) :
    Calls Try.prog 37 #[.string s] w fun e w' => e = .returned (.bool b) ∧ ∃ n, w' = w.drewN n := by
  by_cases h2 : s.size < 2
  · have hb' : b = false := by
      rw [← hb]
      unfold token_begins.b
      split
      · rename_i c r h
        have := congrArg List.length h
        simp at this
        omega
      · rfl
    subst hb'
    have g : decide ((s.size : Int) < 2) = true := by simp; omega
    clear hb
    go_enter Try.func37, Try.ntmps37
    go_wp2
    go_ret
    exact ⟨rfl, 0, rfl⟩
  · have g : decide ((s.size : Int) < 2) = false := by simp; omega
    have hl : 2 ≤ s.data.toList.length := by simp; omega
    obtain ⟨c0, c, r, hr⟩ : ∃ c0 c r, s.data.toList = c0 :: c :: r := by
      rcases hx : s.data.toList with _ | ⟨c0, _ | ⟨c, r⟩⟩
      · rw [hx] at hl; simp at hl
      · rw [hx] at hl; simp at hl
      · exact ⟨_, _, _, rfl⟩
    have p0 : 0 < s.size := by omega
    have p1 : 1 < s.size := by omega
    have e0 : s[0]'p0 = c0 := by
      have : s.data.toList[0]'(by omega) = c0 := by simp only [hr]; rfl
      exact this
    have e1 : s[1]'p1 = c := by
      have : s.data.toList[1]'(by omega) = c := by simp only [hr]; rfl
      exact this
    have hsz : s.size = r.length + 2 := by have := congrArg List.length hr; simpa using this
    rw [hr, token_begins.b_cons] at hb
    have g0 : (0 : Int) < (s.size : Int) := by omega
    have g1 : (1 : Int) < (s.size : Int) := by omega
    have HSZ := Aside0.mk hsz
    have E0 := Aside0.mk e0
    have E1 := Aside0.mk e1
    have HL := Aside0.mk (token_begins.letter_ok c)
    by_cases hc0 : c0 = 60
    · have hne : (((s[0]'p0).toNat : Int) != 60) = false := by
        rw [e0, hc0]; rfl
      have hcb : (c0 == 60) = true := by simpa using hc0
      rw [hcb, Bool.true_and] at hb
      have k33 := token_begins.int_beq c 33
      have k63 := token_begins.int_beq c 63
      have k47 := token_begins.int_beq c 47
      rw [← e1] at k33 k63 k47
      have HB := Aside0.mk hb
      clear hb hr e0 hsz hc0 hcb
      by_cases c33 : c = 33
      · have j33 : (((s[1]'p1).toNat : Int) == 33) = true := k33.trans (by rw [e1]; simpa using c33)
        obtain rfl : true = b := by rw [← HB.out]; simp [c33]
        clear k33 k63 k47 e1 c33
        go_enter Try.func37, Try.ntmps37
        go_wp2
        go_ret
        exact ⟨rfl, 0, rfl⟩
      · have j33 : (((s[1]'p1).toNat : Int) == 33) = false := k33.trans (by rw [e1]; simpa using c33)
        by_cases c63 : c = 63
        · have j63 : (((s[1]'p1).toNat : Int) == 63) = true := k63.trans (by rw [e1]; simpa using c63)
          obtain rfl : true = b := by rw [← HB.out]; simp [c63]
          clear k33 k63 k47 e1 c63 c33
          go_enter Try.func37, Try.ntmps37
          go_wp2
          go_ret
          exact ⟨rfl, 0, rfl⟩
        · have j63 : (((s[1]'p1).toNat : Int) == 63) = false := k63.trans (by rw [e1]; simpa using c63)
          by_cases c47 : c = 47
          · have j47 : (((s[1]'p1).toNat : Int) == 47) = true := k47.trans (by rw [e1]; simpa using c47)
            obtain rfl : decide ((s.size : Int) > 2) = b := by
              rw [← HB.out]
              have : (c == 33) = false := by simpa using c33
              rw [this, Bool.false_or]
              have : (c == 63) = false := by simpa using c63
              rw [this, Bool.false_or, if_pos c47]
              have := HSZ.out
              cases r with
              | nil => simp at this ⊢; omega
              | cons a r => simp at this ⊢; omega
            clear k33 k63 k47 e1 c63 c33 c47
            go_enter Try.func37, Try.ntmps37
            go_wp2
            go_ret
            exact ⟨rfl, 0, rfl⟩
          · have j47 : (((s[1]'p1).toNat : Int) == 47) = false := k47.trans (by rw [e1]; simpa using c47)
            obtain rfl : token_begins.letter c = b := by
              rw [← HB.out]
              have : (c == 33) = false := by simpa using c33
              rw [this, Bool.false_or]
              have : (c == 63) = false := by simpa using c63
              rw [this, Bool.false_or, if_neg c47]
            have hlt := kind_Letter.calls (c.toNat : Int) (token_begins.letter c) w HL.out
            rw [← e1] at hlt ⊢
            have HLT := Aside0.mk hlt
            clear k33 k63 k47 e1 c63 c33 c47 hlt
            go_enter Try.func37, Try.ntmps37
            go_wp2_with (first | (go_at_call 42; refine HLT.out.mono ?_; rintro e w1 ⟨rfl, ⟨n1, rfl⟩⟩))
            go_ret
            exact ⟨rfl, n1, rfl⟩
    · have hb' : b = false := by
        rw [← hb]
        have : (c0 == 60) = false := by simpa using hc0
        rw [this, Bool.false_and]
      subst hb'
      have hne : (((s[0]'p0).toNat : Int) != 60) = true := by
        rw [e0, bne_iff_ne]; intro h; exact hc0 (UInt8.toNat_inj.1 (by have : (60 : UInt8).toNat = 60 := rfl; omega))
      clear hb hr e0 e1 hsz hc0
      go_enter Try.func37, Try.ntmps37
      go_wp2
      go_ret
      exact ⟨rfl, 0, rfl⟩

end Go.Proofs.Ytpelfhldgnmhpaa.G
