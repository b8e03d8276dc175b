-- laid by a program of this session's (wip/tools/myprint.py) over the translation
import Derived.Test.YtpelfhldgnmhpaaG0
import Derived.Test.YtpelfhldgnmhpaaG6
import Derived.Test.YtpelfhldgnmhpaaG7
import Derived.Test.YtpelfhldgnmhpaaG13
import Derived.Test.YtpelfhldgnmhpaaG21
import Derived.Test.YtpelfhldgnmhpaaG23
import Derived.Test.YtpelfhldgnmhpaaG24
import Derived.Test.YtpelfhldgnmhpaaG27
import Derived.Test.YtpelfhldgnmhpaaG28
import Derived.Test.YtpelfhldgnmhpaaG29
import Derived.Test.YtpelfhldgnmhpaaG30
namespace Go.Proofs.Ytpelfhldgnmhpaa.G
open Go.RowKit Go.Proofs.YtpelfhldgnmhpaaW.PrintWords Go.Proofs.YtpelfhldgnmhpaaW.PrintLast Go.Proofs.YtpelfhldgnmhpaaW.PrintMore
attribute [local go_sem] max2_int min2_int max_two min_two max_three min_three max_four min_four   -- for this text's walks alone
set_option linter.unusedVariables false
set_option linter.unusedSimpArgs false

/-! HAND token_Next: function 11 -/
/-- What a token is told as: at one that is none the place is the end. -/
def TokV.fin (s : ByteArray) (t : TokV) : TokV := if t.kd = 0 then { t with e := s.size } else t
/-- A text of references, decoded. -/
def TokV.dec (k : Nat) (t : TokV) : Option TokV := (charref_Decode.f k t.tx false).bind fun r => some { t with tx := r }
def token_Next.v (k : Nat) (s : ByteArray) (i : Nat) (mode : Int) (name : ByteArray) (fo : Bool) : Option TokV :=
  if mode = 2 then token_reader.rawV k s name i
  else if mode = 1 then (token_reader.rawV k s name i).bind fun t => t.dec k
  else token_reader.dataV k s i fo
/-- The next token. -/
def token_Next.V (k : Nat) (s : ByteArray) (at_ : Int) (mode : Int) (name : ByteArray) (fo : Bool) : Option TokV :=
  if s.size ≤ 1000000000 ∧ name.size ≤ 1000000000 then
    if at_ < 0 ∨ (s.size : Int) ≤ at_ then some (TokV.end_ s.size)
    else if mode = 3 then some ⟨1, ⟨#[]⟩, [], false, s.extract at_.toNat s.size, s.size⟩
    else (token_Next.v k s at_.toNat mode name fo).bind fun t => some (t.fin s)
  else none
/-- A token and a place that are handed back. -/
def NextE (w : World) (t : TokV) (e : Ending) (w' : World) : Prop :=
  ∃ v : Value, e = .returned (.tuple #[.agg #[.int .i64 t.kd, .string t.nm, v, .bool t.c, .string t.tx], .int .i64 (t.e : Int)]) ∧ Kd.R k41 41 w' w.heap.size (fun _ => True) v t.l ∧ Below w.heap.size w w'
theorem Fr.new_below {w w0 w1 : World} {g : Nat} (h0 : Below w.heap.size w w0) (h : Fr (· = g) w0 w1) (hg : w.heap.size ≤ g) : Below w.heap.size w w1 := Fr.to_below h0 h h0.size (fun i hi => by subst hi; exact hg)
set_option maxHeartbeats 4000000 in
set_option maxRecDepth 100000 in
theorem token_Next.any (k : Nat) (s : ByteArray) (at_ mode : Int) (name : ByteArray) (fo : Bool) (t : TokV) (w : World) (hm : HM w) (hd : token_Next.V k s at_ mode name fo = some t) :
    Calls Try.prog 11 #[.string s, .int .i64 at_, .int .i64 mode, .string name, .bool fo] w (NextE w t) := by
  unfold token_Next.V at hd
  by_cases hsz : s.size ≤ 1000000000 ∧ name.size ≤ 1000000000
  · rw [if_pos hsz] at hd
    obtain ⟨hs, hn⟩ := hsz
    have HZ := Aside0.mk (TB.new w 0 ⟨#[]⟩ (.slice none 0 0) false ⟨#[]⟩)
    have HBW := Aside0.mk ((Below.refl w.heap.size w).alloc (Nat.le_refl _) (.cells #[.int .i64 0, .string ⟨#[]⟩, .slice none 0 0, .bool false, .string ⟨#[]⟩] 29))
    by_cases ha : at_ < 0 ∨ (s.size : Int) ≤ at_
    · rw [if_pos ha] at hd
      obtain rfl := Option.some.inj hd
      clear hd hm
      by_cases h0 : at_ < 0
      · have d0 : decide (at_ < 0) = true := by simpa using h0
        clear ha
        go_enter Try.func11, Try.ntmps11
        go_wp2
        have z0 := HZ.out.cell 0
        have z1 := HZ.out.cell 1
        have z2 := HZ.out.cell 2
        have z3 := HZ.out.cell 3
        have z4 := HZ.out.cell 4
        exact bodyPost_ret (v := .tuple #[.agg #[.int .i64 0, .string ⟨#[]⟩, .slice none 0 0, .bool false, .string ⟨#[]⟩], .int .i64 (s.size : Int)]) (by simp [results, Try.results11, go_sem, z0, z1, z2, z3, z4]) rfl ⟨.slice none 0 0, rfl, Kd.R_nil _ _ _ _ _, HBW.out⟩
      · have d0 : decide (at_ < 0) = false := by simpa using h0
        have d1 : decide (at_ ≥ (s.size : Int)) = true := by simp; omega
        clear ha
        go_enter Try.func11, Try.ntmps11
        go_wp2
        have z0 := HZ.out.cell 0
        have z1 := HZ.out.cell 1
        have z2 := HZ.out.cell 2
        have z3 := HZ.out.cell 3
        have z4 := HZ.out.cell 4
        exact bodyPost_ret (v := .tuple #[.agg #[.int .i64 0, .string ⟨#[]⟩, .slice none 0 0, .bool false, .string ⟨#[]⟩], .int .i64 (s.size : Int)]) (by simp [results, Try.results11, go_sem, z0, z1, z2, z3, z4]) rfl ⟨.slice none 0 0, rfl, Kd.R_nil _ _ _ _ _, HBW.out⟩
    · rw [if_neg ha] at hd
      obtain ⟨i, rfl⟩ : ∃ i : Nat, at_ = i := ⟨at_.toNat, by omega⟩
      rw [Int.toNat_natCast] at hd
      have hlt : i < s.size := by omega
      have d0 : decide ((i : Int) < 0) = false := by simp
      have d1 : decide ((i : Int) ≥ (s.size : Int)) = false := by simp; omega
      have hm1 := hm
      clear ha
      obtain ⟨w3, hw3⟩ : ∃ W, ((w.alloc (.cells #[.int .i64 0, .string ⟨#[]⟩, .slice none 0 0, .bool false, .string ⟨#[]⟩] 29)).alloc (.cells #[.string s, .int .i64 (i : Int)] 48)).alloc (.cells #[.int .i64 0, .string ⟨#[]⟩, .slice none 0 0, .bool false, .string ⟨#[]⟩] 29) = W := ⟨_, rfl⟩
      have HB3 : Aside0 (Below w.heap.size w w3) := ⟨by rw [← hw3]; exact (((Below.refl _ _).alloc (Nat.le_refl _) _).alloc (by simp) _).alloc (by simp; omega) _⟩
      have HZ3 : Aside0 (TB w3 w.heap.size 0 ⟨#[]⟩ (.slice none 0 0) false ⟨#[]⟩) := ⟨by rw [← hw3]; exact (HZ.out.keep ((Below.refl _ _).alloc (Nat.le_refl _) _)).keep ((Below.refl _ _).alloc (Nat.le_refl _) _)⟩
      have HR3 : Aside0 (RD w3 (w.heap.size + 1) s i) := ⟨by
        rw [← hw3]
        refine RD.al ?_ _
        show _ = _
        rw [show w.heap.size + 1 = (w.alloc (.cells #[.int .i64 0, .string ⟨#[]⟩, .slice none 0 0, .bool false, .string ⟨#[]⟩] 29)).heap.size by simp]
        exact heap_alloc_last _ _⟩
      have HT3 : Aside0 (TB w3 (w.heap.size + 2) 0 ⟨#[]⟩ (.slice none 0 0) false ⟨#[]⟩) := ⟨by
        have := TB.new ((w.alloc (.cells #[.int .i64 0, .string ⟨#[]⟩, .slice none 0 0, .bool false, .string ⟨#[]⟩] 29)).alloc (.cells #[.string s, .int .i64 (i : Int)] 48)) 0 ⟨#[]⟩ (.slice none 0 0) false ⟨#[]⟩
        rw [hw3] at this
        simpa using this⟩
      have HM3 : Aside0 (HM w3) := ⟨hm.at_ HB3.out⟩
      have HW3 := Aside0.mk hw3
      clear hw3 hm hm1 HZ HBW
      go_enter Try.func11, Try.ntmps11
      go_upto_region 5 with fail
      rw [HW3.out]
      clear HW3
      by_cases m3 : mode = 3
      · rw [if_pos m3] at hd
        obtain rfl := Option.some.inj hd
        subst m3
        have t0 := HZ3.out.cell 0
        have t1 := HZ3.out.cell 1
        have t2 := HZ3.out.cell 2
        have t3 := HZ3.out.cell 3
        have t4 := HZ3.out.cell 4
        have u0 := HZ3.out.free 0
        have u1 := HZ3.out.free 1
        have u2 := HZ3.out.free 2
        have u3 := HZ3.out.free 3
        have u4 := HZ3.out.free 4
        simp only [List.getElem?_toArray, List.getElem?_cons_zero, List.getElem?_cons_succ] at t0 t1 t2 t3 t4
        have g0 : (0 : Int) ≤ (i : Int) := by omega
        have g1 : (i : Int) ≤ (s.size : Int) := by omega
        have g2 : (s.size : Int) ≤ 1000000000 := by omega
        go_wp2
        have hZ := put5_tb HZ3.out 1 ⟨#[]⟩ (.slice none 0 0) false (s.extract i s.size)
        have z0 := hZ.cell 0
        have z1 := hZ.cell 1
        have z2 := hZ.cell 2
        have z3 := hZ.cell 3
        have z4 := hZ.cell 4
        unfold put5 at z0 z1 z2 z3 z4
        exact bodyPost_ret (v := .tuple #[.agg #[.int .i64 1, .string ⟨#[]⟩, .slice none 0 0, .bool false, .string (s.extract i s.size)], .int .i64 (s.size : Int)]) (by simp [results, Try.results11, go_sem, z0, z1, z2, z3, z4]) rfl
          ⟨.slice none 0 0, rfl, Kd.R_nil _ _ _ _ _, Fr.to_below HB3.out (put5_fr (G := fun k => k = w.heap.size) (Fr.refl _ w3) w.heap.size _ _ _ _ _ (Or.inl rfl)) HB3.out.size (fun i hi => by subst hi; exact Nat.le_refl _)⟩
      · rw [if_neg m3] at hd
        obtain ⟨t0, ht0, hd⟩ := Option.bind_eq_some_iff.1 hd
        obtain rfl := Option.some.inj hd
        have HV := Aside0.mk ht0
        have k3 : (mode == 3) = false := by simpa using m3
        clear hd ht0 m3
        go_upto_block 0 with fail
        go_cut [] (fun wz => ∃ A cp, Aside0 (TB wz (w.heap.size + 2) t0.kd t0.nm (.slice A t0.l.length cp) t0.c t0.tx) ∧ Aside0 (Kd.R k41 41 wz w.heap.size (fun _ => True) (.slice A t0.l.length cp) t0.l) ∧ Aside0 (RD wz (w.heap.size + 1) s t0.e) ∧ Aside0 (TB wz w.heap.size 0 ⟨#[]⟩ (.slice none 0 0) false ⟨#[]⟩) ∧ Aside0 (Below w.heap.size w wz))
        case first =>
          by_cases m2 : mode = 2
          · have hv := HV.out
            unfold token_Next.v at hv
            rw [if_pos m2] at hv
            have HV := Aside0.mk hv
            have k2 : (mode == 2) = true := by simpa using m2
            clear hv m2
            go_wp2_with fail
            refine (token_reader.raw_any k (w.heap.size + 1) s name i t0 _ HR3.out hlt hs hn HM3.out HV.out).mono ?_
            rintro e1 w4 ⟨v, rfl, hO, hR, hF⟩
            obtain ⟨A, cp, rfl, _⟩ := Kd.R_reads hO
            have HR4 := Aside0.mk hR
            have HB4 : Aside0 (Below w.heap.size w w4) := ⟨Fr.new_below HB3.out hF (by omega)⟩
            have HZ4 := Aside0.mk (HZ3.out.fr hF (by omega))
            have HT4 := Aside0.mk (HT3.out.fr hF (by omega))
            have HO4 := Aside0.mk (Kd.R_lower hO HB3.out.size)
            clear hO hR hF
            have x0 := HT4.out.cell 0
            have x1 := HT4.out.cell 1
            have x2 := HT4.out.cell 2
            have x3 := HT4.out.cell 3
            have x4 := HT4.out.cell 4
            have y0 := HT4.out.free 0
            have y1 := HT4.out.free 1
            have y2 := HT4.out.free 2
            have y3 := HT4.out.free 3
            have y4 := HT4.out.free 4
            simp only [List.getElem?_toArray, List.getElem?_cons_zero, List.getElem?_cons_succ] at x0 x1 x2 x3 x4
            go_wp2_with fail
            go_meet
            exact ⟨A, cp, ⟨put5_tb HT4.out _ _ _ _ _⟩, ⟨Kd.R_put5 HO4.out HT4.out _ _ _ _ _⟩, ⟨(put5_far _ _ _ _ _ _ _ _ (by omega)).trans HR4.out⟩, ⟨(put5_far _ _ _ _ _ _ _ _ (by omega)).trans HZ4.out⟩, ⟨Fr.to_below HB4.out (put5_fr (G := fun k => k = w.heap.size + 2) (Fr.refl _ w4) (w.heap.size + 2) _ _ _ _ _ (Or.inl rfl)) HB4.out.size (fun i hi => by subst hi; omega)⟩⟩
          · have k2 : (mode == 2) = false := by simpa using m2
            by_cases m1 : mode = 1
            · have hv := HV.out
              unfold token_Next.v at hv
              rw [if_neg (by simpa using k2), if_pos m1] at hv
              obtain ⟨t1, ht1, hv⟩ := Option.bind_eq_some_iff.1 hv
              unfold TokV.dec at hv
              obtain ⟨r, hr, hv⟩ := Option.bind_eq_some_iff.1 hv
              obtain rfl := Option.some.inj hv
              have HV := Aside0.mk ht1
              have HDD := Aside0.mk hr
              have k1 : (mode == 1) = true := by simpa using m1
              clear hv m1 ht1 hr
              go_wp2_with fail
              refine (token_reader.raw_any k (w.heap.size + 1) s name i t1 _ HR3.out hlt hs hn HM3.out HV.out).mono ?_
              rintro e1 w4 ⟨v, rfl, hO, hR, hF⟩
              obtain ⟨A, cp, rfl, _⟩ := Kd.R_reads hO
              have HR4 := Aside0.mk hR
              have HB4 : Aside0 (Below w.heap.size w w4) := ⟨Fr.new_below HB3.out hF (by omega)⟩
              have HZ4 := Aside0.mk (HZ3.out.fr hF (by omega))
              have HT4 := Aside0.mk (HT3.out.fr hF (by omega))
              have HO4 := Aside0.mk (Kd.R_lower hO HB3.out.size)
              clear hO hR hF
              have x0 := HT4.out.cell 0
              have x1 := HT4.out.cell 1
              have x2 := HT4.out.cell 2
              have x3 := HT4.out.cell 3
              have x4 := HT4.out.cell 4
              have y0 := HT4.out.free 0
              have y1 := HT4.out.free 1
              have y2 := HT4.out.free 2
              have y3 := HT4.out.free 3
              have y4 := HT4.out.free 4
              simp only [List.getElem?_toArray, List.getElem?_cons_zero, List.getElem?_cons_succ] at x0 x1 x2 x3 x4
              go_wp2_with fail
              refine (charref_Decode.calls k t1.tx false r _ HDD.out).mono ?_
              rintro e1 w6 ⟨rfl, hb⟩
              have hp5 : TB (put5 w4 (w.heap.size + 2) t1.kd t1.nm (.slice A t1.l.length cp) t1.c t1.tx) (w.heap.size + 2) t1.kd t1.nm (.slice A t1.l.length cp) t1.c t1.tx := put5_tb HT4.out _ _ _ _ _
              have HT6 : Aside0 (TB w6 (w.heap.size + 2) t1.kd t1.nm (.slice A t1.l.length cp) t1.c t1.tx) := ⟨hp5.keep hb⟩
              have HO6 : Aside0 (Kd.R k41 41 w6 w.heap.size (fun _ => True) (.slice A t1.l.length cp) t1.l) := ⟨Kd.R_below (Kd.R_put5 HO4.out HT4.out t1.kd t1.nm (.slice A t1.l.length cp) t1.c t1.tx) hb⟩
              have HR6 : Aside0 (RD w6 (w.heap.size + 1) s t1.e) := ⟨RD.keep (w := put5 w4 (w.heap.size + 2) t1.kd t1.nm (.slice A t1.l.length cp) t1.c t1.tx) ((put5_far _ _ _ _ _ _ _ _ (by omega)).trans HR4.out) hb⟩
              have HZ6 : Aside0 (TB w6 w.heap.size 0 ⟨#[]⟩ (.slice none 0 0) false ⟨#[]⟩) := ⟨TB.keep (w := put5 w4 (w.heap.size + 2) t1.kd t1.nm (.slice A t1.l.length cp) t1.c t1.tx) ((put5_far _ _ _ _ _ _ _ _ (by omega)).trans HZ4.out) hb⟩
              have HB5 : Below w.heap.size w (put5 w4 (w.heap.size + 2) t1.kd t1.nm (.slice A t1.l.length cp) t1.c t1.tx) := Fr.to_below HB4.out (put5_fr (G := fun k => k = w.heap.size + 2) (Fr.refl _ w4) (w.heap.size + 2) _ _ _ _ _ (Or.inl rfl)) HB4.out.size (fun i hi => by subst hi; omega)
              have HB6 : Aside0 (Below w.heap.size w w6) := ⟨HB5.trans (hb.mono HB5.size)⟩
              have v4 := HT6.out.cell 4
              have v5 := HT6.out.free 4
              simp only [List.getElem?_toArray, List.getElem?_cons_zero, List.getElem?_cons_succ] at v4
              clear hb hp5 HB5 HT4 HO4 HR4 HZ4 HB4 x0 x1 x2 x3 x4 y0 y1 y2 y3 y4
              go_wp2_with fail
              go_meet
              exact ⟨A, cp, ⟨HT6.out.set4 r⟩, ⟨Kd.R_set HO6.out HT6.out (by decide) 4 _⟩, ⟨HR6.out.far _ _ (by show w.heap.size + 1 ≠ w.heap.size + 2; omega)⟩, ⟨HZ6.out.far _ _ (by show w.heap.size ≠ w.heap.size + 2; omega)⟩, ⟨HB6.out.setCell (p := ⟨w.heap.size + 2, 4, none⟩) (by show w.heap.size ≤ w.heap.size + 2; omega) _⟩⟩
            · have hv := HV.out
              unfold token_Next.v at hv
              rw [if_neg (by simpa using k2), if_neg m1] at hv
              have HV := Aside0.mk hv
              have k1 : (mode == 1) = false := by simpa using m1
              clear hv m1
              go_wp2_with fail
              refine (token_reader.data_any k (w.heap.size + 1) s i fo t0 _ HR3.out (by omega) hs HM3.out HV.out).mono ?_
              rintro e1 w4 ⟨v, rfl, hO, hR, hF⟩
              obtain ⟨A, cp, rfl, _⟩ := Kd.R_reads hO
              have HR4 := Aside0.mk hR
              have HB4 : Aside0 (Below w.heap.size w w4) := ⟨Fr.new_below HB3.out hF (by omega)⟩
              have HZ4 := Aside0.mk (HZ3.out.fr hF (by omega))
              have HT4 := Aside0.mk (HT3.out.fr hF (by omega))
              have HO4 := Aside0.mk (Kd.R_lower hO HB3.out.size)
              clear hO hR hF
              have x0 := HT4.out.cell 0
              have x1 := HT4.out.cell 1
              have x2 := HT4.out.cell 2
              have x3 := HT4.out.cell 3
              have x4 := HT4.out.cell 4
              have y0 := HT4.out.free 0
              have y1 := HT4.out.free 1
              have y2 := HT4.out.free 2
              have y3 := HT4.out.free 3
              have y4 := HT4.out.free 4
              simp only [List.getElem?_toArray, List.getElem?_cons_zero, List.getElem?_cons_succ] at x0 x1 x2 x3 x4
              go_wp2_with fail
              go_meet
              exact ⟨A, cp, ⟨put5_tb HT4.out _ _ _ _ _⟩, ⟨Kd.R_put5 HO4.out HT4.out _ _ _ _ _⟩, ⟨(put5_far _ _ _ _ _ _ _ _ (by omega)).trans HR4.out⟩, ⟨(put5_far _ _ _ _ _ _ _ _ (by omega)).trans HZ4.out⟩, ⟨Fr.to_below HB4.out (put5_fr (G := fun k => k = w.heap.size + 2) (Fr.refl _ w4) (w.heap.size + 2) _ _ _ _ _ (Or.inl rfl)) HB4.out.size (fun i hi => by subst hi; omega)⟩⟩
        case rest =>
          obtain ⟨A, cp, HT5, HO5, HR5, HZ5, HB5⟩ := hcut
          have x0 := HT5.out.cell 0
          have x1 := HT5.out.cell 1
          have x2 := HT5.out.cell 2
          have x3 := HT5.out.cell 3
          have x4 := HT5.out.cell 4
          have t0_ := HZ5.out.cell 0
          have t1 := HZ5.out.cell 1
          have t2 := HZ5.out.cell 2
          have t3 := HZ5.out.cell 3
          have t4 := HZ5.out.cell 4
          have u0 := HZ5.out.free 0
          have u1 := HZ5.out.free 1
          have u2 := HZ5.out.free 2
          have u3 := HZ5.out.free 3
          have u4 := HZ5.out.free 4
          have c1 := HR5.out.c1
          simp only [List.getElem?_toArray, List.getElem?_cons_zero, List.getElem?_cons_succ] at t0_ t1 t2 t3 t4 x0 x1 x2 x3 x4
          by_cases hk : t0.kd = 0
          · have hkb : (t0.kd == 0) = true := by simpa using hk
            have hfin : t0.fin s = { t0 with e := s.size } := by unfold TokV.fin; rw [if_pos hk]
            have HFIN := Aside0.mk hfin
            clear hk hfin
            go_wp2
            have hZ := put5_tb HZ5.out t0.kd t0.nm (.slice A t0.l.length cp) t0.c t0.tx
            have z0 := hZ.cell 0
            have z1 := hZ.cell 1
            have z2 := hZ.cell 2
            have z3 := hZ.cell 3
            have z4 := hZ.cell 4
            unfold put5 at z0 z1 z2 z3 z4
            rw [HFIN.out]
            exact bodyPost_ret (v := .tuple #[.agg #[.int .i64 t0.kd, .string t0.nm, .slice A t0.l.length cp, .bool t0.c, .string t0.tx], .int .i64 (s.size : Int)]) (by simp [results, Try.results11, go_sem, z0, z1, z2, z3, z4]) rfl
              ⟨.slice A t0.l.length cp, rfl, Kd.R_put5 HO5.out HZ5.out _ _ _ _ _, Fr.to_below HB5.out (put5_fr (G := fun k => k = w.heap.size) (Fr.refl _ wc) w.heap.size _ _ _ _ _ (Or.inl rfl)) HB5.out.size (fun i hi => by subst hi; exact Nat.le_refl _)⟩
          · have hkb : (t0.kd == 0) = false := by simpa using hk
            have hfin : t0.fin s = t0 := by unfold TokV.fin; rw [if_neg hk]
            have HFIN := Aside0.mk hfin
            clear hk hfin
            go_upto_region 16 with fail
            go_region
            all_goals
              go_wp2
              have hZ := put5_tb HZ5.out t0.kd t0.nm (.slice A t0.l.length cp) t0.c t0.tx
              have z0 := hZ.cell 0
              have z1 := hZ.cell 1
              have z2 := hZ.cell 2
              have z3 := hZ.cell 3
              have z4 := hZ.cell 4
              unfold put5 at z0 z1 z2 z3 z4
              rw [HFIN.out]
              exact bodyPost_ret (v := .tuple #[.agg #[.int .i64 t0.kd, .string t0.nm, .slice A t0.l.length cp, .bool t0.c, .string t0.tx], .int .i64 (t0.e : Int)]) (by simp [results, Try.results11, go_sem, z0, z1, z2, z3, z4]) rfl
                ⟨.slice A t0.l.length cp, rfl, Kd.R_drew (Kd.R_put5 HO5.out HZ5.out _ _ _ _ _), Below.drew (Fr.to_below HB5.out (put5_fr (G := fun k => k = w.heap.size) (Fr.refl _ wc) w.heap.size _ _ _ _ _ (Or.inl rfl)) HB5.out.size (fun i hi => by subst hi; exact Nat.le_refl _))⟩
  · rw [if_neg hsz] at hd; cases hd
theorem LeO.of {α : Type} {a b : Option α} (h : LeO a b) : LeO a b := h
theorem token_reader.attrV_mono (s : ByteArray) (m k : Nat) : LeO (token_reader.attrV k s m) (token_reader.attrV (k + 1) s m) := by
  unfold token_reader.attrV
  exact LeO.ite (LeO.bind (charref_Decode.mono _ _ k) (fun _ => LeO.refl _)) (LeO.refl _)
theorem token_reader_tag.l_mono : ∀ k s i l, LeO (token_reader_tag.l k s i l) (token_reader_tag.l (k + 1) s i l)
  | 0, _, _, _ => fun r h => by rw [token_reader_tag.l] at h; cases h
  | k + 1, s, i, l => by
    unfold token_reader_tag.l
    exact LeO.ite (LeO.refl _) (LeO.ite (LeO.refl _) (LeO.bind (token_reader.attrV_mono _ _ k) (fun _ => LeO.bind (token_Get.mono _ _ k) (fun _ => token_reader_tag.l_mono k _ _ _))))
theorem token_reader.tagV_mono (s : ByteArray) (i : Nat) (kd : Int) (k : Nat) : LeO (token_reader.tagV k s i kd) (token_reader.tagV (k + 1) s i kd) := by
  unfold token_reader.tagV
  exact LeO.bind (token_reader_tag.l_mono k _ _ _) (fun _ => LeO.refl _)
theorem token_reader.rawV_mono (s name : ByteArray) (i k : Nat) : LeO (token_reader.rawV k s name i) (token_reader.rawV (k + 1) s name i) := by
  unfold token_reader.rawV
  exact LeO.ite (LeO.refl _) (token_reader.tagV_mono _ _ _ k)
theorem token_reader.textV_mono (s : ByteArray) (i k : Nat) : LeO (token_reader.textV k s i) (token_reader.textV (k + 1) s i) := by
  unfold token_reader.textV
  exact LeO.bind (charref_Decode.mono _ _ k) (fun _ => LeO.refl _)
theorem token_reader.declV_mono (s : ByteArray) (i k : Nat) : LeO (token_reader.declV k s i) (token_reader.declV (k + 1) s i) := by
  unfold token_reader.declV token_reader.decl
  exact LeO.bind (LeO.ite (LeO.bind (token_reader_comment.mono _ _ k) (fun _ => LeO.refl _)) (LeO.refl _)) (fun _ => LeO.refl _)
theorem token_reader.dataV_mono : ∀ k s i fo, LeO (token_reader.dataV k s i fo) (token_reader.dataV (k + 1) s i fo)
  | 0, _, _, _ => fun r h => by rw [token_reader.dataV] at h; cases h
  | k + 1, s, i, fo => by
    unfold token_reader.dataV
    exact LeO.ite (LeO.refl _) (LeO.ite (token_reader.textV_mono _ _ k) (LeO.ite (token_reader.dataV_mono k _ _ _) (LeO.ite (LeO.ite (token_reader.dataV_mono k _ _ _) (LeO.refl _)) (LeO.ite (token_reader.declV_mono _ _ k) (LeO.ite (LeO.ite (token_reader.tagV_mono _ _ _ k) (LeO.refl _)) (LeO.ite (LeO.refl _) (token_reader.tagV_mono _ _ _ k)))))))
theorem token_Next.V_mono (s : ByteArray) (a m : Int) (name : ByteArray) (fo : Bool) (k : Nat) : LeO (token_Next.V k s a m name fo) (token_Next.V (k + 1) s a m name fo) := by
  unfold token_Next.V token_Next.v TokV.dec
  exact LeO.ite (LeO.ite (LeO.refl _) (LeO.ite (LeO.refl _) (LeO.bind (LeO.ite (token_reader.rawV_mono _ _ _ k) (LeO.ite (LeO.bind (token_reader.rawV_mono _ _ _ k) (fun _ => LeO.bind (charref_Decode.mono _ _ k) (fun _ => LeO.refl _))) (token_reader.dataV_mono k _ _ _))) (fun _ => LeO.refl _)))) (LeO.refl _)
def TokV.tuple (t : TokV) : Int × ByteArray × List S41 × Bool × ByteArray × Int := (t.kd, t.nm, t.l, t.c, t.tx, (t.e : Int))
def token_Next.f (k : Nat) (a0 : ByteArray) (a1 : Int) (a2 : Int) (a3 : ByteArray) (a4 : Bool) : Option (Int × ByteArray × List S41 × Bool × ByteArray × Int) := (token_Next.V k a0 a1 a2 a3 a4).bind fun t => some t.tuple
theorem token_Next.mono : ∀ a0 a1 a2 a3 a4 k, LeO (token_Next.f k a0 a1 a2 a3 a4) (token_Next.f (k + 1) a0 a1 a2 a3 a4) := fun _ _ _ _ _ k => LeO.bind (token_Next.V_mono _ _ _ _ _ k) (fun _ => LeO.refl _)
theorem token_Next.calls (k : Nat) (a0 : ByteArray) (a1 : Int) (a2 : Int) (a3 : ByteArray) (a4 : Bool) (r1 : Int) (r2 : ByteArray) (r3 : List S41) (r4 : Bool) (r5 : ByteArray) (r6 : Int) (w : World) (hm : HM w) (h : token_Next.f k a0 a1 a2 a3 a4 = some (r1, r2, r3, r4, r5, r6)) :
    Calls Try.prog 11 #[.string a0, .int .i64 a1, .int .i64 a2, .string a3, .bool a4] w fun e w' => ∃ v2_ : Value, e = .returned (.tuple #[.agg #[.int .i64 r1, .string r2, v2_, .bool r4, .string r5], .int .i64 r6]) ∧ Kd.R k41 41 w' w.heap.size (fun _ => True) v2_ r3 ∧ Below w.heap.size w w' := by
  unfold token_Next.f at h
  obtain ⟨t, ht, h⟩ := Option.bind_eq_some_iff.1 h
  have h : (t.kd, t.nm, t.l, t.c, t.tx, (t.e : Int)) = (r1, r2, r3, r4, r5, r6) := Option.some.inj h
  simp only [Prod.mk.injEq] at h
  obtain ⟨rfl, rfl, rfl, rfl, rfl, rfl⟩ := h
  exact token_Next.any k a0 a1 a2 a3 a4 t w hm ht

end Go.Proofs.Ytpelfhldgnmhpaa.G
