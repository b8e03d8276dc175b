-- laid by a program of this session's (wip/tools/myprint.py) over the translation
import Derived.Test.YtpelfhldgnmhpaaG0
import Derived.Test.YtpelfhldgnmhpaaG3
import Derived.Test.YtpelfhldgnmhpaaG7
import Derived.Test.YtpelfhldgnmhpaaG21
import Derived.Test.YtpelfhldgnmhpaaG23
import Derived.Test.YtpelfhldgnmhpaaG24
import Derived.Test.YtpelfhldgnmhpaaG26
namespace Go.Proofs.Ytpelfhldgnmhpaa.G
open Go.RowKit Go.Proofs.YtpelfhldgnmhpaaW.PrintWords Go.Proofs.YtpelfhldgnmhpaaW.PrintLast Go.Proofs.YtpelfhldgnmhpaaW.PrintMore
attribute [local go_sem] max2_int min2_int max_two min_two max_three min_three max_four min_four   -- for this text's walks alone
set_option linter.unusedVariables false
set_option linter.unusedSimpArgs false

/-! HAND token_reader_raw: function 21 -/
theorem Kd.R_put5 {w : World} {base : Nat} {ok : Nat → Prop} {v : Value} {l : List S41} {B : Nat} {k0 : Int} {nm0 : ByteArray} {v0 : Value} {c0 : Bool} {tx0 : ByteArray} (h : Kd.R k41 41 w base ok v l) (hT : TB w B k0 nm0 v0 c0 tx0) (k : Int) (nm : ByteArray) (v2 : Value) (c : Bool) (tx : ByteArray) :
    Kd.R k41 41 (put5 w B k nm v2 c tx) base ok v l := by
  have h2 := Kd.R_set h hT (by decide) 0 (.int .i64 k)
  have h3 := Kd.R_set h2 (hT.set0 k) (by decide) 1 (.string nm)
  have h4 := Kd.R_set h3 ((hT.set0 k).set1 nm) (by decide) 2 v2
  have h5 := Kd.R_set h4 (((hT.set0 k).set1 nm).set2 v2) (by decide) 3 (.bool c)
  exact Kd.R_set h5 ((((hT.set0 k).set1 nm).set2 v2).set3 c) (by decide) 4 (.string tx)
/-- Whether a text begins with the end tag of a name. -/
def token_closes.b (t name : ByteArray) : Bool :=
  Lib.hasPrefix t.data.toList [60, 47] && (decide (2 + name.size < t.size) && ((kind_Lower.low (t.extract 2 (2 + name.size))).toList == (kind_Lower.low name).toList && token_until.pE ⟨#[47, 62]⟩ (t.data.toList.getD (2 + name.size) 0)))
set_option maxHeartbeats 1000000 in
set_option maxRecDepth 100000 in
theorem token_closes.any (t name : ByteArray) (b : Bool) (w : World) (ht : t.size ≤ 1000000000) (hn : name.size ≤ 1000000000) (hb : token_closes.b t name = b) :
    Calls Try.prog 30 #[.string t, .string name] w fun e w' => e = .returned (.bool b) ∧ Below w.heap.size w w' := by
  unfold token_closes.b at hb
  cases hp : Lib.hasPrefix t.data.toList [60, 47] with
  | false =>
    obtain rfl : false = b := by rw [← hb, hp]; rfl
    have HP := Aside0.mk hp
    clear hp hb
    go_enter Try.func30, Try.ntmps30
    go_wp2_with fail
    refine (Try.strings_CutPrefix t ⟨#[60, 47]⟩ _).mono ?_
    rintro e1 w1 ⟨rfl, rfl⟩
    have e2 : (⟨#[60, 47]⟩ : ByteArray).data.toList = [60, 47] := rfl
    rw [e2, HP.out]
    clear e2
    go_wp2
    go_ret
    exact ⟨rfl, Below.refl _ _⟩
  | true =>
    rw [hp, Bool.true_and] at hb
    have HP := Aside0.mk hp
    have hl2 : 2 ≤ t.size := by
      unfold Lib.hasPrefix at hp
      have := (List.isPrefixOf_iff_prefix.1 hp).length_le
      simpa using this
    have htr : (⟨(Lib.trimPrefix t.data.toList [60, 47]).toArray⟩ : ByteArray) = t.extract 2 t.size := by
      unfold Lib.trimPrefix
      rw [if_pos hp]
      apply Go.WideShapes.bytes_inj; simp [List.take_of_length_le]
    have HTR := Aside0.mk htr
    have hus : (t.extract 2 t.size).size = t.size - 2 := by simp
    clear hp htr
    by_cases hlen : 2 + name.size < t.size
    · have hb2 : ((kind_Lower.low (t.extract 2 (2 + name.size))).toList == (kind_Lower.low name).toList && token_until.pE ⟨#[47, 62]⟩ (t.data.toList.getD (2 + name.size) 0)) = b := by rw [← hb, decide_eq_true hlen, Bool.true_and]
      obtain ⟨x, hx⟩ : ∃ x, kind_Lower.low (t.extract 2 (2 + name.size)) = x := ⟨_, rfl⟩
      obtain ⟨y, hy⟩ : ∃ y, kind_Lower.low name = y := ⟨_, rfl⟩
      have hex : (t.extract 2 t.size).extract 0 name.size = t.extract 2 (2 + name.size) := by
        apply Go.WideShapes.bytes_inj; simp [List.take_take]; omega
      have hlx : ∀ wx, Calls Try.prog 55 #[.string ((t.extract 2 t.size).extract 0 name.size)] wx fun e w' => e = .returned (.string x) ∧ Below wx.heap.size wx w' := fun wx => by
        rw [hex, ← hx]; exact kind_Lower.any _ _ (by simp; omega)
      have hly : ∀ wx, Calls Try.prog 55 #[.string name] wx fun e w' => e = .returned (.string y) ∧ Below wx.heap.size wx w' := fun wx => by
        rw [← hy]; exact kind_Lower.any _ _ (by omega)
      rw [hx, hy] at hb2
      have HB := Aside0.mk hb2
      have h0 : decide (((t.extract 2 t.size).size : Int) ≤ (name.size : Int)) = false := by rw [hus]; simp; omega
      have h1 : (name.size : Int) ≤ ((t.extract 2 t.size).size : Int) := by rw [hus]; omega
      have h2 : (name.size : Int) < ((t.extract 2 t.size).size : Int) := by rw [hus]; omega
      have hidx : name.size < (t.extract 2 t.size).size := by rw [hus]; omega
      have hget : (t.extract 2 t.size)[name.size]'hidx = t.data.toList.getD (2 + name.size) 0 := by
        have h3 : 2 + name.size < t.data.toList.length := by simpa using hlen
        rw [List.getD, List.getElem?_eq_getElem h3]
        show ((t.extract 2 t.size).data)[name.size]'_ = _
        simp [ByteArray.data_extract]
      have HG := Aside0.mk hget
      clear hb hb2 hex hx hy hget
      go_enter Try.func30, Try.ntmps30
      go_wp2_with fail
      refine (Try.strings_CutPrefix t ⟨#[60, 47]⟩ _).mono ?_
      rintro e1 w1 ⟨rfl, rfl⟩
      have e2 : (⟨#[60, 47]⟩ : ByteArray).data.toList = [60, 47] := rfl
      rw [e2, HP.out, HTR.out]
      clear e2
      go_wp2_with fail
      refine (hlx _).mono ?_
      rintro e1 w2 ⟨rfl, hb1⟩
      have HB1 := Aside0.mk hb1
      clear hb1
      go_wp2_with fail
      refine (hly _).mono ?_
      rintro e1 w3 ⟨rfl, hb2⟩
      have HB2 := Aside0.mk hb2
      clear hb2 hlx hly
      by_cases hxy : x.toList = y.toList
      · have j1 : (x.toList == y.toList) = true := beq_iff_eq.mpr hxy
        have j2 : (x.toList != y.toList) = false := bne_eq_false_iff_eq.mpr hxy
        obtain ⟨c, hc⟩ : ∃ c, (t.extract 2 t.size)[name.size]'hidx = c := ⟨_, rfl⟩
        have hone := fun wx => token_until.oneE ⟨#[47, 62]⟩ c wx
        have hcb : token_until.pE ⟨#[47, 62]⟩ c = b := by rw [← HB.out, j1, Bool.true_and, ← hc, HG.out]
        rw [hcb] at hone
        rw [← hc] at hone
        clear hcb hc hxy
        go_wp2_with fail
        refine (hone _).mono ?_
        rintro e1 w4 ⟨rfl, n4, rfl⟩
        go_wp2
        go_ret
        exact ⟨rfl, Below.drN (HB1.out.trans (HB2.out.mono HB1.out.size)) _⟩
      · have j1 : (x.toList == y.toList) = false := beq_eq_false_iff_ne.mpr hxy
        have j2 : (x.toList != y.toList) = true := bne_iff_ne.mpr hxy
        obtain rfl : false = b := by rw [← HB.out, j1]; rfl
        clear hxy
        go_wp2
        go_ret
        exact ⟨rfl, HB1.out.trans (HB2.out.mono HB1.out.size)⟩
    · obtain rfl : false = b := by rw [← hb, decide_eq_false hlen]; rfl
      have h0 : decide (((t.extract 2 t.size).size : Int) ≤ (name.size : Int)) = true := by rw [hus]; simp; omega
      clear hb
      go_enter Try.func30, Try.ntmps30
      go_wp2_with fail
      refine (Try.strings_CutPrefix t ⟨#[60, 47]⟩ _).mono ?_
      rintro e1 w1 ⟨rfl, rfl⟩
      have e2 : (⟨#[60, 47]⟩ : ByteArray).data.toList = [60, 47] := rfl
      rw [e2, HP.out, HTR.out]
      clear e2
      go_wp2
      go_ret
      exact ⟨rfl, Below.refl _ _⟩

/-- A token's fields and the place behind it. -/
structure TokV where
  kd : Int
  nm : ByteArray
  l : List S41
  c : Bool
  tx : ByteArray
  e : Nat
def TokV.end_ (e : Nat) : TokV := ⟨0, ⟨#[]⟩, [], false, ⟨#[]⟩, e⟩
/-- A tag from its name on. -/
def token_reader.tagV (k : Nat) (s : ByteArray) (i : Nat) (kd : Int) : Option TokV :=
  (token_reader_tag.l k s (token_until.to (token_until.pE ⟨#[47, 62]⟩) s i) []).bind fun p => some ⟨token_reader_tag.kind kd p.1, token_reader_tag.name (token_reader.low s i (token_until.to (token_until.pE ⟨#[47, 62]⟩) s i)) p.1, token_reader_tag.attrs kd p.1, token_reader_tag.closed kd p.1, ⟨#[]⟩, p.2⟩
/-- A reader's call that hands back a token. -/
def TokC (w : World) (g : Nat) (s : ByteArray) (t : TokV) (e : Ending) (w' : World) : Prop := TokE w t.kd t.nm t.l t.c t.tx (fun w' => RD w' g s t.e ∧ Fr (· = g) w w') e w'
theorem token_reader.tagV_any (k : Nat) (g : Nat) (s : ByteArray) (i : Nat) (kd : Int) (t : TokV) (w : World) (h : RD w g s i) (hi : i ≤ s.size) (hs : s.size ≤ 1000000000) (hm : HM w) (hd : token_reader.tagV k s i kd = some t) :
    Calls Try.prog 32 #[.pointer (some ⟨g, 0, none⟩), .int .i64 kd] w (TokC w g s t) := by
  unfold token_reader.tagV at hd
  obtain ⟨⟨r, e⟩, hl, hd⟩ := Option.bind_eq_some_iff.1 hd
  obtain rfl := Option.some.inj hd
  exact token_reader.tag_any k g s i kd r e w h hi hs hm hl
def token_reader.rawTo (s name : ByteArray) (i : Nat) : Nat := seek (fun j => token_closes.b (s.extract j s.size) name) s.size i
theorem token_reader.rawTo_le (s name : ByteArray) (i : Nat) (h : i ≤ s.size) : i ≤ token_reader.rawTo s name i ∧ token_reader.rawTo s name i ≤ s.size := seek_le _ _ _ i rfl h
theorem token_closes.two {s name : ByteArray} {i : Nat} (hi : i ≤ s.size) (h : token_closes.b (s.extract i s.size) name = true) : i + 2 ≤ s.size := by
  unfold token_closes.b at h
  simp only [Bool.and_eq_true, decide_eq_true_eq] at h
  have := h.2.1
  simp at this; omega
def token_reader.rawV (k : Nat) (s name : ByteArray) (i : Nat) : Option TokV :=
  if i < token_reader.rawTo s name i then some ⟨1, ⟨#[]⟩, [], false, s.extract i (token_reader.rawTo s name i), token_reader.rawTo s name i⟩
  else token_reader.tagV k s (i + 2) 3
set_option maxHeartbeats 2000000 in
set_option maxRecDepth 100000 in
theorem token_reader.raw_any (k : Nat) (g : Nat) (s name : ByteArray) (i : Nat) (t : TokV) (w : World) (h : RD w g s i) (hi : i < s.size) (hs : s.size ≤ 1000000000) (hnm : name.size ≤ 1000000000) (hm : HM w) (hd : token_reader.rawV k s name i = some t) :
    Calls Try.prog 21 #[.pointer (some ⟨g, 0, none⟩), .string name] w (TokC w g s t) := by
  have HR := Aside0.mk (h.al (.cells #[.int .i64 0, .string ⟨#[]⟩, .slice none 0 0, .bool false, .string ⟨#[]⟩] 29))
  have HGL := Aside0.mk h.lt
  have HP := Aside0.mk (h.pos hm)
  have HD := Aside0.mk hd
  have q1 := h.c1
  have hglt := h.lt
  have HF : Aside0 (Fr (· = g) w (w.alloc (.cells #[.int .i64 0, .string ⟨#[]⟩, .slice none 0 0, .bool false, .string ⟨#[]⟩] 29))) := ⟨(Fr.refl _ w).alloc _⟩
  have HMM := Aside0.mk (hm.at_ ((Below.refl _ _).alloc (Nat.le_refl _) (.cells #[.int .i64 0, .string ⟨#[]⟩, .slice none 0 0, .bool false, .string ⟨#[]⟩] 29)))
  have HT := Aside0.mk (TB.new w 0 ⟨#[]⟩ (.slice none 0 0) false ⟨#[]⟩)
  have HWG : Aside0 (¬ w.heap.size = g) := ⟨by have := h.lt; omega⟩
  have HGW : Aside0 (¬ g = w.heap.size) := ⟨by have := h.lt; omega⟩
  clear h hm hd
  go_enter Try.func21, Try.ntmps21
  go_wp2
  go_loopg [] (s.size - i) (fun kq wr => ∃ (j : Nat), Aside0 (i ≤ j ∧ j ≤ s.size ∧ kq + j = s.size ∧ token_reader.rawTo s name j = token_reader.rawTo s name i) ∧ Aside0 (RD wr g s j) ∧ Aside0 (Fr (· = g) w wr) ∧ Aside0 (TB wr w.heap.size 0 ⟨#[]⟩ (.slice none 0 0) false ⟨#[]⟩) ∧ Aside0 (HM wr))
  case atStart => exact ⟨i, ⟨Nat.le_refl _, by omega, by omega, rfl⟩, HR, HF, HT, HMM⟩
  case round =>
    clear HR HF HT q1 hglt HMM
    obtain ⟨j, HJ, HR, HF, HT, HMR⟩ := hrel
    have hjs : j ≤ s.size := HJ.out.2.1
    have hij : i ≤ j := HJ.out.1
    go_wp2_with fail
    cases hgo : (decide (j < s.size) && !(token_closes.b (s.extract j s.size) name)) with
    | true =>
      simp only [Bool.and_eq_true, decide_eq_true_eq, Bool.not_eq_true'] at hgo
      obtain ⟨hlt, hbg⟩ := hgo
      have HBG := Aside0.mk hbg
      clear hbg
      refine (token_reader.done_any g s j false (by simp; omega) _ HR.out).mono ?_
      rintro e1 w1 ⟨rfl, n1, rfl⟩
      have hR1 : RD (wr.drewN n1) g s j := HR.out
      have HR1 := Aside0.mk hR1
      clear hR1
      go_wp2_with fail
      refine (token_reader.rest_any g s j _ HR1.out hjs (by omega)).mono ?_
      rintro e1 w2 ⟨rfl, n2, rfl⟩
      go_wp2_with fail
      refine (token_closes.any (s.extract j s.size) name false _ (by simp; omega) hnm HBG.out).mono ?_
      rintro e1 w3 ⟨rfl, hb⟩
      have hR3 : RD w3 g s j := RD.keep (w := wr.drewN (n1 + n2)) HR1.out hb
      have hF3 : Fr (· = g) w w3 := (HF.out.drewN (n1 + n2)).below hb
      have hT3 : TB w3 w.heap.size 0 ⟨#[]⟩ (.slice none 0 0) false ⟨#[]⟩ := (HT.out.drN (n1 + n2)).keep hb
      have hM3 : HM w3 := HM.at_ (w := wr.drewN (n1 + n2)) HMR.out hb
      have HR3 := Aside0.mk hR3
      have HF3 := Aside0.mk hF3
      have HT3 := Aside0.mk hT3
      have HM3 := Aside0.mk hM3
      have c1 := hR3.c1
      have f1 := hR3.f 1
      have hj9 : (j : Int) ≤ 1000000000 := by omega
      clear hR3 hF3 hT3 hM3 hb HR1
      go_wp2
      go_roundg (s.size - (j + 1))
      case measure => have := HJ.out; omega
      case rel =>
        have hg : (w.heap.size ≠ g) := HWG.out
        refine ⟨j + 1, ⟨by omega, hlt, by omega, ?_⟩, ⟨HR3.out.set _⟩, ⟨HF3.out.own 1 _⟩, ⟨HT3.out.far _ _ hg⟩, ⟨?_⟩⟩
        · rw [← HJ.out.2.2.2]; unfold token_reader.rawTo
          exact (seek_go _ _ j hlt HBG.out).symm
        · obtain ⟨m, hm⟩ := HM3.out
          exact ⟨m, (World.cell?_of_block (Below.heap_setCell _ _ _ 0 HP.out)).trans hm⟩
    | false =>
      have hend : token_reader.rawTo s name j = j := by
        unfold token_reader.rawTo
        by_cases hlt : j < s.size
        · exact seek_stop _ _ j (by simpa [hlt] using hgo)
        · exact seek_end _ _ j hlt
      have hTi : token_reader.rawTo s name i = j := by rw [← HJ.out.2.2.2]; exact hend
      have hd := HD.out
      unfold token_reader.rawV at hd
      rw [hTi] at hd
      have HD2 := Aside0.mk hd
      clear hend hTi hd HD
      rcases Nat.lt_or_ge j s.size with hlt | hge
      · have hbg : token_closes.b (s.extract j s.size) name = true := by simpa [hlt] using hgo
        have HBG := Aside0.mk hbg
        clear hbg hgo
        refine (token_reader.done_any g s j false (by simp; omega) _ HR.out).mono ?_
        rintro e1 w1 ⟨rfl, n1, rfl⟩
        have hR1 : RD (wr.drewN n1) g s j := HR.out
        have HR1 := Aside0.mk hR1
        clear hR1
        go_wp2_with fail
        refine (token_reader.rest_any g s j _ HR1.out hjs (by omega)).mono ?_
        rintro e1 w2 ⟨rfl, n2, rfl⟩
        go_wp2_with fail
        refine (token_closes.any (s.extract j s.size) name true _ (by simp; omega) hnm HBG.out).mono ?_
        rintro e1 w4 ⟨rfl, hb⟩
        have hR4 : RD w4 g s j := RD.keep (w := wr.drewN (n1 + n2)) HR1.out hb
        have HR4 := Aside0.mk hR4
        have HF4 : Aside0 (Fr (· = g) w w4) := ⟨(HF.out.drewN (n1 + n2)).below hb⟩
        have HT4 : Aside0 (TB w4 w.heap.size 0 ⟨#[]⟩ (.slice none 0 0) false ⟨#[]⟩) := ⟨(HT.out.drN (n1 + n2)).keep hb⟩
        have HM4 : Aside0 (HM w4) := ⟨HM.at_ (w := wr.drewN (n1 + n2)) HMR.out hb⟩
        clear hR4 hb HR1 HR HF HT HMR
        go_upto_region 4 with fail
        by_cases hij2 : i < j
        · skip
          have c0 := HR4.out.c0
          have c1 := HR4.out.c1
          have gq : decide ((j : Int) > (i : Int)) = true := by simp; omega
          have gq2 : (i : Int) < (j : Int) := by omega
          have g0 : (0 : Int) ≤ (i : Int) := by omega
          have g1 : (i : Int) ≤ (j : Int) := by omega
          have g2 : (j : Int) ≤ (s.size : Int) := by omega
          have t0 := HT4.out.cell 0
          have t1 := HT4.out.cell 1
          have t2 := HT4.out.cell 2
          have t3 := HT4.out.cell 3
          have t4 := HT4.out.cell 4
          have u0 := HT4.out.free 0
          have u1 := HT4.out.free 1
          have u2 := HT4.out.free 2
          have u3 := HT4.out.free 3
          have u4 := HT4.out.free 4
          simp only [List.getElem?_toArray, List.getElem?_cons_zero, List.getElem?_cons_succ] at t0 t1 t2 t3 t4
          have hgw := HGW.out
          have hwg := HWG.out
          have hd := HD2.out
          rw [if_pos (show i < j by omega)] at hd
          obtain rfl := Option.some.inj hd
          clear hd HD2
          go_upto_region 5 with fail
          go_still_tail 11, (by kernel_rfl)
          change wpList _ _ _ _ _ w4.drew
          go_wp2
          have hZ := put5_tb HT4.out 1 ⟨#[]⟩ (.slice none 0 0) false (s.extract i j)
          have z0 := hZ.cell 0
          have z1 := hZ.cell 1
          have z2 := hZ.cell 2
          have z3 := hZ.cell 3
          have z4 := hZ.cell 4
          unfold put5 at z0 z1 z2 z3 z4
          exact bodyPost_ret (v := .agg #[.int .i64 1, .string ⟨#[]⟩, .slice none 0 0, .bool false, .string (s.extract i j)]) (by simp [results, Try.results21, go_sem, z0, z1, z2, z3, z4]) rfl
            ⟨.slice none 0 0, rfl, Kd.R_nil _ _ _ _ _, RD.dr ((put5_far _ _ _ _ _ _ _ g hgw).trans HR4.out), Fr.drew (put5_fr HF4.out _ _ _ _ _ _ (Or.inr (Nat.le_refl _)))⟩
        · obtain rfl : i = j := by omega
          have hd := HD2.out
          rw [if_neg (by omega)] at hd
          have HD3 := Aside0.mk hd
          have h2 := token_closes.two hjs HBG.out
          have c1 := HR4.out.c1
          have f1 := HR4.out.f 1
          have gq : decide ((i : Int) > (i : Int)) = false := by simp
          have g3 : (i : Int) ≤ 1000000000 := by omega
          clear hd HD2
          go_wp2_with fail
          refine (token_reader.tagV_any k g s (i + 2) 3 t _ ?_ h2 hs ?_ HD3.out).mono ?_
          · exact HR4.out.set _
          · obtain ⟨m, hm⟩ := HM4.out
            exact ⟨m, (World.cell?_of_block (Below.heap_setCell _ _ _ 0 HP.out)).trans hm⟩
          rintro e1 w5 ⟨v, rfl, hO, hR, hF⟩
          obtain ⟨A, cp, rfl, _⟩ := Kd.R_reads hO
          have HR5 := Aside0.mk hR
          have HF5 : Aside0 (Fr (· = g) w w5) := ⟨(HF4.out.own 1 _).trans hF⟩
          have HT5 : Aside0 (TB w5 w.heap.size 0 ⟨#[]⟩ (.slice none 0 0) false ⟨#[]⟩) := ⟨TB.fr (HT4.out.far _ _ HWG.out) hF HWG.out⟩
          have HO5 := Aside0.mk (Kd.R_lower hO (Fr.size (HF4.out.own 1 _)))
          clear hO hR hF HR4 HF4 HT4 HM4
          have t0 := HT5.out.cell 0
          have t1 := HT5.out.cell 1
          have t2 := HT5.out.cell 2
          have t3 := HT5.out.cell 3
          have t4 := HT5.out.cell 4
          have u0 := HT5.out.free 0
          have u1 := HT5.out.free 1
          have u2 := HT5.out.free 2
          have u3 := HT5.out.free 3
          have u4 := HT5.out.free 4
          simp only [List.getElem?_toArray, List.getElem?_cons_zero, List.getElem?_cons_succ] at t0 t1 t2 t3 t4
          go_wp2
          have hZ := put5_tb HT5.out t.kd t.nm (.slice A t.l.length cp) t.c t.tx
          have z0 := hZ.cell 0
          have z1 := hZ.cell 1
          have z2 := hZ.cell 2
          have z3 := hZ.cell 3
          have z4 := hZ.cell 4
          unfold put5 at z0 z1 z2 z3 z4
          exact bodyPost_ret (v := .agg #[.int .i64 t.kd, .string t.nm, .slice A t.l.length cp, .bool t.c, .string t.tx]) (by simp [results, Try.results21, go_sem, z0, z1, z2, z3, z4]) rfl
            ⟨.slice A t.l.length cp, rfl, Kd.R_put5 HO5.out HT5.out _ _ _ _ _, (put5_far _ _ _ _ _ _ _ g HGW.out).trans HR5.out, put5_fr HF5.out _ _ _ _ _ _ (Or.inr (Nat.le_refl _))⟩
      · have hij2 : i < j := by omega
        refine (token_reader.done_any g s j true (by simp; omega) _ HR.out).mono ?_
        rintro e1 w1 ⟨rfl, n1, rfl⟩
        obtain ⟨w4, hw4⟩ : ∃ W, wr.drewN n1 = W := ⟨_, rfl⟩
        have HR4 : Aside0 (RD w4 g s j) := ⟨by rw [← hw4]; exact HR.out⟩
        have HF4 : Aside0 (Fr (· = g) w w4) := ⟨by rw [← hw4]; exact HF.out.drewN _⟩
        have HT4 : Aside0 (TB w4 w.heap.size 0 ⟨#[]⟩ (.slice none 0 0) false ⟨#[]⟩) := ⟨by rw [← hw4]; exact HT.out⟩
        rw [hw4]
        clear hw4 HR HF HT HMR
        go_upto_region 4 with fail
        have c0 := HR4.out.c0
        have c1 := HR4.out.c1
        have gq : decide ((j : Int) > (i : Int)) = true := by simp; omega
        have gq2 : (i : Int) < (j : Int) := by omega
        have g0 : (0 : Int) ≤ (i : Int) := by omega
        have g1 : (i : Int) ≤ (j : Int) := by omega
        have g2 : (j : Int) ≤ (s.size : Int) := by omega
        have t0 := HT4.out.cell 0
        have t1 := HT4.out.cell 1
        have t2 := HT4.out.cell 2
        have t3 := HT4.out.cell 3
        have t4 := HT4.out.cell 4
        have u0 := HT4.out.free 0
        have u1 := HT4.out.free 1
        have u2 := HT4.out.free 2
        have u3 := HT4.out.free 3
        have u4 := HT4.out.free 4
        simp only [List.getElem?_toArray, List.getElem?_cons_zero, List.getElem?_cons_succ] at t0 t1 t2 t3 t4
        have hgw := HGW.out
        have hwg := HWG.out
        have hd := HD2.out
        rw [if_pos (show i < j by omega)] at hd
        obtain rfl := Option.some.inj hd
        clear hd HD2
        go_upto_region 5 with fail
        go_still_tail 11, (by kernel_rfl)
        change wpList _ _ _ _ _ w4.drew
        go_wp2
        have hZ := put5_tb HT4.out 1 ⟨#[]⟩ (.slice none 0 0) false (s.extract i j)
        have z0 := hZ.cell 0
        have z1 := hZ.cell 1
        have z2 := hZ.cell 2
        have z3 := hZ.cell 3
        have z4 := hZ.cell 4
        unfold put5 at z0 z1 z2 z3 z4
        exact bodyPost_ret (v := .agg #[.int .i64 1, .string ⟨#[]⟩, .slice none 0 0, .bool false, .string (s.extract i j)]) (by simp [results, Try.results21, go_sem, z0, z1, z2, z3, z4]) rfl
          ⟨.slice none 0 0, rfl, Kd.R_nil _ _ _ _ _, RD.dr ((put5_far _ _ _ _ _ _ _ g hgw).trans HR4.out), Fr.drew (put5_fr HF4.out _ _ _ _ _ _ (Or.inr (Nat.le_refl _)))⟩

end Go.Proofs.Ytpelfhldgnmhpaa.G
