-- laid by a program of this session's (wip/tools/myprint.py) over the translation
import Derived.Test.YtpelfhldgnmhpaaG0
import Derived.Test.YtpelfhldgnmhpaaG3
import Derived.Test.YtpelfhldgnmhpaaG6
import Derived.Test.YtpelfhldgnmhpaaG7
import Derived.Test.YtpelfhldgnmhpaaG21
import Derived.Test.YtpelfhldgnmhpaaG22
import Derived.Test.YtpelfhldgnmhpaaG23
namespace Go.Proofs.Ytpelfhldgnmhpaa.G
open Go.RowKit Go.Proofs.YtpelfhldgnmhpaaW.PrintWords Go.Proofs.YtpelfhldgnmhpaaW.PrintLast Go.Proofs.YtpelfhldgnmhpaaW.PrintMore
attribute [local go_sem] max2_int min2_int max_two min_two max_three min_three max_four min_four   -- for this text's walks alone
set_option linter.unusedVariables false
set_option linter.unusedSimpArgs false

/-! HAND token_reader_tag: function 32 -/
theorem token_reader_tag.info : (Try.prog.info? 41).map (fun i => (i.zero, i.size, i.bytes)) = some (some (.agg #[.string ⟨#[]⟩, .string ⟨#[]⟩]), 2, 32) := by kernel_rfl
/-- Whether an attribute of that name is there. -/
def token_reader.hasName (l : List S41) (nm : ByteArray) : Bool := l.any fun a => a.f0.toList == nm.toList
/-- A tag's attributes from a place on: none, where it does not end; the place behind. -/
def token_reader_tag.l : Nat → ByteArray → Nat → List S41 → Option (Option (List S41 × Bool) × Nat)
  | 0, _, _, _ => none
  | k + 1, s, i, l =>
    if s.size ≤ token_until.to token_until.pG s i then some (none, token_until.to token_until.pG s i)
    else if token_reader.here s (token_until.to token_until.pG s i) ⟨#[62]⟩ = true then some (some (l, token_reader.slash s i (token_until.to token_until.pG s i)), token_until.to token_until.pG s i + 1)
    else (token_reader.attrV k s (token_until.to token_until.pN s (token_reader.attrEnd s (token_until.to token_until.pG s i)))).bind fun p =>
      (token_Get.f k l (token_reader.low s (token_until.to token_until.pG s i) (token_reader.attrEnd s (token_until.to token_until.pG s i)))).bind fun q =>
        token_reader_tag.l k s p.2 (if q.2 = true then l else l ++ [⟨token_reader.low s (token_until.to token_until.pG s i) (token_reader.attrEnd s (token_until.to token_until.pG s i)), p.1⟩])
theorem token_reader.attrV_le (s : ByteArray) (q : Nat) (hq : q < s.size) {k : Nat} {v : ByteArray} {e : Nat} (h : token_reader.attrV k s (token_until.to token_until.pN s (token_reader.attrEnd s q)) = some (v, e)) : q + 1 ≤ e ∧ e ≤ s.size := by
  have h1 := token_until.to_le (token_until.pE ⟨#[47, 62, 61]⟩) s (q + 1) hq
  have h2 := token_until.to_le token_until.pN s (token_reader.attrEnd s q) h1.2
  have h1' : q + 1 ≤ token_reader.attrEnd s q := h1.1
  unfold token_reader.attrV at h
  split at h
  · rename_i h61
    have h3 : token_until.to token_until.pN s (token_reader.attrEnd s q) + 1 ≤ s.size := token_reader.here_le h2.2 h61
    obtain ⟨r, _, h⟩ := Option.bind_eq_some_iff.1 h
    simp only [Option.some.injEq, Prod.mk.injEq] at h
    obtain ⟨_, rfl⟩ := h
    have h4 := token_reader.val_le s _ h3
    exact ⟨by have := h4.1; omega, h4.2⟩
  · simp only [Option.some.injEq, Prod.mk.injEq] at h
    obtain ⟨_, rfl⟩ := h
    exact ⟨by omega, h2.2⟩
/-- A token's own block. -/
def TB (w : World) (B : Nat) (k : Int) (nm : ByteArray) (v : Value) (c : Bool) (tx : ByteArray) : Prop := w.heap[B]? = some (.cells #[.int .i64 k, .string nm, v, .bool c, .string tx] 29 (0, 0))
section
variable {w w' : World} {B : Nat} {k : Int} {nm : ByteArray} {v : Value} {c : Bool} {tx : ByteArray}
theorem TB.new (w : World) (k : Int) (nm : ByteArray) (v : Value) (c : Bool) (tx : ByteArray) : TB (w.alloc (.cells #[.int .i64 k, .string nm, v, .bool c, .string tx] 29)) w.heap.size k nm v c tx := by
  simpa [TB] using heap_alloc_last w (.cells #[.int .i64 k, .string nm, v, .bool c, .string tx] 29)
theorem TB.lt (h : TB w B k nm v c tx) : B < w.heap.size := (Array.getElem?_eq_some_iff.1 h).1
theorem TB.fr {G : Nat → Prop} (h : TB w B k nm v c tx) (hb : Fr G w w') (hg : ¬ G B) : TB w' B k nm v c tx := (hb.block B h.lt hg).trans h
theorem TB.keep (h : TB w B k nm v c tx) (hb : Below w.heap.size w w') : TB w' B k nm v c tx := (hb.block B h.lt).trans h
theorem TB.dr (h : TB w B k nm v c tx) : TB w.drew B k nm v c tx := h
theorem TB.drN (h : TB w B k nm v c tx) (n : Nat) : TB (w.drewN n) B k nm v c tx := h
theorem TB.far (h : TB w B k nm v c tx) (a : Addr) (u : Value) (hg : B ≠ a.block) : TB (w.setCell a u) B k nm v c tx := (Below.heap_setCell _ _ _ _ hg).trans h
theorem TB.cell (h : TB w B k nm v c tx) (j : Nat) : w.cell? ⟨B, j, none⟩ = #[Value.int .i64 k, .string nm, v, .bool c, .string tx][j]? := Lib.cell_of_heap h j
theorem TB.free (h : TB w B k nm v c tx) (j : Nat) : w.frozen? ⟨B, j, none⟩ = false := Lib.frozen_of_heap h j
theorem TB.set0 (h : TB w B k nm v c tx) (x : Int) : TB (w.setCell ⟨B, 0, none⟩ (.int .i64 x)) B x nm v c tx := by
  unfold TB at *; simp [World.setCell, Array.getElem?_modify, h]
theorem TB.set1 (h : TB w B k nm v c tx) (x : ByteArray) : TB (w.setCell ⟨B, 1, none⟩ (.string x)) B k x v c tx := by
  unfold TB at *; simp [World.setCell, Array.getElem?_modify, h]
theorem TB.set2 (h : TB w B k nm v c tx) (x : Value) : TB (w.setCell ⟨B, 2, none⟩ x) B k nm x c tx := by
  unfold TB at *; simp [World.setCell, Array.getElem?_modify, h]
theorem TB.set3 (h : TB w B k nm v c tx) (x : Bool) : TB (w.setCell ⟨B, 3, none⟩ (.bool x)) B k nm v x tx := by
  unfold TB at *; simp [World.setCell, Array.getElem?_modify, h]
theorem TB.set4 (h : TB w B k nm v c tx) (x : ByteArray) : TB (w.setCell ⟨B, 4, none⟩ (.string x)) B k nm v c x := by
  unfold TB at *; simp [World.setCell, Array.getElem?_modify, h]
end
/-- A whole token laid into a block. -/
def put5 (w : World) (B : Nat) (k : Int) (nm : ByteArray) (v : Value) (c : Bool) (tx : ByteArray) : World := ((((w.setCell ⟨B, 0, none⟩ (.int .i64 k)).setCell ⟨B, 1, none⟩ (.string nm)).setCell ⟨B, 2, none⟩ v).setCell ⟨B, 3, none⟩ (.bool c)).setCell ⟨B, 4, none⟩ (.string tx)
theorem put5_far (w : World) (B : Nat) (k : Int) (nm : ByteArray) (v : Value) (c : Bool) (tx : ByteArray) (j : Nat) (h : j ≠ B) : (put5 w B k nm v c tx).heap[j]? = w.heap[j]? := by
  unfold put5
  rw [Below.heap_setCell _ _ _ _ h, Below.heap_setCell _ _ _ _ h, Below.heap_setCell _ _ _ _ h, Below.heap_setCell _ _ _ _ h, Below.heap_setCell _ _ _ _ h]
theorem put5_tb {w : World} {B : Nat} {k0 : Int} {nm0 : ByteArray} {v0 : Value} {c0 : Bool} {tx0 : ByteArray} (h : TB w B k0 nm0 v0 c0 tx0) (k : Int) (nm : ByteArray) (v : Value) (c : Bool) (tx : ByteArray) : TB (put5 w B k nm v c tx) B k nm v c tx := ((((h.set0 k).set1 nm).set2 v).set3 c).set4 tx
theorem put5_fr {G : Nat → Prop} {w w1 : World} (h : Fr G w w1) (B : Nat) (k : Int) (nm : ByteArray) (v : Value) (c : Bool) (tx : ByteArray) (hB : G B ∨ w.heap.size ≤ B) : Fr G w (put5 w1 B k nm v c tx) :=
  ((((h.setCell (p := ⟨B, 0, none⟩) hB _).setCell (p := ⟨B, 1, none⟩) hB _).setCell (p := ⟨B, 2, none⟩) hB _).setCell (p := ⟨B, 3, none⟩) hB _).setCell (p := ⟨B, 4, none⟩) hB _
theorem RD.keep5 {w : World} {g : Nat} {s : ByteArray} {i : Int} {B : Nat} (h : RD w g s i) (hne : g ≠ B) (k : Int) (nm : ByteArray) (v : Value) (c : Bool) (tx : ByteArray) : (put5 w B k nm v c tx).cell? ⟨g, 0, none⟩ = some (.string s) ∧ (put5 w B k nm v c tx).cell? ⟨g, 1, none⟩ = some (.int .i64 i) :=
  have h2 : RD (put5 w B k nm v c tx) g s i := (put5_far w B k nm v c tx g hne).trans h
  ⟨h2.c0, h2.c1⟩
/-- A token that is handed back. -/
def TokE (w : World) (k : Int) (nm : ByteArray) (l : List S41) (c : Bool) (tx : ByteArray) (P : World → Prop) (e : Ending) (w' : World) : Prop :=
  ∃ v : Value, e = .returned (.agg #[.int .i64 k, .string nm, v, .bool c, .string tx]) ∧ Kd.R k41 41 w' w.heap.size (fun _ => True) v l ∧ P w'
def token_reader_tag.kind (kd : Int) (r : Option (List S41 × Bool)) : Int := match r with | none => 0 | some _ => kd
def token_reader_tag.name (nm : ByteArray) (r : Option (List S41 × Bool)) : ByteArray := match r with | none => ⟨#[]⟩ | some _ => nm
def token_reader_tag.attrs (kd : Int) (r : Option (List S41 × Bool)) : List S41 := match r with | none => [] | some p => if kd = 3 then [] else p.1
def token_reader_tag.closed (kd : Int) (r : Option (List S41 × Bool)) : Bool := match r with | none => false | some p => if kd = 3 then false else p.2
theorem Kd.R_fr {α : Type} {d : Kd α} {e base : Nat} {ok : Nat → Prop} {w w1 : World} {v : Value} {xs : List α} {G : Nat → Prop} (h : d.R e w base ok v xs) (hf : Fr G w w1) (hok : ∀ k, ok k → ¬ G k) : d.R e w1 base ok v xs := Kd.R_step h fun k ho hk => hf.block k hk (hok k ho)
set_option maxHeartbeats 1000000 in
set_option maxRecDepth 100000 in
theorem token_reader.tag_any (k : Nat) (g : Nat) (s : ByteArray) (i : Nat) (kd : Int) (r : Option (List S41 × Bool)) (e : Nat) (w : World) (h : RD w g s i) (hi : i ≤ s.size) (hs : s.size ≤ 1000000000) (hm : HM w)
    (hd : token_reader_tag.l k s (token_until.to (token_until.pE ⟨#[47, 62]⟩) s i) [] = some (r, e)) :
    Calls Try.prog 32 #[.pointer (some ⟨g, 0, none⟩), .int .i64 kd] w (TokE w (token_reader_tag.kind kd r) (token_reader_tag.name (token_reader.low s i (token_until.to (token_until.pE ⟨#[47, 62]⟩) s i)) r) (token_reader_tag.attrs kd r) (token_reader_tag.closed kd r) ⟨#[]⟩ (fun w' => RD w' g s e ∧ Fr (· = g) w w')) := by
  have HR := Aside0.mk h
  have HP := Aside0.mk (h.pos hm)
  have HGL := Aside0.mk h.lt
  have HMM := Aside0.mk hm
  have h1 := token_until.to_le (token_until.pE ⟨#[47, 62]⟩) s i hi
  obtain ⟨j, hj⟩ : ∃ j, token_until.to (token_until.pE ⟨#[47, 62]⟩) s i = j := ⟨_, rfl⟩
  rw [hj] at h1 hd ⊢
  obtain ⟨nm, hnm⟩ : ∃ r, token_reader.low s i j = r := ⟨_, rfl⟩
  have hlow : ∀ wx, Calls Try.prog 55 #[.string (s.extract i j)] wx fun e w' => e = .returned (.string nm) ∧ Below wx.heap.size wx w' := fun wx => by
    rw [← hnm]; exact kind_Lower.any _ _ (by simp; omega)
  rw [hnm]
  have HJ := Aside0.mk hj
  have HD := Aside0.mk hd
  have HJS := Aside0.mk h1
  clear h hm hj h1 hd hnm
  go_enter Try.func32, Try.ntmps32
  go_wp2_with fail
  refine (token_reader.untilE g s i ⟨#[47, 62]⟩ _ (HR.out.al _) hi (by omega)).mono ?_
  rintro e1 w1 ⟨rfl, hr, hf⟩
  rw [HJ.out] at hr ⊢
  have HR1 := Aside0.mk hr
  have HF1 : Aside0 (Fr (· = g) w w1) := ⟨((Fr.refl _ w).alloc _).trans hf⟩
  have HT1 : Aside0 (TB w1 w.heap.size 0 ⟨#[]⟩ (.slice none 0 0) false ⟨#[]⟩) := ⟨(TB.new w 0 ⟨#[]⟩ (.slice none 0 0) false ⟨#[]⟩).fr hf (by have := HGL.out; omega)⟩
  have HM1 := Aside0.mk (HMM.out.fr HF1.out HP.out)
  clear hr hf
  go_wp2_with fail
  refine (hlow _).mono ?_
  rintro e1 w2 ⟨rfl, hb⟩
  have HR2 := Aside0.mk (HR1.out.keep hb)
  have HF2 := Aside0.mk (HF1.out.below hb)
  have HT2 := Aside0.mk (HT1.out.keep hb)
  have HM2 := Aside0.mk (HM1.out.at_ hb)
  clear hb HR1 HF1 HT1 HM1 hlow HR
  go_wp2_with fail
  obtain ⟨w3, hw3⟩ : ∃ W, w2.alloc (.cells #[.int .i64 kd, .string nm, .slice none 0 0, .bool false, .string ⟨#[]⟩] 29) = W := ⟨_, rfl⟩
  obtain ⟨tb, htb⟩ : ∃ n, w2.heap.size = n := ⟨_, rfl⟩
  have HTB : Aside0 (TB w3 tb kd nm (.slice none 0 0) false ⟨#[]⟩) := ⟨by rw [← hw3, ← htb]; exact TB.new _ _ _ _ _ _⟩
  have HR3 : Aside0 (RD w3 g s j) := ⟨by rw [← hw3]; exact HR2.out.al _⟩
  have HF3 : Aside0 (Fr (· = g) w w3) := ⟨by rw [← hw3]; exact HF2.out.alloc _⟩
  have HT3 : Aside0 (TB w3 w.heap.size 0 ⟨#[]⟩ (.slice none 0 0) false ⟨#[]⟩) := ⟨by rw [← hw3]; exact HT2.out.keep ((Below.refl _ _).alloc (Nat.le_refl _) _)⟩
  have HM3 : Aside0 (HM w3) := ⟨by rw [← hw3]; exact HM2.out.at_ ((Below.refl _ _).alloc (Nat.le_refl _) _)⟩
  have HBL : Aside0 (w.heap.size < tb) := ⟨by rw [← htb]; exact HT2.out.lt⟩
  rw [hw3, htb]
  clear hw3 htb HR2 HF2 HT2 HM2
  go_loopg [] k (fun kq wr => ∃ (p : Nat) (l : List S41) (v : Value), Aside0 (p ≤ s.size ∧ l.length ≤ p ∧ token_reader_tag.l kq s p l = some (r, e)) ∧ Aside0 (TB wr tb kd nm v false ⟨#[]⟩) ∧ Aside0 (Kd.R k41 41 wr w.heap.size (fun k => k ≠ g) v l) ∧ Aside0 (RD wr g s p) ∧ Aside0 (Fr (· = g) w wr) ∧ Aside0 (TB wr w.heap.size 0 ⟨#[]⟩ (.slice none 0 0) false ⟨#[]⟩) ∧ Aside0 (HM wr))
  case atStart => exact ⟨j, [], _, ⟨HJS.out.2, Nat.zero_le _, HD.out⟩, HTB, ⟨Kd.R_nil _ _ _ _ _⟩, HR3, HF3, HT3, HM3⟩
  case round =>
    clear HTB HR3 HF3 HT3 HM3 HD HJS HJ
    obtain ⟨p, l, v, HL, HTB, HO, HR, HF, HT, HM⟩ := hrel
    obtain ⟨A, cp, rfl, hlc, _⟩ := Kd.R_reads HO.out
    obtain ⟨kk, rfl⟩ : ∃ m, gk = m + 1 := ⟨gk - 1, by
      rcases gk with _ | m
      · have := HL.out.2.2; rw [token_reader_tag.l] at this; cases this
      · rfl⟩
    have hps := HL.out.1
    have hpp := token_until.to_le token_until.pG s p hps
    have hq := HL.out.2.2
    rw [token_reader_tag.l] at hq
    obtain ⟨q, hqq⟩ : ∃ q, token_until.to token_until.pG s p = q := ⟨_, rfl⟩
    obtain ⟨st, hst⟩ : ∃ b, token_reader.slash s p q = b := ⟨_, rfl⟩
    rw [hqq] at hq hpp
    rw [hst] at hq
    have HQQ := Aside0.mk hqq
    have HST := Aside0.mk hst
    have HQ := Aside0.mk hq
    have HPL : Aside0 (l.length ≤ p) := ⟨HL.out.2.1⟩
    have hpq := hpp.1
    have hqs := hpp.2
    clear hq hqq hst hpp HL
    go_wp2_with fail
    refine (token_reader.gap_any g s p _ HR.out hps (by omega)).mono ?_
    rintro e1 w4 ⟨rfl, hr, hf⟩
    rw [HQQ.out] at hr ⊢
    rw [HST.out]
    have HR4 := Aside0.mk hr
    have HF4 := Aside0.mk (HF.out.trans hf)
    have htg : ¬ tb = g := by have := HBL.out; have := HGL.out; omega
    have HTB4 := Aside0.mk (HTB.out.fr hf htg)
    have HT4 := Aside0.mk (HT.out.fr hf (by have := HGL.out; omega))
    have HO4 := Aside0.mk (Kd.R_fr HO.out hf (fun _ h => h))
    have HM4 := Aside0.mk (HM.out.fr hf HP.out)
    clear hr hf HR HF HTB HT HO HM
    go_wp2_with fail
    by_cases hge : s.size ≤ q
    · have hq := HQ.out
      rw [if_pos hge] at hq
      simp only [Option.some.injEq, Prod.mk.injEq] at hq
      obtain ⟨rfl, rfl⟩ := hq
      refine (token_reader.done_any g s q true (by simp; omega) _ HR4.out).mono ?_
      rintro e1 w5 ⟨rfl, n, rfl⟩
      have t0 := HT4.out.cell 0
      have t1 := HT4.out.cell 1
      have t2 := HT4.out.cell 2
      have t3 := HT4.out.cell 3
      have t4 := HT4.out.cell 4
      have u0 := HT4.out.free 0
      have u1 := HT4.out.free 1
      have u2 := HT4.out.free 2
      have u3 := HT4.out.free 3
      have u4 := HT4.out.free 4
      simp only [List.getElem?_toArray, List.getElem?_cons_zero, List.getElem?_cons_succ] at t0 t1 t2 t3 t4
      go_wp2
      have hZ := put5_tb (w := w4.drewN n) HT4.out 0 ⟨#[]⟩ (.slice none 0 0) false ⟨#[]⟩
      have z0 := hZ.cell 0
      have z1 := hZ.cell 1
      have z2 := hZ.cell 2
      have z3 := hZ.cell 3
      have z4 := hZ.cell 4
      unfold put5 at z0 z1 z2 z3 z4
      exact bodyPost_ret (v := .agg #[.int .i64 0, .string ⟨#[]⟩, .slice none 0 0, .bool false, .string ⟨#[]⟩]) (by simp [results, Try.results32, go_sem, z0, z1, z2, z3, z4]) rfl
        ⟨.slice none 0 0, rfl, Kd.R_nil _ _ _ _ _, (put5_far _ _ _ _ _ _ _ g (by have := HGL.out; omega)).trans HR4.out, put5_fr (HF4.out.drewN n) _ _ _ _ _ _ (Or.inr (Nat.le_refl _))⟩
    · have hlt : q < s.size := by omega
      refine (token_reader.done_any g s q false (by simp; omega) _ HR4.out).mono ?_
      rintro e1 w5 ⟨rfl, n, rfl⟩
      have HR5 : Aside0 (RD (w4.drewN n) g s q) := ⟨HR4.out⟩
      have HF5 := Aside0.mk (HF4.out.drewN n)
      have HTB5 : Aside0 (TB (w4.drewN n) tb kd nm (.slice A l.length cp) false ⟨#[]⟩) := ⟨HTB4.out⟩
      have HT5 : Aside0 (TB (w4.drewN n) w.heap.size 0 ⟨#[]⟩ (.slice none 0 0) false ⟨#[]⟩) := ⟨HT4.out⟩
      have HO5 : Aside0 (Kd.R k41 41 (w4.drewN n) w.heap.size (fun k => k ≠ g) (.slice A l.length cp) l) := ⟨Kd.R_drewN HO4.out n⟩
      have HM5 : Aside0 (HM (w4.drewN n)) := ⟨HM4.out⟩
      obtain ⟨w5, hw5⟩ : ∃ W, w4.drewN n = W := ⟨_, rfl⟩
      rw [hw5] at HR5 HF5 HTB5 HT5 HO5 HM5 ⊢
      clear hw5 HR4 HF4 HTB4 HT4 HO4 HM4
      go_wp2_with fail
      cases h62 : token_reader.here s q ⟨#[62]⟩ with
      | true =>
        have hq := HQ.out
        rw [if_neg hge, if_pos h62] at hq
        simp only [Option.some.injEq, Prod.mk.injEq] at hq
        obtain ⟨rfl, rfl⟩ := hq
        refine (token_reader.past_yes g s q ⟨#[62]⟩ _ HR5.out hqs hs h62).mono ?_
        clear h62
        rintro e1 w6 ⟨rfl, hr, hf⟩
        have HR6 : Aside0 (RD w6 g s ((q + 1 : Nat) : Int)) := ⟨hr⟩
        have HF6 := Aside0.mk (HF5.out.trans hf)
        have HTB6 := Aside0.mk (HTB5.out.fr hf htg)
        have HT6 := Aside0.mk (HT5.out.fr hf (by have := HGL.out; omega))
        have HO6 := Aside0.mk (Kd.R_fr HO5.out hf (fun _ h => h))
        clear hr hf HR5 HF5 HTB5 HT5 HO5 HM5
        have t0 := HT6.out.cell 0
        have t1 := HT6.out.cell 1
        have t2 := HT6.out.cell 2
        have t3 := HT6.out.cell 3
        have t4 := HT6.out.cell 4
        have u0 := HT6.out.free 0
        have u1 := HT6.out.free 1
        have u2 := HT6.out.free 2
        have u3 := HT6.out.free 3
        have u4 := HT6.out.free 4
        have x0 := HTB6.out.cell 0
        have x1 := HTB6.out.cell 1
        have x2 := HTB6.out.cell 2
        have x3 := HTB6.out.cell 3
        have x4 := HTB6.out.cell 4
        have y2 := HTB6.out.free 2
        have y3 := HTB6.out.free 3
        simp only [List.getElem?_toArray, List.getElem?_cons_zero, List.getElem?_cons_succ] at t0 t1 t2 t3 t4 x0 x1 x2 x3 x4
        have hne1 : ¬ tb = w.heap.size := by have := HBL.out; omega
        have hne2 : ¬ w.heap.size = tb := by have := HBL.out; omega
        by_cases hk : kd = 3
        · subst hk
          go_wp2
          have hT : TB (((w6.setCell ⟨tb, 3, none⟩ (.bool st)).setCell ⟨tb, 2, none⟩ (.slice none 0 0)).setCell ⟨tb, 3, none⟩ (.bool false)) w.heap.size 0 ⟨#[]⟩ (.slice none 0 0) false ⟨#[]⟩ := ((HT6.out.far _ _ hne2).far _ _ hne2).far _ _ hne2
          have hZ := put5_tb hT 3 nm (.slice none 0 0) false ⟨#[]⟩
          have z0 := hZ.cell 0
          have z1 := hZ.cell 1
          have z2 := hZ.cell 2
          have z3 := hZ.cell 3
          have z4 := hZ.cell 4
          unfold put5 at z0 z1 z2 z3 z4
          have hF : Fr (· = g) w (((w6.setCell ⟨tb, 3, none⟩ (.bool st)).setCell ⟨tb, 2, none⟩ (.slice none 0 0)).setCell ⟨tb, 3, none⟩ (.bool false)) :=
            ((HF6.out.setCell (p := ⟨tb, 3, none⟩) (Or.inr (Nat.le_of_lt HBL.out)) _).setCell (p := ⟨tb, 2, none⟩) (Or.inr (Nat.le_of_lt HBL.out)) _).setCell (p := ⟨tb, 3, none⟩) (Or.inr (Nat.le_of_lt HBL.out)) _
          have hgt : g ≠ tb := fun e => htg e.symm
          exact bodyPost_ret (v := .agg #[.int .i64 3, .string nm, .slice none 0 0, .bool false, .string ⟨#[]⟩]) (by simp [results, Try.results32, go_sem, z0, z1, z2, z3, z4]) rfl
            ⟨.slice none 0 0, rfl, Kd.R_nil _ _ _ _ _, (put5_far _ _ _ _ _ _ _ g (by have := HGL.out; omega)).trans (((HR6.out.far _ _ hgt).far _ _ hgt).far _ _ hgt), put5_fr hF _ _ _ _ _ _ (Or.inr (Nat.le_refl _))⟩
        · have hkb : (kd == 3) = false := by simp [hk]
          have HK := Aside0.mk hk
          clear hk
          go_wp2
          have hT : TB (w6.setCell ⟨tb, 3, none⟩ (.bool st)) w.heap.size 0 ⟨#[]⟩ (.slice none 0 0) false ⟨#[]⟩ := HT6.out.far _ _ hne2
          have hZ := put5_tb hT kd nm (.slice A l.length cp) st ⟨#[]⟩
          have z0 := hZ.cell 0
          have z1 := hZ.cell 1
          have z2 := hZ.cell 2
          have z3 := hZ.cell 3
          have z4 := hZ.cell 4
          unfold put5 at z0 z1 z2 z3 z4
          have hF : Fr (· = g) w (w6.setCell ⟨tb, 3, none⟩ (.bool st)) := HF6.out.setCell (p := ⟨tb, 3, none⟩) (Or.inr (Nat.le_of_lt HBL.out)) _
          have hO : Kd.R k41 41 (put5 (w6.setCell ⟨tb, 3, none⟩ (.bool st)) w.heap.size kd nm (.slice A l.length cp) st ⟨#[]⟩) w.heap.size (fun _ => True) (.slice A l.length cp) l := by
            have h1 := Kd.R_set HO6.out HTB6.out (by decide) 3 (.bool st)
            have h2 := Kd.R_set h1 hT (by decide) 0 (.int .i64 kd)
            have h3 := Kd.R_set h2 (hT.set0 kd) (by decide) 1 (.string nm)
            have h4 := Kd.R_set h3 ((hT.set0 kd).set1 nm) (by decide) 2 (.slice A l.length cp)
            have h5 := Kd.R_set h4 (((hT.set0 kd).set1 nm).set2 _) (by decide) 3 (.bool st)
            exact Kd.R_mono (Kd.R_set h5 ((((hT.set0 kd).set1 nm).set2 _).set3 st) (by decide) 4 (.string ⟨#[]⟩)) (fun _ _ => trivial)
          have e1 : token_reader_tag.attrs kd (some (l, st)) = l := by unfold token_reader_tag.attrs; exact if_neg HK.out
          have e2 : token_reader_tag.closed kd (some (l, st)) = st := by unfold token_reader_tag.closed; exact if_neg HK.out
          rw [e1, e2]
          exact bodyPost_ret (v := .agg #[.int .i64 kd, .string nm, .slice A l.length cp, .bool st, .string ⟨#[]⟩]) (by simp [results, Try.results32, go_sem, z0, z1, z2, z3, z4]) rfl
            ⟨.slice A l.length cp, rfl, hO, (put5_far _ _ _ _ _ _ _ g (by have := HGL.out; omega)).trans (HR6.out.far _ _ (fun e => htg e.symm)), put5_fr hF _ _ _ _ _ _ (Or.inr (Nat.le_refl _))⟩
      | false =>
        have hq := HQ.out
        rw [if_neg hge, if_neg (by rw [h62]; simp)] at hq
        obtain ⟨⟨vv, ee⟩, hav, hq⟩ := Option.bind_eq_some_iff.1 hq
        obtain ⟨⟨gr, gb⟩, hget, hq⟩ := Option.bind_eq_some_iff.1 hq
        obtain ⟨an, han⟩ : ∃ x, token_reader.low s q (token_reader.attrEnd s q) = x := ⟨_, rfl⟩
        rw [han] at hget hq
        have HAN := Aside0.mk han
        have HAV := Aside0.mk hav
        have HGET := Aside0.mk hget
        have hq : token_reader_tag.l kk s ee (if gb = true then l else l ++ [⟨an, vv⟩]) = some (r, e) := hq
        have HEE : Aside0 (q + 1 ≤ ee ∧ ee ≤ s.size) := ⟨token_reader.attrV_le s q hlt hav⟩
        have HQ2 := Aside0.mk hq
        clear hq hget hav han HQ
        refine (token_reader.past_no g s q ⟨#[62]⟩ _ HR5.out hqs hs h62).mono ?_
        clear h62
        rintro e1 w6 ⟨rfl, hr, hf⟩
        have HR6 := Aside0.mk hr
        have HF6 := Aside0.mk (HF5.out.trans hf)
        have HTB6 := Aside0.mk (HTB5.out.fr hf htg)
        have HT6 := Aside0.mk (HT5.out.fr hf (by have := HGL.out; omega))
        have HO6 := Aside0.mk (Kd.R_fr HO5.out hf (fun _ h => h))
        have HM6 := Aside0.mk (HM5.out.fr hf HP.out)
        clear hr hf HR5 HF5 HTB5 HT5 HO5 HM5
        go_wp2_with fail
        refine (token_reader.attr_any kk g s q vv ee _ HR6.out hlt hs HM6.out HAV.out).mono ?_
        rintro e1 w7 ⟨rfl, hr, hf⟩
        rw [HAN.out]
        have HR7 := Aside0.mk hr
        have HF7 := Aside0.mk (HF6.out.trans hf)
        have HTB7 := Aside0.mk (HTB6.out.fr hf htg)
        have HT7 := Aside0.mk (HT6.out.fr hf (by have := HGL.out; omega))
        have HO7 := Aside0.mk (Kd.R_fr HO6.out hf (fun _ h => h))
        have HM7 := Aside0.mk (HM6.out.fr hf HP.out)
        clear hr hf HR6 HF6 HTB6 HT6 HO6 HM6
        go_upto_region 8 with fail
        obtain ⟨ab, hab⟩ : ∃ n, w7.heap.size = n := ⟨_, rfl⟩
        obtain ⟨w8, hw8⟩ : ∃ W, w7.alloc (.cells #[.string an, .string vv] 41) = W := ⟨_, rfl⟩
        have bal : Below w7.heap.size w7 w8 := by rw [← hw8]; exact (Below.refl _ _).alloc (Nat.le_refl _) _
        have HA8 : Aside0 (AB w8 ab an vv) := ⟨by rw [← hw8, ← hab]; exact AB.new _ _ _⟩
        have HR8 := Aside0.mk (HR7.out.keep bal)
        have HF8 := Aside0.mk (HF7.out.below bal)
        have HTB8 := Aside0.mk (HTB7.out.keep bal)
        have HT8 := Aside0.mk (HT7.out.keep bal)
        have HO8 := Aside0.mk (Kd.R_below HO7.out bal)
        have HM8 := Aside0.mk (HM7.out.at_ bal)
        have HABL : Aside0 (tb < ab ∧ w.heap.size < ab ∧ g < ab) := ⟨by have := HTB7.out.lt; have := HT7.out.lt; have := HR7.out.lt; omega⟩
        rw [hw8, hab]
        clear hab hw8 bal HR7 HF7 HTB7 HT7 HO7 HM7
        have x2 := HTB8.out.cell 2
        have y2 := HTB8.out.free 2
        have a0 := HA8.out.c0
        have a1 := HA8.out.c1
        simp only [List.getElem?_toArray, List.getElem?_cons_zero, List.getElem?_cons_succ] at x2
        obtain ⟨_, _, hv8, _, hC8⟩ := Kd.R_reads HO8.out
        injection hv8 with hv8a _ hv8c
        subst hv8a hv8c
        have HC8 := Aside0.mk hC8
        have HLC := Aside0.mk hlc
        clear hC8 hlc
        go_wp2_with fail
        refine (token_Get.calls kk A cp l an gr gb _ HC8.out HLC.out HGET.out).mono ?_
        rintro e1 w9 ⟨rfl, bgl⟩
        have HA9 : Aside0 (AB w9 ab an vv) := ⟨(bgl.block ab HA8.out.lt).trans HA8.out⟩
        have HR9 := Aside0.mk (HR8.out.keep bgl)
        have HF9 := Aside0.mk (HF8.out.below bgl)
        have HTB9 := Aside0.mk (HTB8.out.keep bgl)
        have HT9 := Aside0.mk (HT8.out.keep bgl)
        have HO9 := Aside0.mk (Kd.R_below HO8.out bgl)
        have HM9 := Aside0.mk (HM8.out.at_ bgl)
        clear bgl HA8 HR8 HF8 HTB8 HT8 HO8 HM8 HC8 HGET x2 y2 a0 a1
        have x2 := HTB9.out.cell 2
        have y2 := HTB9.out.free 2
        have a0 := HA9.out.c0
        have a1 := HA9.out.c1
        simp only [List.getElem?_toArray, List.getElem?_cons_zero, List.getElem?_cons_succ] at x2
        cases gb with
        | true =>
          go_wp2
          go_roundg kk
          case measure => exact Nat.lt_succ_self kk
          case rel => exact ⟨ee, l, _, ⟨HEE.out.2, by have := HPL.out; have := HEE.out; omega, HQ2.out⟩, HTB9, HO9, HR9, HF9, HT9, HM9⟩
        | false =>
          go_wp2_with (first
            | (at_builtin; refine Kd.R_append k41 (w0 := w9) w.heap.size rfl (.tmp 38) (.tmp 40) 27 41 (.agg #[(.string ⟨#[]⟩), (.string ⟨#[]⟩)]) 32 rfl Try.underlying27 token_reader_tag.info rfl (by decide) (by omega) (.slice A l.length cp) l (⟨an, vv⟩ : S41) [.string an, .string vv] (fun k => k ≠ g) (fun _ => False) rfl (by first | (go_simp; done) | (go_simp; rfl)) ?aP (fun _ hk => hk.elim) ?aF ?aO ?aB ?aS ?aL ?_; (case aP => exact k41_mkM _ _ _ (⟨an, vv⟩ : S41)); (case aF => exact fun k hk => by have := HR9.out.lt; omega); (case aO => exact HO9.out); (case aB => exact Below.refl _ _); (case aS => exact HF9.out.size); (case aL => (have := HPL.out; omega)); intro v1 w10 hO10 hB10 hg10 hat10; obtain ⟨A1, c1, hv1, hl1, hC1⟩ := Kd.R_reads hO10; subst hv1; have HTA := Aside0.mk (show TB w10 tb kd nm (.slice A l.length cp) false ⟨#[]⟩ from (hg10.block tb HTB9.out.lt (Kd.R_ne HO9.out HTB9.out (by decide))).trans HTB9.out); have HO10 := Aside0.mk hO10; have HB10 := Aside0.mk hB10; have HG10 := Aside0.mk hg10; clear hO10 hB10 hg10 hat10 hl1 hC1 x2 y2 a0 a1; have x2 := HTA.out.cell 2; have y2 := HTA.out.free 2; simp only [List.getElem?_toArray, List.getElem?_cons_zero, List.getElem?_cons_succ] at x2))
          have hb10 := HB10.out
          have hF10 : Fr (· = g) w w10 := ⟨hb10.os.trans HF9.out.os, hb10.tape.trans HF9.out.tape, hb10.output.trans HF9.out.output, Nat.le_trans HF9.out.size hb10.size, fun k hk hn => (hb10.block k hk).trans (HF9.out.block k hk hn)⟩
          have hT10 : TB w10 w.heap.size 0 ⟨#[]⟩ (.slice none 0 0) false ⟨#[]⟩ := (HG10.out.block _ HT9.out.lt (Kd.R_ne HO9.out HT9.out (by decide))).trans HT9.out
          have hR10 : RD w10 g s ee := (hb10.block g HGL.out).trans HR9.out
          have hM10 : HM w10 := by
            obtain ⟨m, hm⟩ := HM9.out
            exact ⟨m, (World.cell?_of_block (hb10.block 0 HMM.out.lt)).trans hm⟩
          have hO10 := HO10.out
          rw [List.length_append, List.length_singleton] at hO10
          have hgt : g ≠ tb := fun e => htg e.symm
          have hne2 : ¬ w.heap.size = tb := by have := HBL.out; omega
          go_roundg kk
          case measure => exact Nat.lt_succ_self kk
          case rel =>
            refine ⟨ee, l ++ [⟨an, vv⟩], _, ⟨HEE.out.2, ?_, HQ2.out⟩, ⟨HTA.out.set2 _⟩, ⟨Kd.R_set hO10 HTA.out (by decide) 2 _⟩, ⟨hR10.far _ _ hgt⟩, ⟨hF10.setCell (p := ⟨tb, 2, none⟩) (Or.inr (Nat.le_of_lt HBL.out)) _⟩, ⟨hT10.far _ _ hne2⟩, ⟨?_⟩⟩
            · rw [List.length_append, List.length_singleton]; have := HPL.out; have := HEE.out; omega
            · obtain ⟨m, hm⟩ := hM10
              exact ⟨m, (World.cell?_of_block (Below.heap_setCell _ _ _ 0 (by show 0 ≠ tb; have := HBL.out; omega))).trans hm⟩

end Go.Proofs.Ytpelfhldgnmhpaa.G
