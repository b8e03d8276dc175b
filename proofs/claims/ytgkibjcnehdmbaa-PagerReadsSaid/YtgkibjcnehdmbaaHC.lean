/- Contracts of the functions of the disk, the space and the pager, and of the law. The conditions stand in each theorem. -/
import Derived.Test.YtgkibjcnehdmbaaHB
import Derived.Lib.ConvBytes
import Derived.Deep.RegionHeldLaw
import Derived.Test.YtgkibjcnehdmbaaHA
import Derived.OpenShut
namespace Go.Proofs.Ytgkibjcnehdmbaa.G
section
open Go.RowKit Go.Proofs.YtgkibjcnehdmbaaW.PrintWords Go.Proofs.YtgkibjcnehdmbaaW.PrintLast Go.Proofs.YtgkibjcnehdmbaaW.PrintMore
set_option linter.unusedVariables false
set_option linter.unusedSimpArgs false
/-- append([]T{}, s...): a row of one's own. -/
theorem copy_row {t e : TypeId} {size bytes : Nat} {z : Value} (hinf : (Try.prog.info? e).map (fun i => (i.zero, i.size, i.bytes)) = some (some z, size, bytes)) (ht : Try.prog.underlying t = some (.slice e)) (hzs : z.cells.size = size) (hsz : 0 < size)
    (W : World) (SA : Option Addr) (n sc : Nat) (news : List Value) (hl : news.length = n * size) (hs : n = 0 ∨ ∃ B o, SA = some ⟨B, o, none⟩ ∧ B < W.heap.size ∧ W.rangeAt B o news) (h1 : ∀ u ∈ news, u.oneCell' = true) (hn : n ≤ 1000000) (hby : n * bytes ≤ 140737488355328) :
    ∃ V' W', (Builtin.append_ #[t, t] t #[.slice (some ⟨W.heap.size, 0, none⟩) 0 0, .slice SA n sc]).run Try.prog (W.alloc (.cells #[] e)) = .ok V' W' ∧ W'.ownsRow W.heap.size e size V' n news ∧ Below W.heap.size W W' := by
  obtain ⟨i, hi, hm⟩ := Option.map_eq_some_iff.1 hinf
  simp only [Prod.mk.injEq] at hm
  have hal : Below W.heap.size W (W.alloc (.cells #[] e)) := al _
  have hown : (W.alloc (.cells #[] e)).ownsRow W.heap.size e size (.slice (some ⟨W.heap.size, 0, none⟩) 0 0) 0 [] := World.ownsRow_made (base := W.heap.size) (e := e) (size := size) W #[] 0 (Nat.le_refl _) (by simp [maxLen]) (by simp)
  have fin : ∀ a m c, (news.length = m * size) → (∀ j u, news[j]? = some u → (W.alloc (.cells #[] e)).cell? (Addr.add a j) = some u) → m = n →
      ∃ V' W', (Builtin.append_ #[t, t] t #[.slice (some ⟨W.heap.size, 0, none⟩) 0 0, .slice (some a) m c]).run Try.prog (W.alloc (.cells #[] e)) = .ok V' W' ∧ W'.ownsRow W.heap.size e size V' m news ∧ Below W.heap.size W W' := by
    intro a m c hlm hc hmn
    obtain ⟨V', W', hr, ho, hg, _⟩ := run_append_own (P := Try.prog) (W.alloc (.cells #[] e)) W.heap.size t t e i z size bytes ht hi hm.1 hm.2.1 hm.2.2 hzs hsz _ 0 [] hown a m c news hlm hc h1 (by simp [maxLen]; omega) (by rw [Nat.zero_add, hmn]; exact hby) (by rw [al_size]; omega)
    refine ⟨V', W', hr, by simpa using ho, ?_⟩
    have hf := Fr.of_grown hg
    exact hf.to_below hal hal.size (fun k hk => by have : W.heap.size = k := Option.some.inj hk; omega)
  cases SA with
  | some a =>
    rcases hs with h0 | ⟨B, o, he, hB, hr⟩
    · subst h0
      obtain rfl : news = [] := List.eq_nil_of_length_eq_zero (by rw [hl, Nat.zero_mul])
      exact fin a 0 sc (by simp) (fun j u hj => by simp at hj) rfl
    · cases he
      refine fin _ n sc hl (fun j u hj => ?_) rfl
      rw [addr_add]
      rw [hal.cell (p := ⟨B, o + j, none⟩) hB]
      exact hr j u hj
  | none =>
    have h0 : n = 0 := by
      rcases hs with h0 | ⟨B, o, he, _⟩
      · exact h0
      · cases he
    subst h0
    obtain rfl : news = [] := List.eq_nil_of_length_eq_zero (by rw [hl, Nat.zero_mul])
    refine ⟨_, _, ?_, hown, hal⟩
    simp [Builtin.append_, run_underlying ht, sizeOf, typeInfo, hi, hm.2.1, Builtin.lenOf, Builtin.firstCells, storeCells, go_sem]
/-- A block as four pieces. -/
def chunk (b : List UInt8) (i : Nat) : List UInt8 := (b.drop (i * 64)).take 64
def pcR (n : Nat) (b : List UInt8) : Nat → List (Nat × List UInt8)
  | 0 => []
  | i + 1 => pcR n b i ++ [(n * 4 + i, chunk b i)]
theorem pcR_len (n : Nat) (b : List UInt8) (i : Nat) : (pcR n b i).length = i := by
  induction i with
  | zero => rfl
  | succ i ih => rw [pcR, List.length_append, ih]; rfl
theorem rpiece_info : (Try.prog.info? 103).map (fun i => (i.zero, i.size, i.bytes)) = some (some (.agg #[.int .i64 0, .string ByteArray.empty]), 2, 24) := by kernel_rfl
theorem chunk_conv {w : World} {B o : Nat} {b : List UInt8} (h : SB w B o b) (hb : b.length = 256) (i : Nat) (hi : i < 4) (c : Nat) : (convert 38 9 (.slice (some ⟨B, o + i * 64, none⟩) 64 c)).run Try.prog w = .ok (sv (chunk b i)) w := by
  have hs : SB w B (o + i * 64) (chunk b i) := h.sub (i * 64) 64
  have hl : (chunk b i).length = 64 := by unfold chunk; rw [List.length_take, List.length_drop]; omega
  have := conv_sb (c := c) hs
  rwa [hl] at this
theorem pv_len (l : List (Nat × List UInt8)) : (l.flatMap pv).length = l.length * 2 := by
  induction l with
  | nil => rfl
  | cons x r ih => rw [List.flatMap_cons, List.length_append, ih, List.length_cons]; show 2 + r.length * 2 = _; omega
theorem pv_one (l : List (Nat × List UInt8)) : ∀ v ∈ l.flatMap pv, v.oneCell' = true := by
  intro v hv
  obtain ⟨p, _, hp⟩ := List.mem_flatMap.1 hv
  unfold pv sv at hp
  rcases List.mem_cons.1 hp with rfl | hp
  · rfl
  · rcases List.mem_cons.1 hp with rfl | hp
    · rfl
    · cases hp
/-- Between the steps of a write: the disk's box, the answer's block. -/
structure WR (w W : World) (x y : Array Value) : Prop where
  d0 : BL W w.heap.size x 35
  d1 : BL W (w.heap.size + 1) y 35
  bl : Below w.heap.size w W
theorem WR.keep {w W W' : World} {x y : Array Value} (h : WR w W x y) (hb : Below W.heap.size W W') : WR w W' x y := ⟨h.d0.keep hb, h.d1.keep hb, below_step h.bl hb⟩
theorem WR.put5 {w W : World} {a0 a1 a2 a3 a4 : Value} {y : Array Value} (h : WR w W #[a0, a1, a2, a3, a4] y) (x0 x1 x2 x3 x4 : Value) : WR w (((((W.setCell ⟨w.heap.size, 0, none⟩ x0).setCell ⟨w.heap.size, 1, none⟩ x1).setCell ⟨w.heap.size, 2, none⟩ x2).setCell ⟨w.heap.size, 3, none⟩ x3).setCell ⟨w.heap.size, 4, none⟩ x4) #[x0, x1, x2, x3, x4] y := by
  have hf : Fr (· = w.heap.size) W (((((W.setCell ⟨w.heap.size, 0, none⟩ x0).setCell ⟨w.heap.size, 1, none⟩ x1).setCell ⟨w.heap.size, 2, none⟩ x2).setCell ⟨w.heap.size, 3, none⟩ x3).setCell ⟨w.heap.size, 4, none⟩ x4) := (((((Fr.refl (· = w.heap.size) W).own 0 _).own 1 _).own 2 _).own 3 _).own 4 _
  refine ⟨?_, h.d1.fr hf (by omega), hf.to_below h.bl h.bl.size (fun k hk => by omega)⟩
  have := ((((h.d0.set 0 x0).set 1 x1).set 2 x2).set 3 x3).set 4 x4
  simpa using this
theorem WR.grown {w W W1 W' : World} {x y : Array Value} {V : Value} (h : WR w W x y) (hb : Below W.heap.size W W1) (hV : ∀ k, V.ownBlock = some k → w.heap.size + 2 ≤ k) (hg : W1.grownBy W' V.ownBlock) : WR w W' x y :=
  have h1 := h.keep hb
  have hf := Fr.of_grown hg
  ⟨h1.d0.fr hf (fun e => by have := hV _ e; omega), h1.d1.fr hf (fun e => by have := hV _ e; omega), hf.to_below h1.bl h1.bl.size (fun k hk => by have := hV k hk; omega)⟩
theorem WR.size {w W : World} {x y : Array Value} (h : WR w W x y) : w.heap.size + 2 ≤ W.heap.size := by have := h.d1.lt; omega
theorem pcR_step (ps : List (Nat × List UInt8)) (n : Nat) (b : List UInt8) (i : Nat) (s : ByteArray) (h : sv (chunk b i) = .string s) : (ps ++ pcR n b (i + 1)).flatMap pv = (ps ++ pcR n b i).flatMap pv ++ [Value.int .i64 ((n : Int) * 4 + (i : Int)), .string s] := by
  rw [pcR, ← List.append_assoc, List.flatMap_append, List.flatMap_singleton]
  unfold pv
  rw [h]
  simp
theorem WR.fin {w W : World} {a0 a1 a2 a3 a4 : Value} {y : Array Value} (h : WR w W #[a0, a1, a2, a3, a4] y) (x0 x1 x2 x3 x4 : Value) (hy : y.size = 5 := by rfl) :
    BL ((((((W.setCell ⟨w.heap.size, 1, none⟩ x1).setCell ⟨w.heap.size + 1, 0, none⟩ x0).setCell ⟨w.heap.size + 1, 1, none⟩ x1).setCell ⟨w.heap.size + 1, 2, none⟩ x2).setCell ⟨w.heap.size + 1, 3, none⟩ x3).setCell ⟨w.heap.size + 1, 4, none⟩ x4) (w.heap.size + 1) #[x0, x1, x2, x3, x4] 35 ∧ Below w.heap.size w ((((((W.setCell ⟨w.heap.size, 1, none⟩ x1).setCell ⟨w.heap.size + 1, 0, none⟩ x0).setCell ⟨w.heap.size + 1, 1, none⟩ x1).setCell ⟨w.heap.size + 1, 2, none⟩ x2).setCell ⟨w.heap.size + 1, 3, none⟩ x3).setCell ⟨w.heap.size + 1, 4, none⟩ x4) ∧ ∀ k, k < W.heap.size → w.heap.size + 2 ≤ k → ((((((W.setCell ⟨w.heap.size, 1, none⟩ x1).setCell ⟨w.heap.size + 1, 0, none⟩ x0).setCell ⟨w.heap.size + 1, 1, none⟩ x1).setCell ⟨w.heap.size + 1, 2, none⟩ x2).setCell ⟨w.heap.size + 1, 3, none⟩ x3).setCell ⟨w.heap.size + 1, 4, none⟩ x4).heap[k]? = W.heap[k]? := by
  have f0 : Fr (· = w.heap.size) W (W.setCell ⟨w.heap.size, 1, none⟩ x1) := (Fr.refl (· = w.heap.size) W).own 1 _
  have h1 : BL (W.setCell ⟨w.heap.size, 1, none⟩ x1) (w.heap.size + 1) y 35 := h.d1.fr f0 (by omega)
  have b1 : Below w.heap.size w (W.setCell ⟨w.heap.size, 1, none⟩ x1) := f0.to_below h.bl h.bl.size (fun k hk => by omega)
  have f1 : Fr (· = w.heap.size + 1) (W.setCell ⟨w.heap.size, 1, none⟩ x1) ((((((W.setCell ⟨w.heap.size, 1, none⟩ x1).setCell ⟨w.heap.size + 1, 0, none⟩ x0).setCell ⟨w.heap.size + 1, 1, none⟩ x1).setCell ⟨w.heap.size + 1, 2, none⟩ x2).setCell ⟨w.heap.size + 1, 3, none⟩ x3).setCell ⟨w.heap.size + 1, 4, none⟩ x4) := (((((Fr.refl (· = w.heap.size + 1) _).own 0 _).own 1 _).own 2 _).own 3 _).own 4 _
  have hs := h.d1.lt
  refine ⟨?_, f1.to_below b1 b1.size (fun k hk => by omega), fun k hk hl => ?_⟩
  · obtain ⟨l, rfl⟩ : ∃ l : List Value, y = l.toArray := ⟨y.toList, by simp⟩
    match l, hy with
    | [y0, y1, y2, y3, y4], _ =>
      have := ((((h1.set 0 x0).set 1 x1).set 2 x2).set 3 x3).set 4 x4
      simpa using this
  · exact (f1.block k (Nat.lt_of_lt_of_le hk f0.size) (by omega)).trans (f0.block k hk (by omega))
def RWriteP (w : World) (V : Value) (ps : List (Nat × List UInt8)) (left : Int) (fu off : Bool) (en : Ending) (w' : World) : Prop := ∃ L, en = .returned (.tuple #[.agg (dvC V L left fu off), .int .i64 0]) ∧ RP w' (w.heap.size ≤ ·) L ps ∧ Below w.heap.size w w'
set_option maxHeartbeats 4000000 in
set_option maxRecDepth 100000 in
theorem ref_Write.calls (A : Option Addr) (N c : Nat) (Z : Nat → Prop) (L : Value) (ps : List (Nat × List UInt8)) (left : Int) (fu off : Bool) (n : Nat) (B o cp : Nat) (b : List UInt8) (w : World) (l2 : Int) (f2 o2 : Bool) (hs : spendV left fu off = (l2, f2, o2, true))
    (hL : RP w Z L ps) (hN : N ≤ 1000) (hn : n < N) (hb : SB w B o b) (hbl : b.length = 256) (hB : B < w.heap.size) (hcp : 256 ≤ cp) (hps : ps.length ≤ 100000) :
    Calls Try.prog 11 #[.agg (dvC (.slice A (N * 4) c) L left fu off), .int .i64 n, .slice (some ⟨B, o, none⟩) 256 cp] w (RWriteP w (.slice A (N * 4) c) (ps ++ pcR n b 4) l2 f2 o2) := by
  obtain ⟨B2, c2, hLe, hLr⟩ := hL
  subst hLe
  have HIS := Aside0.mk (fun W => ref_Is.calls A N c (.slice B2 ps.length c2) left fu off (n : Int) W (by omega) true (decide_eq_true (by omega)))
  have HSP := Aside0.mk (fun W => ref_spend.calls A (N * 4) c B2 ps.length c2 left fu off W l2 f2 o2 true hs)
  obtain ⟨i1, hi1, hm1⟩ := Option.map_eq_some_iff.1 rpiece_info
  simp only [Prod.mk.injEq] at hm1
  have HI := Aside0.mk hi1
  have HM := Aside0.mk hm1
  have H := Aside0.mk hb
  have HLR := Aside0.mk hLr
  have w0 : WR w ((w.alloc (.cells (dvC (.slice A (N * 4) c) (.slice B2 ps.length c2) left fu off) 35)).alloc (.cells (dvC (.slice none 0 0) (.slice none 0 0) 0 false false) 35)) (dvC (.slice A (N * 4) c) (.slice B2 ps.length c2) left fu off) (dvC (.slice none 0 0) (.slice none 0 0) 0 false false) :=
    ⟨(BL.new w _ _).keep (al _), by have := BL.new (w.alloc (.cells (dvC (.slice A (N * 4) c) (.slice B2 ps.length c2) left fu off) 35)) (dvC (.slice none 0 0) (.slice none 0 0) 0 false false) 35; rwa [al_size] at this, below_step (al _) (al _)⟩
  have W0 := Aside0.mk w0
  clear hs hLr hi1 hm1 hb w0
  unfold dvC at HIS HSP W0 ⊢
  go_enter Try.func11, Try.ntmps11
  go_wp2_with fail
  refine (HIS.out _).mono ?_
  rintro en w2 ⟨rfl, hb2⟩
  have W2 := Aside0.mk (W0.out.keep hb2)
  obtain ⟨a0, a1, a2, a3, a4⟩ := dv_all W2.out.d0
  clear hb2
  go_wp2_with fail
  refine (HSP.out _).mono ?_
  rintro en w3 ⟨rfl, hb3⟩
  have w3' := W2.out.keep hb3
  obtain ⟨e0, e1, e2, e3, e4⟩ := dv_all w3'.d0
  have g0 := BL.free w3'.d0 0
  have g1 := BL.free w3'.d0 1
  have g2 := BL.free w3'.d0 2
  have g3 := BL.free w3'.d0 3
  have g4 := BL.free w3'.d0 4
  have W3 := Aside0.mk w3'
  clear hb3 w3' a0 a1 a2 a3 a4
  go_upto_region 6 with fail
  obtain ⟨W4, hW4⟩ : ∃ x, (((((w3.setCell ⟨w.heap.size, 0, none⟩ (.slice A (N * 4) c)).setCell ⟨w.heap.size, 1, none⟩ (.slice B2 ps.length c2)).setCell ⟨w.heap.size, 2, none⟩ (.int .i64 l2)).setCell ⟨w.heap.size, 3, none⟩ (.bool f2)).setCell ⟨w.heap.size, 4, none⟩ (.bool o2)) = x := ⟨_, rfl⟩
  have hw4 : WR w W4 #[.slice A (N * 4) c, .slice B2 ps.length c2, .int .i64 l2, .bool f2, .bool o2] #[.slice none 0 0, .slice none 0 0, .int .i64 0, .bool false, .bool false] := by
    rw [← hW4]
    exact W3.out.put5 _ _ _ _ _
  have hw5 := copy_row rpiece_info Try.underlying33 rfl (by decide) W4 B2 ps.length c2 (ps.flatMap pv) (pv_len ps) (HLR.out.elim (fun h => Or.inl (by rw [h]; rfl)) (fun ⟨B, o, h1, h2, h3, _⟩ => Or.inr ⟨B, o, h1, Nat.lt_of_lt_of_le h2 hw4.bl.size, range_keep h3 h2 hw4.bl⟩)) (pv_one ps) (by omega) (by omega)
  obtain ⟨V5, w5, hr5, ho5, hb5⟩ := hw5
  have ha1 := (dv_all (hw4.keep (al (w := W4) (.cells #[] 103))).d0).2.1
  have hz4 := hw4.size
  have W5 := Aside0.mk (hw4.keep hb5)
  have HR5 := Aside0.mk hr5
  have HO5 : Aside0 (w5.ownsRow (w.heap.size + 2) 103 2 V5 (ps.length + 0) ((ps ++ pcR n b 0).flatMap pv)) := ⟨by rw [pcR, List.append_nil, Nat.add_zero]; exact own_less ho5 hz4⟩
  rw [hW4]
  clear hW4 hw4 hr5 ho5 hb5 hz4 g0 g1 g2 g3 g4 e0 e1 e2 e3 e4
  go_wp2_with (first
    | (at_builtin; refine Lib.wpList_append_run _ rfl (.tmp 29) (.tmp 31) 33 33 rfl (.slice (some ⟨W4.heap.size, 0, none⟩) 0 0) (.slice B2 ps.length c2) rfl rfl V5 w5 HR5.out ?_))
  go_loopg [9, 10] 4 (fun kq v9 v10 wr => ∃ (i : Nat) (V : Value), v10 = .int .i64 i ∧ V = v9 ∧ Aside0 (kq + i = 4) ∧ Aside0 (wr.ownsRow (w.heap.size + 2) 103 2 V (ps.length + i) ((ps ++ pcR n b i).flatMap pv)) ∧ Aside0 (WR w wr #[.slice A (N * 4) c, .slice B2 ps.length c2, .int .i64 l2, .bool f2, .bool o2] #[.slice none 0 0, .slice none 0 0, .int .i64 0, .bool false, .bool false]))
  case atStart => exact ⟨0, V5, rfl, rfl, ⟨rfl⟩, HO5, W5⟩
  case round =>
    obtain ⟨i, V, rfl, rfl, HJ, HO, HW⟩ := hrel
    have hi5 : i ≤ 4 := by have := HJ.out; omega
    by_cases hi : i < 4
    · rcases (show i = 0 ∨ i = 1 ∨ i = 2 ∨ i = 3 by omega) with rfl | rfl | rfl | rfl
      · obtain ⟨s, hsv⟩ : ∃ s, sv (chunk b 0) = .string s := ⟨_, rfl⟩
        have hcv : ∀ c, (convert 38 9 (.slice (some ⟨B, o, none⟩) 64 c)).run Try.prog wr = .ok (.string s) wr := fun c => by
          rw [← hsv]
          have := chunk_conv (range_keep H.out hB HW.out.bl) hbl 0 (by decide) c
          rwa [Nat.zero_mul, Nat.add_zero] at this
        have HRO := Aside0.mk (HO.out.alloc (.cells #[Value.int .i64 ((n : Int) * 4), .string s] 103))
        have HNE := Aside0.mk (BL.new wr #[Value.int .i64 ((n : Int) * 4), .string s] 103)
        have HST := Aside0.mk (pcR_step ps n b 0 s hsv)
        clear hsv
        go_wp2_with (first
          | (at_builtin; (refine wpList_append_lies _ rfl (.tmp 37) (.tmp 51) 33 rfl (w.heap.size + 2) 103 i1 (.agg #[.int .i64 0, .string ByteArray.empty]) 2 24 Try.underlying33 HI.out HM.out.1 HM.out.2.1 HM.out.2.2 rfl (by decide) V (ps.length + 0) _ rfl HRO.out ⟨wr.heap.size, 0, none⟩ 1 1 [.int .i64 ((n : Int) * 4), .string s] rfl rfl ?hn ?h1 (by decide) ?h63 ?hby ?hbase _ rfl ?_); go_loud (case hn => (intro k u hk; match k, hk with | 0, hk => (simp at hk; subst hk; exact (BL.cell HNE.out 0).trans rfl) | 1, hk => (simp at hk; subst hk; exact (BL.cell HNE.out 1).trans rfl) | k + 2, hk => (simp at hk))); go_loud (case h1 => (intro u hu; simp at hu; rcases hu with rfl | rfl <;> rfl)); go_loud (case h63 => (simp [maxLen]; omega)); go_loud (case hby => omega); go_loud (case hbase => (rw [al_size]; have := HW.out.size; omega)); intro g cap w9 ho9 hg9 hgg hgl; have HO9 := Aside0.mk ho9; have HW9 := Aside0.mk (HW.out.grown (al _) (fun k hk => (HO.out.lt k hk).1) hg9); clear ho9 hg9 hgg hgl))
        go_roundg 3
        case measure => have := HJ.out; omega
        case rel => exact ⟨1, _, rfl, rfl, ⟨rfl⟩, ⟨by rw [HST.out, show (n : Int) * 4 + ((0 : Nat) : Int) = (n : Int) * 4 from by omega]; exact HO9.out⟩, HW9⟩
      · obtain ⟨s, hsv⟩ : ∃ s, sv (chunk b 1) = .string s := ⟨_, rfl⟩
        have hcv : ∀ c, (convert 38 9 (.slice (some ⟨B, o + 64, none⟩) 64 c)).run Try.prog wr = .ok (.string s) wr := fun c => by
          rw [← hsv]
          exact chunk_conv (range_keep H.out hB HW.out.bl) hbl 1 (by decide) c
        have HRO := Aside0.mk (HO.out.alloc (.cells #[Value.int .i64 ((n : Int) * 4 + 1), .string s] 103))
        have HNE := Aside0.mk (BL.new wr #[Value.int .i64 ((n : Int) * 4 + 1), .string s] 103)
        have HST := Aside0.mk (pcR_step ps n b 1 s hsv)
        clear hsv
        go_wp2_with (first
          | (at_builtin; (refine wpList_append_lies _ rfl (.tmp 37) (.tmp 51) 33 rfl (w.heap.size + 2) 103 i1 (.agg #[.int .i64 0, .string ByteArray.empty]) 2 24 Try.underlying33 HI.out HM.out.1 HM.out.2.1 HM.out.2.2 rfl (by decide) V (ps.length + 1) _ rfl HRO.out ⟨wr.heap.size, 0, none⟩ 1 1 [.int .i64 ((n : Int) * 4 + 1), .string s] rfl rfl ?hn ?h1 (by decide) ?h63 ?hby ?hbase _ rfl ?_); go_loud (case hn => (intro k u hk; match k, hk with | 0, hk => (simp at hk; subst hk; exact (BL.cell HNE.out 0).trans rfl) | 1, hk => (simp at hk; subst hk; exact (BL.cell HNE.out 1).trans rfl) | k + 2, hk => (simp at hk))); go_loud (case h1 => (intro u hu; simp at hu; rcases hu with rfl | rfl <;> rfl)); go_loud (case h63 => (simp [maxLen]; omega)); go_loud (case hby => omega); go_loud (case hbase => (rw [al_size]; have := HW.out.size; omega)); intro g cap w9 ho9 hg9 hgg hgl; have HO9 := Aside0.mk ho9; have HW9 := Aside0.mk (HW.out.grown (al _) (fun k hk => (HO.out.lt k hk).1) hg9); clear ho9 hg9 hgg hgl))
        go_roundg 2
        case measure => have := HJ.out; omega
        case rel => exact ⟨2, _, rfl, rfl, ⟨rfl⟩, ⟨by rw [HST.out]; exact HO9.out⟩, HW9⟩
      · obtain ⟨s, hsv⟩ : ∃ s, sv (chunk b 2) = .string s := ⟨_, rfl⟩
        have hcv : ∀ c, (convert 38 9 (.slice (some ⟨B, o + 128, none⟩) 64 c)).run Try.prog wr = .ok (.string s) wr := fun c => by
          rw [← hsv]
          exact chunk_conv (range_keep H.out hB HW.out.bl) hbl 2 (by decide) c
        have HRO := Aside0.mk (HO.out.alloc (.cells #[Value.int .i64 ((n : Int) * 4 + 2), .string s] 103))
        have HNE := Aside0.mk (BL.new wr #[Value.int .i64 ((n : Int) * 4 + 2), .string s] 103)
        have HST := Aside0.mk (pcR_step ps n b 2 s hsv)
        clear hsv
        go_wp2_with (first
          | (at_builtin; (refine wpList_append_lies _ rfl (.tmp 37) (.tmp 51) 33 rfl (w.heap.size + 2) 103 i1 (.agg #[.int .i64 0, .string ByteArray.empty]) 2 24 Try.underlying33 HI.out HM.out.1 HM.out.2.1 HM.out.2.2 rfl (by decide) V (ps.length + 2) _ rfl HRO.out ⟨wr.heap.size, 0, none⟩ 1 1 [.int .i64 ((n : Int) * 4 + 2), .string s] rfl rfl ?hn ?h1 (by decide) ?h63 ?hby ?hbase _ rfl ?_); go_loud (case hn => (intro k u hk; match k, hk with | 0, hk => (simp at hk; subst hk; exact (BL.cell HNE.out 0).trans rfl) | 1, hk => (simp at hk; subst hk; exact (BL.cell HNE.out 1).trans rfl) | k + 2, hk => (simp at hk))); go_loud (case h1 => (intro u hu; simp at hu; rcases hu with rfl | rfl <;> rfl)); go_loud (case h63 => (simp [maxLen]; omega)); go_loud (case hby => omega); go_loud (case hbase => (rw [al_size]; have := HW.out.size; omega)); intro g cap w9 ho9 hg9 hgg hgl; have HO9 := Aside0.mk ho9; have HW9 := Aside0.mk (HW.out.grown (al _) (fun k hk => (HO.out.lt k hk).1) hg9); clear ho9 hg9 hgg hgl))
        go_roundg 1
        case measure => have := HJ.out; omega
        case rel => exact ⟨3, _, rfl, rfl, ⟨rfl⟩, ⟨by rw [HST.out]; exact HO9.out⟩, HW9⟩
      · obtain ⟨s, hsv⟩ : ∃ s, sv (chunk b 3) = .string s := ⟨_, rfl⟩
        have hcv : ∀ c, (convert 38 9 (.slice (some ⟨B, o + 192, none⟩) 64 c)).run Try.prog wr = .ok (.string s) wr := fun c => by
          rw [← hsv]
          exact chunk_conv (range_keep H.out hB HW.out.bl) hbl 3 (by decide) c
        have HRO := Aside0.mk (HO.out.alloc (.cells #[Value.int .i64 ((n : Int) * 4 + 3), .string s] 103))
        have HNE := Aside0.mk (BL.new wr #[Value.int .i64 ((n : Int) * 4 + 3), .string s] 103)
        have HST := Aside0.mk (pcR_step ps n b 3 s hsv)
        clear hsv
        go_wp2_with (first
          | (at_builtin; (refine wpList_append_lies _ rfl (.tmp 37) (.tmp 51) 33 rfl (w.heap.size + 2) 103 i1 (.agg #[.int .i64 0, .string ByteArray.empty]) 2 24 Try.underlying33 HI.out HM.out.1 HM.out.2.1 HM.out.2.2 rfl (by decide) V (ps.length + 3) _ rfl HRO.out ⟨wr.heap.size, 0, none⟩ 1 1 [.int .i64 ((n : Int) * 4 + 3), .string s] rfl rfl ?hn ?h1 (by decide) ?h63 ?hby ?hbase _ rfl ?_); go_loud (case hn => (intro k u hk; match k, hk with | 0, hk => (simp at hk; subst hk; exact (BL.cell HNE.out 0).trans rfl) | 1, hk => (simp at hk; subst hk; exact (BL.cell HNE.out 1).trans rfl) | k + 2, hk => (simp at hk))); go_loud (case h1 => (intro u hu; simp at hu; rcases hu with rfl | rfl <;> rfl)); go_loud (case h63 => (simp [maxLen]; omega)); go_loud (case hby => omega); go_loud (case hbase => (rw [al_size]; have := HW.out.size; omega)); intro g cap w9 ho9 hg9 hgg hgl; have HO9 := Aside0.mk ho9; have HW9 := Aside0.mk (HW.out.grown (al _) (fun k hk => (HO.out.lt k hk).1) hg9); clear ho9 hg9 hgg hgl))
        go_roundg 0
        case measure => have := HJ.out; omega
        case rel => exact ⟨4, _, rfl, rfl, ⟨rfl⟩, ⟨by rw [HST.out]; exact HO9.out⟩, HW9⟩
    · have hi4 : i = 4 := by omega
      subst hi4
      have k1 : ¬ ((4 : Nat) : Int) < 4 := by decide
      obtain ⟨A4, c4, hV⟩ := ownsRow_form HO.out
      subst hV
      obtain ⟨x0, x1, x2, x3, x4⟩ := dv_all HW.out.d0
      obtain ⟨y0, y1, y2, y3, y4⟩ := dv_all HW.out.d1
      have f1 := BL.free HW.out.d0 1
      have g0 := BL.free HW.out.d1 0
      have g1 := BL.free HW.out.d1 1
      have g2 := BL.free HW.out.d1 2
      have g3 := BL.free HW.out.d1 3
      have g4 := BL.free HW.out.d1 4
      have hb8 := BL.far (BL.set HW.out.d0 1 (.slice A4 (ps.length + 4) c4)) ⟨w.heap.size + 1, 0, none⟩ (.slice A (N * 4) c) (by simp)
      have h8 := WR.fin HW.out (.slice A (N * 4) c) (.slice A4 (ps.length + 4) c4) (.int .i64 l2) (.bool f2) (.bool o2)
      obtain ⟨W8, hW8⟩ : ∃ x, ((((((wr.setCell ⟨w.heap.size, 1, none⟩ (.slice A4 (ps.length + 4) c4)).setCell ⟨w.heap.size + 1, 0, none⟩ (.slice A (N * 4) c)).setCell ⟨w.heap.size + 1, 1, none⟩ (.slice A4 (ps.length + 4) c4)).setCell ⟨w.heap.size + 1, 2, none⟩ (.int .i64 l2)).setCell ⟨w.heap.size + 1, 3, none⟩ (.bool f2)).setCell ⟨w.heap.size + 1, 4, none⟩ (.bool o2)) = x := ⟨_, rfl⟩
      rw [hW8] at h8
      have HW8 := Aside0.mk hW8
      have HR8 := Aside0.mk (ownsRow_block HO.out (fun k hk => h8.2.2 k (HO.out.lt k hk).2 (HO.out.lt k hk).1))
      have HB8 := Aside0.mk h8.2.1
      obtain ⟨z0, z1, z2, z3, z4⟩ := dv_all h8.1
      clear HJ hi h8 hW8 hb8
      go_wp2_with fail
      rw [HW8.out]
      refine bodyPost_ret (v := .tuple #[.agg #[.slice A (N * 4) c, .slice A4 (ps.length + 4) c4, .int .i64 l2, .bool f2, .bool o2], .int .i64 0]) (by simp [results, Try.results11, go_sem, z0, z1, z2, z3, z4]) rfl ⟨_, rfl, ?_, HB8.out⟩
      have := RP.own (l := ps ++ pcR n b 4) (by rw [List.length_append, pcR_len]; exact HR8.out)
      exact this.imp (fun B _ h => by omega)
theorem pv_at (ps : List (Nat × List UInt8)) : ∀ (i : Nat) (hi : i < ps.length), (ps.flatMap pv)[i * 2]? = some (.int .i64 (ps[i].1 : Int)) ∧ (ps.flatMap pv)[i * 2 + 1]? = some (sv ps[i].2) := by
  induction ps with
  | nil => intro i hi; cases hi
  | cons p r ih =>
    intro i hi
    rw [List.flatMap_cons]
    cases i with
    | zero => exact ⟨rfl, rfl⟩
    | succ i =>
      have h := ih i (by simpa using hi)
      have e1 : (i + 1) * 2 = (pv p).length + i * 2 := by show _ = 2 + i * 2; omega
      have e2 : (i + 1) * 2 + 1 = (pv p).length + (i * 2 + 1) := by show _ = 2 + (i * 2 + 1); omega
      rw [e2, e1, List.getElem?_append_right (Nat.le_add_right _ _), List.getElem?_append_right (Nat.le_add_right _ _), Nat.add_sub_cancel_left, Nat.add_sub_cancel_left]
      exact h
/-- The sectors as they are. -/
def nowR (safe : List (List UInt8)) (ps : List (Nat × List UInt8)) : List (List UInt8) := ps.foldl (fun l p => l.set p.1 p.2) safe
theorem nowR_len (ps : List (Nat × List UInt8)) : ∀ safe, (nowR safe ps).length = safe.length := by
  induction ps with
  | nil => intro s; rfl
  | cons p r ih => intro s; exact (ih _).trans (List.length_set ..)
/-- A row of strings in a block of its own. -/
structure OS (w : World) (g n c : Nat) (l : List (List UInt8)) (cur : Array Value) : Prop where
  b : BL w g cur 9
  ln : l.length = n
  t : cur.toList.take n = l.map sv
theorem OS.at {w : World} {g n c : Nat} {l : List (List UInt8)} {cur : Array Value} (h : OS w g n c l cur) (j : Nat) (hj : j < n) : ∃ x, w.cell? ⟨g, j, none⟩ = some x := by
  have hl := congrArg List.length h.t
  rw [List.length_take, List.length_map, h.ln, Array.length_toList] at hl
  exact ⟨_, (BL.cell h.b j).trans (Array.getElem?_eq_getElem (by omega))⟩
theorem OS.set {w : World} {g n c : Nat} {l : List (List UInt8)} {cur : Array Value} (h : OS w g n c l cur) (j : Nat) (b : List UInt8) : OS (w.setCell ⟨g, j, none⟩ (sv b)) g n c (l.set j b) (cur.setIfInBounds j (sv b)) :=
  { b := BL.set h.b j _
    ln := by rw [List.length_set]; exact h.ln
    t := by rw [Array.toList_setIfInBounds, List.take_set, h.t, List.map_set] }
theorem OS.rs {w : World} {g n c : Nat} {l : List (List UInt8)} {cur : Array Value} {b : Nat} (h : OS w g n c l cur) (hb : b ≤ g) : RS w (b ≤ ·) (.slice (some ⟨g, 0, none⟩) n c) l := by
  refine ⟨_, c, by rw [h.ln], Or.inr ⟨g, 0, rfl, BL.lt h.b, fun j v hj => ?_, hb⟩⟩
  rw [Nat.zero_add, BL.cell h.b, ← Array.getElem?_toList]
  rw [← h.t, List.getElem?_take] at hj
  split at hj
  · exact hj
  · cases hj
theorem OS.own {w : World} {b n : Nat} {V : Value} {l : List (List UInt8)} (h : w.ownsRow b 9 1 V n (l.map sv)) (hn : 0 < n) : ∃ g c cur, V = .slice (some ⟨g, 0, none⟩) n c ∧ b ≤ g ∧ OS w g n c l cur := by
  have hl := h.1
  rw [List.length_map, Nat.mul_one] at hl
  rcases h.2 with ⟨rfl, h0⟩ | ⟨g, cap, cur, rfl, hb, hh, hn, hm, hc, hx⟩
  · omega
  · exact ⟨g, cap, cur, rfl, hb, hh, hl, by rw [← hx, Nat.mul_one]⟩
theorem sv_one (l : List (List UInt8)) : ∀ v ∈ l.map sv, v.oneCell' = true := by
  intro v hv
  obtain ⟨b, _, rfl⟩ := List.mem_map.1 hv
  rfl
def RNowP (w : World) (l : List (List UInt8)) (en : Ending) (w' : World) : Prop := ∃ V, en = .returned V ∧ RS w' (w.heap.size ≤ ·) V l ∧ Below w.heap.size w w'
set_option maxHeartbeats 2000000 in
set_option maxRecDepth 100000 in
theorem ref_Now.calls (ZS ZL : Nat → Prop) (VS VL : Value) (safe : List (List UInt8)) (ps : List (Nat × List UInt8)) (left : Int) (fu off : Bool) (w : World) (hS : RS w ZS VS safe) (hL : RP w ZL VL ps) (h0 : 0 < safe.length) (hsl : safe.length ≤ 100000) (hpl : ps.length ≤ 100000) (hp : ∀ p ∈ ps, p.1 < safe.length) :
    Calls Try.prog 57 #[.agg (dvC VS VL left fu off)] w (RNowP w (nowR safe ps)) := by
  obtain ⟨A, c, rfl, hSr⟩ := hS
  obtain ⟨A2, c2, rfl, hLr⟩ := hL
  have hd := BL.new w (dvC (.slice A safe.length c) (.slice A2 ps.length c2) left fu off) 35
  have hal := al (w := w) (.cells (dvC (.slice A safe.length c) (.slice A2 ps.length c2) left fu off) 35)
  obtain ⟨W1, hW1⟩ : ∃ x, w.alloc (.cells (dvC (.slice A safe.length c) (.slice A2 ps.length c2) left fu off) 35) = x := ⟨_, rfl⟩
  rw [hW1] at hd hal
  have hcp := copy_row string_info Try.underlying32 rfl (by decide) W1 A safe.length c (safe.map sv) (by simp) (hSr.elim (fun h => Or.inl (by rw [h]; rfl)) (fun ⟨B, o, h1, h2, h3, _⟩ => Or.inr ⟨B, o, h1, Nat.lt_of_lt_of_le h2 hal.size, range_keep h3 h2 hal⟩)) (sv_one safe) (by omega) (by omega)
  obtain ⟨V2, W2, hr2, ho2, hb2⟩ := hcp
  obtain ⟨g, c3, cur, rfl, hg, hos⟩ := OS.own ho2 h0
  have hd1 := hd.keep (al (.cells #[] 9))
  have hd2 := hd.keep hb2
  obtain ⟨d0, d1, d2, d3, d4⟩ := dv_all hd1
  have HD := Aside0.mk hd2
  have HO := Aside0.mk hos
  have HB := Aside0.mk (below_step hal hb2)
  have HR := Aside0.mk hr2
  have HG := Aside0.mk (show W1.heap.size ≤ g from hg)
  have HL := Aside0.mk hLr
  have HSZ : Aside0 (w.heap.size < W1.heap.size) := ⟨hd.lt⟩
  unfold dvC at *
  clear hSr hLr hd hd1 hd2 hal hr2 ho2 hb2 hg hos
  go_enter Try.func57, Try.ntmps57
  go_wp2_with (first
    | (at_builtin; refine Lib.wpList_append_run _ rfl (.tmp 5) (.tmp 7) 32 32 rfl (.slice (some ⟨W1.heap.size, 0, none⟩) 0 0) (.slice A safe.length c) rfl rfl _ W2 HR.out ?_))
  have HB0 : Aside0 (∃ cur, OS W2 g safe.length c3 (nowR safe (ps.take 0)) cur) := ⟨⟨cur, HO.out⟩⟩
  clear hW1
  go_loopg [4] ps.length (fun kq v4 wr => ∃ (j : Nat), v4 = .int .i64 j ∧ Aside0 (kq + j = ps.length) ∧ Aside0 (∃ cur, OS wr g safe.length c3 (nowR safe (ps.take j)) cur) ∧ Aside0 (Fr (· = g) W2 wr))
  case atStart => exact ⟨0, rfl, ⟨rfl⟩, HB0, ⟨Fr.refl _ _⟩⟩
  case round =>
    obtain ⟨j, rfl, HJ, HOS, HF⟩ := hrel
    obtain ⟨cur, hos⟩ := HOS.out
    have hdr := HD.out.fr HF.out (show ¬ w.heap.size = g from by have := HG.out; have := HSZ.out; omega)
    have d1 := (BL.cell hdr 1).trans (show _ = some (Value.slice A2 ps.length c2) from rfl)
    by_cases hj : j < ps.length
    · have k1 : (j : Int) < (ps.length : Int) := by omega
      rcases HL.out with h | ⟨B2, o2, rfl, hB2, hr2, _⟩
      · subst h; cases hj
      have hb2 : ∀ k, k < w.heap.size → wr.heap[k]? = w.heap[k]? := fun k hk => (HF.out.block k (Nat.lt_of_lt_of_le hk HB.out.size) (by have := HG.out; have := HSZ.out; omega)).trans (HB.out.block k hk)
      have hx := pv_at ps j hj
      have c0 : wr.cell? ⟨B2, o2 + j * 2, none⟩ = some (.int .i64 (ps[j].1 : Int)) := (World.cell?_of_block (a := ⟨B2, o2 + j * 2, none⟩) (hb2 B2 hB2)).trans (hr2 _ _ hx.1)
      have c1 : wr.cell? ⟨B2, o2 + j * 2 + 1, none⟩ = some (sv ps[j].2) := (World.cell?_of_block (a := ⟨B2, o2 + j * 2 + 1, none⟩) (hb2 B2 hB2)).trans (hr2 _ _ hx.2)
      have hpt := hp ps[j] (List.getElem_mem hj)
      have hst : nowR safe (ps.take (j + 1)) = (nowR safe (ps.take j)).set ps[j].1 ps[j].2 := by
        unfold nowR
        rw [List.take_add_one, List.getElem?_eq_getElem hj, List.foldl_append]; rfl
      obtain ⟨p, hpe⟩ : ∃ p, ps[j] = p := ⟨_, rfl⟩
      rw [hpe] at c0 c1 hpt hst
      obtain ⟨s, hs⟩ : ∃ s, sv p.2 = .string s := ⟨_, rfl⟩
      have hset := hos.set p.1 p.2
      obtain ⟨x, hx9⟩ := hos.at p.1 hpt
      have hf9 := BL.free hos.b p.1
      rw [hs] at c1 hset
      obtain ⟨q, hq⟩ : ∃ q, p.1 = q := ⟨_, rfl⟩
      rw [hq] at hpt c0 hset hx9 hf9 hst
      have k2 : (q : Int) < (safe.length : Int) := by omega
      have HST := Aside0.mk hst
      have HSET := Aside0.mk hset
      clear hx hst hs hset hpe hos hb2 hr2 hdr
      go_wp2_with fail
      go_still_tail 14, (by kernel_rfl)
      change wpList _ _ _ _ _ wr.drew
      go_wp2_with fail
      go_roundg (ps.length - (j + 1))
      case measure => have := HJ.out; omega
      case rel => exact ⟨j + 1, rfl, ⟨by omega⟩, ⟨⟨_, by rw [HST.out]; exact ⟨HSET.out.b, HSET.out.ln, HSET.out.t⟩⟩⟩, ⟨HF.out.drew.own _ _⟩⟩
    · have k1 : ¬ (j : Int) < (ps.length : Int) := by omega
      have e1 : ps.take j = ps := List.take_of_length_le (by omega)
      rw [e1] at hos
      have HOS2 := Aside0.mk hos
      clear hos e1
      go_wp2
      go_ret
      exact ⟨_, rfl, HOS2.out.rs (by have := HG.out; have := HSZ.out; omega), HF.out.to_below HB.out HB.out.size (fun k hk => by have := HG.out; have := HSZ.out; omega)⟩
/-- A row of bools, wherever it lies. -/
def RL (w : World) (V : Value) (l : List Bool) : Prop := ∃ A c, V = .slice A l.length c ∧ (l = [] ∨ ∃ B o, A = some ⟨B, o, none⟩ ∧ B < w.heap.size ∧ w.rangeAt B o (l.map Value.bool))
theorem RL.keep {w w' : World} {V : Value} {l : List Bool} (h : RL w V l) (hb : Below w.heap.size w w') : RL w' V l := by
  obtain ⟨A, c, rfl, h⟩ := h
  refine ⟨A, c, rfl, h.imp id ?_⟩
  rintro ⟨B, o, rfl, h1, h2⟩
  exact ⟨B, o, rfl, Nat.lt_of_lt_of_le h1 hb.size, range_keep h2 h1 hb⟩
theorem RL.of {w : World} {B c : Nat} {l : List Bool} {e : TypeId} (h : BL w B (bl l) e) : RL w (.slice (some ⟨B, 0, none⟩) l.length c) l :=
  ⟨_, c, rfl, Or.inr ⟨B, 0, rfl, BL.lt h, BL.rng h⟩⟩
/-- The document's pager. -/
def prC (fi sz g r e : Int) (U F D : Value) (br : Bool) : Array Value := #[.int .i64 fi, .int .i64 sz, .int .u64 g, .int .i64 r, .int .u64 e, U, F, D, .bool br]
theorem pr_all {w : World} {X : Nat} {fi sz g r e : Int} {U F D : Value} {br : Bool} {t : TypeId} (h : BL w X (prC fi sz g r e U F D br) t) : w.cell? ⟨X, 0, none⟩ = some (.int .i64 fi) ∧ w.cell? ⟨X, 1, none⟩ = some (.int .i64 sz) ∧ w.cell? ⟨X, 2, none⟩ = some (.int .u64 g) ∧ w.cell? ⟨X, 3, none⟩ = some (.int .i64 r) ∧ w.cell? ⟨X, 4, none⟩ = some (.int .u64 e) ∧ w.cell? ⟨X, 5, none⟩ = some U ∧ w.cell? ⟨X, 6, none⟩ = some F ∧ w.cell? ⟨X, 7, none⟩ = some D ∧ w.cell? ⟨X, 8, none⟩ = some (.bool br) :=
  ⟨BL.cell h 0, BL.cell h 1, BL.cell h 2, BL.cell h 3, BL.cell h 4, BL.cell h 5, BL.cell h 6, BL.cell h 7, BL.cell h 8⟩
theorem BL.nine {w : World} {B : Nat} {a0 a1 a2 a3 a4 a5 a6 a7 a8 : Value} {e : TypeId} (h : BL w B #[a0, a1, a2, a3, a4, a5, a6, a7, a8] e) (x0 x1 x2 x3 x4 x5 x6 x7 x8 : Value) : BL (((((((((w.setCell ⟨B, 0, none⟩ x0).setCell ⟨B, 1, none⟩ x1).setCell ⟨B, 2, none⟩ x2).setCell ⟨B, 3, none⟩ x3).setCell ⟨B, 4, none⟩ x4).setCell ⟨B, 5, none⟩ x5).setCell ⟨B, 6, none⟩ x6).setCell ⟨B, 7, none⟩ x7).setCell ⟨B, 8, none⟩ x8) B #[x0, x1, x2, x3, x4, x5, x6, x7, x8] e ∧ Fr (· = B) w (((((((((w.setCell ⟨B, 0, none⟩ x0).setCell ⟨B, 1, none⟩ x1).setCell ⟨B, 2, none⟩ x2).setCell ⟨B, 3, none⟩ x3).setCell ⟨B, 4, none⟩ x4).setCell ⟨B, 5, none⟩ x5).setCell ⟨B, 6, none⟩ x6).setCell ⟨B, 7, none⟩ x7).setCell ⟨B, 8, none⟩ x8) := by
  have := ((((((((h.set 0 x0).set 1 x1).set 2 x2).set 3 x3).set 4 x4).set 5 x5).set 6 x6).set 7 x7).set 8 x8
  exact ⟨by simpa using this, (((((((((Fr.refl (· = B) w).own 0 _).own 1 _).own 2 _).own 3 _).own 4 _).own 5 _).own 6 _).own 7 _).own 8 _⟩
def BareP (w : World) (fi sz g r e : Int) (br : Bool) (np : Nat) (en : Ending) (w' : World) : Prop := ∃ u f d : Nat, en = .returned (.agg (prC fi sz g r e (.slice (some ⟨u, 0, none⟩) np np) (.slice (some ⟨f, 0, none⟩) np np) (.slice (some ⟨d, 0, none⟩) np np) br)) ∧ BL w' u (bl (List.replicate np false)) 4 ∧ BL w' f (bl (List.replicate np false)) 4 ∧ BL w' d (bl (List.replicate np false)) 4 ∧ Below w.heap.size w w' ∧ w.heap.size ≤ u ∧ w.heap.size ≤ f ∧ w.heap.size ≤ d
theorem RL.bare {w : World} {u np : Nat} (h : BL w u (bl (List.replicate np false)) 4) : RL w (.slice (some ⟨u, 0, none⟩) np np) (List.replicate np false) := by
  have := RL.of (c := np) h
  rwa [List.length_replicate] at this
set_option maxHeartbeats 2000000 in
set_option maxRecDepth 100000 in
theorem ref_bare.calls (fi g r e : Int) (np : Nat) (U F D : Value) (br : Bool) (w : World) (hnp : np ≤ 4096) :
    Calls Try.prog 59 #[.agg (prC fi ((np : Int) + 2) g r e U F D br)] w (BareP w fi ((np : Int) + 2) g r e br np) := by
  have hmk := mk_bools np hnp
  unfold prC
  go_enter Try.func59, Try.ntmps59
  go_wp2_with fail
  have h2 := fun (W : World) => BL.new W (bl (List.replicate np false)) 4
  refine bodyPost_ret (v := .agg (prC fi ((np : Int) + 2) g r e (.slice (some ⟨w.heap.size + 1 + 1, 0, none⟩) np np) (.slice (some ⟨w.heap.size + 1 + 1 + 1, 0, none⟩) np np) (.slice (some ⟨w.heap.size + 1 + 1 + 1 + 1, 0, none⟩) np np) br)) (by simp [results, Try.results59, go_sem, prC]) rfl ⟨w.heap.size + 1 + 1, w.heap.size + 1 + 1 + 1, w.heap.size + 1 + 1 + 1 + 1, rfl, ?_, ?_, ?_, ?_, by omega, by omega, by omega⟩
  · have := ((h2 ((w.alloc (.cells (prC fi ((np : Int) + 2) g r e (.slice (some ⟨w.heap.size + 1 + 1, 0, none⟩) np np) (.slice (some ⟨w.heap.size + 1 + 1 + 1, 0, none⟩) np np) (.slice (some ⟨w.heap.size + 1 + 1 + 1 + 1, 0, none⟩) np np) br) 47)).alloc (.cells (prC fi ((np : Int) + 2) g r e (.slice (some ⟨w.heap.size + 1 + 1, 0, none⟩) np np) (.slice (some ⟨w.heap.size + 1 + 1 + 1, 0, none⟩) np np) (.slice (some ⟨w.heap.size + 1 + 1 + 1 + 1, 0, none⟩) np np) br) 47))).keep (al (.cells (bl (List.replicate np false)) 4))).keep (al (.cells (bl (List.replicate np false)) 4))
    rw [al_size, al_size] at this
    exact this
  · have := (h2 (((w.alloc (.cells (prC fi ((np : Int) + 2) g r e (.slice (some ⟨w.heap.size + 1 + 1, 0, none⟩) np np) (.slice (some ⟨w.heap.size + 1 + 1 + 1, 0, none⟩) np np) (.slice (some ⟨w.heap.size + 1 + 1 + 1 + 1, 0, none⟩) np np) br) 47)).alloc (.cells (prC fi ((np : Int) + 2) g r e (.slice (some ⟨w.heap.size + 1 + 1, 0, none⟩) np np) (.slice (some ⟨w.heap.size + 1 + 1 + 1, 0, none⟩) np np) (.slice (some ⟨w.heap.size + 1 + 1 + 1 + 1, 0, none⟩) np np) br) 47)).alloc (.cells (bl (List.replicate np false)) 4))).keep (al (.cells (bl (List.replicate np false)) 4))
    rw [al_size, al_size, al_size] at this
    exact this
  · have := h2 ((((w.alloc (.cells (prC fi ((np : Int) + 2) g r e (.slice (some ⟨w.heap.size + 1 + 1, 0, none⟩) np np) (.slice (some ⟨w.heap.size + 1 + 1 + 1, 0, none⟩) np np) (.slice (some ⟨w.heap.size + 1 + 1 + 1 + 1, 0, none⟩) np np) br) 47)).alloc (.cells (prC fi ((np : Int) + 2) g r e (.slice (some ⟨w.heap.size + 1 + 1, 0, none⟩) np np) (.slice (some ⟨w.heap.size + 1 + 1 + 1, 0, none⟩) np np) (.slice (some ⟨w.heap.size + 1 + 1 + 1 + 1, 0, none⟩) np np) br) 47)).alloc (.cells (bl (List.replicate np false)) 4)).alloc (.cells (bl (List.replicate np false)) 4))
    rw [al_size, al_size, al_size, al_size] at this
    exact this
  · exact below_step (below_step (below_step (below_step (al _) (al _)) (al _)) (al _)) (al _)
theorem sv_ne (a b : List UInt8) (s1 s2 : ByteArray) (h1 : sv a = .string s1) (h2 : sv b = .string s2) : (!(s1.toList == s2.toList)) = !decide (a = b) := by
  have e1 : s1 = ⟨a.toArray⟩ := (Value.string.inj h1).symm
  have e2 : s2 = ⟨b.toArray⟩ := (Value.string.inj h2).symm
  rw [e1, e2, ByteArray.toList_eq, ByteArray.toList_eq]
  show (!(a == b)) = _
  by_cases e : a = b
  · subst e; simp
  · simp [e]
theorem toldN_rg (l : List UInt8) (o : Nat) : 0 ≤ toldN l o ∧ toldN l o < 18446744073709551616 := by
  unfold toldN
  rw [numL_ref]
  have key : ∀ (k : List UInt8) (n : Int), 0 ≤ n ∧ n < 18446744073709551616 → 0 ≤ k.foldl refStep n ∧ k.foldl refStep n < 18446744073709551616 := by
    intro k
    induction k with
    | nil => intro n h; exact h
    | cons c r ih =>
      intro n h
      rw [List.foldl_cons]
      refine ih _ ?_
      unfold refStep
      rw [IntKind.wrap_u64]
      omega
  exact key _ 0 ⟨by omega, by omega⟩
/-- A text as bytes, laid anew. -/
theorem conv_str (W : World) (b : List UInt8) : ∃ (c : Nat) (W' : World), (convert 9 38 (sv b)).run Try.prog W = .ok (.slice (some ⟨W.heap.size, 0, none⟩) b.length c) W' ∧ b.length ≤ c ∧ SB W' W.heap.size 0 b ∧ W.heap.size < W'.heap.size ∧ Below W.heap.size W W' := by
  have hr := Lib.run_convert_string_bytes (P := Try.prog) W 9 38 5 ⟨b.toArray⟩ Try.underlying9 Try.underlying38 Try.underlying5
  have hsz : (⟨b.toArray⟩ : ByteArray).size = b.length := List.size_toArray
  have hws := Lib.bytesWorld_size W 5 ⟨b.toArray⟩
  rw [hsz] at hr
  refine ⟨_, _, hr, ?_, ?_, ?_, ?_⟩
  · exact grownCap_ge W b.length 0 5
  · intro j v hj
    rw [Nat.zero_add]
    unfold cl at hj
    rw [List.getElem?_map] at hj
    obtain ⟨x, hx, rfl⟩ := Option.map_eq_some_iff.1 hj
    have hlt := (List.getElem?_eq_some_iff.1 hx).1
    rw [Lib.bytesWorld_cell W 5 ⟨b.toArray⟩ j (by rw [hsz]; exact hlt)]
    simp [List.getD_eq_getElem?_getD, hx]
  · omega
  · refine ⟨?_, ?_, ?_, by omega, fun k hk => Lib.bytesWorld_at_old W 5 ⟨b.toArray⟩ k hk⟩ <;> (unfold Lib.bytesWorld World.freeze; split <;> rfl)
def stepQ (np k : Nat) (b : List UInt8) (st : Int × Int × Int) : Int × Int × Int :=
  if (decide (toldN b 0 ≤ st.1) || !(toldN b 0 % 2 == (k : Int)) || decide (toldN b 8 > (np : Int)) || !decide (rHead (toldN b 0) (toldN b 8 - 1) (toldN b 16) = b)) = true then st else (toldN b 0, toldN b 8 - 1, toldN b 16)
def foldQ (l : List (List UInt8)) (fi np : Nat) : Nat → Int × Int × Int
  | 0 => (0, -1, 1)
  | i + 1 => stepQ np i (l.getD ((fi + i) * 4) []) (foldQ l fi np i)
def ROpenP (w : World) (fi np : Nat) (st : Int × Int × Int) (en : Ending) (w' : World) : Prop := ∃ U F D, en = .returned (.tuple #[.agg (prC (fi : Int) ((np : Int) + 2) st.1 st.2.1 st.2.2 U F D false), .int .i64 0]) ∧ RL w' U (List.replicate np false) ∧ RL w' F (List.replicate np false) ∧ RL w' D (List.replicate np false) ∧ Below w.heap.size w w'
structure RO (w W : World) (X : Nat) (d : Array Value) (fi : Nat) (np : Nat) (st : Int × Int × Int) (r : Nat) : Prop where
  x : BL W X (prC (fi : Int) ((np : Int) + 2) st.1 st.2.1 st.2.2 (.slice none 0 0) (.slice none 0 0) (.slice none 0 0) false) 47
  d : BL W w.heap.size d 35
  z : BL W r (prC 0 0 0 0 0 (.slice none 0 0) (.slice none 0 0) (.slice none 0 0) false) 47
  bl : Below w.heap.size w W
  ge : w.heap.size < X
  rg : w.heap.size < r ∧ r < X
theorem RO.ne {w W : World} {X : Nat} {d : Array Value} {fi np : Nat} {st : Int × Int × Int} {r : Nat} (h : RO w W X d fi np st r) {B o : Nat} {l : List (List UInt8)} (hr : W.rangeAt B o (l.map sv)) (hl : 0 < l.length) : ¬ B = X := by
  intro e
  subst e
  have h1 := hr 0 (sv l[0]) (by rw [List.getElem?_map, List.getElem?_eq_getElem hl]; rfl)
  rw [BL.cell h.x, Nat.add_zero] at h1
  unfold prC sv at h1
  rcases o with _ | _ | _ | _ | _ | _ | _ | _ | _ | o <;> simp at h1
theorem RO.keep {w W W' : World} {X : Nat} {d : Array Value} {fi np : Nat} {st : Int × Int × Int} {r : Nat} (h : RO w W X d fi np st r) (hb : Below W.heap.size W W') : RO w W' X d fi np st r := ⟨h.x.keep hb, h.d.keep hb, h.z.keep hb, below_step h.bl hb, h.ge, h.rg⟩
theorem RO.dr {w W : World} {X : Nat} {d : Array Value} {fi np : Nat} {st : Int × Int × Int} {r : Nat} (h : RO w W X d fi np st r) (n : Nat) : RO w (W.drewN n) X d fi np st r := ⟨h.x, h.d, h.z, Below.drN h.bl n, h.ge, h.rg⟩
set_option maxHeartbeats 1000000 in
set_option maxRecDepth 100000 in
theorem ref_Open.calls (ZS ZL : Nat → Prop) (VS VL : Value) (safe : List (List UInt8)) (ps : List (Nat × List UInt8)) (left : Int) (fu : Bool) (n fi np : Nat) (w : World) (hS : RS w ZS VS safe) (hL : RP w ZL VL ps) (hsl : safe.length = n * 4) (hn : 1 ≤ n) (hn2 : n ≤ 1000) (hpl : ps.length ≤ 100000) (hp : ∀ p ∈ ps, p.1 < safe.length) (h64 : ∀ s ∈ nowR safe ps, s.length = 64) (hnp : 1 ≤ np) (hrg : fi + 2 + np ≤ n) :
    Calls Try.prog 14 #[.agg (dvC VS VL left fu false), .int .i64 (fi : Int), .int .i64 ((np : Int) + 2)] w (ROpenP w fi np (foldQ (nowR safe ps) fi np 2)) := by
  have hRN := fun W (hb : Below w.heap.size w W) => ref_Now.calls ZS ZL VS VL safe ps left fu false W (hS.keep hb) (hL.keep hb) (by omega) (by omega) hpl hp
  have hlen := nowR_len ps safe
  obtain ⟨A, c, rfl, hSr⟩ := hS
  obtain ⟨A2, c2, rfl, hLr⟩ := hL
  obtain ⟨l, hl⟩ : ∃ l, nowR safe ps = l := ⟨_, rfl⟩
  rw [hl] at h64 hRN hlen
  rw [hl, hsl] at *
  have HRN := Aside0.mk hRN
  have H64 := Aside0.mk h64
  have HLEN := Aside0.mk hlen
  have k1 : decide ((fi : Int) < 0) = false := decide_eq_false (by omega)
  have k2 : decide ((np : Int) + 2 < 3) = false := decide_eq_false (by omega)
  have k0 : ((n : Int) * 4).tdiv 4 = (n : Int) := Int.mul_tdiv_cancel _ (by decide)
  have k3 : decide ((np : Int) + 2 > (n : Int)) = false := decide_eq_false (by omega)
  have k4 : decide ((fi : Int) > (n : Int) - ((np : Int) + 2)) = false := decide_eq_false (by omega)
  clear hSr hLr hl hRN h64 hlen hp
  unfold dvC at *
  go_enter Try.func14, Try.ntmps14
  go_wp2_with fail
  have hro : RO w (((w.alloc (.cells (dvC (.slice A (n * 4) c) (.slice A2 ps.length c2) left fu false) 35)).alloc (.cells (prC 0 0 0 0 0 (.slice none 0 0) (.slice none 0 0) (.slice none 0 0) false) 47)).alloc (.cells (prC (fi : Int) ((np : Int) + 2) 0 (-1) 1 (.slice none 0 0) (.slice none 0 0) (.slice none 0 0) false) 47)) (w.heap.size + 2) (dvC (.slice A (n * 4) c) (.slice A2 ps.length c2) left fu false) fi np (foldQ l fi np 0) (w.heap.size + 1) := by
    refine ⟨?_, ((BL.new w _ _).keep (al _)).keep (al _), ?_, below_step (below_step (al _) (al _)) (al _), by omega, by omega⟩
    · have := BL.new ((w.alloc (.cells (dvC (.slice A (n * 4) c) (.slice A2 ps.length c2) left fu false) 35)).alloc (.cells (prC 0 0 0 0 0 (.slice none 0 0) (.slice none 0 0) (.slice none 0 0) false) 47)) (prC (fi : Int) ((np : Int) + 2) 0 (-1) 1 (.slice none 0 0) (.slice none 0 0) (.slice none 0 0) false) 47
      rw [al_size, al_size] at this
      exact this
    · have := (BL.new (w.alloc (.cells (dvC (.slice A (n * 4) c) (.slice A2 ps.length c2) left fu false) 35)) (prC 0 0 0 0 0 (.slice none 0 0) (.slice none 0 0) (.slice none 0 0) false) 47).keep (al (.cells (prC (fi : Int) ((np : Int) + 2) 0 (-1) 1 (.slice none 0 0) (.slice none 0 0) (.slice none 0 0) false) 47))
      rw [al_size] at this
      exact this
  refine (HRN.out _ hro.bl).mono ?_
  rintro en w1 ⟨VN, rfl, hVN, hb1⟩
  obtain ⟨AN, cN, rfl, hVr⟩ := hVN
  rw [HLEN.out]
  have HRO := Aside0.mk (hro.keep hb1)
  have HVR := Aside0.mk hVr
  clear hro hb1 hVr HRN
  go_wp2_with fail
  go_loopg [11] 2 (fun kq v11 wr => ∃ (i : Nat) (st : Int × Int × Int), v11 = .int .i64 i ∧ Aside0 (kq + i = 2) ∧ Aside0 (st = foldQ l fi np i) ∧ Aside0 (RO w wr (w.heap.size + 2) (dvC (.slice A (n * 4) c) (.slice A2 ps.length c2) left fu false) fi np st (w.heap.size + 1)) ∧ Aside0 (Fr (· = w.heap.size + 2) w1 wr))
  case atStart => exact ⟨0, _, rfl, ⟨rfl⟩, ⟨rfl⟩, HRO, ⟨Fr.refl _ _⟩⟩
  case round =>
    obtain ⟨i, ⟨g, r, e⟩, rfl, HJ, HST, HR, HB1⟩ := hrel
    by_cases hi : i < 2
    · have k5 : (i : Int) < 2 := by omega
      have hidx : (fi + i) * 4 < l.length := by have := HLEN.out; omega
      obtain ⟨b, hb⟩ : ∃ b, l[(fi + i) * 4] = b := ⟨_, rfl⟩
      have hbl : b.length = 64 := H64.out b (hb ▸ List.getElem_mem hidx)
      have hfold : foldQ l fi np (i + 1) = stepQ np i b (g, r, e) := by
        rw [foldQ, ← HST.out, List.getD_eq_getElem?_getD, List.getElem?_eq_getElem hidx, hb]; rfl
      rcases HVR.out with h | ⟨BN, oN, rfl, hBN, hrN, _⟩
      · exact absurd (congrArg List.length h) (by rw [HLEN.out]; show ¬ n * 4 = 0; omega)
      have hcell : wr.cell? ⟨BN, oN + (fi + i) * 4, none⟩ = some (sv b) := by
        refine (World.cell?_of_block (a := ⟨BN, oN + (fi + i) * 4, none⟩) (HB1.out.block BN hBN (HRO.out.ne hrN (by omega)))).trans (hrN _ _ ?_)
        rw [List.getElem?_map, List.getElem?_eq_getElem hidx, hb]; rfl
      obtain ⟨s, hs⟩ : ∃ s, sv b = .string s := ⟨_, rfl⟩
      obtain ⟨cb, w2, hcv, hcb, hsb, hlt2, hb2⟩ := conv_str wr b
      rw [hs] at hcv hcell
      rw [hbl] at hcv hcb
      have HS := Aside0.mk hs
      have HBL := Aside0.mk hbl
      have HFOLD := Aside0.mk hfold
      have HSB := Aside0.mk hsb
      have HR2 := Aside0.mk (HR.out.keep hb2)
      have HB2 := Aside0.mk (HB1.out.below hb2)
      clear hs hbl hfold hsb hb hb2 hrN
      go_wp2_with fail
      have hnum : ∀ (o : Nat), o + 8 ≤ 64 → ∀ (m cp : Nat), Calls Try.prog 58 #[.slice (some ⟨wr.heap.size, o, none⟩) 8 cp] (w2.drewN m) fun en w' => en = .returned (.int .u64 (toldN b o)) ∧ w' = w2.drewN m := fun o ho m cp => by
        have h := HSB.out.sub o 8
        rw [Nat.zero_add] at h
        have := ref_Number.calls wr.heap.size o cp _ _ (h.dn m) (by rw [List.length_take]; omega)
        rw [show ((b.drop o).take 8).length = 8 from by rw [List.length_take, List.length_drop, HBL.out]; omega] at this
        exact this.mono fun en w' h => ⟨h.1, h.2.symm⟩
      obtain ⟨g', hg'⟩ : ∃ x, toldN b 0 = x := ⟨_, rfl⟩
      obtain ⟨r', hr'⟩ : ∃ x, toldN b 8 = x := ⟨_, rfl⟩
      obtain ⟨e', he'⟩ : ∃ x, toldN b 16 = x := ⟨_, rfl⟩
      have hn0 := hnum 0 (by decide)
      have hn8 := hnum 8 (by decide)
      have hn16 := hnum 16 (by decide)
      rw [hg'] at hn0
      rw [hr'] at hn8
      rw [he'] at hn16
      have M0 := Aside0.mk hn0
      have M8 := Aside0.mk hn8
      have M16 := Aside0.mk hn16
      obtain ⟨gl, gh⟩ := hg' ▸ toldN_rg b 0
      obtain ⟨rl, rh⟩ := hr' ▸ toldN_rg b 8
      have HGRE : Aside0 (toldN b 0 = g' ∧ toldN b 8 = r' ∧ toldN b 16 = e') := ⟨hg', hr', he'⟩
      have hcb24 : 24 ≤ cb := by omega
      clear hg' hr' he' hn0 hn8 hn16 hnum hcv hcell hcb
      go_quiet (first
        | (go_at_call 58; (with_reducible exact Calls.quiet_of_same (M0.out _ _)))
        | (go_at_call 58; (with_reducible exact Calls.quiet_of_same (M8.out _ _)))
        | (go_at_call 58; (with_reducible exact Calls.quiet_of_same (M16.out _ _))))
      have HR3 := Aside0.mk (HR2.out.dr nq)
      have HS3 := Aside0.mk (HSB.out.dn nq)
      have HB3 := Aside0.mk (HB2.out.drewN nq)
      have hlt3 : wr.heap.size < (w2.drewN nq).heap.size := hlt2
      obtain ⟨w3, hw3⟩ : ∃ x, w2.drewN nq = x := ⟨_, rfl⟩
      rw [hw3] at HR3 HS3 HB3 hlt3 ⊢
      clear hw3 hlt2 M0 M8 M16 HSB HR2 HB2
      obtain ⟨x0, x1, x2, x3, x4, x5, x6, x7, x8⟩ := pr_all HR3.out.x
      have hnpw : IntKind.u64.wrap (np : Int) = (np : Int) := wraps_u64 _ (by omega) (by omega)
      have hiw : IntKind.u64.wrap (i : Int) = (i : Int) := wraps_u64 _ (by omega) (by omega)
      obtain ⟨bad, hbad⟩ : ∃ bad, (decide (g' ≤ g) || !(g' % 2 == (i : Int)) || decide (r' > (np : Int)) || !decide (rHead g' (r' - 1) e' = b)) = bad := ⟨_, rfl⟩
      have HBAD := Aside0.mk hbad
      clear hbad
      go_upto_region 13 with fail
      go_cut [97] (fun v97 wz => v97 = .bool bad ∧ Aside0 (RO w wz (w.heap.size + 2) (dvC (.slice A (n * 4) c) (.slice A2 ps.length c2) left fu false) fi np (g, r, e) (w.heap.size + 1)) ∧ Aside0 (Fr (· = w.heap.size + 2) w1 wz))
      case first =>
        by_cases b1 : g' ≤ g
        · have d1 : decide (g' ≤ g) = true := decide_eq_true b1
          obtain rfl : bad = true := by rw [← HBAD.out, d1]; rfl
          go_quiet (fail)
          go_wp2_with fail
          go_meet
          exact ⟨rfl, ⟨HR3.out.dr _⟩, ⟨HB3.out.drewN _⟩⟩
        · have d1 : decide (g' ≤ g) = false := decide_eq_false b1
          by_cases b2 : g' % 2 = (i : Int)
          · have d2 : (g' % 2 == (i : Int)) = true := by simpa using b2
            by_cases b3 : r' ≤ (np : Int)
            · have d3 : decide (r' > (np : Int)) = false := decide_eq_false (by omega)
              have hbb : (!decide (rHead g' (r' - 1) e' = b)) = bad := by rw [← HBAD.out, d1, d2, d3]; rfl
              have hhl : (rHead g' (r' - 1) e').length = 64 := by simp [rHead, rHead60, beL_len]
              have hhd := fun W => ref_Head.calls g' (r' - 1) e' W
              unfold RHeadP at hhd
              obtain ⟨hL, hhL⟩ : ∃ x, rHead g' (r' - 1) e' = x := ⟨_, rfl⟩
              rw [hhL] at hhl hhd hbb
              obtain ⟨s1, hs1⟩ : ∃ s, sv hL = .string s := ⟨_, rfl⟩
              have hne : (!(s1.toList == s.toList)) = bad := (sv_ne _ _ _ _ hs1 HS.out).trans hbb
              have hcv1 : ∀ W B c, SB W B 0 hL → (convert 38 9 (.slice (some ⟨B, 0, none⟩) 64 c)).run Try.prog W = .ok (.string s1) W := fun W B c h => by
                have := conv_sb (c := c) h
                rwa [hhl, hs1] at this
              have hcv2 : ∀ W c, SB W wr.heap.size 0 b → (convert 38 9 (.slice (some ⟨wr.heap.size, 0, none⟩) 64 c)).run Try.prog W = .ok (.string s) W := fun W c h => by
                have := conv_sb (c := c) h
                rwa [HBL.out, HS.out] at this
              have hcall : Calls Try.prog 10 #[.int .u64 g', .int .i64 (r' - 1), .int .u64 e'] w3.drew fun en w' => ∃ B c, en = .returned (.slice (some ⟨B, 0, none⟩) 64 c) ∧ Below w3.heap.size w3 w' ∧ (convert 38 9 (.slice (some ⟨B, 0, none⟩) 64 c)).run Try.prog w' = .ok (.string s1) w' ∧ (∀ c, (convert 38 9 (.slice (some ⟨wr.heap.size, 0, none⟩) 64 c)).run Try.prog w' = .ok (.string s) w') ∧ w'.cell? ⟨w.heap.size + 1 + 1, 2, none⟩ = some (.int .u64 g) := by
                refine (hhd w3.drew).mono ?_
                rintro en w' ⟨V, rfl, hrb⟩
                obtain ⟨B, c, rfl, hsB, hB⟩ := hrb.form (by omega)
                rw [hhl]
                have hbel : Below w3.heap.size w3 w' := ⟨hrb.bl.os, hrb.bl.tape, hrb.bl.output, hrb.bl.size, hrb.bl.block⟩
                exact ⟨B, c, rfl, hbel, hcv1 _ _ _ hsB, fun c => hcv2 _ c (HS3.out.keep hlt3 hbel), (hbel.cell (p := ⟨w.heap.size + 1 + 1, 2, none⟩) HR3.out.x.lt).trans x2⟩
              have HCALL := Aside0.mk hcall
              have rl2 : r' ≤ 1000 := by omega
              have hcv20 := hcv2
              clear hhl hhd hhL hcv1 hcv2 hcall hs1 hbb
              have ht1 : g'.tmod 2 = (i : Int) := by rw [Int.tmod_eq_emod_of_nonneg gl]; exact b2
              have ht2 : IntKind.u64.wrap (g'.tmod 2) = (i : Int) := by rw [ht1]; exact hiw
              have ht3 : ((i : Int) != (i : Int)) = false := by simp
              have ht4 : IntKind.i64.wrap r' = r' := by rw [i64_w]; unfold wrap64; omega
              have ht5 : IntKind.i64.wrap (r' - 1) = r' - 1 := by rw [i64_w]; unfold wrap64; omega
              have ht6 : IntKind.i64.wrap (np : Int) = (np : Int) := by rw [i64_w]; unfold wrap64; omega
              have ht7 : decide ((np : Int) < r') = false := decide_eq_false (by omega)
              have hk0 : (w3.drew.cell? ⟨w.heap.size + 1 + 1, 2, none⟩ = some (.int .u64 g) ∧ (∀ c, (convert 38 9 (.slice (some ⟨wr.heap.size, 0, none⟩) 64 c)).run Try.prog w3.drew = .ok (.string s) w3.drew)) := ⟨x2, fun c => hcv20 _ c (HS3.out.dn 1)⟩
              go_region_held_law (fun w' => w'.cell? ⟨w.heap.size + 1 + 1, 2, none⟩ = some (.int .u64 g) ∧ (∀ c, (convert 38 9 (.slice (some ⟨wr.heap.size, 0, none⟩) 64 c)).run Try.prog w' = .ok (.string s) w')) (first | exact hk0 | exact hk5) (first | (go_at_call 10; (with_reducible refine HCALL.out.mono ?_); rintro e1 w5 ⟨B5, c5, rfl, hb5, hcv1, hcv2, hx5⟩; have HB5 := Aside0.mk hb5; have hk5 := And.intro hx5 hcv2; clear hb5 hcv2 hx5))
              all_goals
                go_wp2_with fail
                go_meet
                exact ⟨rfl, ⟨HR3.out.keep HB5.out⟩, ⟨HB3.out.below HB5.out⟩⟩
            · have d3 : decide (r' > (np : Int)) = true := decide_eq_true (by omega)
              obtain rfl : bad = true := by rw [← HBAD.out, d1, d2, d3]; rfl
              go_quiet (fail)
              go_wp2_with fail
              go_meet
              exact ⟨rfl, ⟨HR3.out.dr _⟩, ⟨HB3.out.drewN _⟩⟩
          · have d2 : (g' % 2 == (i : Int)) = false := by simpa using b2
            obtain rfl : bad = true := by rw [← HBAD.out, d1, d2]; rfl
            have d3 : (g' % 2 != (i : Int)) = true := by simpa using b2
            have d4 : ¬ (i : Int) = g' % 2 := fun h => b2 h.symm
            go_quiet (fail)
            go_wp2_with fail
            go_meet
            exact ⟨rfl, ⟨HR3.out.dr _⟩, ⟨HB3.out.drewN _⟩⟩
      case rest =>
        obtain ⟨rfl, HR4, HB4⟩ := hcut
        clear x0 x1 x2 x3 x4 x5 x6 x7 x8 HR3 HS3 HB3 hlt3
        obtain ⟨x0, x1, x2, x3, x4, x5, x6, x7, x8⟩ := pr_all HR4.out.x
        have y2 := BL.free HR4.out.x 2
        have y3 := BL.free HR4.out.x 3
        have y4 := BL.free HR4.out.x 4
        cases bad with
        | true =>
          go_wp2_with fail
          go_roundg (2 - (i + 1))
          case measure => have := HJ.out; omega
          case rel =>
            refine ⟨i + 1, (g, r, e), rfl, ⟨by have := HJ.out; omega⟩, ⟨?_⟩, HR4, HB4⟩
            rw [HFOLD.out, stepQ, HGRE.out.1, HGRE.out.2.1, HGRE.out.2.2, if_pos HBAD.out]
        | false =>
          have ht4 : IntKind.i64.wrap (IntKind.i64.wrap r' - 1) = r' - 1 := by
            have hb := HBAD.out
            simp only [Bool.or_eq_false_iff, decide_eq_false_iff_not] at hb
            rw [i64_w, i64_w]; unfold wrap64; omega
          have ht5 : wrap64 (wrap64 r' - 1) = r' - 1 := by rw [← i64_w, ← i64_w]; exact ht4
          have hfin := BL.set (BL.set (BL.set HR4.out.x 2 (.int .u64 g')) 3 (.int .i64 (r' - 1))) 4 (.int .u64 e')
          have hfr : Fr (· = w.heap.size + 2) wc (((wc.setCell ⟨w.heap.size + 2, 2, none⟩ (.int .u64 g')).setCell ⟨w.heap.size + 2, 3, none⟩ (.int .i64 (r' - 1))).setCell ⟨w.heap.size + 2, 4, none⟩ (.int .u64 e')) := (((Fr.refl (· = w.heap.size + 2) wc).own 2 _).own 3 _).own 4 _
          have hro5 : RO w (((wc.setCell ⟨w.heap.size + 2, 2, none⟩ (.int .u64 g')).setCell ⟨w.heap.size + 2, 3, none⟩ (.int .i64 (r' - 1))).setCell ⟨w.heap.size + 2, 4, none⟩ (.int .u64 e')) (w.heap.size + 2) (dvC (.slice A (n * 4) c) (.slice A2 ps.length c2) left fu false) fi np (g', r' - 1, e') (w.heap.size + 1) :=
            ⟨hfin, HR4.out.d.fr hfr (by omega), HR4.out.z.fr hfr (by omega), hfr.to_below HR4.out.bl HR4.out.bl.size (fun k hk => by omega), HR4.out.ge, HR4.out.rg⟩
          have hb5 := HB4.out.trans hfr
          have HRO5 := Aside0.mk hro5
          have HB5 := Aside0.mk hb5
          have HT5 := Aside0.mk ht5
          clear ht4 ht5 hfin hfr hro5 hb5
          go_wp2_with fail
          go_roundg (2 - (i + 1))
          case measure => have := HJ.out; omega
          case rel =>
            refine ⟨i + 1, (g', r' - 1, e'), rfl, ⟨by have := HJ.out; omega⟩, ⟨?_⟩, ⟨?_⟩, ⟨?_⟩⟩
            · rw [HFOLD.out, stepQ, HGRE.out.1, HGRE.out.2.1, HGRE.out.2.2, if_neg (by rw [HBAD.out]; decide)]
            · rw [HT5.out]; exact HRO5.out
            · rw [HT5.out]; exact HB5.out
    · have k5 : ¬ (i : Int) < 2 := by omega
      obtain ⟨x0, x1, x2, x3, x4, x5, x6, x7, x8⟩ := pr_all HR.out.x
      have e2 : i = 2 := by have := HJ.out; omega
      subst e2
      have hst := HST.out
      simp only at x2 x3 x4
      go_wp2_with fail
      refine (ref_bare.calls (fi : Int) g r e np _ _ _ false wr (by omega)).mono ?_
      rintro en w5 ⟨uB, fB, dB, rfl, hU, hF, hD, hb5, hu5, hf5', hd5⟩
      unfold prC
      have hz := HR.out.z.keep hb5
      obtain ⟨z0, z1, z2, z3, z4, z5, z6, z7, z8⟩ := pr_all hz
      have f0 := BL.free hz 0
      have f1 := BL.free hz 1
      have f2 := BL.free hz 2
      have f3 := BL.free hz 3
      have f4 := BL.free hz 4
      have f5 := BL.free hz 5
      have f6 := BL.free hz 6
      have f7 := BL.free hz 7
      have f8 := BL.free hz 8
      obtain ⟨hz9, hf9⟩ := BL.nine hz (.int .i64 (fi : Int)) (.int .i64 ((np : Int) + 2)) (.int .u64 g) (.int .i64 r) (.int .u64 e) (.slice (some ⟨uB, 0, none⟩) np np) (.slice (some ⟨fB, 0, none⟩) np np) (.slice (some ⟨dB, 0, none⟩) np np) (.bool false)
      obtain ⟨w9, hw9⟩ : ∃ x, (((((((((w5.setCell ⟨w.heap.size + 1, 0, none⟩ (.int .i64 (fi : Int))).setCell ⟨w.heap.size + 1, 1, none⟩ (.int .i64 ((np : Int) + 2))).setCell ⟨w.heap.size + 1, 2, none⟩ (.int .u64 g)).setCell ⟨w.heap.size + 1, 3, none⟩ (.int .i64 r)).setCell ⟨w.heap.size + 1, 4, none⟩ (.int .u64 e)).setCell ⟨w.heap.size + 1, 5, none⟩ (.slice (some ⟨uB, 0, none⟩) np np)).setCell ⟨w.heap.size + 1, 6, none⟩ (.slice (some ⟨fB, 0, none⟩) np np)).setCell ⟨w.heap.size + 1, 7, none⟩ (.slice (some ⟨dB, 0, none⟩) np np)).setCell ⟨w.heap.size + 1, 8, none⟩ (.bool false)) = x := ⟨_, rfl⟩
      rw [hw9] at hz9 hf9
      obtain ⟨y0, y1, y2, y3, y4, y5, y6, y7, y8⟩ := pr_all hz9
      have HW9 := Aside0.mk hw9
      have HFIN : Aside0 (RL w9 (.slice (some ⟨uB, 0, none⟩) np np) (List.replicate np false) ∧ RL w9 (.slice (some ⟨fB, 0, none⟩) np np) (List.replicate np false) ∧ RL w9 (.slice (some ⟨dB, 0, none⟩) np np) (List.replicate np false) ∧ Below w.heap.size w w9) := ⟨.bare (hU.fr hf9 (by have := HR.out.z.lt; omega)), .bare (hF.fr hf9 (by have := HR.out.z.lt; omega)), .bare (hD.fr hf9 (by have := HR.out.z.lt; omega)), hf9.to_below (below_step HR.out.bl hb5) (by have := HR.out.bl.size; have := hb5.size; omega) (fun k hk => by omega)⟩
      clear hw9 hz9 hf9 hU hF hD hb5 hz x0 x1 x2 x3 x4 x5 x6 x7 x8
      have HST2 := Aside0.mk hst
      clear hst hu5 hf5' hd5
      go_wp2_with fail
      rw [HW9.out]
      refine bodyPost_ret (v := .tuple #[.agg (prC (fi : Int) ((np : Int) + 2) g r e (.slice (some ⟨uB, 0, none⟩) np np) (.slice (some ⟨fB, 0, none⟩) np np) (.slice (some ⟨dB, 0, none⟩) np np) false), .int .i64 0]) ?_ rfl ?_
      · simp [results, Try.results14, go_sem, y0, y1, y2, y3, y4, y5, y6, y7, y8, prC]
      · exact ⟨_, _, _, by rw [← HST2.out], HFIN.out⟩
set_option maxHeartbeats 2000000 in
set_option maxRecDepth 100000 in
theorem pager_told.wrong (N : Nat) (l : List UInt8) (n pages : Nat) (w : World) (h : BC w N l 106) (hl : l.length = 256) (hp : (pages : Int) < toldN l 8) (hpl : pages ≤ 4096) :
    Calls Try.prog 54 #[.slice (some ⟨N, 0, none⟩) 256 256, .int .i64 n, .int .i64 pages] w fun en w' => en = .returned (.tuple #[.agg #[.int .u64 0, .int .i64 0, .int .u64 0], .bool false]) ∧ Below w.heap.size w w' := by
  have H := Aside0.mk h
  obtain ⟨r, hr⟩ : ∃ x, toldN l 8 = x := ⟨_, rfl⟩
  have n8 : ∀ W, BC W N l 106 → Calls Try.prog 85 #[.slice (some ⟨N, 8, none⟩) 8 248] W fun e' w' => e' = .returned (.int .u64 r) ∧ W = w' := fun W h => hr ▸ number_at N 8 248 l W (Or.inr h) (by omega)
  rw [hr] at hp
  have M8 := Aside0.mk n8
  have h1 : IntKind.u64.wrap (pages : Int) = (pages : Int) := wraps_u64 _ (by omega) (by omega)
  have h2 : decide (r > (pages : Int)) = true := decide_eq_true hp
  clear n8 h hr
  go_enter Try.func54, Try.ntmps54
  go_wp2_with fail
  refine (M8.out _ (H.out.keep (al _))).mono ?_
  rintro e1 w1 ⟨rfl, rfl⟩
  go_wp2_with fail
  exact bodyPost_ret (v := .tuple #[.agg #[.int .u64 0, .int .i64 0, .int .u64 0], .bool false]) (by simp [results, Try.results54, go_sem]) rfl ⟨rfl, al _⟩
/-- Is what stands in a block a state? -/
def goodT (l : List UInt8) (n pages : Nat) : Bool := decide (toldN l 8 ≤ (pages : Int)) && (decide (toldN l 0 > 0) && (toldN l 0 % 2 == (n : Int)) && decide ((headL (toldN l 0) (toldN l 8 - 1) (toldN l 16)).take 64 = l.take 64))
def ToldA (w : World) (l : List UInt8) (n pages : Nat) (en : Ending) (w' : World) : Prop := ∃ (g r e : Int), en = .returned (.tuple #[.agg #[.int .u64 g, .int .i64 r, .int .u64 e], .bool (goodT l n pages)]) ∧ (goodT l n pages = true → g = toldN l 0 ∧ r = toldN l 8 - 1 ∧ e = toldN l 16) ∧ Below w.heap.size w w'
theorem pager_told.any (N : Nat) (l : List UInt8) (n pages : Nat) (w : World) (h : BC w N l 106) (hl : l.length = 256) (hpl : pages ≤ 4096) (hnl : n < 2) :
    Calls Try.prog 54 #[.slice (some ⟨N, 0, none⟩) 256 256, .int .i64 n, .int .i64 pages] w (ToldA w l n pages) := by
  by_cases hp : toldN l 8 ≤ (pages : Int)
  · have hb : (decide (toldN l 0 > 0) && (toldN l 0 % 2 == (n : Int)) && decide ((headL (toldN l 0) (toldN l 8 - 1) (toldN l 16)).take 64 = l.take 64)) = goodT l n pages := by
      unfold goodT
      rw [decide_eq_true hp, Bool.true_and]
    refine (pager_told.calls N l n pages _ _ _ w h hl rfl rfl rfl (toldN_rg l 8).1 hp hpl hnl _ hb).mono ?_
    rintro en w' ⟨rfl, hbl⟩
    exact ⟨_, _, _, rfl, fun _ => ⟨rfl, rfl, rfl⟩, hbl⟩
  · have hb : goodT l n pages = false := by
      unfold goodT
      rw [decide_eq_false hp, Bool.false_and]
    refine (pager_told.wrong N l n pages w h hl (by omega) hpl).mono ?_
    rintro en w' ⟨rfl, hbl⟩
    exact ⟨_, _, _, by rw [hb], (fun hc => absurd (hb ▸ hc) (by decide)), hbl⟩
def stepG (np : Nat) (l : List UInt8) (n : Nat) (st : Int × Int × Int) : Int × Int × Int :=
  if (goodT l n np && decide (toldN l 0 > st.1)) = true then (toldN l 0, toldN l 8 - 1, toldN l 16) else st
def foldG (now : List UInt8) (fi np : Nat) : Nat → Int × Int × Int
  | 0 => (0, -1, 1)
  | i + 1 => stepG np (nthB now (fi + i)) i (foldG now fi np i)
set_option maxHeartbeats 4000000 in
set_option maxRecDepth 100000 in
theorem pager_Open.any (w : World) (d N S n : Nat) (now safe : List UInt8) (ps : List (Nat × Nat × List UInt8)) (P : Value) (fu : Bool) (lf : Int) (fi np : Nat) (h : Dk w d N S n now safe ps P fu lf false) (hn : n ≤ 4096) (hnp : 1 ≤ np) (hrg : fi + 2 + np ≤ n) :
    Calls Try.prog 13 #[.pointer (some ⟨d, 0, none⟩), .int .i64 fi, .int .i64 (np + 2 : Nat)] w (OpenP w d N S n now safe ps P fu lf fi np (foldG now fi np 2)) := by
  have H := Aside0.mk h
  have k1 : decide ((fi : Int) < 0) = false := decide_eq_false (by omega)
  have k2 : decide (((np + 2 : Nat) : Int) < 3) = false := decide_eq_false (by omega)
  have k3 : decide (((np + 2 : Nat) : Int) > (n : Int)) = false := decide_eq_false (by omega)
  have k4 : decide ((fi : Int) > (n : Int) - ((np + 2 : Nat) : Int)) = false := decide_eq_false (by omega)
  clear h
  go_enter Try.func13, Try.ntmps13
  go_wp2_with fail
  refine (disk_Blocks.calls d (some ⟨N, 0, none⟩) n n _ P fu false lf _ H.out.d).mono ?_
  rintro en w1 ⟨rfl, rfl⟩
  go_wp2_with fail
  have hnb := hnp
  have hb0 := BL.new w (obC 0 (-1) 1 d fi np) 115
  have ho0 : Below w.heap.size w (w.alloc (.cells (obC 0 (-1) 1 d fi np) 115)) := al _
  have HB0 := Aside0.mk hb0
  have HO0 := Aside0.mk ho0
  clear hb0 ho0
  go_loopg [42] 2 (fun kq v42 wr => ∃ (i : Nat) (g r e : Int), v42 = .int .i64 i ∧ Aside0 (kq + i = 2) ∧ Aside0 ((g, r, e) = foldG now fi np i) ∧ Aside0 (BL wr w.heap.size (obC g r e d fi np) 115) ∧ Aside0 (Below w.heap.size w wr))
  case atStart => exact ⟨0, 0, -1, 1, rfl, ⟨rfl⟩, ⟨rfl⟩, HB0, HO0⟩
  case round =>
    obtain ⟨i, g, r, e, rfl, HJ, HST, HB, HO⟩ := hrel
    by_cases hi : i < 2
    · have k5 : (i : Int) < 2 := by omega
      have hrd := disk_Read.calls d N n now (.slice (some ⟨S, 0, none⟩) n n) P fu lf (fi + i) wr (BL.keep H.out.d HO.out) (BL.keep H.out.bn HO.out) H.out.ln (by omega)
      rw [show ((fi + i : Nat) : Int) = (fi : Int) + (i : Int) from by omega] at hrd
      have hln := nthB_len H.out.ln (show fi + i < n by omega)
      obtain ⟨l, hl⟩ : ∃ x, nthB now (fi + i) = x := ⟨_, rfl⟩
      rw [hl] at hrd hln
      have HRD := Aside0.mk hrd
      have HL := Aside0.mk hl
      clear hrd hl
      go_wp2_with fail
      refine HRD.out.mono ?_
      rintro en w2 ⟨B, rfl, hBz, hBC, hbl2⟩
      have hB2 := HB.out.keep hbl2
      have c5 := hB2.cell 5
      simp only [obC, List.getElem?_toArray, List.getElem?_cons_zero, List.getElem?_cons_succ] at c5
      have htd := pager_told.any B l i np w2 hBC hln (by omega) hi
      obtain ⟨b, hb⟩ : ∃ b, goodT l i np = b := ⟨_, rfl⟩
      unfold ToldA at htd
      rw [hb] at htd
      have HTD := Aside0.mk htd
      have HB2 := Aside0.mk hB2
      have HO2 := Aside0.mk (below_step HO.out hbl2)
      have HBB := Aside0.mk hb
      clear htd hB2 hbl2 hBC hb
      go_wp2_with fail
      refine HTD.out.mono ?_
      rintro en w3 ⟨g', r', e', rfl, hgre, hbl3⟩
      have HGRE := Aside0.mk hgre
      clear hgre
      have hB3 := HB2.out.keep hbl3
      have hq := BL.new w3 #[Value.int IntKind.u64 g', Value.int IntKind.i64 r', Value.int IntKind.u64 e'] 111
      have hB4 := hB3.keep (al (Obj.cells #[Value.int IntKind.u64 g', Value.int IntKind.i64 r', Value.int IntKind.u64 e'] 111))
      have hO4 := below_step (below_step HO2.out hbl3) (al (Obj.cells #[Value.int IntKind.u64 g', Value.int IntKind.i64 r', Value.int IntKind.u64 e'] 111))
      obtain ⟨w4, hw4⟩ : ∃ x, w3.alloc (Obj.cells #[Value.int IntKind.u64 g', Value.int IntKind.i64 r', Value.int IntKind.u64 e'] 111) = x := ⟨_, rfl⟩
      have hpq : w.heap.size < w3.heap.size := BL.lt hB3
      have HW4 := Aside0.mk hw4
      rw [hw4] at hq hB4 hO4
      have HB4 := Aside0.mk hB4
      have HQ := Aside0.mk hq
      have HO4 := Aside0.mk hO4
      clear hB3 hq hB4 hO4 hw4 hbl3
      go_wp2_with fail
      rw [HW4.out]
      have q0 := HQ.out.cell 0
      have q1 := HQ.out.cell 1
      have q2 := HQ.out.cell 2
      have p0 := HB4.out.cell 0
      have p1 := HB4.out.cell 1
      have p2 := HB4.out.cell 2
      have pf0 := BL.free HB4.out 0
      have pf1 := BL.free HB4.out 1
      have pf2 := BL.free HB4.out 2
      simp only [obC, List.getElem?_toArray, List.getElem?_cons_zero, List.getElem?_cons_succ] at q0 q1 q2 p0 p1 p2
      have hne1 : ¬ w3.heap.size = w.heap.size := by omega
      have hne2 : ¬ w.heap.size = w3.heap.size := by omega
      cases b with
      | true =>
        by_cases hgt : g < g'
        · have d1 : decide (g < g') = true := decide_eq_true hgt
          have d2 : decide (g' > g) = true := decide_eq_true hgt
          go_quiet (fail)
          go_wp2_with fail
          go_roundg (2 - (i + 1))
          case measure => have := HJ.out; omega
          case rel => exact ⟨i + 1, g', r', e', rfl, ⟨by have := HJ.out; omega⟩, ⟨by obtain ⟨z1, z2, z3⟩ := HGRE.out trivial; rw [foldG, HL.out, ← HST.out, stepG, ← z1, ← z2, ← z3, HBB.out]; show _ = if (true && decide (g' > g)) = true then _ else _; rw [d2]; rfl⟩, ⟨BL.set (BL.set (BL.set (HB4.out.drN _) 0 _) 1 _) 2 _⟩, ⟨below_three (Below.drN HO4.out _) _ (Nat.le_refl _) _ _ _⟩⟩
        · have d1 : decide (g < g') = false := decide_eq_false hgt
          have d2 : decide (g' > g) = false := decide_eq_false hgt
          go_quiet (fail)
          go_wp2_with fail
          go_roundg (2 - (i + 1))
          case measure => have := HJ.out; omega
          case rel => exact ⟨i + 1, g, r, e, rfl, ⟨by have := HJ.out; omega⟩, ⟨by obtain ⟨z1, z2, z3⟩ := HGRE.out trivial; rw [foldG, HL.out, ← HST.out, stepG, ← z1, ← z2, ← z3, HBB.out]; show _ = if (true && decide (g' > g)) = true then _ else _; rw [d2]; rfl⟩, ⟨HB4.out.drN _⟩, ⟨Below.drN HO4.out _⟩⟩
      | false =>
        go_quiet (fail)
        go_wp2_with fail
        go_roundg (2 - (i + 1))
        case measure => have := HJ.out; omega
        case rel => exact ⟨i + 1, g, r, e, rfl, ⟨by have := HJ.out; omega⟩, ⟨by rw [foldG, HL.out, ← HST.out, stepG, HBB.out]; rfl⟩, ⟨HB4.out.drN _⟩, ⟨Below.drN HO4.out _⟩⟩
    · have k5 : ¬ (i : Int) < 2 := by omega
      have e2 : i = 2 := by have := HJ.out; omega
      have hst : (g, r, e) = foldG now fi np 2 := by rw [← e2]; exact HST.out
      have HS2 := Aside0.mk hst
      have c5 := HB.out.cell 5
      simp only [obC, List.getElem?_toArray, List.getElem?_cons_zero, List.getElem?_cons_succ] at c5
      clear e2 hst
      go_wp2_with fail
      refine (space_New.calls np _ hnb (by omega)).mono ?_
      rintro en w2 ⟨s, TB, F, rfl, hs, hT, ho, hs1, hs2, hT1, hT2, hne, hbl2⟩
      have hB2 := HB.out.keep hbl2
      have c6 := hB2.cell 6
      have f6 := BL.free hB2 6
      simp only [obC, List.getElem?_toArray, List.getElem?_cons_zero, List.getElem?_cons_succ] at c6
      have HSP := Aside0.mk (sp_new (w := wr) (by omega) hs hT ho hs2 hT2 hne)
      have HB2 := Aside0.mk hB2
      have HO2 := Aside0.mk (below_step HO.out hbl2)
      have HZ : Aside0 (w.heap.size < wr.heap.size ∧ wr.heap.size ≤ s ∧ wr.heap.size ≤ TB) := ⟨BL.lt HB.out, hs1, hT1⟩
      have HFB : Aside0 (∀ k, F.ownBlock = some k → wr.heap.size ≤ k) := ⟨fun k hk => by have := (ho.lt k hk).1; omega⟩
      clear hs hT ho hs1 hs2 hT1 hT2 hne hbl2 hB2
      go_wp2_with fail
      have hpb3 : PB (w2.setCell ⟨w.heap.size, 6, none⟩ (.pointer (some ⟨s, 0, none⟩))) w.heap.size g r e d fi np s (.map none) (.slice none 0 0) false := BL.set HB2.out 6 _
      have hf3 : Fr (· = w.heap.size) w2 (w2.setCell ⟨w.heap.size, 6, none⟩ (.pointer (some ⟨s, 0, none⟩))) := (Fr.refl (· = w.heap.size) w2).own 6 _
      obtain ⟨w3, hw3⟩ : ∃ x, w2.setCell ⟨w.heap.size, 6, none⟩ (.pointer (some ⟨s, 0, none⟩)) = x := ⟨_, rfl⟩
      rw [hw3] at hpb3 hf3 ⊢
      have HF3 := Aside0.mk hf3
      clear hw3 hf3
      refine (pager_settle.calls w3 w.heap.size g r e d fi np s _ _ false hpb3).mono ?_
      rintro en w4 ⟨rfl, M, hpb4, hfm4, hM, hf4⟩
      have hF34 := HF3.out.trans hf4
      have hz := HZ.out
      have hSk : ∀ k, SpF s TB F k → wr.heap.size ≤ k := fun k hk => by
        rcases hk with hk | hk | hk
        · omega
        · omega
        · exact HFB.out k hk
      have hMs : w2.heap.size ≤ M := Nat.le_trans HF3.out.size hM
      have hDl : ∀ k, DkF d N S P k → k < w.heap.size := fun k hk => H.out.lt k hk
      have hO4 : Below w.heap.size w w4 := Fr.to_below HO2.out hF34 HO2.out.size (fun q hq => by omega)
      have hps : PS w4 { p := w.heap.size, M := M, m := 0, f := fun _ => false, g := g, r := r, e := e, fi := fi, dr := .slice none 0 0, br := false, d := d, N := N, S := S, n := n, now := now, safe := safe, ps := ps, P := P, fu := fu, lf := lf, off := false, s := s, TB := TB, np := np, c := np, T := List.replicate np false, F := F, fl := freeL (List.replicate np false) np } :=
        { pb := hpb4
          fm := hfm4
          dk := H.out.fr (Fr.of_below (G := fun _ => False) hO4) (fun _ _ e => e)
          sp := HSP.out.fr hF34 (fun k hk e => by have := hSk k hk; omega)
          pm := by show w.heap.size ≠ M; have := HO2.out.size; have := BL.lt HB2.out; omega
          dx := fun k hk => by
            have := hDl k hk
            show k ≠ w.heap.size ∧ k ≠ M ∧ ¬ SpF s TB F k
            have := HO2.out.size
            exact ⟨by omega, by omega, fun e => by have := hSk k e; omega⟩
          sx := fun k hk => by
            have := hSk k hk
            have := HSP.out.lt' k hk
            show k ≠ w.heap.size ∧ k ≠ M
            exact ⟨by omega, by omega⟩
          nb := hn
          rg := hrg }
      have HKB : Aside0 (∀ k, (k = w.heap.size ∨ k = M ∨ SpF s TB F k) → w.heap.size ≤ k) := ⟨fun k hk => by
        rcases hk with hk | hk | hk
        · omega
        · have := HO2.out.size; omega
        · have := hSk k hk; omega⟩
      have HPS := Aside0.mk hps
      have HO4 := Aside0.mk hO4
      clear hps hO4 hDl hMs hSk hz hF34 hpb4 hfm4 hM hf4 hpb3
      go_wp2_with fail
      exact bodyPost_ret (v := .tuple #[.pointer (some ⟨w.heap.size, 0, none⟩), .int .i64 0]) (by simp [results, Try.results13, go_sem]) rfl ⟨_, rfl, HPS.out, HO4.out, rfl, rfl, HS2.out, rfl, rfl, rfl, rfl, rfl, rfl, rfl, rfl, rfl, rfl, rfl, rfl, rfl, rfl, rfl, rfl, rfl, HKB.out⟩
def OpenBad (n : Nat) (fi sz : Int) : Prop := fi < 0 ∨ sz < 3 ∨ (n : Int) < sz ∨ (n : Int) - sz < fi
set_option maxHeartbeats 2000000 in
set_option maxRecDepth 100000 in
theorem pager_Open.bad (w : World) (d n c : Nat) (A : Option Addr) (S P : Value) (fu of : Bool) (lf fi sz : Int) (h : DB w d (.slice A n c) S P fu lf of) (hn : n ≤ 4096) (hb : OpenBad n fi sz) :
    Calls Try.prog 13 #[.pointer (some ⟨d, 0, none⟩), .int .i64 fi, .int .i64 sz] w fun en w' => en = .returned (.tuple #[.pointer none, .int .i64 1]) ∧ Below w.heap.size w w' := by
  have H := Aside0.mk h
  clear h
  by_cases b0 : fi < 0
  · have d0 : decide (fi < 0) = true := decide_eq_true b0
    clear hb
    go_enter Try.func13, Try.ntmps13
    go_wp2_with fail
    refine (disk_Blocks.calls d A n c S P fu of lf _ H.out).mono ?_
    rintro en w1 ⟨rfl, rfl⟩
    go_wp2_with fail
    exact bodyPost_ret (v := .tuple #[.pointer none, .int .i64 1]) (by simp [results, Try.results13, go_sem]) rfl ⟨rfl, Below.refl _ _⟩
  · have d0 : decide (fi < 0) = false := decide_eq_false b0
    by_cases b1 : sz < 3
    · have d1 : decide (sz < 3) = true := decide_eq_true b1
      clear hb
      go_enter Try.func13, Try.ntmps13
      go_wp2_with fail
      refine (disk_Blocks.calls d A n c S P fu of lf _ H.out).mono ?_
      rintro en w1 ⟨rfl, rfl⟩
      go_wp2_with fail
      exact bodyPost_ret (v := .tuple #[.pointer none, .int .i64 1]) (by simp [results, Try.results13, go_sem]) rfl ⟨rfl, Below.refl _ _⟩
    · have d1 : decide (sz < 3) = false := decide_eq_false b1
      by_cases b2 : (n : Int) < sz
      · have d2 : decide (sz > (n : Int)) = true := decide_eq_true b2
        clear hb
        go_enter Try.func13, Try.ntmps13
        go_wp2_with fail
        refine (disk_Blocks.calls d A n c S P fu of lf _ H.out).mono ?_
        rintro en w1 ⟨rfl, rfl⟩
        go_wp2_with fail
        exact bodyPost_ret (v := .tuple #[.pointer none, .int .i64 1]) (by simp [results, Try.results13, go_sem]) rfl ⟨rfl, Below.refl _ _⟩
      · have d2 : decide (sz > (n : Int)) = false := decide_eq_false b2
        have b3 : (n : Int) - sz < fi := by unfold OpenBad at hb; omega
        have d3 : decide (fi > (n : Int) - sz) = true := decide_eq_true b3
        clear hb
        go_enter Try.func13, Try.ntmps13
        go_wp2_with fail
        refine (disk_Blocks.calls d A n c S P fu of lf _ H.out).mono ?_
        rintro en w1 ⟨rfl, rfl⟩
        go_wp2_with fail
        exact bodyPost_ret (v := .tuple #[.pointer none, .int .i64 1]) (by simp [results, Try.results13, go_sem]) rfl ⟨rfl, Below.refl _ _⟩
def ROBadP (w : World) (en : Ending) (w' : World) : Prop := en = .returned (.tuple #[.agg (prC 0 0 0 0 0 (.slice none 0 0) (.slice none 0 0) (.slice none 0 0) false), .int .i64 1]) ∧ Below w.heap.size w w'
set_option maxHeartbeats 2000000 in
set_option maxRecDepth 100000 in
theorem ref_Open.bad (w : World) (n c : Nat) (A : Option Addr) (VL : Value) (left : Int) (fu off : Bool) (fi sz : Int) (hn : n ≤ 4096) (hb : OpenBad n fi sz) :
    Calls Try.prog 14 #[.agg (dvC (.slice A (n * 4) c) VL left fu off), .int .i64 fi, .int .i64 sz] w (ROBadP w) := by
  have k0 : ((n : Int) * 4).tdiv 4 = (n : Int) := Int.mul_tdiv_cancel _ (by decide)
  unfold dvC
  by_cases b0 : fi < 0
  · have d0 : decide (fi < 0) = true := decide_eq_true b0
    clear hb
    go_enter Try.func14, Try.ntmps14
    go_wp2_with fail
    exact bodyPost_ret (v := .tuple #[.agg (prC 0 0 0 0 0 (.slice none 0 0) (.slice none 0 0) (.slice none 0 0) false), .int .i64 1]) (by simp [results, Try.results14, go_sem, prC]) rfl ⟨rfl, below_step (al _) (al _)⟩
  · have d0 : decide (fi < 0) = false := decide_eq_false b0
    by_cases b1 : sz < 3
    · have d1 : decide (sz < 3) = true := decide_eq_true b1
      clear hb
      go_enter Try.func14, Try.ntmps14
      go_wp2_with fail
      exact bodyPost_ret (v := .tuple #[.agg (prC 0 0 0 0 0 (.slice none 0 0) (.slice none 0 0) (.slice none 0 0) false), .int .i64 1]) (by simp [results, Try.results14, go_sem, prC]) rfl ⟨rfl, below_step (al _) (al _)⟩
    · have d1 : decide (sz < 3) = false := decide_eq_false b1
      by_cases b2 : (n : Int) < sz
      · have d2 : decide (sz > (n : Int)) = true := decide_eq_true b2
        clear hb
        go_enter Try.func14, Try.ntmps14
        go_wp2_with fail
        exact bodyPost_ret (v := .tuple #[.agg (prC 0 0 0 0 0 (.slice none 0 0) (.slice none 0 0) (.slice none 0 0) false), .int .i64 1]) (by simp [results, Try.results14, go_sem, prC]) rfl ⟨rfl, below_step (al _) (al _)⟩
      · have d2 : decide (sz > (n : Int)) = false := decide_eq_false b2
        have b3 : (n : Int) - sz < fi := by unfold OpenBad at hb; omega
        have d3 : decide (fi > (n : Int) - sz) = true := decide_eq_true b3
        clear hb
        go_enter Try.func14, Try.ntmps14
        go_wp2_with fail
        exact bodyPost_ret (v := .tuple #[.agg (prC 0 0 0 0 0 (.slice none 0 0) (.slice none 0 0) (.slice none 0 0) false), .int .i64 1]) (by simp [results, Try.results14, go_sem, prC]) rfl ⟨rfl, below_step (al _) (al _)⟩
theorem flat_len (l : List (List UInt8)) (h : ∀ s ∈ l, s.length = 64) : l.flatten.length = l.length * 64 := by
  induction l with
  | nil => rfl
  | cons a r ih =>
    rw [List.flatten_cons, List.length_append, ih (fun s hs => h s (List.mem_cons_of_mem _ hs)), h a (List.mem_cons_self ..), List.length_cons]
    omega
theorem flat_drop (l : List (List UInt8)) (h : ∀ s ∈ l, s.length = 64) : ∀ (i : Nat), i ≤ l.length → l.flatten.drop (i * 64) = (l.drop i).flatten := by
  induction l with
  | nil => intro i hi; simp
  | cons a r ih =>
    intro i hi
    cases i with
    | zero => simp
    | succ i =>
      have ha := h a (List.mem_cons_self ..)
      rw [List.flatten_cons, List.drop_succ_cons, show (i + 1) * 64 = a.length + i * 64 from by omega, ← List.drop_drop, List.drop_left]
      exact ih (fun s hs => h s (List.mem_cons_of_mem _ hs)) i (by simpa using hi)
theorem flat_take (l : List (List UInt8)) (h : ∀ s ∈ l, s.length = 64) : ∀ (i : Nat), i ≤ l.length → l.flatten.take (i * 64) = (l.take i).flatten := by
  induction l with
  | nil => intro i hi; simp
  | cons a r ih =>
    intro i hi
    cases i with
    | zero => simp
    | succ i =>
      have ha := h a (List.mem_cons_self ..)
      rw [List.flatten_cons, List.take_succ_cons, List.flatten_cons, show (i + 1) * 64 = a.length + i * 64 from by omega, List.take_length_add_append]
      rw [ih (fun s hs => h s (List.mem_cons_of_mem _ hs)) i (by simpa using hi)]
theorem flat_at64 (l : List (List UInt8)) (h : ∀ s ∈ l, s.length = 64) (i : Nat) (hi : i < l.length) : (l.flatten.drop (i * 64)).take 64 = l[i] := by
  rw [flat_drop l h i (by omega), List.drop_eq_getElem_cons hi, List.flatten_cons]
  have := h l[i] (List.getElem_mem hi)
  rw [← this, List.take_left]
theorem flat_set (l : List (List UInt8)) (h : ∀ s ∈ l, s.length = 64) (i : Nat) (hi : i < l.length) (s : List UInt8) (hs : s.length = 64) : (l.set i s).flatten = lay l.flatten (i * 64) s := by
  rw [List.set_eq_take_append_cons_drop, if_pos hi, List.flatten_append, List.flatten_cons]
  unfold lay
  rw [flat_take l h i (by omega), hs, show i * 64 + 64 = (i + 1) * 64 from by omega, flat_drop l h (i + 1) (by omega)]
theorem lay_app (l : List UInt8) (o : Nat) (a b : List UInt8) (h : o + a.length + b.length ≤ l.length) : lay l o (a ++ b) = lay (lay l o a) (o + a.length) b := by
  unfold lay
  have h1 : (l.take o).length = o := by rw [List.length_take]; omega
  have e1 : (l.take o ++ (a ++ l.drop (o + a.length))).take (o + a.length) = l.take o ++ a := by
    rw [← List.append_assoc, List.take_append_of_le_length (by rw [List.length_append, h1]; omega), List.take_of_length_le (by rw [List.length_append, h1]; omega)]
  have e2 : (l.take o ++ (a ++ l.drop (o + a.length))).drop (o + a.length + b.length) = l.drop (o + (a ++ b).length) := by
    rw [← List.append_assoc, List.drop_append, List.drop_of_length_le (by rw [List.length_append, h1]; omega), List.nil_append, List.drop_drop, List.length_append, List.length_append, h1]
    congr 1
    omega
  rw [e1, e2]
  simp
theorem chunk_len (b : List UInt8) (h : b.length = 256) (i : Nat) (hi : i < 4) : (chunk b i).length = 64 := by
  unfold chunk
  rw [List.length_take, List.length_drop]
  omega
theorem chunks (b : List UInt8) (h : b.length = 256) : b = chunk b 0 ++ (chunk b 1 ++ (chunk b 2 ++ chunk b 3)) := by
  unfold chunk
  have e3 : (b.drop (3 * 64)).take 64 = b.drop (3 * 64) := List.take_of_length_le (by rw [List.length_drop]; omega)
  have st : ∀ i, b.drop (i * 64) = (b.drop (i * 64)).take 64 ++ b.drop ((i + 1) * 64) := fun i => by
    have := (List.take_append_drop 64 (b.drop (i * 64))).symm
    rw [List.drop_drop] at this
    rw [show (i + 1) * 64 = i * 64 + 64 from by omega]
    exact this
  rw [e3, ← st 2, ← st 1]
  simp
/-- The bytes of a disk, and the document's sectors. -/
structure Rl (n : Nat) (now : List UInt8) (safe : List (List UInt8)) (ps : List (Nat × List UInt8)) : Prop where
  nw : now = (nowR safe ps).flatten
  sl : safe.length = n * 4
  s64 : ∀ s ∈ safe, s.length = 64
  p64 : ∀ p ∈ ps, p.1 < n * 4 ∧ p.2.length = 64
theorem nowR64 (ps : List (Nat × List UInt8)) : ∀ (safe : List (List UInt8)), (∀ s ∈ safe, s.length = 64) → (∀ p ∈ ps, p.2.length = 64) → ∀ s ∈ nowR safe ps, s.length = 64 := by
  induction ps with
  | nil => intro safe h _; exact h
  | cons p r ih =>
    intro safe h hp
    refine ih (safe.set p.1 p.2) (fun s hs => ?_) (fun q hq => hp q (List.mem_cons_of_mem _ hq))
    rcases List.mem_or_eq_of_mem_set hs with h1 | h1
    · exact h s h1
    · rw [h1]; exact hp p (List.mem_cons_self ..)
theorem Rl.all64 {n : Nat} {now : List UInt8} {safe : List (List UInt8)} {ps : List (Nat × List UInt8)} (h : Rl n now safe ps) : ∀ s ∈ nowR safe ps, s.length = 64 := nowR64 ps safe h.s64 (fun p hp => (h.p64 p hp).2)
theorem Rl.len {n : Nat} {now : List UInt8} {safe : List (List UInt8)} {ps : List (Nat × List UInt8)} (h : Rl n now safe ps) : (nowR safe ps).length = n * 4 := (nowR_len ps safe).trans h.sl
theorem Rl.nlen {n : Nat} {now : List UInt8} {safe : List (List UInt8)} {ps : List (Nat × List UInt8)} (h : Rl n now safe ps) : now.length = n * 256 := by rw [h.nw, flat_len _ h.all64, h.len]; omega
theorem nowR_app (safe : List (List UInt8)) (ps qs : List (Nat × List UInt8)) : nowR safe (ps ++ qs) = nowR (nowR safe ps) qs := List.foldl_append ..
theorem set64 {l : List (List UInt8)} (h : ∀ s ∈ l, s.length = 64) (i : Nat) (s : List UInt8) (hs : s.length = 64) : ∀ t ∈ l.set i s, t.length = 64 := fun t ht => by
  rcases List.mem_or_eq_of_mem_set ht with h1 | h1
  · exact h t h1
  · rw [h1]; exact hs
theorem Rl.write {n : Nat} {now : List UInt8} {safe : List (List UInt8)} {ps : List (Nat × List UInt8)} (h : Rl n now safe ps) (i : Nat) (hi : i < n) (b : List UInt8) (hb : b.length = 256) : Rl n (lay now (i * 256) b) safe (ps ++ pcR i b 4) := by
  have c0 := chunk_len b hb 0 (by decide)
  have c1 := chunk_len b hb 1 (by decide)
  have c2 := chunk_len b hb 2 (by decide)
  have c3 := chunk_len b hb 3 (by decide)
  refine ⟨?_, h.sl, h.s64, fun p hp => ?_⟩
  · rw [nowR_app, h.nw]
    obtain ⟨l, hl⟩ : ∃ l, nowR safe ps = l := ⟨_, rfl⟩
    have h64 := h.all64
    have hln := h.len
    rw [hl] at h64 hln ⊢
    have e : nowR l (pcR i b 4) = (((l.set (i * 4 + 0) (chunk b 0)).set (i * 4 + 1) (chunk b 1)).set (i * 4 + 2) (chunk b 2)).set (i * 4 + 3) (chunk b 3) := rfl
    have h1 := set64 h64 (i * 4 + 0) _ c0
    have h2 := set64 h1 (i * 4 + 1) _ c1
    have h3 := set64 h2 (i * 4 + 2) _ c2
    have hfl := flat_len l h64
    rw [e, flat_set _ h3 _ (by simp only [List.length_set]; omega) _ c3, flat_set _ h2 _ (by simp only [List.length_set]; omega) _ c2, flat_set _ h1 _ (by simp only [List.length_set]; omega) _ c1, flat_set _ h64 _ (by omega) _ c0]
    conv => lhs; rw [chunks b hb]
    rw [lay_app _ _ _ _ (by simp only [List.length_append]; omega)]
    have l0 := lay_len l.flatten (i * 256) (chunk b 0) (by omega)
    rw [lay_app _ _ _ _ (by simp only [List.length_append]; omega)]
    have l1 := lay_len (lay l.flatten (i * 256) (chunk b 0)) (i * 256 + (chunk b 0).length) (chunk b 1) (by omega)
    rw [lay_app _ _ _ _ (by omega), c0, c1, c2]
    rw [show (i * 4 + 0) * 64 = i * 256 from by omega, show (i * 4 + 1) * 64 = i * 256 + 64 from by omega, show (i * 4 + 2) * 64 = i * 256 + 64 + 64 from by omega, show (i * 4 + 3) * 64 = i * 256 + 64 + 64 + 64 from by omega]
  · rcases List.mem_append.1 hp with hp | hp
    · exact h.p64 p hp
    · simp only [pcR, List.nil_append, List.mem_append, List.mem_singleton] at hp
      rcases hp with ((rfl | rfl) | rfl) | rfl
      · exact ⟨by show i * 4 + 0 < _; omega, c0⟩
      · exact ⟨by show i * 4 + 1 < _; omega, c1⟩
      · exact ⟨by show i * 4 + 2 < _; omega, c2⟩
      · exact ⟨by show i * 4 + 3 < _; omega, c3⟩
theorem Rl.new (n : Nat) : Rl n (List.replicate (n * 256) 0) (List.replicate (n * 4) zn) [] := by
  refine ⟨?_, List.length_replicate, fun s hs => by rw [(List.mem_replicate.1 hs).2]; exact List.length_replicate, fun p hp => by cases hp⟩
  show _ = (List.replicate (n * 4) zn).flatten
  unfold zn
  rw [List.flatten_replicate_replicate, show n * 4 * 64 = n * 256 from by omega]
theorem nth64 {n : Nat} {now : List UInt8} {safe : List (List UInt8)} {ps : List (Nat × List UInt8)} (h : Rl n now safe ps) (i : Nat) (hi : i < n) : (nowR safe ps).getD (i * 4) [] = (nthB now i).take 64 := by
  have hl := h.len
  have hi4 : i * 4 < (nowR safe ps).length := by omega
  rw [List.getD_eq_getElem?_getD, List.getElem?_eq_getElem hi4]
  show (nowR safe ps)[i * 4] = _
  rw [← flat_at64 _ h.all64 (i * 4) hi4, ← h.nw]
  unfold nthB
  rw [List.take_take, show i * 4 * 64 = i * 256 from by omega]
  rfl
theorem told64 (l : List UInt8) (o : Nat) (ho : o + 8 ≤ 64) : toldN (l.take 64) o = toldN l o := by
  unfold toldN
  rw [List.drop_take, List.take_take, show min 8 (64 - o) = 8 from by omega]
theorem fold_ref {n : Nat} {now : List UInt8} {safe : List (List UInt8)} {ps : List (Nat × List UInt8)} (h : Rl n now safe ps) (fi np : Nat) (hrg : fi + 2 ≤ n) (i : Nat) (hi : i ≤ 2) : foldG now fi np i = foldQ (nowR safe ps) fi np i ∧ 0 ≤ (foldG now fi np i).1 := by
  induction i with
  | zero => exact ⟨rfl, Int.le_refl 0⟩
  | succ i ih =>
    obtain ⟨e, h0⟩ := ih (by omega)
    rw [foldG, foldQ, ← e, nth64 h (fi + i) (by omega)]
    obtain ⟨l, hl⟩ : ∃ l, nthB now (fi + i) = l := ⟨_, rfl⟩
    obtain ⟨st, hst⟩ : ∃ st, foldG now fi np i = st := ⟨_, rfl⟩
    rw [hl, hst]
    rw [hst] at h0
    unfold stepG stepQ goodT
    rw [told64 l 0 (by decide), told64 l 8 (by decide), told64 l 16 (by decide), headL_ref]
    have g0 := toldN_rg l 0
    by_cases b1 : toldN l 0 ≤ st.1
    · have d : decide (toldN l 0 > st.1) = false := decide_eq_false (by omega)
      rw [d, decide_eq_true b1]
      simp only [Bool.and_false, Bool.true_or, if_true, Bool.false_eq_true, if_false]
      exact ⟨trivial, h0⟩
    · have d : decide (toldN l 0 > st.1) = true := decide_eq_true (by omega)
      have d2 : decide (toldN l 0 > 0) = true := decide_eq_true (by omega)
      rw [d, d2, decide_eq_false b1]
      by_cases b2 : toldN l 8 ≤ (np : Int)
      · have d3 : decide (toldN l 8 > (np : Int)) = false := decide_eq_false (by omega)
        rw [d3, decide_eq_true b2]
        cases (toldN l 0 % 2 == (i : Int)) <;> cases decide (rHead (toldN l 0) (toldN l 8 - 1) (toldN l 16) = l.take 64) <;> simp <;> omega
      · have d3 : decide (toldN l 8 > (np : Int)) = true := decide_eq_true (by omega)
        rw [d3, decide_eq_false b2]
        simp
        exact h0
structure OfV where
  B : Int
  F : Int
  Z : Int
  g0 : Int
  g1 : Int
  r0 : Int
  r1 : Int
  e0 : Int
  e1 : Int
  a0 : Int
  a1 : Int
  x0 : Int
  x1 : Int
def ofC (o : OfV) : Array Value := #[.int .i64 o.B, .int .i64 o.F, .int .i64 o.Z, .int .u64 o.g0, .int .u64 o.g1, .int .i64 o.r0, .int .i64 o.r1, .int .u64 o.e0, .int .u64 o.e1, .int .i64 o.a0, .int .i64 o.a1, .int .u8 o.x0, .int .u8 o.x1]
/-- Between the rounds: the disk and the document's. -/
structure RSt (w W : World) (o : OfV) (n : Nat) (d N S : Nat) (now saf : List UInt8) (ps3 : List (Nat × Nat × List UInt8)) (P : Value) (lf : Int) (VS VL : Value) (safe : List (List UInt8)) (ps : List (Nat × List UInt8)) (R : Nat) : Prop where
  o : BL W w.heap.size (ofC o) 27
  r : BL W R (dvC VS VL 0 false false) 35
  dk : Dk W d N S n now saf ps3 P false lf false
  vs : RS W (fun B => ¬ DkF d N S P B ∧ B ≠ R) VS safe
  vl : RP W (fun B => ¬ DkF d N S P B ∧ B ≠ R) VL ps
  rl : Rl n now safe ps
  bl : Below w.heap.size w W
  sep : ∀ k, DkF d N S P k → w.heap.size < k ∧ k ≠ R
  rg : w.heap.size < R
  lp : ps.length ≤ 100
  lp3 : ps3.length ≤ 100
theorem RSt.keep {w W W' : World} {o : OfV} {n d N S : Nat} {now saf : List UInt8} {ps3 : List (Nat × Nat × List UInt8)} {P : Value} {lf : Int} {VS VL : Value} {safe : List (List UInt8)} {ps : List (Nat × List UInt8)} {R : Nat} (h : RSt w W o n d N S now saf ps3 P lf VS VL safe ps R) (hb : Below W.heap.size W W') : RSt w W' o n d N S now saf ps3 P lf VS VL safe ps R :=
  { o := h.o.keep hb
    r := h.r.keep hb
    dk := h.dk.fr (Fr.of_below (G := fun _ => False) hb) (fun _ _ e => e)
    vs := h.vs.keep hb
    vl := h.vl.keep hb
    rl := h.rl
    bl := below_step h.bl hb
    sep := h.sep
    rg := h.rg
    lp := h.lp
    lp3 := h.lp3 }
theorem RSt.dr {w W : World} {o : OfV} {n d N S : Nat} {now saf : List UInt8} {ps3 : List (Nat × Nat × List UInt8)} {P : Value} {lf : Int} {VS VL : Value} {safe : List (List UInt8)} {ps : List (Nat × List UInt8)} {R : Nat} (h : RSt w W o n d N S now saf ps3 P lf VS VL safe ps R) (m : Nat) : RSt w (W.drewN m) o n d N S now saf ps3 P lf VS VL safe ps R :=
  h.keep ⟨rfl, rfl, rfl, Nat.le_refl _, fun _ _ => rfl⟩
/-- A row of bytes in a block of its own. -/
structure OBy (w : World) (g n : Nat) (l : List UInt8) (cur : Array Value) : Prop where
  b : BL w g cur 5
  ln : l.length = n
  t : cur.toList.take n = cl l
theorem OBy.sb {w : World} {g n : Nat} {l : List UInt8} {cur : Array Value} (h : OBy w g n l cur) : SB w g 0 l := fun j v hj => by
  rw [Nat.zero_add, BL.cell h.b, ← Array.getElem?_toList]
  rw [← h.t, List.getElem?_take] at hj
  split at hj
  · exact hj
  · cases hj
theorem OBy.set {w : World} {g n : Nat} {l : List UInt8} {cur : Array Value} (h : OBy w g n l cur) (j : Nat) (c : UInt8) : OBy (w.setCell ⟨g, j, none⟩ (.int .u8 (c.toNat : Int))) g n (l.set j c) (cur.setIfInBounds j (.int .u8 (c.toNat : Int))) :=
  { b := BL.set h.b j _
    ln := by rw [List.length_set]; exact h.ln
    t := by rw [Array.toList_setIfInBounds, List.take_set, h.t]; unfold cl; rw [List.map_set] }
theorem OBy.own {w : World} {g n c : Nat} {l : List UInt8} (h : w.ownsRow 0 5 1 (.slice (some ⟨g, 0, none⟩) n c) n (cl l)) : ∃ cur, OBy w g n l cur ∧ n ≤ c := by
  have hl := h.1
  rw [cl_len, Nat.mul_one] at hl
  rcases h.2 with ⟨h0, _⟩ | ⟨B, cap', cur, he, _, hb, hn, hmx, hsz, hx⟩
  · cases h0
  · injection he with h1 h2 h3
    injection h1 with h1
    injection h1 with h1
    subst h1 h3
    exact ⟨cur, ⟨hb, hl, by rw [← hx, Nat.mul_one]⟩, hn⟩
theorem BL.five {w : World} {B : Nat} {a0 a1 a2 a3 a4 : Value} {e : TypeId} (h : BL w B #[a0, a1, a2, a3, a4] e) (x0 x1 x2 x3 x4 : Value) : BL (((((w.setCell ⟨B, 0, none⟩ x0).setCell ⟨B, 1, none⟩ x1).setCell ⟨B, 2, none⟩ x2).setCell ⟨B, 3, none⟩ x3).setCell ⟨B, 4, none⟩ x4) B #[x0, x1, x2, x3, x4] e ∧ Fr (· = B) w (((((w.setCell ⟨B, 0, none⟩ x0).setCell ⟨B, 1, none⟩ x1).setCell ⟨B, 2, none⟩ x2).setCell ⟨B, 3, none⟩ x3).setCell ⟨B, 4, none⟩ x4) := by
  have := ((((h.set 0 x0).set 1 x1).set 2 x2).set 3 x3).set 4 x4
  exact ⟨by simpa using this, (((((Fr.refl (· = B) w).own 0 _).own 1 _).own 2 _).own 3 _).own 4 _⟩
/-- The worlds that have all that a world has. -/
def Sub (w : World) : Type := { w' : World // Below w.heap.size w w' }
instance Sub.one (w : World) : Nonempty (Sub w) := ⟨⟨w, Below.refl _ _⟩⟩
theorem wp_region_quiet_C {P : Program} {id : Nat} {Q : Exit → Act → World → Prop} {a : Act} {w : World} {l : List Oper} (C : World → Prop) (hm : P.follows .mixedOrders = true) (hB : Region.lexB .any l.toArray = true) (hC : C { w with drawn := w.drawn + 1 })
    (h : wpQuiet P l.toArray C (fun a' => ∀ w', C w' → Q .normal a' w') l a) : (Code.region id l.toArray true).wp P Q a w :=
  wp_region_quiet (C := C) hm hB hC (by simpa using h)
theorem Sub.alive {w : World} (x : Sub w) : Calls Try.prog 15 #[] x.1 fun e w' => e = .returned (.bool true) ∧ ∃ y : Sub w, w' = y.1 := by
  refine (alive_calls x.1).mono ?_
  rintro en w' ⟨rfl, hb⟩
  exact ⟨rfl, ⟨w', below_step x.2 hb⟩, rfl⟩
theorem Sub.same {w : World} {f : Nat} {args : Array Value} {v : Value} (x : Sub w) (h : Calls Try.prog f args x.1 fun e w' => e = .returned v ∧ x.1 = w') : Calls Try.prog f args x.1 fun e w' => e = .returned v ∧ ∃ y : Sub w, w' = y.1 := by
  refine h.mono ?_
  rintro en w' ⟨rfl, rfl⟩
  exact ⟨rfl, x, rfl⟩
theorem freeL_none (n : Nat) : ∀ j, j ≤ n → (freeL (List.replicate n false) j).length = j := by
  intro j hj
  unfold freeL
  rw [List.length_map]
  have : (List.range j).filter (fun i => !((List.replicate n false).getD i false)) = List.range j := by
    rw [List.filter_eq_self]
    intro i hi
    have := List.mem_range.1 hi
    rw [List.getD_eq_getElem?_getD, List.getElem?_replicate, if_pos (by omega)]; rfl
  rw [this, List.length_range]
theorem bits_u8 (op : BinOp) (x y : Int) : ∃ c : UInt8, Go.bits op .u8 x y = (c.toNat : Int) := by
  unfold Go.bits
  rw [IntKind.wrap_u8]
  generalize (match op with
    | .and => BitVec.ofInt IntKind.u8.bits x &&& BitVec.ofInt IntKind.u8.bits y
    | .or => BitVec.ofInt IntKind.u8.bits x ||| BitVec.ofInt IntKind.u8.bits y
    | .xor => BitVec.ofInt IntKind.u8.bits x ^^^ BitVec.ofInt IntKind.u8.bits y
    | _ => BitVec.ofInt IntKind.u8.bits x &&& ~~~BitVec.ofInt IntKind.u8.bits y).toNat = z
  refine ⟨UInt8.ofNat (z % 256), ?_⟩
  rw [UInt8.toNat_ofNat_of_lt' (by show z % 256 < 256; omega)]
  omega
theorem tm_rg (x : Int) (m : Int) (hm : 0 < m) (hm2 : m ≤ 1000) : ∃ n : Nat, (wrap64 (x.tmod m + m)).tmod m = (n : Int) ∧ (n : Int) < m ∧ wrap64 (x.tmod m + m) = x.tmod m + m := by
  have h1 := Int.tmod_lt_of_pos x hm
  have h2 := Int.lt_tmod_of_pos x hm
  have hw : wrap64 (x.tmod m + m) = x.tmod m + m := by unfold wrap64; omega
  rw [hw, Int.tmod_eq_emod_of_nonneg (a := x.tmod m + m) (by omega)]
  have h3 := Int.emod_nonneg (x.tmod m + m) (show m ≠ 0 by omega)
  have h4 := Int.emod_lt_of_pos (x.tmod m + m) hm
  exact ⟨((x.tmod m + m) % m).toNat, by omega, by omega, rfl⟩
set_option maxHeartbeats 4000000 in
set_option maxRecDepth 100000 in
theorem pagerReads_calls (o : OfV) (w : World) : Calls Try.prog 3 #[.agg (ofC o)] w (AliveP w) := by
  obtain ⟨n, hn, hn1, hn2⟩ : ∃ n : Nat, wrap64 (1 + (wrap64 (o.B.tmod 12 + 12)).tmod 12) = (n : Int) ∧ 1 ≤ n ∧ n ≤ 12 := by
    obtain ⟨m, h1, h2, _⟩ := tm_rg o.B 12 (by decide) (by decide)
    rw [h1]
    exact ⟨m + 1, by unfold wrap64; omega, by omega, by omega⟩
  have HO := Aside0.mk (BL.new w (ofC o) 27)
  have HNB := Aside0.mk hn
  unfold ofC
  unfold ofC at HO
  go_enter Try.func3, Try.ntmps3
  go_wp2_with fail
  rw [HNB.out]
  refine (disk_New.calls n _ hn1 (by omega)).mono ?_
  rintro en w1 ⟨d, N, S, rfl, hd, hN, hS, hNS, hNg, hSg, hgl, hNl, hSl, hbl⟩
  rw [zc_cl] at hN hS
  have hdk : Dk w1 d N S n (List.replicate (n * 256) 0) (List.replicate (n * 256) 0) [] (.slice none 0 0) false 0 false :=
    { d := hd
      bn := hN
      bs := hS
      ln := List.length_replicate
      ls := List.length_replicate
      lp := by intro p hp; cases hp
      ow := World.ownsRow_nil _ _ _ _
      ns := hNS
      ng := hNg
      sg := hSg
      pf := by intro k hk; cases hk }
  have HDK := Aside0.mk hdk
  have HO1 := Aside0.mk (HO.out.keep hbl)
  have HB1 := Aside0.mk (below_step (al _) hbl)
  rw [al_size] at hgl hNl hSl
  clear hd hN hS hdk hbl
  go_wp2_with fail
  refine (ref_New.calls n _ hn1 (by omega)).mono ?_
  rintro en w2 ⟨VS, rfl, hVS, hb2⟩
  obtain ⟨AS, cS, hVe, _⟩ := id hVS
  rw [List.length_replicate] at hVe
  subst hVe
  have hst : RSt w (w2.alloc (.cells (dvC (.slice AS (n * 4) cS) (.slice none 0 0) 0 false false) 35)) o n d N S (List.replicate (n * 256) 0) (List.replicate (n * 256) 0) [] (.slice none 0 0) 0 (.slice AS (n * 4) cS) (.slice none 0 0) (List.replicate (n * 4) zn) [] w2.heap.size := by
    have hsz := hb2.size
    have hk : ∀ k, DkF d N S (.slice none 0 0) k → w.heap.size < k ∧ k < w1.heap.size := fun k hk => by
      have hlt := HDK.out.lt k hk
      rcases hk with rfl | rfl | rfl | hk
      · omega
      · omega
      · omega
      · cases hk
    have hz := HB1.out.size
    have ho := HO1.out.lt
    exact
      { o := (HO1.out.keep hb2).keep (al _)
        r := BL.new _ _ _
        dk := (HDK.out.fr (Fr.of_below (G := fun _ => False) hb2) (fun _ _ e => e)).fr (Fr.of_below (G := fun _ => False) (al _)) (fun _ _ e => e)
        vs := (hVS.imp (fun B hB hl => ⟨fun e => by have := hk B e; omega, by omega⟩)).keep (al _)
        vl := RP.nil _ _
        rl := Rl.new n
        bl := below_step (below_step HB1.out hb2) (al _)
        sep := fun k e => by have := hk k e; omega
        rg := by omega
        lp := by simp
        lp3 := by simp }
  have HST := Aside0.mk hst
  clear hst hVS hb2 HB1 HDK HO1 HO HNB hn
  unfold dvC
  go_wp2_with fail
  unfold dvC at HST
  obtain ⟨R, hR⟩ : ∃ R, w2.heap.size = R := ⟨_, rfl⟩
  obtain ⟨w3, hw3⟩ : ∃ x, w2.alloc (.cells #[.slice AS (n * 4) cS, .slice none 0 0, .int .i64 0, .bool false, .bool false] 35) = x := ⟨_, rfl⟩
  rw [hw3, hR] at HST
  rw [hw3, hR]
  clear hw3 hR
  go_loopg [7, 8] 2 (fun kq v7 v8 wr => ∃ (j : Nat) (now saf : List UInt8) (ps3 : List (Nat × Nat × List UInt8)) (P : Value) (lf : Int) (VL : Value) (safe : List (List UInt8)) (ps : List (Nat × List UInt8)), v7 = .int .i64 0 ∧ v8 = .int .i64 j ∧ Aside0 (kq + j = 2) ∧ Aside0 (RSt w wr o n d N S now saf ps3 P lf (.slice AS (n * 4) cS) VL safe ps R) ∧ Aside0 (ps.length ≤ 4 * j ∧ ps3.length ≤ 4 * j))
  case atStart => exact ⟨0, _, _, _, _, _, _, _, _, rfl, rfl, ⟨rfl⟩, HST, ⟨by simp⟩⟩
  case round =>
    obtain ⟨j, now, saf, ps3, P, lf, VL, safe, ps, rfl, rfl, HJ, HS, HLN⟩ := hrel
    have c1 := (BL.cell HS.out.o 1).trans (show _ = some (Value.int .i64 o.F) from rfl)
    by_cases hj : j < 2
    · have k1 : (j : Int) < 2 := by omega
      obtain ⟨gk, rk, ek, ak, xk, q3, q5, q7, q9, q11⟩ : ∃ gk rk ek ak xk : Int, (ofC o)[3 + j]? = some (.int .u64 gk) ∧ (ofC o)[5 + j]? = some (.int .i64 rk) ∧ (ofC o)[7 + j]? = some (.int .u64 ek) ∧ (ofC o)[9 + j]? = some (.int .i64 ak) ∧ (ofC o)[11 + j]? = some (.int .u8 xk) := by
        rcases (show j = 0 ∨ j = 1 by omega) with h | h
        · subst h; exact ⟨_, _, _, _, _, rfl, rfl, rfl, rfl, rfl⟩
        · subst h; exact ⟨_, _, _, _, _, rfl, rfl, rfl, rfl, rfl⟩
      have c3 := (BL.cell HS.out.o (3 + j)).trans q3
      have c5 := (BL.cell HS.out.o (5 + j)).trans q5
      have c7 := (BL.cell HS.out.o (7 + j)).trans q7
      have c9 := (BL.cell HS.out.o (9 + j)).trans q9
      have c11 := (BL.cell HS.out.o (11 + j)).trans q11
      obtain ⟨y, hy⟩ : ∃ y, wrap64 (o.F + (j : Int)) = y := ⟨_, rfl⟩
      have HY := Aside0.mk hy
      clear hy
      obtain ⟨sk, hsk⟩ : ∃ sk, (decide (o.F < 0) || decide (o.F > 20) || decide (y ≥ (n : Int)) || decide (rk < -1) || decide (rk > 100)) = sk := ⟨_, rfl⟩
      have HSK := Aside0.mk hsk
      clear hsk
      go_upto_region 9 with fail
      go_cut [9] (fun v9 wz => v9 = .int .i64 y ∧ wz = wr)
      case first =>
        go_wp2_with fail
        go_meet
        exact ⟨by rw [HY.out], rfl⟩
      case rest =>
        obtain ⟨rfl, rfl⟩ := hcut
        go_upto_region 10 with fail
        go_cut [76] (fun v76 wz => v76 = .bool sk ∧ wz = wc)
        case first =>
          by_cases b0 : o.F < 0
          · have d0 : decide (o.F < 0) = true := decide_eq_true b0
            obtain rfl : true = sk := by rw [← HSK.out, d0]; rfl
            go_wp2_with fail
            go_meet
            exact ⟨rfl, rfl⟩
          · have d0 : decide (o.F < 0) = false := decide_eq_false b0
            by_cases b1 : o.F > 20
            · have d1 : decide (o.F > 20) = true := decide_eq_true b1
              obtain rfl : true = sk := by rw [← HSK.out, d0, d1]; rfl
              go_wp2_with fail
              go_meet
              exact ⟨rfl, rfl⟩
            · have d1 : decide (o.F > 20) = false := decide_eq_false b1
              by_cases b2 : y ≥ (n : Int)
              · have d2 : decide (y ≥ (n : Int)) = true := decide_eq_true b2
                obtain rfl : true = sk := by rw [← HSK.out, d0, d1, d2]; rfl
                go_wp2_with fail
                go_meet
                exact ⟨rfl, rfl⟩
              · have d2 : decide (y ≥ (n : Int)) = false := decide_eq_false b2
                by_cases b3 : rk < -1
                · have d3 : decide (rk < -1) = true := decide_eq_true b3
                  obtain rfl : true = sk := by rw [← HSK.out, d0, d1, d2, d3]; rfl
                  go_wp2_with fail
                  go_meet
                  exact ⟨rfl, rfl⟩
                · have d3 : decide (rk < -1) = false := decide_eq_false b3
                  by_cases b4 : rk > 100
                  · have d4 : decide (rk > 100) = true := decide_eq_true b4
                    obtain rfl : true = sk := by rw [← HSK.out, d0, d1, d2, d3, d4]; rfl
                    go_wp2_with fail
                    go_meet
                    exact ⟨rfl, rfl⟩
                  · have d4 : decide (rk > 100) = false := decide_eq_false b4
                    obtain rfl : false = sk := by rw [← HSK.out, d0, d1, d2, d3, d4]; rfl
                    go_wp2_with fail
                    go_meet
                    exact ⟨rfl, rfl⟩
        case rest =>
          obtain ⟨rfl, rfl⟩ := hcut
          cases sk with
          | true =>
            go_wp2_with fail
            go_roundg (2 - (j + 1))
            case measure => have := HJ.out; omega
            case rel => exact ⟨j + 1, now, saf, ps3, P, lf, VL, safe, ps, rfl, rfl, ⟨by have := HJ.out; omega⟩, HS, ⟨by have := HLN.out; omega⟩⟩
          | false =>
            obtain ⟨q, hq, hqn⟩ : ∃ q : Nat, y = (q : Int) ∧ q < n := by
              have h := HSK.out
              have hy := HY.out
              simp only [Bool.or_eq_false_iff, decide_eq_false_iff_not] at h
              refine ⟨y.toNat, ?_, ?_⟩ <;> (rw [← hy] at *; unfold wrap64 at *; omega)
            subst hq
            go_upto_region 11 with fail
            have hHD := ref_Head.calls gk rk ek wc.drew
            have HHD := Aside0.mk hHD
            clear hHD
            go_still_tail 12, (by kernel_rfl)
            change wpList _ _ _ _ _ wc.drew
            go_wp2_with fail
            refine HHD.out.mono ?_
            rintro en w4 ⟨V4, rfl, hrb⟩
            have hhl : (rHead gk rk ek).length = 64 := by simp [rHead, rHead60, beL_len]
            obtain ⟨V5, w5, hrun, hrow, hf5, ho5⟩ := append_zeros w4 V4 _ 192 hrb.row (by rw [hhl]; decide)
            have hrb5 := hrb.step hrow hf5 ho5
            have hbl : (rHead gk rk ek ++ List.replicate 192 0).length = 256 := by rw [List.length_append, hhl, List.length_replicate]
            obtain ⟨bb, hbb⟩ : ∃ bb, rHead gk rk ek ++ List.replicate 192 0 = bb := ⟨_, rfl⟩
            rw [hbb] at hrb5 hbl
            obtain ⟨gB, cc, hV5, _, hgl⟩ := hrb5.form (by omega)
            rw [hbl] at hV5
            subst hV5
            have hgn := hrb5.nw gB rfl
            have hrow5 := hrb5.row
            rw [hbl] at hrow5
            obtain ⟨cur, hob, hcc⟩ := OBy.own hrow5
            have HS5 := Aside0.mk ((HS.out.keep (Below.dr (Below.refl _ _))).keep hrb5.bl)
            have HRUN := Aside0.mk hrun
            have HB5 := Aside0.mk (below_step (Below.dr (Below.refl wc.heap.size wc)) hrb5.bl)
            have HOB := Aside0.mk hob
            have HGN : Aside0 (wc.heap.size ≤ gB) := ⟨hgn⟩
            clear hrb hhl hrow hf5 ho5 hrb5 hrow5 hbb hrun hob hgn HHD
            clear c1 c3 c5 c7 c9 c11
            have c1 := (BL.cell HS5.out.o 1).trans (show _ = some (Value.int .i64 o.F) from rfl)
            have c9 := (BL.cell HS5.out.o (9 + j)).trans q9
            have c11 := (BL.cell HS5.out.o (11 + j)).trans q11
            obtain ⟨iv, hiv, hiv2, hiv3⟩ := tm_rg ak 256 (by decide) (by decide)
            have hiv4 : iv < 256 := by omega
            rw [hiv3] at hiv
            go_wp2_with (first
              | (at_builtin; refine Lib.wpList_append_run _ rfl (.tmp 89) (.const (.int .i64 192)) 38 3 rfl V4 (.int .i64 192) rfl rfl _ w5 HRUN.out ?_))
            go_upto_region 13 with fail
            try rw [hiv]
            have hbc := HOB.out.sb.at iv (by rw [HOB.out.ln]; exact hiv4)
            rw [Nat.zero_add] at hbc
            obtain ⟨cb, hcb⟩ : ∃ c, bb[iv]'(by rw [HOB.out.ln]; exact hiv4) = c := ⟨_, rfl⟩
            rw [hcb] at hbc
            obtain ⟨z, hz⟩ := bits_u8 .xor (cb.toNat : Int) xk
            have hfb := BL.free HOB.out.b iv
            have hset := HOB.out.set iv z
            have hbl6 : Below wc.heap.size wc (w5.setCell ⟨gB, iv, none⟩ (.int .u8 (z.toNat : Int))).drew := Below.dr (HB5.out.setCell (p := ⟨gB, iv, none⟩) HGN.out _)
            have hsb6 : SB (w5.setCell ⟨gB, iv, none⟩ (.int .u8 (z.toNat : Int))).drew gB 0 (bb.set iv z) := hset.sb
            have hbl' : (bb.set iv z).length = 256 := by rw [List.length_set]; exact hbl
            have hlt6 : gB < (w5.setCell ⟨gB, iv, none⟩ (.int .u8 (z.toNat : Int))).drew.heap.size := hset.b.lt
            have HS6 := Aside0.mk (HS.out.keep hbl6)
            obtain ⟨w6, hw6⟩ : ∃ x, (w5.setCell ⟨gB, iv, none⟩ (.int .u8 (z.toNat : Int))).drew = x := ⟨_, rfl⟩
            obtain ⟨b', hb'⟩ : ∃ x, bb.set iv z = x := ⟨_, rfl⟩
            rw [hw6] at hbl6 hsb6 hlt6 HS6
            rw [hb'] at hsb6 hbl'
            have HBL6 := Aside0.mk hbl6
            have HSB6 := Aside0.mk hsb6
            obtain ⟨z0, z1, z2, z3, z4⟩ := dv_all HS6.out.r
            have k256 : (iv : Int) < 256 := by omega
            clear hcb hset hiv hiv2 hiv3 hb' hbl6 hsb6 c1 c9
            go_still_tail 12, (by kernel_rfl)
            change wpList _ _ _ _ _ w5.drew
            go_wp2_with fail
            have hqR := HS6.out.sep
            have hDl : ∀ k, DkF d N S P k → k < wc.heap.size := fun k hk => HS.out.dk.lt k hk
            have hRl := HS.out.r.lt
            refine (ref_Write.calls AS n cS _ VL ps 0 false false q gB 0 cc b' w6 0 false false rfl HS6.out.vl (by omega) hqn HSB6.out hbl' hlt6 hcc (by have := HS.out.lp; omega)).mono ?_
            rintro en w7 ⟨L, rfl, hL, hb7⟩
            obtain ⟨Q, hQ⟩ : ∃ Q, ps ++ pcR q b' 4 = Q := ⟨_, rfl⟩
            have HQ := Aside0.mk hQ
            rw [hQ] at hL
            clear hQ
            obtain ⟨A2, c2, rfl, hLr⟩ := hL
            have hL : RP w7 (w6.heap.size ≤ ·) (.slice A2 Q.length c2) Q := ⟨A2, c2, rfl, hLr⟩
            have HS7 := Aside0.mk (HS6.out.keep hb7)
            have HSB7 := Aside0.mk (HSB6.out.keep hlt6 hb7)
            obtain ⟨hr8, hf8⟩ := BL.five HS7.out.r (.slice AS (n * 4) cS) (.slice A2 Q.length c2) (.int .i64 0) (.bool false) (.bool false)
            obtain ⟨w8, hw8⟩ : ∃ x, (((((w7.setCell ⟨R, 0, none⟩ (.slice AS (n * 4) cS)).setCell ⟨R, 1, none⟩ (.slice A2 Q.length c2)).setCell ⟨R, 2, none⟩ (.int .i64 0)).setCell ⟨R, 3, none⟩ (.bool false)).setCell ⟨R, 4, none⟩ (.bool false)) = x := ⟨_, rfl⟩
            rw [hw8] at hr8 hf8
            have hz6 := HBL6.out.size
            have hz7 := hb7.size
            have hz8 := hf8.size
            have hdk8 : Dk w8 d N S n now saf ps3 P false lf false := HS7.out.dk.fr hf8 (fun k hk e => (hqR k hk).2 e)
            have hvs8 := HS7.out.vs.fr hf8 (fun B _ hB e => hB.2 e)
            have hvl8 := hL.fr hf8 (fun B _ hB e => by subst e; omega)
            have ho8 := HS7.out.o.fr hf8 (by have := HS.out.rg; omega)
            have hbl8 := hf8.to_below HS7.out.bl HS7.out.bl.size (fun k hk => by have := HS.out.rg; omega)
            have hsb8 := HSB7.out.fr (by omega) hf8 (by have := HGN.out; omega)
            have h0 := BL.free HS7.out.r 0
            have h1 := BL.free HS7.out.r 1
            have h2 := BL.free HS7.out.r 2
            have h3 := BL.free HS7.out.r 3
            have h4 := BL.free HS7.out.r 4
            obtain ⟨y0, y1, y2, y3, y4⟩ := dv_all HS7.out.r
            have HW8 := Aside0.mk hw8
            have HALL : Aside0 (BL w8 R #[.slice AS (n * 4) cS, .slice A2 Q.length c2, .int .i64 0, .bool false, .bool false] 35 ∧ RS w8 (fun B => ¬ DkF d N S P B ∧ B ≠ R) (.slice AS (n * 4) cS) safe ∧ RP w8 (w6.heap.size ≤ ·) (.slice A2 Q.length c2) Q ∧ BL w8 w.heap.size (ofC o) 27 ∧ Below w.heap.size w w8 ∧ w6.heap.size ≤ w8.heap.size) := ⟨hr8, hvs8, hvl8, ho8, hbl8, by omega⟩
            have HDW := Aside0.mk (disk_Write.calls d N S n now saf ps3 P false lf q gB 0 cc b' w8 hdk8 rfl hsb8 hbl' (fun e => by have := hDl gB e; have := HGN.out; omega) (by omega) hqn (by omega) hcc (by have := HS.out.lp3; omega))
            clear hr8 hf8 hw8 hdk8 hvs8 hvl8 ho8 hbl8 hsb8 hL hLr hb7 z0 z1 z2 z3 z4
            unfold dvC
            go_wp2_with fail
            rw [HW8.out]
            refine HDW.out.mono ?_
            rintro en w9 ⟨rfl, P', hdk9, hf9, hP'⟩
            have hfin : RSt w w9 o n d N S (lay now (q * 256) b') saf (ps3 ++ pcs q b' 4) P' (wrap64 (lf - 1)) (.slice AS (n * 4) cS) (.slice A2 Q.length c2) safe Q R := by
              obtain ⟨x1, x2, x3, x4, x5, x6⟩ := HALL.out
              have hwc : w.heap.size < wc.heap.size := HS.out.o.lt
              have hz6 := HBL6.out.size
              have hD' : ∀ B, B < w8.heap.size → ¬ DkF d N S P B → ¬ DkF d N S P' B := fun B hB hn e => by
                rcases e with e | e | e | e
                · exact hn (Or.inl e)
                · exact hn (Or.inr (Or.inl e))
                · exact hn (Or.inr (Or.inr (Or.inl e)))
                · rcases hP' with h | ⟨k, hk, hkl⟩
                  · exact hn (Or.inr (Or.inr (Or.inr (h ▸ e))))
                  · rw [hk] at e; have := Option.some.inj e; omega
              have hnw : ∀ B, w6.heap.size ≤ B → ¬ DkF d N S P B ∧ B ≠ R := fun B hB => ⟨fun e => by have := hDl B e; omega, by omega⟩
              exact
                { o := x4.fr hf9 (fun e => by have := (hqR _ e).1; omega)
                  r := x1.fr hf9 (fun e => (hqR _ e).2 rfl)
                  dk := hdk9
                  vs := ((x2.imp (Z' := fun B => (¬ DkF d N S P B ∧ ¬ DkF d N S P' B) ∧ B ≠ R) (fun B hB hZ => ⟨⟨hZ.1, hD' B hB hZ.1⟩, hZ.2⟩)).fr hf9 (fun B _ hB => hB.1.1)).imp (fun B _ hZ => ⟨hZ.1.2, hZ.2⟩)
                  vl := ((x3.imp (Z' := fun B => (¬ DkF d N S P B ∧ ¬ DkF d N S P' B) ∧ B ≠ R) (fun B hB hZ => ⟨⟨(hnw B hZ).1, hD' B hB (hnw B hZ).1⟩, (hnw B hZ).2⟩)).fr hf9 (fun B _ hB => hB.1.1)).imp (fun B _ hZ => ⟨hZ.1.2, hZ.2⟩)
                  rl := HQ.out ▸ HS.out.rl.write q hqn b' hbl'
                  bl := hf9.to_below x5 x5.size (fun k e => by have := (hqR k e).1; omega)
                  sep := fun k e => by
                    rcases e with e | e | e | e
                    · exact hqR k (Or.inl e)
                    · exact hqR k (Or.inr (Or.inl e))
                    · exact hqR k (Or.inr (Or.inr (Or.inl e)))
                    · rcases hP' with h | ⟨k', hk, hkl⟩
                      · exact hqR k (Or.inr (Or.inr (Or.inr (h ▸ e))))
                      · rw [hk] at e; have := Option.some.inj e; omega
                  rg := HS.out.rg
                  lp := by have := HLN.out; rw [← HQ.out, List.length_append, pcR_len]; omega
                  lp3 := by have := HLN.out; rw [List.length_append, pcs_len]; omega }
            have HF := Aside0.mk hfin
            clear hfin hdk9 hf9 hP' HALL HDW
            go_wp2_with fail
            go_roundg (2 - (j + 1))
            case measure => have := HJ.out; omega
            case rel => exact ⟨j + 1, _, _, _, _, _, _, _, _, rfl, rfl, ⟨by have := HJ.out; omega⟩, HF, ⟨by have := HLN.out; rw [← HQ.out, List.length_append, List.length_append, pcR_len, pcs_len]; omega⟩⟩
    · have k1 : ¬ (j : Int) < 2 := by omega
      have hc2 := (BL.cell HS.out.o 2).trans (show _ = some (Value.int .i64 o.Z) from rfl)
      obtain ⟨z0, z1, z2, z3, z4⟩ := dv_all HS.out.r
      by_cases hbad : OpenBad n o.F o.Z
      · have HOB := Aside0.mk (pager_Open.bad wr d n n (some ⟨N, 0, none⟩) (.slice (some ⟨S, 0, none⟩) n n) P false false lf o.F o.Z HS.out.dk.d (by omega) hbad)
        have HRB := Aside0.mk (fun W => ref_Open.bad W n cS AS VL 0 false false o.F o.Z (by omega) hbad)
        unfold dvC at HRB
        clear hbad HJ HLN
        go_wp2_with fail
        refine HOB.out.mono ?_
        rintro en w2 ⟨rfl, hb2⟩
        have HS2 := Aside0.mk (HS.out.keep hb2)
        clear hb2 c1 hc2 z0 z1 z2 z3 z4
        have c1 := (BL.cell HS2.out.o 1).trans (show _ = some (Value.int .i64 o.F) from rfl)
        have hc2 := (BL.cell HS2.out.o 2).trans (show _ = some (Value.int .i64 o.Z) from rfl)
        obtain ⟨z0, z1, z2, z3, z4⟩ := dv_all HS2.out.r
        go_wp2_with fail
        refine (HRB.out _).mono ?_
        rintro en w3 ⟨rfl, hb3⟩
        unfold prC
        have HB3 := Aside0.mk (below_step (below_step HS2.out.bl hb3) (al (.cells (prC 0 0 0 0 0 (.slice none 0 0) (.slice none 0 0) (.slice none 0 0) false) 47)))
        unfold prC at HB3
        clear hb3
        go_wp2_with fail
        refine (alive_calls _).mono ?_
        rintro en w4 ⟨rfl, hb4⟩
        have HB4 := Aside0.mk (below_step HB3.out hb4)
        clear hb4
        go_wp2_with fail
        go_ret
        exact ⟨rfl, HB4.out⟩
      · obtain ⟨fi, np, hfi, hnp, hnp1, hrg⟩ : ∃ fi np : Nat, o.F = (fi : Int) ∧ o.Z = (np : Int) + 2 ∧ 1 ≤ np ∧ fi + 2 + np ≤ n := by
          unfold OpenBad at hbad
          exact ⟨o.F.toNat, (o.Z - 2).toNat, by omega, by omega, by omega, by omega⟩
        have hop := pager_Open.any wr d N S n now saf ps3 P false lf fi np HS.out.dk (by omega) hnp1 hrg
        rw [show ((np + 2 : Nat) : Int) = (np : Int) + 2 from by omega] at hop
        have hrl := HS.out.rl
        have hro := fun W (hb : Below wr.heap.size wr W) => ref_Open.calls _ _ (.slice AS (n * 4) cS) VL safe ps 0 false n fi np W (HS.out.vs.keep hb) (HS.out.vl.keep hb) hrl.sl hn1 (by omega) (by have := HS.out.lp; omega) (fun p hp => by rw [hrl.sl]; exact (hrl.p64 p hp).1) hrl.all64 hnp1 hrg
        obtain ⟨heq, _⟩ := fold_ref hrl fi np (by omega) 2 (Nat.le_refl 2)
        rw [heq] at hop
        obtain ⟨⟨g, r, e⟩, hst⟩ : ∃ st, foldQ (nowR safe ps) fi np 2 = st := ⟨_, rfl⟩
        rw [hst] at hop hro
        have HOP := Aside0.mk hop
        have HRO := Aside0.mk hro
        unfold dvC at HRO
        rw [hfi] at c1
        rw [hnp] at hc2
        clear hbad HJ HLN hop hro heq hst hrl
        go_wp2_with fail
        refine HOP.out.mono ?_
        rintro en w2 ⟨v, rfl, hPS, hb2, _, _, hvs, hvf, _, _, _, _, _, _, _, _, _, _, _, _, _, hvn, hvT, hvl, _⟩
        obtain ⟨rfl, rfl, rfl⟩ : v.g = g ∧ v.r = r ∧ v.e = e := by simpa using hvs
        have HPS := Aside0.mk hPS
        have HB2 := Aside0.mk hb2
        have HS2 := Aside0.mk (HS.out.keep hb2)
        clear c1 hc2 z0 z1 z2 z3 z4 hPS hb2 hvs hvf
        have c1 := (BL.cell HS2.out.o 1).trans (show _ = some (Value.int .i64 o.F) from rfl)
        have hc2 := (BL.cell HS2.out.o 2).trans (show _ = some (Value.int .i64 o.Z) from rfl)
        rw [hfi] at c1
        rw [hnp] at hc2
        obtain ⟨z0, z1, z2, z3, z4⟩ := dv_all HS2.out.r
        go_wp2_with fail
        refine (HRO.out _ HB2.out).mono ?_
        rintro en w3 ⟨U, F, D, rfl, hU, hF, hD, hb3⟩
        obtain ⟨AU, cU, hUe, _⟩ := hU
        rw [List.length_replicate] at hUe
        subst hUe
        obtain ⟨AF, cF, hFe, _⟩ := hF
        rw [List.length_replicate] at hFe
        subst hFe
        obtain ⟨AD, cD, hDe, _⟩ := hD
        rw [List.length_replicate] at hDe
        subst hDe
        obtain ⟨w4, hw4⟩ : ∃ x, w3.alloc (.cells (prC (fi : Int) ((np : Int) + 2) v.g v.r v.e (.slice AU np cU) (.slice AF np cF) (.slice AD np cD) false) 47) = x := ⟨_, rfl⟩
        have hX := hw4 ▸ BL.new w3 (prC (fi : Int) ((np : Int) + 2) v.g v.r v.e (.slice AU np cU) (.slice AF np cF) (.slice AD np cD) false) 47
        have hb4 := hw4 ▸ al (w := w3) (.cells (prC (fi : Int) ((np : Int) + 2) v.g v.r v.e (.slice AU np cU) (.slice AF np cF) (.slice AD np cD) false) 47)
        obtain ⟨X, hXe⟩ : ∃ X, w3.heap.size = X := ⟨_, rfl⟩
        rw [hXe] at hX
        unfold prC
        unfold prC at hw4
        have hb24 := below_step hb3 hb4
        have hbw4 := below_step HS2.out.bl hb24
        have hps4 : PS w4 v := HPS.out.fr (Fr.of_below (G := fun _ => False) hb24) (fun _ _ e => e)
        have ho4 := HS2.out.o.keep hb24
        have L2 : ∀ x : Sub w4, x.1.cell? ⟨X, 2, none⟩ = some (.int .u64 v.g) := fun x => (pr_all (hX.keep x.2)).2.2.1
        have L3 : ∀ x : Sub w4, x.1.cell? ⟨X, 3, none⟩ = some (.int .i64 v.r) := fun x => (pr_all (hX.keep x.2)).2.2.2.1
        have L4 : ∀ x : Sub w4, x.1.cell? ⟨X, 4, none⟩ = some (.int .u64 v.e) := fun x => (pr_all (hX.keep x.2)).2.2.2.2.1
        have LZ : ∀ x : Sub w4, x.1.cell? ⟨w.heap.size, 2, none⟩ = some (.int .i64 ((np : Int) + 2)) := fun x => by
          have := (BL.cell (ho4.keep x.2) 2).trans (show _ = some (Value.int .i64 o.Z) from rfl)
          rwa [hnp] at this
        have hpx : ∀ x : Sub w4, PS x.1 v := fun x => hps4.fr (Fr.of_below (G := fun _ => False) x.2) (fun _ _ e => e)
        have C1 := Aside0.mk (fun x : Sub w4 => x.same (pager_Generation.calls x.1 v (hpx x)))
        have C2 := Aside0.mk (fun x : Sub w4 => x.same (pager_Root.calls x.1 v (hpx x)))
        have C3 := Aside0.mk (fun x : Sub w4 => x.same (pager_Epoch.calls x.1 v (hpx x)))
        have hfl : v.fl.length = np := by rw [hvl]; exact freeL_none np np (Nat.le_refl _)
        have C4 := fun x : Sub w4 => x.same (pager_Pages.calls x.1 v (hpx x))
        have C5 := fun x : Sub w4 => x.same (pager_Free.calls x.1 v (hpx x))
        rw [hvn] at C4
        rw [hfl] at C5
        have C4 := Aside0.mk C4
        have C5 := Aside0.mk C5
        have HBW4 := Aside0.mk hbw4
        have ht1 : IntKind.i64.wrap ((np : Int) + 2 - 2) = (np : Int) := by rw [i64_w]; unfold wrap64; omega
        have HW4 := Aside0.mk hw4
        clear hX hb4 hb24 hbw4 hps4 ho4 hpx hb3 hfl hw4
        go_wp2_with fail
        rw [HW4.out]
        refine wp_region_quiet_C (fun w' => ∃ x : Sub w4, w' = x.1) (by kernel_rfl) (by kernel_rfl) ⟨⟨w4.drew, Below.dr (Below.refl _ _)⟩, rfl⟩ ?_
        repeat (go_big_quiet_step ((first
          | (go_at_call 15; exact Sub.alive _)
          | (go_at_call 16; exact C1.out _)
          | (go_at_call 17; exact C2.out _)
          | (go_at_call 18; exact C3.out _)
          | (go_at_call 19; exact C4.out _)
          | (go_at_call 20; exact C5.out _))))
        refine wpQuiet_nil ?_
        rintro w5 ⟨x, rfl⟩
        have HX := Aside0.mk (below_step HBW4.out x.2)
        go_wp2_with fail
        go_ret
        exact ⟨rfl, HX.out⟩
section
variable {H : Type} {enc : TypeId × Value → H} {W : World} {base : Nat} {spare : Nat → Bool} {held : Bool} {m : Nat} {x : DataW H × List MemPlace}
theorem open_two {t e : TypeId} {k : IntKind} (ht : Try.prog.underlying t = some (.array 2 e)) (he : Try.prog.underlying e = some (.int k)) (hc : Try.prog.cellsOf e = 1) {u v : Value} (h : DataW.trod enc Try.prog W base spare held m t [u, v] = some x) : ∃ a b : Int, u = .int k a ∧ v = .int k b := by
  obtain ⟨xs, n, hm, _, hl, hlen, hf⟩ := DataW.trod_array ht h
  rw [hc] at hf
  obtain ⟨y0, y1, rfl⟩ : ∃ y0 y1, xs = [y0, y1] := by
    match xs, hlen with
    | [y0, y1], _ => exact ⟨y0, y1, rfl⟩
  obtain ⟨a, ea, _, _⟩ := DataW.trod_int he (show DataW.trod enc Try.prog W base spare held n e [u] = some y0 from hf 0 (by decide))
  obtain ⟨b, eb, _, _⟩ := DataW.trod_int he (show DataW.trod enc Try.prog W base spare held n e [v] = some y1 from hf 1 (by decide))
  have ea' : [u] = [Value.int k a] := ea
  have eb' : [v] = [Value.int k b] := eb
  cases ea'
  cases eb'
  exact ⟨a, b, rfl, rfl⟩
set_option maxRecDepth 100000 in
theorem open_of {n : Nat} {cs : List Value} {y : DataW H × List MemPlace} (h : DataW.trod enc Try.prog W base spare held n 27 cs = some y) : ∃ o : OfV, cs = (ofC o).toList := by
  obtain ⟨xs, m, hm, _, hl, hlen, hf⟩ := DataW.trod_struct Try.underlying27 h
  have hl2 : cs.length = 13 := hl.trans (by kernel_rfl)
  obtain ⟨u0, u1, u2, u3, u4, u5, u6, u7, u8, u9, u10, u11, u12, rfl⟩ : ∃ u0 u1 u2 u3 u4 u5 u6 u7 u8 u9 u10 u11 u12, cs = [u0, u1, u2, u3, u4, u5, u6, u7, u8, u9, u10, u11, u12] := by
    match cs, hl2 with
    | [u0, u1, u2, u3, u4, u5, u6, u7, u8, u9, u10, u11, u12], _ => exact ⟨u0, u1, u2, u3, u4, u5, u6, u7, u8, u9, u10, u11, u12, rfl⟩
  have hx : xs.length = 8 := hlen
  obtain ⟨y0, y1, y2, y3, y4, y5, y6, y7, rfl⟩ : ∃ y0 y1 y2 y3 y4 y5 y6 y7, xs = [y0, y1, y2, y3, y4, y5, y6, y7] := by
    match xs, hx with
    | [y0, y1, y2, y3, y4, y5, y6, y7], _ => exact ⟨y0, y1, y2, y3, y4, y5, y6, y7, rfl⟩
  have c3 : Try.prog.cellsOf 3 = 1 := by kernel_rfl
  have cg : Try.prog.cellsOf 23 = 2 := by kernel_rfl
  have ci : Try.prog.cellsOf 24 = 2 := by kernel_rfl
  have cb : Try.prog.cellsOf 25 = 2 := by kernel_rfl
  have h0 : DataW.trod enc Try.prog W base spare held m 3 (List.take (Try.prog.cellsOf 3) [u0, u1, u2, u3, u4, u5, u6, u7, u8, u9, u10, u11, u12]) = some y0 := hf 0 _ rfl
  have h1 : DataW.trod enc Try.prog W base spare held m 3 (List.take (Try.prog.cellsOf 3) [u1, u2, u3, u4, u5, u6, u7, u8, u9, u10, u11, u12]) = some y1 := hf 1 _ rfl
  have h2 : DataW.trod enc Try.prog W base spare held m 3 (List.take (Try.prog.cellsOf 3) [u2, u3, u4, u5, u6, u7, u8, u9, u10, u11, u12]) = some y2 := hf 2 _ rfl
  have h3 : DataW.trod enc Try.prog W base spare held m 23 (List.take (Try.prog.cellsOf 23) [u3, u4, u5, u6, u7, u8, u9, u10, u11, u12]) = some y3 := hf 3 _ rfl
  have h4 : DataW.trod enc Try.prog W base spare held m 24 (List.take (Try.prog.cellsOf 24) [u5, u6, u7, u8, u9, u10, u11, u12]) = some y4 := hf 4 _ rfl
  have h5 : DataW.trod enc Try.prog W base spare held m 23 (List.take (Try.prog.cellsOf 23) [u7, u8, u9, u10, u11, u12]) = some y5 := hf 5 _ rfl
  have h6 : DataW.trod enc Try.prog W base spare held m 24 (List.take (Try.prog.cellsOf 24) [u9, u10, u11, u12]) = some y6 := hf 6 _ rfl
  have h7 : DataW.trod enc Try.prog W base spare held m 25 (List.take (Try.prog.cellsOf 25) [u11, u12]) = some y7 := hf 7 _ rfl
  rw [c3] at h0 h1 h2
  rw [cg] at h3 h5
  rw [ci] at h4 h6
  rw [cb] at h7
  obtain ⟨v0, e0, _, _⟩ := DataW.trod_int Try.underlying3 h0
  obtain ⟨v1, e1, _, _⟩ := DataW.trod_int Try.underlying3 h1
  obtain ⟨v2, e2, _, _⟩ := DataW.trod_int Try.underlying3 h2
  obtain ⟨g0, g1, rfl, rfl⟩ := open_two Try.underlying23 Try.underlying22 (by kernel_rfl) h3
  obtain ⟨r0, r1, rfl, rfl⟩ := open_two Try.underlying24 Try.underlying3 (by kernel_rfl) h4
  obtain ⟨q0, q1, rfl, rfl⟩ := open_two Try.underlying23 Try.underlying22 (by kernel_rfl) h5
  obtain ⟨a0, a1, rfl, rfl⟩ := open_two Try.underlying24 Try.underlying3 (by kernel_rfl) h6
  obtain ⟨b0, b1, rfl, rfl⟩ := open_two Try.underlying25 Try.underlying5 (by kernel_rfl) h7
  have e0' : [u0] = [Value.int .i64 v0] := e0
  have e1' : [u1] = [Value.int .i64 v1] := e1
  have e2' : [u2] = [Value.int .i64 v2] := e2
  cases e0'
  cases e1'
  cases e2'
  exact ⟨⟨v0, v1, v2, g0, g1, r0, r1, q0, q1, a0, a1, b0, b1⟩, rfl⟩
end
end
end Go.Proofs.Ytgkibjcnehdmbaa.G
