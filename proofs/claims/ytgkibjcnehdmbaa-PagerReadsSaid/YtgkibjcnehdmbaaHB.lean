/- Contracts of the functions of the disk, the space and the pager, and of the law. The conditions stand in each theorem. -/
import Derived.Test.YtgkibjcnehdmbaaHA
import Derived.ChangeArms
import Derived.DataReads
import Derived.Test.YtgkibjcnehdmbaaWWords
import Derived.Lib.AppendZeros
import Derived.Laws.IdiomStrings
namespace Go.Proofs.Ytgkibjcnehdmbaa.G
section
open Go.RowKit Go.Proofs.YtgkibjcnehdmbaaW.PrintWords Go.Proofs.YtgkibjcnehdmbaaW.PrintLast Go.Proofs.YtgkibjcnehdmbaaW.PrintMore
set_option linter.unusedVariables false
set_option linter.unusedSimpArgs false
def AliveP (w : World) (en : Ending) (w' : World) : Prop := en = .returned (.bool true) ∧ Below w.heap.size w w'
/-- What the live question's pager is behind Take and Write. -/
theorem wrap_m1 : wrap64 (0 - 1) = -1 := by unfold wrap64; omega
/-- .. of account. -/
structure PV1 (v v1 : PV) : Prop where
  p : v1.p = v.p
  d : v1.d = v.d
  fi : v1.fi = 1
  dr : v1.dr = .slice none 0 0
  br : v1.br = false
  n : v1.n = 15
  now : v1.now = List.replicate 3840 0
  safe : v1.safe = List.replicate 3840 0
  ps : v1.ps = []
  P : v1.P = .slice none 0 0
  fu : v1.fu = false
  off : v1.off = false
  np : v1.np = 12
  T : v1.T = (List.replicate 12 false).set 0 true
  f : v1.f 0 = true
  g : v1.g = 0
  e : v1.e = 1
theorem done_now {v v1 : PV} (h : PV1 v v1) (P' P2 : Value) (M : Nat) : ((v1.wrote (v1.fi + (2 + 0)) (blkL [5] 256) P').done ((0 : Nat) : Int) 2 P2 M).now = al5 := by
  show nowL (safeL (safeL v1.safe (v1.ps ++ pcs (v1.fi + (2 + 0)) (blkL [5] 256) 4)) ([] ++ pcs (v1.fi + ((v1.g + 1) % 2).toNat) (headL (v1.g + 1) ((0 : Nat) : Int) 2) 4)) (lay (nowL (safeL v1.safe (v1.ps ++ pcs (v1.fi + (2 + 0)) (blkL [5] 256) 4)) (lay v1.now ((v1.fi + (2 + 0)) * 256) (blkL [5] 256)) (v1.ps ++ pcs (v1.fi + (2 + 0)) (blkL [5] 256) 4)) ((v1.fi + ((v1.g + 1) % 2).toNat) * 256) (headL (v1.g + 1) ((0 : Nat) : Int) 2)) ([] ++ pcs (v1.fi + ((v1.g + 1) % 2).toNat) (headL (v1.g + 1) ((0 : Nat) : Int) 2) 4) = al5
  rw [h.now, h.safe, h.ps, h.fi, h.g]
  rfl
set_option maxHeartbeats 4000000 in
set_option maxRecDepth 100000 in
theorem alive_calls (w : World) : Calls Try.prog 15 #[] w (AliveP w) := by
  go_enter Try.func15, Try.ntmps15
  go_wp2_with fail
  refine (made_calls _).mono ?_
  rintro en w1 ⟨v, rfl, hps, hv, hO, hkb⟩
  have hfl : v.fl.length = 11 + 1 := by rw [hv.fl]; kernel_rfl
  have HV := Aside0.mk hv
  have HP1 := Aside0.mk hps
  have HO1 := Aside0.mk hO
  have HK := Aside0.mk hkb
  have HFL := Aside0.mk hfl
  clear hps hv hO hkb hfl
  go_wp2_with fail
  refine (pager_Take.calls w1 v HP1.out 11 HFL.out (by rw [HV.out.m]; omega)).mono ?_
  rintro en w2 ⟨i, F', hi, hin, rfl, hps2, hF, hf2⟩
  have hi0 : i = 0 := by
    have := pop0
    rw [← HV.out.fl, hi] at this
    exact Int.ofNat_inj.1 this
  subst hi0
  obtain ⟨v1, hv1⟩ : ∃ x : PV, { v with m := v.m + 1, f := fun x => x == ((0 : Nat) : Int) || v.f x, T := v.T.set 0 true, F := F', fl := (popL v.fl 11).take 11 } = x := ⟨_, rfl⟩
  rw [hv1] at hps2
  have HP2 := Aside0.mk hps2
  have HV1 := Aside0.mk hv1
  have HF' := Aside0.mk hF
  have HO2 := Aside0.mk (Fr.to_below HO1.out hf2 HO1.out.size HK.out)
  have h1 : PV1 v v1 := by
    rw [← hv1]
    exact ⟨rfl, rfl, HV.out.fi, HV.out.dr, HV.out.br, HV.out.n, HV.out.now, HV.out.safe, HV.out.ps, HV.out.P, HV.out.fu, HV.out.off, HV.out.np, by show v.T.set 0 true = _; rw [HV.out.T], rfl, congrArg Prod.fst HV.out.st, congrArg (fun x => x.2.2) HV.out.st⟩
  have hk1 : ∀ k, PF v1 k → w.heap.size ≤ k := fun k hk => by
    rw [← hv1] at hk
    refine HK.out k ?_
    rcases hk with hk | hk | hk | hk
    · exact Or.inl hk
    · exact Or.inr (Or.inl hk)
    · exact Or.inr (Or.inr (Or.inl hk))
    · rcases hk with hk | hk | hk
      · exact Or.inr (Or.inr (Or.inr (Or.inl hk)))
      · exact Or.inr (Or.inr (Or.inr (Or.inr (Or.inl hk))))
      · exact Or.inr (Or.inr (Or.inr (Or.inr (Or.inr (hF ▸ hk)))))
  have H1 := Aside0.mk h1
  have HK1 := Aside0.mk hk1
  clear hps2 hv1 hF hf2 hi hin h1 hk1
  go_wp2_with fail
  have hbn := BL.new w2 #[Value.int .u8 5] 5
  have hal : Below w2.heap.size w2 (w2.alloc (.cells #[Value.int .u8 5] 5)) := al _
  refine (ref_Block.calls w2.heap.size 0 1 [5] _ (SB.of (show BC (w2.alloc (.cells #[Value.int .u8 5] 5)) w2.heap.size [5] 5 from hbn) 0 1) (BL.lt hbn) (by decide) (by decide)).mono ?_
  rintro en w3 ⟨N, rfl, hN, hNl, hbl3⟩
  have hps3 : PS w3 v1 := HP2.out.fr (Fr.of_below (G := fun _ => False) (below_step hal hbl3)) (fun _ _ e => e)
  obtain ⟨b5, hb5⟩ : ∃ x, blkL [5] 256 = x := ⟨_, rfl⟩
  have hbl5 : b5.length = 256 := by rw [← hb5, blkL_len]
  rw [hb5] at hN
  have hNz : w2.heap.size < N := by rw [al_size] at hNl; omega
  have hwr := pager_Write.calls w3 v1 hps3 H1.out.off H1.out.br (by rw [H1.out.fu]; rfl) 0 (by rw [H1.out.np]; omega) H1.out.f N 0 256 b5 (by simpa [List.take_of_length_le (Nat.le_of_eq hbl5)] using SB.of hN 0 256) hbl5 (fun e => by have := HP2.out.lt N e; omega) (BL.lt hN) (by omega) (by rw [H1.out.ps]; decide)
  rw [H1.out.p] at hwr
  have HWR := Aside0.mk hwr
  have HO3 := Aside0.mk (below_step (below_step HO2.out hal) hbl3)
  have HB5 := Aside0.mk hb5
  clear hwr hps3 hbn hal hbl3 hN hbl5 hb5 hNl
  go_wp2_with fail
  refine HWR.out.mono ?_
  rintro en w4 ⟨rfl, P', hps4, hown, hf4⟩
  obtain ⟨v2, hv2⟩ : ∃ x, v1.wrote (v1.fi + (2 + 0)) b5 P' = x := ⟨_, rfl⟩
  have hps4' : PS w4 v2 := hv2 ▸ hps4
  have h2 : v2.p = v.p ∧ v2.off = false ∧ v2.br = false ∧ v2.fu = false ∧ v2.dr = .slice none 0 0 ∧ v2.np = 12 ∧ v2.T.getD 0 false = true ∧ v2.e = 1 ∧ v2.g = 0 ∧ v2.ps.length = 4 := by
    rw [← hv2]
    exact ⟨H1.out.p, rfl, rfl, H1.out.fu, H1.out.dr, H1.out.np, by show v1.T.getD 0 false = true; rw [H1.out.T]; rfl, H1.out.e, H1.out.g, by show (v1.ps ++ pcs _ _ 4).length = 4; rw [H1.out.ps]; rfl⟩
  obtain ⟨a1, a2, a3, a4, a5, a6, a7, a8, a9, a10⟩ := h2
  have hk2 : ∀ k, PF v2 k → w.heap.size ≤ k := fun k hk => by
    rw [← hv2] at hk
    have hwz := HO3.out.size
    rcases hk with hk | hk | hk | hk
    · exact HK1.out k (Or.inl hk)
    · exact HK1.out k (Or.inr (Or.inl hk))
    · rcases hk with hk | hk | hk | hk
      · exact HK1.out k (Or.inr (Or.inr (Or.inl (Or.inl hk))))
      · exact HK1.out k (Or.inr (Or.inr (Or.inl (Or.inr (Or.inl hk)))))
      · exact HK1.out k (Or.inr (Or.inr (Or.inl (Or.inr (Or.inr (Or.inl hk))))))
      · have hk' : P'.ownBlock = some k := hk
        rcases hown with h | ⟨q, hq, hl⟩ | h
        · exact HK1.out k (Or.inr (Or.inr (Or.inl (Or.inr (Or.inr (Or.inr (h ▸ hk)))))))
        · rw [hq] at hk'
          have : q = k := Option.some.inj hk'
          omega
        · rw [h] at hk'; cases hk'
    · exact HK1.out k (Or.inr (Or.inr (Or.inr hk)))
  have hcm := pager_Commit.plain w4 v2 hps4' a2 a3 a4 a5 0 2 (by omega) a7 (by omega) (by omega) (by omega) (by omega) (by omega) (by omega)
  rw [a1] at hcm
  have HCM := Aside0.mk hcm
  have HV2 := Aside0.mk hv2
  have HK2 := Aside0.mk hk2
  have HO4 := Aside0.mk (Fr.to_below HO3.out hf4 HO3.out.size HK1.out)
  clear hcm hv2 hk2 hps4 hps4' hown hf4 a1 a2 a3 a4 a5 a6 a7 a8 a9 a10
  go_wp2_with fail
  refine HCM.out.mono ?_
  rintro en w5 ⟨rfl, P2, M, hps5, hM, hf5⟩
  have hdk := hps5.dk
  have hnow : (v2.done ((0 : Nat) : Int) 2 P2 M).now = al5 := by rw [← HV2.out, ← HB5.out]; exact done_now H1.out P' P2 M
  rw [hnow] at hdk
  have hvd : (v2.done ((0 : Nat) : Int) 2 P2 M).d = v.d ∧ (v2.done ((0 : Nat) : Int) 2 P2 M).n = 15 := by rw [← HV2.out]; exact ⟨H1.out.d, H1.out.n⟩
  rw [hvd.2] at hdk
  have hop := pager_Open.calls w5 _ _ _ 15 _ _ _ _ _ _ 1 12 hdk (by omega) (by omega) (by omega) (fun i hi => by
    rcases (show i = 0 ∨ i = 1 by omega) with h | h
    · rw [h, al5_1]; omega
    · rw [h, al5_2]; omega)
  rw [al5_fold, hvd.1] at hop
  have HOP := Aside0.mk hop
  have HO5 := Aside0.mk (Fr.to_below HO4.out hf5 HO4.out.size HK2.out)
  clear hop hvd hnow hdk hps5 hM hf5
  go_wp2_with fail
  refine HOP.out.mono ?_
  rintro en w6 ⟨q, rfl, hq, hbl6, qm, qf, qst, qfi, qdr, qbr, qd, qN, qS, qn, qnow, qsafe, qps, qP, qfu, qlf, qoff, qnp, qT, qfl, hkb⟩
  have hqg : q.g = 1 := congrArg Prod.fst qst
  have hqr : q.r = 0 := congrArg (fun x => x.2.1) qst
  have hqe : q.e = 2 := congrArg (fun x => x.2.2) qst
  have c1 := pager_Root.calls w6 q hq
  have c2 := pager_Epoch.calls w6 q hq
  have c3 := pager_Generation.calls w6 q hq
  have c4 := pager_Pages.calls w6 q hq
  rw [hqr] at c1
  rw [hqe] at c2
  rw [hqg] at c3
  rw [qnp] at c4
  have hbn := BL.new w6 #[Value.int .i64 0] 3
  have hq7 : PS (w6.alloc (.cells #[Value.int .i64 0] 3)) q := hq.fr (Fr.of_below (G := fun _ => False) (al _)) (fun _ _ e => e)
  have hil : IL (w6.alloc (.cells #[Value.int .i64 0] 3)) w6.heap.size 0 [0] := BL.rng (l := [Value.int .i64 0]) hbn
  have c5 := pager_Use.some_ _ q hq7 w6.heap.size 0 1 [0] hil (by decide) (BL.lt hbn) ((List.replicate 12 false).set 0 true) (by rw [qnp]; exact only0)
  have hql := hq.lt
  have C1 := Aside0.mk c1
  have C2 := Aside0.mk c2
  have C3 := Aside0.mk c3
  have C4 := Aside0.mk c4
  have C5 := Aside0.mk c5
  have HO6 := Aside0.mk (below_step HO5.out hbl6)
  have QNP := Aside0.mk qnp
  have hkq : ∀ k, PF q k → w.heap.size ≤ k := fun k hk => by
    have := HO5.out.size
    rcases hk with hk | hk | hk | hk
    · have := hkb k (Or.inl hk); omega
    · have := hkb k (Or.inr (Or.inl hk)); omega
    · rcases hk with hk | hk | hk | hk
      · exact HK.out k (Or.inr (Or.inr (Or.inl (Or.inl (hk.trans qd)))))
      · exact HK2.out k (Or.inr (Or.inr (Or.inl (Or.inr (Or.inl (hk.trans qN))))))
      · exact HK2.out k (Or.inr (Or.inr (Or.inl (Or.inr (Or.inr (Or.inl (hk.trans qS)))))))
      · rw [qP] at hk; cases hk
    · have := hkb k (Or.inr (Or.inr hk)); omega
  have HKQ := Aside0.mk hkq
  clear hkq qd qN qS qn qP hq hbl6 qm qf qst qfi qdr qbr qnow qsafe qps qfu qlf qoff qnp qT qfl hkb hqg hqr hqe c1 c2 c3 c4 c5 hbn hq7 hil hql
  go_wp2_with fail
  refine C1.out.mono ?_
  rintro en w7 ⟨rfl, rfl⟩
  go_wp2_with fail
  refine C2.out.mono ?_
  rintro en w7 ⟨rfl, rfl⟩
  go_wp2_with fail
  refine C3.out.mono ?_
  rintro en w7 ⟨rfl, rfl⟩
  go_wp2_with fail
  refine C4.out.mono ?_
  rintro en w7 ⟨rfl, rfl⟩
  go_wp2_with fail
  refine C5.out.mono ?_
  rintro en w7 ⟨M7, TB7, F7, rfl, hq7, hf7, _, _, _⟩
  have c6 := pager_Free.calls w7 _ hq7
  have hfl7 : (freeL ((List.replicate 12 false).set 0 true) q.np).length = 11 := by rw [QNP.out]; exact free11
  rw [show ({ q with M := M7, m := 0, f := fun _ => false, dr := .slice none 0 0, TB := TB7, c := q.np, T := (List.replicate 12 false).set 0 true, F := F7, fl := freeL ((List.replicate 12 false).set 0 true) q.np } : PV).fl.length = 11 from hfl7] at c6
  have C6 := Aside0.mk c6
  have HF7 := Aside0.mk hf7
  clear c6 hq7 hf7 hfl7
  go_wp2_with fail
  refine C6.out.mono ?_
  rintro en w8 ⟨rfl, rfl⟩
  have hfin : Below w.heap.size w w7 := Fr.to_below (below_step HO6.out (al (w := w6) (.cells #[Value.int .i64 0] 3))) HF7.out (by have := HO6.out.size; rw [al_size]; omega) HKQ.out
  have HFIN := Aside0.mk hfin
  clear hfin
  go_wp2_with fail
  go_ret
  exact ⟨rfl, HFIN.out⟩
def PushP (w : World) (s k n : Nat) (F : Value) (xs : List Value) (x : Int) (en : Ending) (w' : World) : Prop :=
  en = .returned (.tuple #[]) ∧ ∃ (g cap : Nat) (w9 : World), w' = w9.setCell ⟨s, k, none⟩ (.slice (some ⟨g, 0, none⟩) (n + 1) cap) ∧ w9.ownsRow 0 3 1 (.slice (some ⟨g, 0, none⟩) (n + 1) cap) (n + 1) (xs ++ [.int .i64 x]) ∧ Fr (fun q => F.ownBlock = some q) w w9 ∧ (F.ownBlock = some g ∨ w.heap.size ≤ g) ∧ g < w9.heap.size
set_option maxHeartbeats 4000000 in
set_option maxRecDepth 100000 in
theorem least_Push.calls (s k n : Nat) (F : Value) (xs : List Value) (x : Int) (w : World) (h0 : w.cell? ⟨s, k, none⟩ = some F) (hf : w.frozen? ⟨s, k, none⟩ = false) (ho : w.ownsRow 0 3 1 F n xs) (hn : n ≤ 100000) (hs : s < w.heap.size) (hne : F.ownBlock ≠ some s) :
    Calls Try.prog 125 #[.pointer (some ⟨s, k, none⟩), .iface 3 (.int .i64 x)] w (PushP w s k n F xs x) := by
  obtain ⟨i3, hi3, hm3⟩ := Option.map_eq_some_iff.1 int_info
  simp only [Prod.mk.injEq] at hm3
  have HI := Aside0.mk hi3
  have HM := Aside0.mk hm3
  have hta := assert_int w.drew x
  have hta2 := assert_int w x
  have hca : (w.alloc (.cells #[Value.int .i64 x] 3)).cell? ⟨s, k, none⟩ = some F := ((al (w := w) _).cell (p := ⟨s, k, none⟩) hs).trans h0
  have HOA := Aside0.mk ((show (World.drew w).ownsRow 0 3 1 F n xs from ho).alloc (.cells #[Value.int .i64 x] 3))
  have HN := Aside0.mk (BL.new (World.drew w) #[Value.int .i64 x] 3)
  have HMX : Aside0 (n + 1 ≤ maxLen) := ⟨by simp [maxLen]; omega⟩
  have HBY : Aside0 ((n + 1) * 8 ≤ 140737488355328) := ⟨by omega⟩
  have HSA : Aside0 (s < (w.alloc (.cells #[Value.int .i64 x] 3)).heap.size) := ⟨by rw [al_size]; omega⟩
  have HSB : Aside0 ((w.alloc (.cells #[Value.int .i64 x] 3)).heap[s]? = w.heap[s]?) := ⟨(al (w := w) _).block s hs⟩
  have HNE := Aside0.mk hne
  have HS := Aside0.mk hs
  have HC0 := Aside0.mk h0
  have HF0 := Aside0.mk hf
  clear hi3 hm3 ho hne
  go_enter Try.func125, Try.ntmps125
  go_wp2_with fail
  go_region_law (first
    | ((refine step_append_lies _ rfl (.tmp 7) (.tmp 10) 141 rfl 0 3 i3 (.int .i64 0) 1 8 Try.underlying141 HI.out HM.out.1 HM.out.2.1 HM.out.2.2 rfl (by decide) F n _ rfl HOA.out ⟨w.heap.size, 0, none⟩ 1 1 [.int .i64 x] rfl rfl (BL.src0 HN.out) (by intro u hu; simp at hu; subst hu; rfl) (by decide) HMX.out HBY.out (Nat.zero_le _) _ rfl ?_); intro g cap w9 ho9 hg9 hgg hgl; (have HO9 := Aside0.mk ho9); (have HG9 := Aside0.mk hg9); (have HGG := Aside0.mk hgg); (have HGL := Aside0.mk hgl); (have e9 : w9.heap[s]? = w.heap[s]? := (hg9.block s HSA.out (fun e => HNE.out e.symm)).trans HSB.out); (have x0 := (World.cell?_of_block (a := ⟨s, k, none⟩) e9).trans HC0.out); (have x1 := (World.frozen?_of_block (a := ⟨s, k, none⟩) e9).trans HF0.out); clear ho9 hg9 hgg hgl e9))
  all_goals
    exact bodyPost_ret (v := .tuple #[]) (by simp [results, Try.results125, go_sem]) rfl ⟨rfl, g, cap, w9, rfl, HO9.out, (((Fr.refl (fun q => F.ownBlock = some q) w).alloc _).drew).trans (Fr.of_grown HG9.out), HGG.out.imp id (fun h => by rw [h]; show w.heap.size ≤ (w.alloc _).heap.size; rw [al_size]; omega), HGL.out⟩
/-- heap.up, over a list. -/
def upL : Nat → List Int → Nat → List Int
  | 0, l, _ => l
  | f + 1, l, j => if j = 0 then l else if l.getD j 0 < l.getD ((j - 1) / 2) 0 then upL f (swapL l ((j - 1) / 2) j) ((j - 1) / 2) else l
theorem upL_len (f : Nat) : ∀ (l : List Int) (j : Nat), (upL f l j).length = l.length := by
  induction f with
  | zero => intro l j; rfl
  | succ f ih =>
    intro l j
    unfold upL
    split
    · rfl
    · split
      · rw [ih, swapL_len]
      · rfl
theorem HP.swap2 {w : World} {s k B n c : Nat} {C : Array Value} {l : List Int} (h : HP w s k B n c C l) (i j : Nat) (hi : i < n) (hj : j < n) (hij : i ≠ j) (hn : n ≤ 100000) (a b : Int) (ha : a = (i : Int)) (hb : b = (j : Int)) :
    Calls Try.prog 123 #[.slice (some ⟨B, 0, none⟩) n c, .int .i64 a, .int .i64 b] w fun e w' => e = .returned (.tuple #[]) ∧ ∃ C', HP w' s k B n c C' (swapL l i j) ∧ C'.size = C.size ∧ Fr (· = B) w w' := by
  subst ha
  exact h.swap i j hi hj hij hn b hb
theorem upL_step (f : Nat) (l : List Int) (i : Nat) : upL (f + 1) l (i + 1) = if l.getD (i + 1) 0 < l.getD (i / 2) 0 then upL f (swapL l (i / 2) (i + 1)) (i / 2) else l := by
  rw [upL, if_neg (by omega), show i + 1 - 1 = i from rfl]
def UpP (w : World) (B : Nat) (C : Array Value) (l : List Int) (j : Nat) (en : Ending) (w' : World) : Prop :=
  ∃ (C' : Array Value), en = .returned (.tuple #[]) ∧ BL w' B C' 3 ∧ HL C' (upL j l j) ∧ C'.size = C.size ∧ Fr (· = B) w w'
set_option maxHeartbeats 4000000 in
set_option maxRecDepth 100000 in
theorem heap_up.calls (s k B m c j0 : Nat) (C : Array Value) (l : List Int) (w : World) (h : HP w s k B m c C l) (hjm : j0 < m) (hm : m ≤ 100000) :
    Calls Try.prog 102 #[hv s k, .int .i64 j0] w (UpP w B C l j0) := by
  have H := Aside0.mk h
  clear h
  unfold hv
  go_enter Try.func102, Try.ntmps102
  go_wp2_with fail
  go_loopg [1] j0 (fun kq v1 wr => ∃ (j : Nat) (l' : List Int) (C' : Array Value), v1 = .int .i64 j ∧ Aside0 (j < m) ∧ Aside0 (j ≤ kq) ∧ Aside0 (upL kq l' j = upL j0 l j0) ∧ Aside0 (HP wr s k B m c C' l') ∧ Aside0 (C'.size = C.size) ∧ Aside0 (Fr (· = B) w wr))
  case atStart => exact ⟨j0, l, C, rfl, ⟨hjm⟩, ⟨by omega⟩, ⟨rfl⟩, H, ⟨rfl⟩, ⟨Fr.refl _ _⟩⟩
  case round =>
    obtain ⟨j, l', C', rfl, HI, HK, HR, HH, HC, HF⟩ := hrel
    have hjm' := HI.out
    have sc := HH.out.sc
    cases j with
    | zero =>
      have hfin : l' = upL j0 l j0 := by have := HR.out; rw [← this]; cases gk <;> rfl
      have HFIN := Aside0.mk hfin
      clear hfin
      go_wp2_with fail
      exact bodyPost_ret (v := .tuple #[]) (by simp [results, Try.results102, go_sem]) rfl ⟨C', rfl, HH.out.b, HFIN.out ▸ HH.out.h, HC.out, HF.out⟩
    | succ i =>
      have hm2 := meth_Less wr ⟨s, k, none⟩ _ sc
      go_wp2_with fail
      obtain ⟨f, hf⟩ : ∃ f, gk = f + 1 := ⟨gk - 1, by have := HK.out; omega⟩
      have hst := HR.out
      rw [hf, upL_step] at hst
      have HST := Aside0.mk hst
      have HG := Aside0.mk hf
      clear hf hst
      refine (HH.out.less (i + 1) (i / 2) (by omega) (by omega) hm ((i : Int) + 1) ((i : Int) / 2) (by omega) (by omega)).mono ?_
      rintro e w2 ⟨rfl, n2, hw2⟩
      have HX : Aside0 (HP w2 s k B m c C' l') := ⟨hw2 ▸ HH.out.dn n2⟩
      have FX : Aside0 (Fr (· = B) w w2) := ⟨hw2 ▸ HF.out.drewN n2⟩
      clear hw2
      by_cases h3 : l'.getD (i + 1) 0 < l'.getD (i / 2) 0
      · rw [decide_eq_true h3]
        have hfin : upL f (swapL l' (i / 2) (i + 1)) (i / 2) = upL j0 l j0 := by have := HST.out; rw [if_pos h3] at this; exact this
        have HFIN := Aside0.mk hfin
        clear h3 hfin
        have hm4 := meth_Swap _ ⟨s, k, none⟩ _ HX.out.sc
        go_wp2_with fail
        refine ((HX.out).swap2 (i / 2) (i + 1) (by omega) (by omega) (by omega) hm ((i : Int) / 2) ((i : Int) + 1) (by omega) (by omega)).mono ?_
        rintro e w4 ⟨rfl, C4, hh4, hc4, hf4⟩
        have HH4 := Aside0.mk hh4
        have HC4 := Aside0.mk (hc4.trans HC.out)
        have HF4 := Aside0.mk (FX.out.trans hf4)
        clear hh4 hc4 hf4
        go_wp2_with fail
        go_roundg f
        case measure => have := HG.out; omega
        case rel => exact ⟨i / 2, swapL l' (i / 2) (i + 1), C4, congrArg (Value.int .i64) (by omega), ⟨by omega⟩, ⟨by have := HK.out; have := HG.out; omega⟩, HFIN, HH4, HC4, HF4⟩
      · rw [decide_eq_false h3]
        have hfin : l' = upL j0 l j0 := by have := HST.out; rw [if_neg h3] at this; exact this
        have HFIN := Aside0.mk hfin
        clear h3 hfin
        go_wp2_with fail
        exact bodyPost_ret (v := .tuple #[]) (by simp [results, Try.results102, go_sem]) rfl ⟨C', rfl, HX.out.b, HFIN.out ▸ HX.out.h, HC.out, FX.out⟩
def pushL (l : List Int) (x : Int) : List Int := upL l.length (l ++ [x]) l.length
theorem pushL_len (l : List Int) (x : Int) : (pushL l x).length = l.length + 1 := by unfold pushL; rw [upL_len, List.length_append, List.length_singleton]
theorem own_row {w : World} {g cap n : Nat} {l : List Int} (h : w.ownsRow 0 3 1 (.slice (some ⟨g, 0, none⟩) n cap) n (l.map (Value.int .i64))) : ∃ C : Array Value, BL w g C 3 ∧ HL C l ∧ C.size = cap ∧ n ≤ cap ∧ cap ≤ maxLen ∧ l.length = n := by
  have hl : l.length = n := by have := h.1; rw [List.length_map] at this; omega
  rcases h.2 with ⟨h0, _⟩ | ⟨B, cap', cur, he, _, hb, hn, hmx, hsz, hx⟩
  · cases h0
  · injection he with h1 h2 h3
    injection h1 with h1
    injection h1 with h1
    subst h1 h3
    refine ⟨cur, hb, ?_, by omega, hn, hmx, hl⟩
    intro j hj
    have : (cur.toList.take (n * 1))[j]? = (l.map (Value.int .i64))[j]? := by rw [hx]
    rw [List.getElem?_take, if_pos (by omega), List.getElem?_map, List.getElem?_eq_getElem hj] at this
    rw [List.getD_eq_getElem?_getD, List.getElem?_eq_getElem hj]
    simpa using this
theorem row_own {w : World} {g cap n : Nat} {l : List Int} {C : Array Value} (hb : BL w g C 3) (hh : HL C l) (hs : C.size = cap) (hn : n ≤ cap) (hmx : cap ≤ maxLen) (hl : l.length = n) : w.ownsRow 0 3 1 (.slice (some ⟨g, 0, none⟩) n cap) n (l.map (Value.int .i64)) := by
  refine ⟨by rw [List.length_map]; omega, Or.inr ⟨g, cap, C, rfl, Nat.zero_le _, hb, hn, hmx, by omega, ?_⟩⟩
  have := hh.take n (by omega)
  rw [this, List.take_of_length_le (by omega)]
def HPushP (w : World) (s k : Nat) (F : Value) (l : List Int) (x : Int) (en : Ending) (w' : World) : Prop :=
  en = .returned (.tuple #[]) ∧ ∃ g cap, (∀ c e, BL w s c e → BL w' s (c.setIfInBounds k (.slice (some ⟨g, 0, none⟩) (l.length + 1) cap)) e) ∧ w'.ownsRow 0 3 1 (.slice (some ⟨g, 0, none⟩) (l.length + 1) cap) (l.length + 1) ((pushL l x).map (Value.int .i64)) ∧ Fr (fun q => q = s ∨ F.ownBlock = some q) w w' ∧ (F.ownBlock = some g ∨ w.heap.size ≤ g)
set_option maxHeartbeats 4000000 in
set_option maxRecDepth 100000 in
theorem heap_Push.calls (s k : Nat) (F : Value) (l : List Int) (x : Int) (w : World) (h0 : w.cell? ⟨s, k, none⟩ = some F) (hf : w.frozen? ⟨s, k, none⟩ = false) (ho : w.ownsRow 0 3 1 F l.length (l.map (Value.int .i64))) (hn : l.length ≤ 90000) (hs : s < w.heap.size) (hne : F.ownBlock ≠ some s) :
    Calls Try.prog 92 #[hv s k, .iface 3 (.int .i64 x)] w (HPushP w s k F l x) := by
  have hmp : Sem.run Try.prog (method 280 147 (.pointer (some ⟨s, k, none⟩)) "Push") w = .ok (125, .pointer (some ⟨s, k, none⟩)) w := by kernel_rfl
  have hp := least_Push.calls s k l.length F _ x w h0 hf ho (by omega) hs hne
  have HP := Aside0.mk hp
  have HNE := Aside0.mk hne
  have HS := Aside0.mk hs
  have HOO := Aside0.mk ho
  have HC := Aside0.mk h0
  have HFZ := Aside0.mk hf
  clear hp hne ho h0 hf
  unfold hv
  go_enter Try.func92, Try.ntmps92
  go_wp2_with fail
  refine HP.out.mono ?_
  rintro en w1 ⟨rfl, g, cap, w9, hw1, ho9, hf9, hg, hgl⟩
  have hgs : g ≠ s := by
    rcases hg with hg | hg
    · intro e; subst e; exact HNE.out hg
    · omega
  have hl9 : (l ++ [x]).map (Value.int .i64) = l.map (Value.int .i64) ++ [.int .i64 x] := by rw [List.map_append]; rfl
  rw [← hl9] at ho9
  obtain ⟨C, hb, hh, hcs, hnc, hmx, hll⟩ := own_row ho9
  have e9 : w9.heap[s]? = w.heap[s]? := hf9.block s HS.out HNE.out
  have hsc : w1.cell? ⟨s, k, none⟩ = some (.slice (some ⟨g, 0, none⟩) (l.length + 1) cap) := by rw [hw1]; exact World.cell?_setCell_same _ _ _ ((World.cell?_of_block (a := ⟨s, k, none⟩) e9).trans HC.out)
  have hfz : w1.frozen? ⟨s, k, none⟩ = false := by rw [hw1, World.frozen?_setCell]; exact (World.frozen?_of_block (a := ⟨s, k, none⟩) e9).trans HFZ.out
  have hb1 : BL w1 g C 3 := by rw [hw1]; exact hb.far _ _ hgs
  have hf1 : Fr (fun q => q = s ∨ F.ownBlock = some q) w w1 := by rw [hw1]; exact (hf9.weak (G1 := fun q => q = s ∨ F.ownBlock = some q) (fun q hq => Or.inl (Or.inr hq))).setCell (p := ⟨s, k, none⟩) (Or.inl (Or.inl rfl)) _
  have hhp : _root_.Go.Proofs.Ytgkibjcnehdmbaa.G.HP w1 s k g (l.length + 1) cap C (l ++ [x]) := ⟨hsc, hfz, hb1, hh, hll, hgs, Nat.lt_of_lt_of_le HS.out hf1.size⟩
  have hbs : ∀ c e, BL w s c e → BL w1 s (c.setIfInBounds k (.slice (some ⟨g, 0, none⟩) (l.length + 1) cap)) e := fun c e hc => by
    rw [hw1]
    exact BL.set (show BL w9 s c e from e9.trans hc) k _
  have hup := heap_up.calls s k g (l.length + 1) cap l.length C (l ++ [x]) w1 hhp (by omega) (by omega)
  have hm2 := meth_Len w1 ⟨s, k, none⟩ _ hsc
  have HUP := Aside0.mk hup
  have HBS := Aside0.mk hbs
  have HF1 := Aside0.mk hf1
  have HG := Aside0.mk hg
  have HCS : Aside0 (C.size = cap ∧ l.length + 1 ≤ cap ∧ cap ≤ maxLen ∧ g ≠ s) := ⟨hcs, hnc, hmx, hgs⟩
  clear hup hbs hf1 hhp hb1 hfz hsc e9 hb hh hcs hnc hmx hll hl9 ho9 hf9 hw1 hg hgl hgs
  go_wp2_with fail
  refine (least_Len.calls (some ⟨g, 0, none⟩) (l.length + 1) cap _).mono ?_
  rintro en w2 ⟨rfl, rfl⟩
  go_wp2_with fail
  refine HUP.out.mono ?_
  rintro en w2 ⟨C2, rfl, hb2, hh2, hc2, hf2⟩
  have hz := HCS.out
  have hown : w2.ownsRow 0 3 1 (.slice (some ⟨g, 0, none⟩) (l.length + 1) cap) (l.length + 1) ((pushL l x).map (Value.int .i64)) := row_own hb2 hh2 (hc2.trans hz.1) hz.2.1 hz.2.2.1 (pushL_len l x)
  have hfin : HPushP w s k F l x (.returned (.tuple #[])) w2 := ⟨rfl, g, cap, fun c e hc => BL.fr (HBS.out c e hc) hf2 (fun e => hz.2.2.2 e.symm), hown, HF1.out.then_ hf2 (fun q hq => by
    rcases HG.out with h | h
    · exact Or.inl (Or.inr (by rw [hq]; exact h))
    · exact Or.inr (by omega)), HG.out⟩
  have HFIN := Aside0.mk hfin
  clear hfin hown hz hb2 hh2 hc2 hf2
  go_wp2_with fail
  exact bodyPost_ret (v := .tuple #[]) (by simp [results, Try.results92, go_sem]) rfl HFIN.out
theorem swapL_perm (l : List Int) (i j : Nat) (hi : i < l.length) (hj : j < l.length) : (swapL l i j).Perm l := by
  have h := Array.swap_perm (xs := l.toArray) (i := i) (j := j) (by simpa using hi) (by simpa using hj)
  have e : (l.toArray.swap i j (by simpa using hi) (by simpa using hj)).toList = swapL l i j := by
    unfold swapL
    rw [List.getD_eq_getElem?_getD, List.getD_eq_getElem?_getD, List.getElem?_eq_getElem hi, List.getElem?_eq_getElem hj]
    simp
  have := h.toList
  rw [e] at this
  simpa using this
theorem downL_perm (f : Nat) : ∀ (l : List Int) (i n : Nat), n ≤ l.length → i < l.length → (downL f l i n).Perm l := by
  induction f with
  | zero => intro l i n _ _; exact List.Perm.refl _
  | succ f ih =>
    intro l i n hn hi
    by_cases h : n ≤ 2 * i + 1
    · rw [downL_stop _ _ _ _ h]
    · obtain ⟨j, hj⟩ : ∃ j, (if 2 * i + 2 < n ∧ l.getD (2 * i + 2) 0 < l.getD (2 * i + 1) 0 then 2 * i + 2 else 2 * i + 1) = j := ⟨_, rfl⟩
      have hjn : j < n := by
        rw [← hj]
        split
        · rename_i hc; exact hc.1
        · omega
      rw [downL_step f l i n j h hj]
      split
      · exact (ih _ _ _ (by rw [swapL_len]; exact hn) (by rw [swapL_len]; omega)).trans (swapL_perm l i j hi (by omega))
      · exact List.Perm.refl _
theorem upL_perm (f : Nat) : ∀ (l : List Int) (j : Nat), j < l.length → (upL f l j).Perm l := by
  induction f with
  | zero => intro l j _; exact List.Perm.refl _
  | succ f ih =>
    intro l j hj
    unfold upL
    split
    · exact List.Perm.refl _
    · split
      · exact (ih _ _ (by rw [swapL_len]; omega)).trans (swapL_perm l _ _ (by omega) hj)
      · exact List.Perm.refl _
theorem popL_perm (l : List Int) (n : Nat) (hn : l.length = n + 1) : (popL l n).Perm l :=
  (downL_perm n _ 0 n (by rw [swapL_len]; omega) (by rw [swapL_len]; omega)).trans (swapL_perm l 0 n (by omega) (by omega))
theorem pushL_perm (l : List Int) (x : Int) : (pushL l x).Perm (l ++ [x]) := upL_perm _ _ _ (by rw [List.length_append, List.length_singleton]; omega)
/-- The free numbers are just those that are not taken, each once. -/
structure FreeOK (T : List Bool) (fl : List Int) : Prop where
  nd : fl.Nodup
  is : ∀ x ∈ fl, ∃ i : Nat, x = (i : Int) ∧ i < T.length ∧ T.getD i false = false
  all : ∀ i, i < T.length → T.getD i false = false → (i : Int) ∈ fl
theorem FreeOK.perm {T : List Bool} {fl fl' : List Int} (h : FreeOK T fl) (hp : fl'.Perm fl) : FreeOK T fl' :=
  ⟨hp.nodup_iff.2 h.nd, fun x hx => h.is x (hp.mem_iff.1 hx), fun i hi ht => hp.mem_iff.2 (h.all i hi ht)⟩
theorem getD_set (T : List Bool) (i j : Nat) (b : Bool) (hi : i < T.length) : (T.set i b).getD j false = if i = j then b else T.getD j false := by
  rw [List.getD_eq_getElem?_getD, List.getElem?_set]
  split
  · first | rfl | (rw [if_pos hi]; rfl)
  · rw [List.getD_eq_getElem?_getD]
theorem split_last (l : List Int) (n : Nat) (hn : l.length = n + 1) : l = l.take n ++ [l.getD n 0] := by
  rw [List.getD_eq_getElem?_getD, List.getElem?_eq_getElem (by omega : n < l.length)]
  show l = l.take n ++ [l[n]]
  rw [List.take_append_getElem (by omega), List.take_of_length_le (by omega)]
theorem FreeOK.pop {T : List Bool} {fl : List Int} (h : FreeOK T fl) (m i : Nat) (hm : fl.length = m + 1) (hi : (popL fl m).getD m 0 = (i : Int)) : FreeOK (T.set i true) ((popL fl m).take m) ∧ T.getD i false = false ∧ i < T.length := by
  have hp := h.perm (popL_perm fl m hm)
  have hs := split_last (popL fl m) m (by rw [popL_len]; exact hm)
  rw [hi] at hs
  obtain ⟨r, hr⟩ : ∃ r, (popL fl m).take m = r := ⟨_, rfl⟩
  rw [hr] at hs ⊢
  rw [hs] at hp
  obtain ⟨k, hk, hkl, hkf⟩ := hp.is (i : Int) (by simp)
  obtain rfl : k = i := by omega
  have hnd := List.nodup_append.1 hp.nd
  have hnot : ∀ x ∈ r, x ≠ (k : Int) := fun x hx e => hnd.2.2 x hx (k : Int) (by simp) e
  refine ⟨⟨hnd.1, fun x hx => ?_, fun j hj ht => ?_⟩, hkf, hkl⟩
  · obtain ⟨j, hj, hjl, hjf⟩ := hp.is x (by simp [hx])
    refine ⟨j, hj, by rw [List.length_set]; exact hjl, ?_⟩
    rw [getD_set T k j true hkl, if_neg (fun e => hnot x hx (by rw [hj, e]))]
    exact hjf
  · rw [List.length_set] at hj
    rw [getD_set T k j true hkl] at ht
    split at ht
    · cases ht
    · rename_i hne
      have := hp.all j hj ht
      rcases List.mem_append.1 this with h1 | h1
      · exact h1
      · simp at h1; omega
theorem FreeOK.push {T : List Bool} {fl : List Int} (h : FreeOK T fl) (i : Nat) (hi : i < T.length) (ht : T.getD i false = true) : FreeOK (T.set i false) (pushL fl i) := by
  have hni : (i : Int) ∉ fl := fun hm => by
    obtain ⟨j, hj, _, hjf⟩ := h.is _ hm
    obtain rfl : i = j := by omega
    rw [ht] at hjf; cases hjf
  refine FreeOK.perm (fl := fl ++ [(i : Int)]) ⟨?_, fun x hx => ?_, fun j hj hf => ?_⟩ (pushL_perm fl i)
  · rw [List.nodup_append]
    exact ⟨h.nd, by simp, fun a ha b hb e => hni (by simp at hb; rw [← hb, ← e]; exact ha)⟩
  · rcases List.mem_append.1 hx with h1 | h1
    · obtain ⟨j, hj, hjl, hjf⟩ := h.is x h1
      refine ⟨j, hj, by rw [List.length_set]; exact hjl, ?_⟩
      rw [getD_set T i j false hi]
      split
      · rfl
      · exact hjf
    · simp at h1
      exact ⟨i, h1, by rw [List.length_set]; exact hi, by rw [getD_set T i i false hi, if_pos rfl]⟩
  · rw [List.length_set] at hj
    rw [getD_set T i j false hi] at hf
    split at hf
    · rename_i e; subst e; simp
    · exact List.mem_append_left _ (h.all j hj hf)
theorem FreeOK.freeL (T : List Bool) : FreeOK T (freeL T T.length) := by
  refine ⟨?_, fun x hx => ?_, fun i hi hf => ?_⟩
  · unfold _root_.Go.Proofs.Ytgkibjcnehdmbaa.G.freeL
    refine List.pairwise_map.2 (List.Pairwise.imp ?_ (List.Pairwise.filter _ List.nodup_range))
    intro a b h e
    exact h (by omega)
  · unfold _root_.Go.Proofs.Ytgkibjcnehdmbaa.G.freeL at hx
    obtain ⟨i, hi, rfl⟩ := List.mem_map.1 hx
    obtain ⟨h1, h2⟩ := List.mem_filter.1 hi
    exact ⟨i, rfl, List.mem_range.1 h1, by simpa using h2⟩
  · unfold _root_.Go.Proofs.Ytgkibjcnehdmbaa.G.freeL
    exact List.mem_map.2 ⟨i, List.mem_filter.2 ⟨List.mem_range.2 hi, by rw [hf]; rfl⟩, rfl⟩
def GiveP (w : World) (s TB n c : Nat) (T : List Bool) (F : Value) (fl : List Int) (i : Nat) (en : Ending) (w' : World) : Prop :=
  ∃ F' : Value, en = .returned (.int .i64 0) ∧ Sp w' s TB n c (T.set i false) F' (pushL fl i) ∧ (F'.ownBlock = F.ownBlock ∨ ∃ k, F'.ownBlock = some k ∧ w.heap.size ≤ k) ∧ Fr (SpF s TB F) w w'
set_option maxHeartbeats 4000000 in
set_option maxRecDepth 100000 in
theorem space_Give.ok (s TB n c : Nat) (T : List Bool) (F : Value) (fl : List Int) (i : Nat) (w : World) (h : Sp w s TB n c T F fl) (hi : i < n) (hT : T.getD i false = true) (hfl : fl.length < 4096) :
    Calls Try.prog 67 #[.pointer (some ⟨s, 0, none⟩), .int .i64 i] w (GiveP w s TB n c T F fl i) := by
  have hnl := h.nl
  have hiT : i < T.length := by rw [h.lt]; exact hi
  have hTi : T[i] = true := by rw [List.getD_eq_getElem?_getD, List.getElem?_eq_getElem hiT] at hT; exact hT
  have htk := space_Taken.in_ s TB F T c i w (by rw [h.lt]; exact h.d) h.t hiT (by rw [h.lt]; omega)
  rw [hTi] at htk
  have t0 := h.d.all.1
  have ti := (BL.cell h.t i).trans (bl_at T i hiT)
  have tf := BL.free h.t i
  have k1 : (i : Int) < (n : Int) := by omega
  have hs1 : SPB (w.setCell ⟨TB, i, none⟩ (.bool false)) s (.slice (some ⟨TB, 0, none⟩) n c) F := h.d.far _ _ (fun e => h.ne e.symm)
  have ht1 : BL (w.setCell ⟨TB, i, none⟩ (.bool false)) TB (bl (T.set i false)) 4 := by have := BL.set h.t i (.bool false); rw [bl_set] at this; exact this
  have ho1 : (w.setCell ⟨TB, i, none⟩ (.bool false)).ownsRow 0 3 1 F fl.length (fl.map (Value.int .i64)) := ownsRow_block h.ow fun k hk => Below.heap_setCell _ _ _ _ (h.pf k hk).2
  have hf1 : Fr (SpF s TB F) w (w.setCell ⟨TB, i, none⟩ (.bool false)) := (Fr.refl (SpF s TB F) w).setCell (p := ⟨TB, i, none⟩) (Or.inl (Or.inr (Or.inl rfl))) _
  obtain ⟨w1, hw1⟩ : ∃ x, w.setCell ⟨TB, i, none⟩ (.bool false) = x := ⟨_, rfl⟩
  rw [hw1] at hs1 ht1 ho1 hf1
  have hp := heap_Push.calls s 1 F fl (i : Int) w1 hs1.all.2.1 (hs1.all.2.2 1) ho1 (by omega) (BL.lt hs1) (fun e => (h.pf s e).1 rfl)
  unfold hv at hp
  have H := Aside0.mk h
  have HP' := Aside0.mk hp
  have HTK := Aside0.mk htk
  have HS1 := Aside0.mk hs1
  have HT1 := Aside0.mk ht1
  have HF1 := Aside0.mk hf1
  have HW1 := Aside0.mk hw1
  clear h hp htk hs1 ht1 ho1 hf1 hT hTi hw1
  go_enter Try.func67, Try.ntmps67
  go_wp2_with fail
  refine HTK.out.mono ?_
  rintro en w2 ⟨rfl, rfl⟩
  go_wp2_with fail
  rw [HW1.out]
  refine HP'.out.mono ?_
  rintro en w2 ⟨rfl, g, cap, hb2, ho2, hf2, hg⟩
  have hTBs := H.out.ne
  have hgn : g ≠ s ∧ g ≠ TB := by
    rcases hg with hg | hg
    · exact H.out.pf g hg
    · have := BL.lt HS1.out; have := BL.lt HT1.out; omega
  have hsp : Sp w2 s TB n c (T.set i false) (.slice (some ⟨g, 0, none⟩) (fl.length + 1) cap) (pushL fl i) :=
    { d := hb2 _ _ HS1.out
      t := BL.fr HT1.out hf2 (fun e => by
        rcases e with e | e
        · exact hTBs e
        · exact (H.out.pf TB e).2 rfl)
      lt := by rw [List.length_set]; exact H.out.lt
      nl := hnl
      ow := by rw [pushL_len]; exact ho2
      rg := fun x hx => by
        rcases List.mem_append.1 ((pushL_perm fl i).mem_iff.1 hx) with h1 | h1
        · exact H.out.rg x h1
        · simp at h1; exact ⟨i, h1, hi⟩
      fn := by rw [pushL_len]; omega
      ne := hTBs
      pf := fun k hk => by have : g = k := Option.some.inj hk; subst this; exact hgn }
  have HSP := Aside0.mk hsp
  have HOWN : Aside0 ((Value.slice (some ⟨g, 0, none⟩) (fl.length + 1) cap).ownBlock = F.ownBlock ∨ ∃ k, (Value.slice (some ⟨g, 0, none⟩) (fl.length + 1) cap).ownBlock = some k ∧ w.heap.size ≤ k) := ⟨by
    rcases hg with hg | hg
    · exact Or.inl hg.symm
    · exact Or.inr ⟨g, rfl, Nat.le_trans HF1.out.size hg⟩⟩
  have HFF := Aside0.mk (HF1.out.trans (hf2.weak (G1 := SpF s TB F) (fun q hq => by
    rcases hq with hq | hq
    · exact Or.inl (Or.inl hq)
    · exact Or.inl (Or.inr (Or.inr hq)))))
  clear hsp hb2 ho2 hf2 hg hgn
  go_wp2_with fail
  go_ret
  exact ⟨_, rfl, HSP.out, HOWN.out, HFF.out⟩
set_option maxHeartbeats 1000000 in
theorem space_Taken.all (s TB n c : Nat) (T : List Bool) (F : Value) (fl : List Int) (x : Int) (w : World) (h : Sp w s TB n c T F fl) :
    Calls Try.prog 62 #[.pointer (some ⟨s, 0, none⟩), .int .i64 x] w fun e w' => e = .returned (.bool (decide (0 ≤ x ∧ x < (n : Int)) && T.getD x.toNat false)) ∧ w = w' := by
  by_cases hx : 0 ≤ x ∧ x < (n : Int)
  · obtain ⟨i, rfl⟩ : ∃ i : Nat, x = (i : Int) := ⟨x.toNat, by omega⟩
    have hiT : i < T.length := by rw [h.lt]; omega
    have := space_Taken.in_ s TB F T c i w (by rw [h.lt]; exact h.d) h.t hiT (by rw [h.lt]; have := h.nl; omega)
    rw [decide_eq_true hx, Bool.true_and, Int.toNat_natCast, List.getD_eq_getElem?_getD, List.getElem?_eq_getElem hiT]
    exact this
  · rw [decide_eq_false hx, Bool.false_and]
    exact space_Taken.out_ s _ F n c x w h.d hx
set_option maxHeartbeats 1000000 in
theorem space_Take.full (s TB n c : Nat) (T : List Bool) (F : Value) (w : World) (h : Sp w s TB n c T F []) :
    Calls Try.prog 69 #[.pointer (some ⟨s, 0, none⟩)] w fun e w' => e = .returned (.tuple #[.int .i64 0, .int .i64 3]) ∧ w = w' := by
  obtain ⟨A, c', hF⟩ := ownsRow_form h.ow
  have hd := h.d
  rw [hF] at hd
  have HD := Aside0.mk hd
  clear h hd hF
  go_enter Try.func69, Try.ntmps69
  go_wp2_with fail
  refine (space_Free.calls s _ A 0 c' _ HD.out).mono ?_
  rintro e w1 ⟨rfl, rfl⟩
  go_wp2_with fail
  exact bodyPost_ret (v := .tuple #[.int .i64 0, .int .i64 3]) (by simp [results, Try.results69, go_sem]) rfl ⟨rfl, rfl⟩
theorem PS.space {w w1 : World} {v : PV} {T : List Bool} {F : Value} {fl : List Int} (h : PS w v) (hf : Fr (SpF v.s v.TB v.F) w w1) (hs : Sp w1 v.s v.TB v.np v.c T F fl) (ho : F.ownBlock = v.F.ownBlock ∨ ∃ k, F.ownBlock = some k ∧ w.heap.size ≤ k) : PS w1 { v with T := T, F := F, fl := fl } :=
  have hk : ∀ k, SpF v.s v.TB F k → SpF v.s v.TB v.F k ∨ w.heap.size ≤ k := fun k hk => by
    rcases hk with hk | hk | hk
    · exact Or.inl (Or.inl hk)
    · exact Or.inl (Or.inr (Or.inl hk))
    · rcases ho with ho | ⟨q, hq, hl⟩
      · exact Or.inl (Or.inr (Or.inr (ho ▸ hk)))
      · rw [hq] at hk
        have : q = k := Option.some.inj hk
        exact Or.inr (by omega)
  { pb := BL.fr h.pb hf (fun e => (h.sx _ e).1 rfl)
    fm := h.fm.fr hf (fun e => (h.sx _ e).2 rfl)
    dk := h.dk.fr hf (fun k hk' => (h.dx k hk').2.2)
    sp := hs
    pm := h.pm
    dx := fun k hd => ⟨(h.dx k hd).1, (h.dx k hd).2.1, fun e => by
      rcases hk k e with e | e
      · exact (h.dx k hd).2.2 e
      · have := h.dk.lt k hd; omega⟩
    sx := fun k hd => by
      show k ≠ v.p ∧ k ≠ v.M
      rcases hk k hd with e | e
      · exact h.sx k e
      · have := h.lt v.p (Or.inl rfl); have := h.lt v.M (Or.inr (Or.inl rfl)); omega
    nb := h.nb
    rg := h.rg }
theorem own_il {w : World} {V : Value} {l : List Int} (h : w.ownsRow 0 3 1 V l.length (l.map (Value.int .i64))) : (V = .slice none 0 0 ∧ l = []) ∨ ∃ g cap, V = .slice (some ⟨g, 0, none⟩) l.length cap ∧ IL w g 0 l ∧ g < w.heap.size := by
  rcases h.2 with ⟨rfl, h0⟩ | ⟨g, cap, cur, rfl, _⟩
  · exact Or.inl ⟨rfl, List.eq_nil_of_length_eq_zero h0⟩
  · obtain ⟨C, hb, hh, _⟩ := own_row h
    exact Or.inr ⟨g, cap, rfl, HL.il hb hh, BL.lt hb⟩
theorem contains_own (x : Int) (w : World) {V : Value} {l : List Int} (h : w.ownsRow 0 3 1 V l.length (l.map (Value.int .i64))) (hl : l.length ≤ 100000) :
    Calls Try.prog 63 #[V, .int .i64 x] w fun e w' => e = .returned (.bool (decide (x ∈ l))) ∧ w = w' := by
  rcases own_il h with ⟨rfl, rfl⟩ | ⟨g, cap, rfl, hi, _⟩
  · exact slices_Contains.nil x w
  · exact slices_Contains.calls g 0 cap l x w hi hl
/-- A live pager with what was dropped, and what holds of it always. -/
structure QS (w : World) (v : PV) (dl : List Int) : Prop where
  ps : PS w v
  dw : w.ownsRow 0 3 1 v.dr dl.length (dl.map (Value.int .i64))
  dd : ∀ k, v.dr.ownBlock = some k → ¬ PF v k
  fo : FreeOK v.T v.fl
  fr : ∀ x, v.f x = true → ∃ i : Nat, x = (i : Int) ∧ i < v.np ∧ v.T.getD i false = true
  dt : ∀ x ∈ dl, ∃ i : Nat, x = (i : Int) ∧ i < v.np ∧ v.T.getD i false = true ∧ v.f x = false
  dn : dl.Nodup
  br : v.br = false
  off : v.off = false
  fu : v.fu = false
def QF (v : PV) (k : Nat) : Prop := PF v k ∨ v.dr.ownBlock = some k
theorem QS.lt {w : World} {v : PV} {dl : List Int} (h : QS w v dl) (k : Nat) (hk : QF v k) : k < w.heap.size := by
  rcases hk with hk | hk
  · exact h.ps.lt k hk
  · exact (h.dw.lt k hk).2
theorem QS.fr' {w w' : World} {v : PV} {dl : List Int} {G : Nat → Prop} (h : QS w v dl) (hf : Fr G w w') (hg : ∀ k, QF v k → ¬ G k) : QS w' v dl :=
  { h with
    ps := h.ps.fr hf (fun k hk => hg k (Or.inl hk))
    dw := ownsRow_block h.dw fun k hk => hf.block k (h.dw.lt k hk).2 (hg k (Or.inr hk)) }
/-- The dropped ones' row behind a call that leaves it alone. -/
theorem QS.row {w w' : World} {v : PV} {dl : List Int} (h : QS w v dl) (hf : Fr (PF v) w w') : w'.ownsRow 0 3 1 v.dr dl.length (dl.map (Value.int .i64)) :=
  ownsRow_block h.dw fun k hk => hf.block k (h.dw.lt k hk).2 (h.dd k hk)
/-- What a call may have laid anew: its blocks are the old ones, or new. -/
def Grow (w : World) (v v' : PV) : Prop := ∀ k, QF v' k → QF v k ∨ w.heap.size ≤ k
def taken (v : PV) (x : Int) : Bool := decide (0 ≤ x ∧ x < (v.np : Int)) && v.T.getD x.toNat false
set_option maxHeartbeats 4000000 in
set_option maxRecDepth 100000 in
theorem pager_Read.no (w : World) (v : PV) (h : PS w v) (x : Int) (hx : taken v x = false) :
    Calls Try.prog 25 #[.pointer (some ⟨v.p, 0, none⟩), .int .i64 x] w fun en w' => en = .returned (.tuple #[.slice none 0 0, .int .i64 1]) ∧ w = w' := by
  have c6 := h.pb.all.2.2.2.2.2.2.1
  have ht := space_Taken.all v.s v.TB v.np v.c v.T v.F v.fl x w h.sp
  rw [show (decide (0 ≤ x ∧ x < (v.np : Int)) && v.T.getD x.toNat false) = false from hx] at ht
  have HT := Aside0.mk ht
  clear h ht hx
  go_enter Try.func25, Try.ntmps25
  go_wp2_with fail
  refine HT.out.mono ?_
  rintro en w1 ⟨rfl, rfl⟩
  go_wp2_with fail
  exact bodyPost_ret (v := .tuple #[.slice none 0 0, .int .i64 1]) (by simp [results, Try.results25, go_sem]) rfl ⟨rfl, rfl⟩
set_option maxHeartbeats 4000000 in
set_option maxRecDepth 100000 in
theorem pager_Read.yes (w : World) (v : PV) (h : PS w v) (ho : v.off = false) (i : Nat) (hi : i < v.np) (hT : v.T.getD i false = true) :
    Calls Try.prog 25 #[.pointer (some ⟨v.p, 0, none⟩), .int .i64 i] w fun en w' => ∃ B : Nat, en = .returned (.tuple #[.slice (some ⟨B, 0, none⟩) 256 256, .int .i64 0]) ∧ BC w' B (nthB v.now (v.fi + 2 + i)) 106 ∧ w.heap.size ≤ B ∧ Below w.heap.size w w' := by
  have c3 := h.pb.all.2.2.2.1
  have c4 := h.pb.all.2.2.2.2.1
  have c6 := h.pb.all.2.2.2.2.2.2.1
  have hrg := h.rg
  have hnb := h.nb
  have ht := space_Taken.all v.s v.TB v.np v.c v.T v.F v.fl i w h.sp
  rw [decide_eq_true (show (0 : Int) ≤ (i : Int) ∧ (i : Int) < (v.np : Int) by omega), Bool.true_and, Int.toNat_natCast, hT] at ht
  have hdk := h.dk
  rw [ho] at hdk
  have hrd := disk_Read.calls v.d v.N v.n v.now (.slice (some ⟨v.S, 0, none⟩) v.n v.n) v.P v.fu v.lf (v.fi + 2 + i) w.drew (BL.dr hdk.d) (BL.dr hdk.bn) hdk.ln (by omega)
  rw [show ((v.fi + 2 + i : Nat) : Int) = IntKind.i64.wrap (IntKind.i64.wrap ((v.fi : Int) + 2) + (i : Int)) from by rw [i64_w, i64_w]; unfold wrap64; omega] at hrd
  have HT := Aside0.mk ht
  have HRD := Aside0.mk hrd
  clear h ht hT hdk hrd ho
  go_enter Try.func25, Try.ntmps25
  go_wp2_with fail
  refine HT.out.mono ?_
  rintro en w1 ⟨rfl, rfl⟩
  go_wp2_with fail
  go_region_with (first
    | (go_at_call 53; (with_reducible refine (HRD.out).mono ?_); rintro en w1 ⟨B, rfl, hB, hBC, hbl⟩; (have HB := Aside0.mk hBC); (have HBL := Aside0.mk hbl); (have HBZ : Aside0 (w.heap.size ≤ B) := ⟨hB⟩); clear hBC hbl hB))
  all_goals
    go_wp2_with fail
    exact bodyPost_ret (v := .tuple #[.slice (some ⟨B, 0, none⟩) 256 256, .int .i64 0]) (by simp [results, Try.results25, go_sem]) rfl ⟨B, rfl, HB.out, HBZ.out, (Below.refl _ _).drew.trans HBL.out⟩
set_option maxHeartbeats 4000000 in
set_option maxRecDepth 100000 in
theorem pager_Write.bad (w : World) (v : PV) (h : PS w v) (x : Int) (hx : (Lit.int .i64 x).wf = true) (A : Option Addr) (m c : Nat) (hb : v.f x = false ∨ m ≠ 256) :
    Calls Try.prog 26 #[.pointer (some ⟨v.p, 0, none⟩), .int .i64 x, .slice A m c] w fun en w' => en = .returned (.int .i64 1) ∧ w = w' := by
  have hfr := pager_isFresh.calls w v.p v.g v.r v.e v.d v.fi v.np v.s v.M v.m v.f v.dr v.br h.pb h.fm x hx
  clear h
  cases hf : v.f x with
  | false =>
    rw [hf] at hfr
    have HFR := Aside0.mk hfr
    clear hfr hf hb
    go_enter Try.func26, Try.ntmps26
    go_wp2_with fail
    refine HFR.out.mono ?_
    rintro en w1 ⟨rfl, rfl⟩
    go_wp2_with fail
    go_ret
    exact ⟨rfl, rfl⟩
  | true =>
    rw [hf] at hfr
    have hm : m ≠ 256 := hb.resolve_left (by rw [hf]; decide)
    have d1 : ((m : Int) != 256) = true := by simp; omega
    have HFR := Aside0.mk hfr
    clear hfr hf hb
    go_enter Try.func26, Try.ntmps26
    go_wp2_with fail
    refine HFR.out.mono ?_
    rintro en w1 ⟨rfl, rfl⟩
    go_wp2_with fail
    go_ret
    exact ⟨rfl, rfl⟩
set_option maxHeartbeats 4000000 in
set_option maxRecDepth 100000 in
theorem pager_Take.full (w : World) (v : PV) (h : PS w v) (hfl : v.fl = []) :
    Calls Try.prog 28 #[.pointer (some ⟨v.p, 0, none⟩)] w fun en w' => en = .returned (.tuple #[.int .i64 0, .int .i64 3]) ∧ w = w' := by
  have c6 := h.pb.all.2.2.2.2.2.2.1
  have hs := h.sp
  rw [hfl] at hs
  have HT := Aside0.mk (space_Take.full v.s v.TB v.np v.c v.T v.F w hs)
  clear h hs hfl
  go_enter Try.func28, Try.ntmps28
  go_wp2_with fail
  refine HT.out.mono ?_
  rintro en w1 ⟨rfl, rfl⟩
  go_wp2_with fail
  exact bodyPost_ret (v := .tuple #[.int .i64 0, .int .i64 3]) (by simp [results, Try.results28, go_sem]) rfl ⟨rfl, rfl⟩
theorem QS.wf {w : World} {v : PV} {dl : List Int} (h : QS w v dl) (i : Nat) (hi : i < v.np) : (Lit.int .i64 (i : Int)).wf = true := wf64 _ (by have := h.ps.sp.nl; omega)
theorem taken_nat {v : PV} {i : Nat} (hi : i < v.np) (hT : v.T.getD i false = true) : taken v (i : Int) = true := by
  unfold taken
  rw [decide_eq_true (show (0 : Int) ≤ (i : Int) ∧ (i : Int) < (v.np : Int) by omega), Bool.true_and, Int.toNat_natCast, hT]
theorem taken_is {v : PV} {x : Int} (h : taken v x = true) : ∃ i : Nat, x = (i : Int) ∧ i < v.np ∧ v.T.getD i false = true := by
  unfold taken at h
  rw [Bool.and_eq_true] at h
  have h1 := of_decide_eq_true h.1
  exact ⟨x.toNat, by omega, by omega, h.2⟩
theorem FM.del {w' : World} {M m : Nat} {D : DataW Unit} {f : Int → Bool} {i : Int} (hhas : ∀ x : Int, (Lit.int .i64 x).wf = true → Maps.has D (.int .i64 x) = f x) (hw : w'.ownsMap Try.prog 3 (plainElem Try.prog 3) M m (D.del (.int .i64 i))) : FM w' M m (fun x => x != i && f x) := by
  refine ⟨_, hw, fun x hx => ?_⟩
  by_cases e : x = i
  · subst e
    rw [Maps.has_del_same]
    simp
  · rw [Maps.has_del_other (by intro h; injection h; contradiction), hhas x hx]
    simp [e]
set_option maxHeartbeats 4000000 in
set_option maxRecDepth 100000 in
theorem pager_Drop.bad (w : World) (v : PV) (dl : List Int) (h : QS w v dl) (x : Int) (hb : taken v x = false ∨ x ∈ dl) (hdl : dl.length ≤ 100000) :
    Calls Try.prog 30 #[.pointer (some ⟨v.p, 0, none⟩), .int .i64 x] w fun en w' => en = .returned (.int .i64 1) ∧ w = w' := by
  have c6 := h.ps.pb.all.2.2.2.2.2.2.1
  have c8 := h.ps.pb.all.2.2.2.2.2.2.2.2.1
  have ht := space_Taken.all v.s v.TB v.np v.c v.T v.F v.fl x w h.ps.sp
  have hcn := contains_own x w h.dw hdl
  change Calls _ _ _ _ fun e w' => e = .returned (.bool (taken v x)) ∧ w = w' at ht
  cases hx : taken v x with
  | false =>
    rw [hx] at ht
    have HT := Aside0.mk ht
    clear h ht hb hcn hx
    go_enter Try.func30, Try.ntmps30
    go_wp2_with fail
    refine HT.out.mono ?_
    rintro en w1 ⟨rfl, rfl⟩
    go_wp2_with fail
    go_ret
    exact ⟨rfl, rfl⟩
  | true =>
    rw [hx] at ht
    have hm : x ∈ dl := hb.resolve_left (by rw [hx]; decide)
    rw [decide_eq_true hm] at hcn
    have HT := Aside0.mk ht
    have HC := Aside0.mk hcn
    clear h ht hb hcn hx hm
    go_enter Try.func30, Try.ntmps30
    go_wp2_with fail
    refine HT.out.mono ?_
    rintro en w1 ⟨rfl, rfl⟩
    go_wp2_with fail
    refine HC.out.mono ?_
    rintro en w1 ⟨rfl, rfl⟩
    go_wp2_with fail
    go_ret
    exact ⟨rfl, rfl⟩
/-- A taken page that is given back: what holds always holds. -/
theorem QS.gave {w w1 : World} {v v1 : PV} {dl : List Int} (h : QS w v dl) (i : Nat) (hi : i < v.np) (hT : v.T.getD i false = true) (hni : (i : Int) ∉ dl) (hps : PS w1 v1) (hf : Fr (PF v) w w1)
    (e1 : v1.T = v.T.set i false) (e2 : v1.fl = pushL v.fl i) (e3 : v1.np = v.np) (e4 : ∀ x, v1.f x = true → v.f x = true ∧ x ≠ (i : Int)) (e5 : v1.dr = v.dr) (e6 : v1.br = v.br) (e7 : v1.off = v.off) (e8 : v1.fu = v.fu) (hg : ∀ k, PF v1 k → PF v k ∨ w.heap.size ≤ k) : QS w1 v1 dl :=
  have hiT : i < v.T.length := by rw [h.ps.sp.lt]; exact hi
  { ps := hps
    dw := by rw [e5]; exact h.row hf
    dd := fun k hk e => by
      rw [e5] at hk
      rcases hg k e with e | e
      · exact h.dd k hk e
      · have := (h.dw.lt k hk).2; omega
    fo := by rw [e1, e2]; exact h.fo.push i hiT hT
    fr := fun x hx => by
      obtain ⟨hx1, hx2⟩ := e4 x hx
      obtain ⟨j, hj, hjn, hjT⟩ := h.fr x hx1
      refine ⟨j, hj, by rw [e3]; exact hjn, ?_⟩
      rw [e1, getD_set v.T i j false hiT, if_neg (fun e => hx2 (by rw [hj, e]))]
      exact hjT
    dt := fun x hx => by
      obtain ⟨j, hj, hjn, hjT, hjf⟩ := h.dt x hx
      refine ⟨j, hj, by rw [e3]; exact hjn, ?_, ?_⟩
      · rw [e1, getD_set v.T i j false hiT, if_neg (fun e => hni (by rw [e, ← hj]; exact hx))]
        exact hjT
      · cases hc : v1.f x with
        | false => rfl
        | true => have := (e4 x hc).1; rw [hjf] at this; cases this
    dn := h.dn
    br := e6.trans h.br
    off := e7.trans h.off
    fu := e8.trans h.fu }
def DropF (w : World) (v : PV) (dl : List Int) (i : Nat) (en : Ending) (w' : World) : Prop :=
  ∃ F' : Value, en = .returned (.int .i64 0) ∧ QS w' { v with f := fun x => x != (i : Int) && v.f x, T := v.T.set i false, F := F', fl := pushL v.fl i } dl ∧ (F'.ownBlock = v.F.ownBlock ∨ ∃ k, F'.ownBlock = some k ∧ w.heap.size ≤ k) ∧ Fr (PF v) w w'
theorem hMne {M k : Nat} (hk : k ≠ M) : ¬ (some M = some k) := fun e => hk (Option.some.inj e).symm
set_option maxHeartbeats 4000000 in
set_option maxRecDepth 100000 in
theorem pager_Drop.fresh (w : World) (v : PV) (dl : List Int) (h : QS w v dl) (i : Nat) (hf : v.f i = true) (hdl : dl.length ≤ 100000) (hfl : v.fl.length < 4096) :
    Calls Try.prog 30 #[.pointer (some ⟨v.p, 0, none⟩), .int .i64 i] w (DropF w v dl i) := by
  obtain ⟨i', hii, hi, hT⟩ := h.fr i hf
  obtain rfl : i = i' := by omega
  have hni : (i : Int) ∉ dl := fun hm => by obtain ⟨_, _, _, _, hx⟩ := h.dt _ hm; rw [hf] at hx; cases hx
  have hwf := h.wf i hi
  have c6 := h.ps.pb.all.2.2.2.2.2.2.1
  have c7 := h.ps.pb.all.2.2.2.2.2.2.2.1
  have c8 := h.ps.pb.all.2.2.2.2.2.2.2.2.1
  have ht := space_Taken.all v.s v.TB v.np v.c v.T v.F v.fl i w h.ps.sp
  change Calls _ _ _ _ fun e w' => e = .returned (.bool (taken v i)) ∧ w = w' at ht
  rw [taken_nat hi hT] at ht
  have hcn := contains_own i w h.dw hdl
  rw [decide_eq_false hni] at hcn
  have hfr := pager_isFresh.calls w v.p v.g v.r v.e v.d v.fi v.np v.s v.M v.m v.f v.dr v.br h.ps.pb h.ps.fm i hwf
  rw [hf] at hfr
  obtain ⟨D, hown, hhas⟩ := h.ps.fm
  have H := Aside0.mk h
  have HT := Aside0.mk ht
  have HC := Aside0.mk hcn
  have HFR := Aside0.mk hfr
  have HOW := Aside0.mk hown
  have HHS := Aside0.mk hhas
  have HWF := Aside0.mk hwf
  have HTi := Aside0.mk hT
  have HNI := Aside0.mk hni
  have HF := Aside0.mk hf
  clear h ht hcn hfr hown hhas hwf hT hni hf hii
  go_enter Try.func30, Try.ntmps30
  go_wp2_with fail
  refine HT.out.mono ?_
  rintro en w1 ⟨rfl, rfl⟩
  go_wp2_with fail
  refine HC.out.mono ?_
  rintro en w1 ⟨rfl, rfl⟩
  go_wp2_with fail
  refine HFR.out.mono ?_
  rintro en w1 ⟨rfl, rfl⟩
  go_wp2_with (first | (at_delete; refine wpList_delete_own _ rfl _ _ 113 3 rfl 3 law3 Try.underlying113 _ v.M v.m D rfl HOW.out _ _ rfl (Maps.keyOf_int_mk Try.underlying3 HWF.out) ?_; intro w2 hown2 htu2; have HO2 := Aside0.mk hown2; have HT2 := Aside0.mk htu2.grown; (have c62 : w2.cell? ⟨v.p, 6, none⟩ = w.cell? ⟨v.p, 6, none⟩ := World.cell?_of_block (a := ⟨v.p, 6, none⟩) (htu2.grown.block v.p (BL.lt H.out.ps.pb) (fun e => H.out.ps.pm (Option.some.inj e)))); rw [c6] at c62; clear hown2 htu2))
  have hf2 : Fr (fun q => some v.M = some q) w w2 := Fr.of_grown HT2.out
  have hps2 : PS w2 { v with f := fun x => x != (i : Int) && v.f x } :=
    { pb := BL.fr H.out.ps.pb hf2 (hMne H.out.ps.pm)
      fm := FM.del HHS.out HO2.out
      dk := H.out.ps.dk.fr hf2 (fun k hk => hMne (H.out.ps.dx k hk).2.1)
      sp := H.out.ps.sp.fr hf2 (fun k hk => hMne (H.out.ps.sx k hk).2)
      pm := H.out.ps.pm
      dx := H.out.ps.dx
      sx := H.out.ps.sx
      nb := H.out.ps.nb
      rg := H.out.ps.rg }
  have HP2 := Aside0.mk hps2
  have HF2 := Aside0.mk hf2
  clear hf2
  refine (space_Give.ok v.s v.TB v.np v.c v.T v.F v.fl i w2 hps2.sp hi HTi.out hfl).mono ?_
  clear hps2
  rintro en w3 ⟨F', rfl, hs3, hown, hf3⟩
  have hps3 : PS w3 { v with f := fun x => x != (i : Int) && v.f x, T := v.T.set i false, F := F', fl := pushL v.fl i } := HP2.out.space hf3 hs3 hown
  have hw2 := HF2.out.size
  have hown' : F'.ownBlock = v.F.ownBlock ∨ ∃ k, F'.ownBlock = some k ∧ w.heap.size ≤ k := hown.imp id (fun ⟨k, h1, h2⟩ => ⟨k, h1, by omega⟩)
  have hff : Fr (PF v) w w3 := (HF2.out.weak (G1 := PF v) (fun k hk => Or.inl (Or.inr (Or.inl (Option.some.inj hk).symm)))).trans (hf3.weak (fun k hk => Or.inl (Or.inr (Or.inr (Or.inr hk)))))
  have hqs : QS w3 { v with f := fun x => x != (i : Int) && v.f x, T := v.T.set i false, F := F', fl := pushL v.fl i } dl :=
    H.out.gave i hi HTi.out HNI.out hps3 hff rfl rfl rfl (fun x hx => by
      have : (x != (i : Int) && v.f x) = true := hx
      rw [Bool.and_eq_true] at this
      exact ⟨this.2, by simpa using this.1⟩) rfl rfl rfl rfl (fun k hk => by
      rcases hk with hk | hk | hk | hk
      · exact Or.inl (Or.inl hk)
      · exact Or.inl (Or.inr (Or.inl hk))
      · exact Or.inl (Or.inr (Or.inr (Or.inl hk)))
      · rcases hk with hk | hk | hk
        · exact Or.inl (Or.inr (Or.inr (Or.inr (Or.inl hk))))
        · exact Or.inl (Or.inr (Or.inr (Or.inr (Or.inr (Or.inl hk)))))
        · rcases hown' with h1 | ⟨q, hq, hl⟩
          · exact Or.inl (Or.inr (Or.inr (Or.inr (Or.inr (Or.inr (h1 ▸ hk))))))
          · have hk' : F'.ownBlock = some k := hk
            rw [hq] at hk'
            have : q = k := Option.some.inj hk'
            exact Or.inr (by omega))
  have HQ := Aside0.mk hqs
  have HOWN := Aside0.mk hown'
  have HFF := Aside0.mk hff
  clear hps3 hs3 hown hf3 hown' hff hqs hw2
  go_wp2_with fail
  go_ret
  exact ⟨F', rfl, HQ.out, HOWN.out, HFF.out⟩
theorem PS.setdr {w : World} {v : PV} (h : PS w v) (V : Value) : PS (w.setCell ⟨v.p, 8, none⟩ V) { v with dr := V } :=
  have hf : Fr (· = v.p) w (w.setCell ⟨v.p, 8, none⟩ V) := (Fr.refl (· = v.p) w).own 8 _
  { pb := BL.set h.pb 8 _
    fm := h.fm.fr hf (fun e => h.pm e.symm)
    dk := h.dk.fr hf (fun k hk => (h.dx k hk).1)
    sp := h.sp.fr hf (fun k hk => (h.sx k hk).1)
    pm := h.pm
    dx := h.dx
    sx := h.sx
    nb := h.nb
    rg := h.rg }
def DropS (w : World) (v : PV) (dl : List Int) (i : Nat) (en : Ending) (w' : World) : Prop :=
  ∃ V' : Value, en = .returned (.int .i64 0) ∧ QS w' { v with dr := V' } (dl ++ [(i : Int)]) ∧ (V'.ownBlock = v.dr.ownBlock ∨ ∃ k, V'.ownBlock = some k ∧ w.heap.size ≤ k) ∧ Fr (QF v) w w'
set_option maxHeartbeats 4000000 in
set_option maxRecDepth 100000 in
theorem pager_Drop.stale (w : World) (v : PV) (dl : List Int) (h : QS w v dl) (i : Nat) (hi : i < v.np) (hT : v.T.getD i false = true) (hni : (i : Int) ∉ dl) (hf : v.f i = false) (hdl : dl.length ≤ 90000) :
    Calls Try.prog 30 #[.pointer (some ⟨v.p, 0, none⟩), .int .i64 i] w (DropS w v dl i) := by
  obtain ⟨i3, hi3, hm3⟩ := Option.map_eq_some_iff.1 int_info
  simp only [Prod.mk.injEq] at hm3
  have hwf := h.wf i hi
  have c6 := h.ps.pb.all.2.2.2.2.2.2.1
  have c8 := h.ps.pb.all.2.2.2.2.2.2.2.2.1
  have ht := space_Taken.all v.s v.TB v.np v.c v.T v.F v.fl i w h.ps.sp
  change Calls _ _ _ _ fun e w' => e = .returned (.bool (taken v i)) ∧ w = w' at ht
  rw [taken_nat hi hT] at ht
  have hcn := contains_own i w h.dw (by omega)
  rw [decide_eq_false hni] at hcn
  have hfr := pager_isFresh.calls w v.p v.g v.r v.e v.d v.fi v.np v.s v.M v.m v.f v.dr v.br h.ps.pb h.ps.fm i hwf
  rw [hf] at hfr
  have H := Aside0.mk h
  have HT := Aside0.mk ht
  have HC := Aside0.mk hcn
  have HFR := Aside0.mk hfr
  have HTi := Aside0.mk hT
  have HNI := Aside0.mk hni
  have HF := Aside0.mk hf
  have HI := Aside0.mk hi3
  have HM := Aside0.mk hm3
  have hpl := BL.lt h.ps.pb
  have HOA := Aside0.mk (h.dw.alloc (.cells #[.int .i64 (i : Int)] 3))
  have HN := Aside0.mk (BL.new w #[.int .i64 (i : Int)] 3)
  have HMX : Aside0 (dl.length + 1 ≤ maxLen) := ⟨by simp [maxLen]; omega⟩
  have HBY : Aside0 ((dl.length + 1) * 8 ≤ 140737488355328) := ⟨by omega⟩
  have HSA : Aside0 (v.p < (w.alloc (.cells #[.int .i64 (i : Int)] 3)).heap.size) := ⟨by rw [al_size]; omega⟩
  have HSB : Aside0 ((w.alloc (.cells #[.int .i64 (i : Int)] 3)).heap[v.p]? = w.heap[v.p]?) := ⟨(al (w := w) _).block v.p hpl⟩
  clear h ht hcn hfr hwf hT hni hf hi3 hm3
  go_enter Try.func30, Try.ntmps30
  go_wp2_with fail
  refine HT.out.mono ?_
  rintro en w1 ⟨rfl, rfl⟩
  go_wp2_with fail
  refine HC.out.mono ?_
  rintro en w1 ⟨rfl, rfl⟩
  go_wp2_with fail
  refine HFR.out.mono ?_
  rintro en w1 ⟨rfl, rfl⟩
  go_wp2_with (first
    | (at_builtin; (refine wpList_append_lies _ rfl (.tmp 42) (.tmp 44) 57 rfl 0 3 i3 (.int .i64 0) 1 8 Try.underlying57 HI.out HM.out.1 HM.out.2.1 HM.out.2.2 rfl (by decide) v.dr dl.length _ rfl HOA.out ⟨w.heap.size, 0, none⟩ 1 1 [.int .i64 (i : Int)] rfl rfl (BL.src0 HN.out) (by intro u hu; simp at hu; subst hu; rfl) (by decide) HMX.out HBY.out (Nat.zero_le _) _ rfl ?_); intro g cap w9 ho9 hg9 hgg hgl; (have e9 : w9.heap[v.p]? = w.heap[v.p]? := (hg9.block v.p HSA.out (fun e => H.out.dd v.p e.symm (Or.inl rfl))).trans HSB.out); (have x0 := (World.cell?_of_block (a := ⟨v.p, 8, none⟩) e9).trans c8); (have x1 := (World.frozen?_of_block (a := ⟨v.p, 8, none⟩) e9).trans (BL.free H.out.ps.pb 8)); (have HO9 := Aside0.mk ho9); (have HG9 := Aside0.mk hg9); (have HGG := Aside0.mk hgg); (have HGL := Aside0.mk hgl); clear ho9 hg9 hgg hgl e9))
  have hF9 : Fr (fun q => v.dr.ownBlock = some q) w w9 := ((Fr.refl (fun q => v.dr.ownBlock = some q) w).alloc _).trans (Fr.of_grown HG9.out)
  have hps9 : PS w9 v := H.out.ps.fr hF9 (fun k hk e => H.out.dd k e hk)
  have hg : v.dr.ownBlock = some g ∨ w.heap.size ≤ g := HGG.out.imp id (fun h => by rw [h, al_size]; omega)
  have hgP : ¬ PF v g := fun e => by
    rcases hg with h | h
    · exact H.out.dd g h e
    · have := H.out.ps.lt g e; omega
  have hqs : QS (w9.setCell ⟨v.p, 8, none⟩ (.slice (some ⟨g, 0, none⟩) (dl.length + 1) cap)) { v with dr := .slice (some ⟨g, 0, none⟩) (dl.length + 1) cap } (dl ++ [(i : Int)]) :=
    { ps := hps9.setdr _
      dw := by
        rw [List.length_append, List.length_singleton, List.map_append]
        exact ownsRow_block HO9.out fun k hk => Below.heap_setCell _ _ _ _ (fun e => hgP (by have : g = k := Option.some.inj hk; rw [this, e]; exact Or.inl rfl))
      dd := fun k hk e => by have : g = k := Option.some.inj hk; subst this; exact hgP e
      fo := H.out.fo
      fr := H.out.fr
      dt := fun x hx => by
        rcases List.mem_append.1 hx with h1 | h1
        · exact H.out.dt x h1
        · simp at h1; exact ⟨i, h1, hi, HTi.out, by rw [h1]; exact HF.out⟩
      dn := by
        rw [List.nodup_append]
        exact ⟨H.out.dn, by simp, fun a ha b hb e => HNI.out (by simp at hb; rw [← hb, ← e]; exact ha)⟩
      br := H.out.br
      off := H.out.off
      fu := H.out.fu }
  have hff : Fr (QF v) w (w9.setCell ⟨v.p, 8, none⟩ (.slice (some ⟨g, 0, none⟩) (dl.length + 1) cap)) := (hF9.weak (G1 := QF v) (fun k hk => Or.inl (Or.inr hk))).setCell (p := ⟨v.p, 8, none⟩) (Or.inl (Or.inl (Or.inl rfl))) _
  go_ret
  exact ⟨_, rfl, hqs, hg.imp (fun h => h.symm) (fun h => ⟨g, rfl, h⟩), hff⟩
def giveT (T : List Bool) (L : List Int) : List Bool := L.foldl (fun T x => T.set x.toNat false) T
def giveF (fl : List Int) (L : List Int) : List Int := L.foldl pushL fl
theorem giveT_len (L : List Int) : ∀ T, (giveT T L).length = T.length := by
  induction L with
  | nil => intro T; rfl
  | cons x r ih => intro T; show (giveT (T.set x.toNat false) r).length = _; rw [ih, List.length_set]
theorem giveF_len (L : List Int) : ∀ fl, (giveF fl L).length = fl.length + L.length := by
  induction L with
  | nil => intro fl; rfl
  | cons x r ih => intro fl; show (giveF (pushL fl x) r).length = _; rw [ih, pushL_len, List.length_cons]; omega
theorem giveT_getD (L : List Int) : ∀ T, (∀ x ∈ L, ∃ k : Nat, x = (k : Int) ∧ k < T.length) → ∀ i, (giveT T L).getD i false = if (i : Int) ∈ L then false else T.getD i false := by
  induction L with
  | nil => intro T _ i; simp [giveT]
  | cons x r ih =>
    intro T h i
    obtain ⟨k, hk, hkl⟩ := h x (List.mem_cons_self ..)
    show (giveT (T.set x.toNat false) r).getD i false = _
    rw [ih _ (fun y hy => by obtain ⟨j, hj, hjl⟩ := h y (List.mem_cons_of_mem _ hy); exact ⟨j, hj, by rw [List.length_set]; exact hjl⟩) i]
    rw [show x.toNat = k by omega, getD_set T k i false hkl]
    by_cases h1 : (i : Int) ∈ r
    · rw [if_pos h1, if_pos (List.mem_cons_of_mem _ h1)]
    · rw [if_neg h1]
      by_cases h2 : k = i
      · rw [if_pos h2, if_pos (by rw [hk, h2]; exact List.mem_cons_self ..)]
      · rw [if_neg h2, if_neg (fun e => by
          rcases List.mem_cons.1 e with e | e
          · omega
          · exact h1 e)]
theorem giveT_snoc (T : List Bool) (L : List Int) (x : Int) : giveT T (L ++ [x]) = (giveT T L).set x.toNat false := by simp [giveT]
theorem giveF_snoc (fl : List Int) (L : List Int) (x : Int) : giveF fl (L ++ [x]) = pushL (giveF fl L) x := by simp [giveF]
/-- While pages are given back. -/
structure GV (w0 : World) (v : PV) (L : List Int) (F' : Value) (w : World) : Prop where
  ps : PS w { v with T := giveT v.T L, F := F', fl := giveF v.fl L }
  fo : FreeOK (giveT v.T L) (giveF v.fl L)
  rg : ∀ x ∈ L, ∃ k : Nat, x = (k : Int) ∧ k < v.T.length
  ow : F'.ownBlock = v.F.ownBlock ∨ ∃ k, F'.ownBlock = some k ∧ w0.heap.size ≤ k
  fr : Fr (PF v) w0 w
theorem GV.start {w : World} {v : PV} (h : PS w v) (hf : FreeOK v.T v.fl) : GV w v [] v.F w := ⟨h, hf, (fun x hx => by cases hx), Or.inl rfl, Fr.refl _ _⟩
theorem GV.give {w0 w : World} {v : PV} {L : List Int} {F' : Value} (h : GV w0 v L F' w) (i : Nat) (hi : i < v.np) (hT : v.T.getD i false = true) (hni : (i : Int) ∉ L) (hlen : v.fl.length + L.length < 4096) (hTl : v.T.length = v.np) :
    Calls Try.prog 67 #[.pointer (some ⟨v.s, 0, none⟩), .int .i64 i] w fun en w' => en = .returned (.int .i64 0) ∧ ∃ F2, GV w0 v (L ++ [(i : Int)]) F2 w' := by
  have hTi : (giveT v.T L).getD i false = true := by rw [giveT_getD L v.T h.rg i, if_neg hni]; exact hT
  refine (space_Give.ok v.s v.TB v.np v.c (giveT v.T L) F' (giveF v.fl L) i w h.ps.sp hi hTi (by rw [giveF_len]; omega)).mono ?_
  rintro en w' ⟨F2, rfl, hsp, hown, hf⟩
  have hps := h.ps.space hf hsp hown
  refine ⟨rfl, F2, ⟨?_, ?_, ?_, ?_, ?_⟩⟩
  · rw [giveT_snoc, giveF_snoc]; exact hps
  · rw [giveT_snoc, giveF_snoc]; exact h.fo.push i (by rw [giveT_len]; omega) hTi
  · intro x hx
    rcases List.mem_append.1 hx with h1 | h1
    · exact h.rg x h1
    · simp at h1; exact ⟨i, h1, by omega⟩
  · rcases hown with h1 | ⟨k, h1, h2⟩
    · rcases h.ow with h3 | ⟨k, h3, h4⟩
      · exact Or.inl (h1.trans h3)
      · exact Or.inr ⟨k, h1.trans h3, h4⟩
    · exact Or.inr ⟨k, h1, Nat.le_trans h.fr.size h2⟩
  · refine h.fr.then_ hf (fun k hk => ?_)
    rcases hk with hk | hk | hk
    · exact Or.inl (Or.inr (Or.inr (Or.inr (Or.inl hk))))
    · exact Or.inl (Or.inr (Or.inr (Or.inr (Or.inr (Or.inl hk)))))
    · rcases h.ow with h3 | ⟨q, h3, h4⟩
      · exact Or.inl (Or.inr (Or.inr (Or.inr (Or.inr (Or.inr (h3 ▸ hk))))))
      · have hk' : F'.ownBlock = some k := hk
        rw [h3] at hk'
        have : q = k := Option.some.inj hk'
        exact Or.inr (by omega)
/-- The fresh pages among the first j. -/
def freshL (f : Int → Bool) (j : Nat) : List Int := ((List.range j).filter (fun i : Nat => f (i : Int))).map (fun i : Nat => (i : Int))
theorem freshL_yes (f : Int → Bool) (j : Nat) (h : f (j : Int) = true) : freshL f (j + 1) = freshL f j ++ [(j : Int)] := by
  simp only [freshL, List.range_succ, List.filter_append, List.filter_cons, List.filter_nil, h]; simp
theorem freshL_no (f : Int → Bool) (j : Nat) (h : f (j : Int) = false) : freshL f (j + 1) = freshL f j := by
  simp only [freshL, List.range_succ, List.filter_append, List.filter_cons, List.filter_nil, h]; simp
theorem freshL_mem (f : Int → Bool) (j : Nat) (x : Int) : x ∈ freshL f j ↔ ∃ i : Nat, x = (i : Int) ∧ i < j ∧ f (i : Int) = true := by
  unfold freshL
  rw [List.mem_map]
  constructor
  · rintro ⟨i, hi, rfl⟩
    obtain ⟨h1, h2⟩ := List.mem_filter.1 hi
    exact ⟨i, rfl, List.mem_range.1 h1, h2⟩
  · rintro ⟨i, rfl, hi, hf⟩
    exact ⟨i, List.mem_filter.2 ⟨List.mem_range.2 hi, hf⟩, rfl⟩
theorem freshL_len (f : Int → Bool) (j : Nat) : (freshL f j).length ≤ j := by
  unfold freshL
  rw [List.length_map]
  exact Nat.le_trans (List.length_filter_le _ _) (by simp)
def UndoP (w : World) (v : PV) (en : Ending) (w' : World) : Prop :=
  ∃ (F' : Value) (M : Nat), en = .returned (.tuple #[]) ∧ QS w' { v with M := M, m := 0, f := fun _ => false, dr := .slice none 0 0, T := giveT v.T (freshL v.f v.np), F := F', fl := giveF v.fl (freshL v.f v.np) } [] ∧ (F'.ownBlock = v.F.ownBlock ∨ ∃ k, F'.ownBlock = some k ∧ w.heap.size ≤ k) ∧ w.heap.size ≤ M ∧ Fr (PF v) w w'
set_option maxHeartbeats 4000000 in
set_option maxRecDepth 100000 in
theorem pager_Undo.calls (w : World) (v : PV) (dl : List Int) (h : QS w v dl) (hlen : v.fl.length + v.np ≤ 4096) :
    Calls Try.prog 29 #[.pointer (some ⟨v.p, 0, none⟩)] w (UndoP w v) := by
  have hnp := h.ps.sp.nl
  have hTl := h.ps.sp.lt
  have c5 := h.ps.pb.all.2.2.2.2.2.1
  have H := Aside0.mk h
  have HST := Aside0.mk (GV.start h.ps h.fo)
  clear h
  go_enter Try.func29, Try.ntmps29
  go_wp2_with fail
  go_loopg [9] v.np (fun kq v9 wr => ∃ (j : Nat) (F' : Value), v9 = .int .i64 j ∧ Aside0 (kq + j = v.np) ∧ Aside0 (GV w v (freshL v.f j) F' wr))
  case atStart => exact ⟨0, v.F, rfl, ⟨by omega⟩, HST⟩
  case round =>
    obtain ⟨j, F', rfl, HJ, HG⟩ := hrel
    by_cases hj : j < v.np
    · have k1 : (j : Int) < (v.np : Int) := by omega
      have hwf := H.out.wf j hj
      have hfr := pager_isFresh.calls wr v.p v.g v.r v.e v.d v.fi v.np v.s v.M v.m v.f v.dr v.br HG.out.ps.pb HG.out.ps.fm j hwf
      have c6 := HG.out.ps.pb.all.2.2.2.2.2.2.1
      cases hf : v.f j with
      | true =>
        rw [hf] at hfr
        obtain ⟨j', hjj, _, hT⟩ := H.out.fr j hf
        obtain rfl : j = j' := by omega
        have hgv := HG.out.give j hj hT (fun hm => by obtain ⟨i, hi, hij, _⟩ := (freshL_mem v.f j _).1 hm; omega) (by have := freshL_len v.f j; omega) hTl
        rw [← freshL_yes v.f j hf] at hgv
        have HFR := Aside0.mk hfr
        have HGV := Aside0.mk hgv
        clear hfr hgv hf hT hjj hwf
        go_wp2_with fail
        refine HFR.out.mono ?_
        rintro en w1 ⟨rfl, rfl⟩
        go_wp2_with fail
        refine HGV.out.mono ?_
        rintro en w1 ⟨rfl, F2, hg2⟩
        have HG2 := Aside0.mk hg2
        clear hg2
        go_wp2_with fail
        go_roundg (v.np - (j + 1))
        case measure => have := HJ.out; omega
        case rel => exact ⟨j + 1, F2, rfl, ⟨by omega⟩, HG2⟩
      | false =>
        rw [hf] at hfr
        have HFR := Aside0.mk hfr
        have HF := Aside0.mk hf
        clear hfr hf hwf
        go_wp2_with fail
        refine HFR.out.mono ?_
        rintro en w1 ⟨rfl, rfl⟩
        go_wp2_with fail
        go_roundg (v.np - (j + 1))
        case measure => have := HJ.out; omega
        case rel => exact ⟨j + 1, F', rfl, ⟨by omega⟩, ⟨by rw [freshL_no v.f j HF.out]; exact HG.out⟩⟩
    · have k1 : ¬ (j : Int) < (v.np : Int) := by omega
      have e1 : j = v.np := by have := HJ.out; omega
      have hst := pager_settle.calls wr v.p _ _ _ _ _ _ _ _ _ _ HG.out.ps.pb
      have HS := Aside0.mk hst
      have HE := Aside0.mk e1
      clear hst e1
      go_wp2_with fail
      refine HS.out.mono ?_
      rintro en w2 ⟨rfl, M, hb2, hm2, hM, hf2⟩
      have hps2 := HG.out.ps.settled M hf2 hM hm2 hb2
      rw [HE.out] at HG hps2
      have hqs : QS w2 { v with M := M, m := 0, f := fun _ => false, dr := .slice none 0 0, T := giveT v.T (freshL v.f v.np), F := F', fl := giveF v.fl (freshL v.f v.np) } [] :=
        { ps := hps2
          dw := World.ownsRow_nil _ _ _ _
          dd := fun k hk => by cases hk
          fo := HG.out.fo
          fr := fun x hx => by cases hx
          dt := fun x hx => by cases hx
          dn := List.nodup_nil
          br := H.out.br
          off := H.out.off
          fu := H.out.fu }
      have hff : Fr (PF v) w w2 := HG.out.fr.trans (hf2.weak (fun k hk => Or.inl (Or.inl hk)))
      have hM' : w.heap.size ≤ M := Nat.le_trans HG.out.fr.size hM
      have HQ := Aside0.mk hqs
      have HFF := Aside0.mk hff
      have HMM := Aside0.mk hM'
      have HOW := Aside0.mk HG.out.ow
      clear hps2 hqs hff hM' hb2 hm2 hM hf2
      go_wp2_with fail
      exact bodyPost_ret (v := .tuple #[]) (by simp [results, Try.results29, go_sem]) rfl ⟨F', M, rfl, HQ.out, HOW.out, HMM.out, HFF.out⟩
def PV.doneQ (v : PV) (r e : Int) (P' : Value) (M : Nat) (F' : Value) (dl : List Int) : PV := { v.done r e P' M with T := giveT v.T dl, F := F', fl := giveF v.fl dl }
def CommitQ (w : World) (v : PV) (dl : List Int) (r e : Int) (en : Ending) (w' : World) : Prop :=
  ∃ (F' P' : Value) (M : Nat), en = .returned (.int .i64 0) ∧ QS w' (v.doneQ r e P' M F' dl) [] ∧ (F'.ownBlock = v.F.ownBlock ∨ ∃ k, F'.ownBlock = some k ∧ w.heap.size ≤ k) ∧ w.heap.size ≤ M ∧ Fr (PF v) w w'
set_option maxHeartbeats 8000000 in
set_option maxRecDepth 100000 in
theorem pager_Commit.root (w : World) (v : PV) (dl : List Int) (h : QS w v dl) (r : Int) (hr : taken v r = true) (hrd : r ∉ dl) (e : Int) (he : v.e ≤ e) (he0 : 0 ≤ e) (he1 : e < 18446744073709551616) (hg0 : 0 ≤ v.g) (hg1 : v.g < 18446744073709551615) (hps : v.ps.length ≤ 90000) (hdl : dl.length ≤ 90000) (hfl : v.fl.length + dl.length < 4096) :
    Calls Try.prog 24 #[.pointer (some ⟨v.p, 0, none⟩), .int .i64 r, .int .u64 e] w (CommitQ w v dl r e) := by
  have hnp := h.ps.sp.nl
  have H := Aside0.mk h.ps
  have Q := Aside0.mk h
  have c0 := h.ps.pb.all.1
  have c2 := h.ps.pb.all.2.2.1
  have c6 := h.ps.pb.all.2.2.2.2.2.2.1
  have c8 := h.ps.pb.all.2.2.2.2.2.2.2.2.1
  have c9 := h.ps.pb.all.2.2.2.2.2.2.2.2.2
  obtain ⟨A, cD, hDR⟩ := ownsRow_form h.dw
  rw [hDR] at c8
  rw [h.br] at c9
  have HDR := Aside0.mk hDR
  have HOFF := Aside0.mk h.off
  have HFU := Aside0.mk h.fu
  have HFLB := Aside0.mk hfl
  have HDLB := Aside0.mk hdl
  have k1 : decide (e < v.e) = false := decide_eq_false (by omega)
  have hw1 : IntKind.u64.wrap (v.g + 1) = v.g + 1 := by rw [IntKind.wrap_u64]; omega
  have k3 : ((v.g + 1) == 0) = false := by simp; omega
  have hr1 : 0 ≤ r := by obtain ⟨i, hi, _⟩ := taken_is hr; omega
  have k2 : (r != -1) = true := by simp; omega
  have htk := space_Taken.all v.s v.TB v.np v.c v.T v.F v.fl r w h.ps.sp
  change Calls _ _ _ _ fun e w' => e = .returned (.bool (taken v r)) ∧ w = w' at htk
  rw [hr] at htk
  have hcn := contains_own r w h.dw (by omega)
  rw [decide_eq_false hrd, hDR] at hcn
  have HTK := Aside0.mk htk
  have HCN := Aside0.mk hcn
  clear htk hcn hr hrd
  clear h hDR hfl hdl
  go_enter Try.func24, Try.ntmps24
  go_wp2_with fail
  refine HTK.out.mono ?_
  rintro en w1 ⟨rfl, rfl⟩
  go_wp2_with fail
  refine HCN.out.mono ?_
  rintro en w1 ⟨rfl, rfl⟩
  go_wp2_with fail
  have hbl1 := BL.new w #[Value.int IntKind.u64 (v.g + 1), Value.int IntKind.i64 r, Value.int IntKind.u64 e] 111
  have hps1 : PS (w.alloc (Obj.cells #[Value.int IntKind.u64 (v.g + 1), Value.int IntKind.i64 r, Value.int IntKind.u64 e] 111)) v := H.out.fr (Fr.of_below (G := fun _ => False) (al _)) (fun _ _ e => e)
  obtain ⟨W1, hW1⟩ : ∃ x, w.alloc (Obj.cells #[Value.int IntKind.u64 (v.g + 1), Value.int IntKind.i64 r, Value.int IntKind.u64 e] 111) = x := ⟨_, rfl⟩
  have hal : Below w.heap.size w W1 := hW1 ▸ al _
  rw [hW1] at hbl1 hps1 ⊢
  have hqF : ¬ PF v w.heap.size := fun e => by have := H.out.lt _ e; omega
  refine (pager_flush.calls W1 v hps1 HOFF.out (by rw [HFU.out]; rfl) (by omega)).mono ?_
  rintro en w2 ⟨rfl, hs2, hf2⟩
  have hbl2 := BL.fr hbl1 hf2 hqF
  have hF2 : Fr (PF v) w w2 := (Fr.of_below hal).trans hf2
  have c2' := BL.cell hbl2 0
  have c3' := BL.cell hbl2 1
  have c4' := BL.cell hbl2 2
  simp only [List.getElem?_toArray, List.getElem?_cons_zero, List.getElem?_cons_succ] at c2' c3' c4'
  have S2 := Aside0.mk (show PS w2 v.flushed from hs2)
  have B2 := Aside0.mk hbl2
  have F2 := Aside0.mk hF2
  have QF := Aside0.mk hqF
  clear hs2 hf2 hbl2 hF2 hW1 hbl1 hps1 hal hqF
  go_wp2_with fail
  obtain ⟨n, hn⟩ : ∃ n : Nat, ((v.g + 1) % 2).toNat = n := ⟨_, rfl⟩
  have hn2 : n < 2 := by omega
  have hni : (v.g + 1) % 2 = (n : Int) := by omega
  have HN := Aside0.mk hn
  have hlen : (headL (v.g + 1) r e).length = 256 := by unfold headL headA; rw [putL_len, putL_len, putL_len, putL_len, List.length_replicate]
  have hhd : ∀ W : World, Calls Try.prog 66 #[.agg #[.int .u64 (v.g + 1), .int .i64 r, .int .u64 e]] W (HeadP W (v.g + 1) r e) := fun W => pager_head.calls _ _ _ W
  unfold HeadP at hhd
  obtain ⟨hL, hhL⟩ : ∃ x, headL (v.g + 1) r e = x := ⟨_, rfl⟩
  rw [hhL] at hhd hlen
  have HHD := Aside0.mk hhd
  have HHL := Aside0.mk hhL
  have hmod : IntKind.i64.wrap ((v.g + 1).tmod 2) = (n : Int) := by
    rw [Int.tmod_eq_emod_of_nonneg (by omega), hni, i64_w]; unfold wrap64; omega
  have hwr : ∀ (W : World) (N' : Nat), PS W v.flushed → BC W N' hL 5 → w2.heap.size ≤ N' → Calls Try.prog 65 #[.pointer (some ⟨v.p, 0, none⟩), .int .i64 (IntKind.i64.wrap ((v.g + 1).tmod 2)), .slice (some ⟨N', 0, none⟩) 256 256] W fun en w' => en = .returned (.int .i64 0) ∧ ∃ P', PS w' (v.flushed.wrote (v.fi + n) hL P') ∧ OwnB W v.flushed.P P' ∧ Fr (PF v.flushed) W w' := fun W N' h1 h2 h3 => by
    rw [hmod]
    have hBF : ¬ PF v.flushed N' := fun e => by have := S2.out.lt N' e; omega
    have := pager_write.calls W v.flushed h1 rfl (by show (v.fu && _) = false; rw [HFU.out]; rfl) n (by show n < v.np + 2; omega) N' 0 256 hL (by simpa [List.take_of_length_le (Nat.le_of_eq hlen)] using SB.of h2 0 256) hlen hBF (BL.lt h2) (by omega) (by show (0 : Nat) ≤ _; omega)
    exact this
  have hPF : ∀ k, PF v.flushed k → PF v k := fun k hk => by
    rcases hk with hk | hk | hk | hk
    · exact Or.inl hk
    · exact Or.inr (Or.inl hk)
    · rcases hk with hk | hk | hk | hk
      · exact Or.inr (Or.inr (Or.inl (Or.inl hk)))
      · exact Or.inr (Or.inr (Or.inl (Or.inr (Or.inl hk))))
      · exact Or.inr (Or.inr (Or.inl (Or.inr (Or.inr (Or.inl hk)))))
      · cases hk
    · exact Or.inr (Or.inr (Or.inr hk))
  have HWR := Aside0.mk hwr
  have HPF := Aside0.mk hPF
  clear hhd hhL hn hwr hPF hmod hni hn2
  go_cut [9] (fun v9 wx => v9 = .int .i64 0 ∧ ∃ P', Aside0 (PS wx (v.flushed.wrote (v.fi + n) hL P')) ∧ Aside0 (BL wx w.heap.size #[Value.int IntKind.u64 (v.g + 1), Value.int IntKind.i64 r, Value.int IntKind.u64 e] 111) ∧ Aside0 (Fr (PF v) w wx) ∧ Aside0 (P'.ownBlock = none ∨ ∃ k, P'.ownBlock = some k ∧ w.heap.size < k))
  case first =>
    go_region_with (first
      | (go_at_call 66; (with_reducible refine (HHD.out _).mono ?_); rintro e1 w3 ⟨N', rfl, hn', hge, hbl⟩; (have HN' := Aside0.mk hn'); (have B3 := Aside0.mk (B2.out.dr.keep hbl)); (have S3 := Aside0.mk (S2.out.dr.fr (Fr.of_below (G := fun _ => False) hbl) (fun _ _ e => e))); (have F3 := Aside0.mk ((F2.out.drew).below hbl)); (have HGE : Aside0 (w2.heap.size ≤ N') := ⟨hge⟩); (have x0 := BL.cell B3.out 0); (have x1 := BL.cell B3.out 1); (have x2 := BL.cell B3.out 2); (simp only [List.getElem?_toArray, List.getElem?_cons_zero, List.getElem?_cons_succ] at x0 x1 x2); clear hn' hbl hge)
      | (go_at_call 65; (with_reducible refine (HWR.out _ _ S3.out HN'.out HGE.out).mono ?_); rintro e1 w4 ⟨rfl, P', hs4, hown, hf4⟩; (have S4 := Aside0.mk hs4); (have F4 := Aside0.mk (F3.out.trans (hf4.weak (fun k hk => Or.inl (HPF.out k hk))))); (have B4 := Aside0.mk (BL.fr B3.out hf4 (fun e => QF.out (HPF.out _ e)))); (have OW := Aside0.mk hown); clear hs4 hown hf4))
    all_goals
      have hOW : P'.ownBlock = none ∨ ∃ k, P'.ownBlock = some k ∧ w.heap.size < k := by
        rcases OW.out with h | ⟨k, hk, hl⟩ | h
        · exact Or.inl h
        · exact Or.inr ⟨k, hk, by have := BL.lt B3.out; omega⟩
        · exact Or.inl h
      have HOW := Aside0.mk hOW
      clear hOW
      go_wp2_with fail
      go_meet
      exact ⟨rfl, P', S4, B4, F4, HOW⟩
  case rest =>
    obtain ⟨rfl, P', S4, B4, F4, OW⟩ := hcut
    obtain ⟨v2, hv2⟩ : ∃ x, v.flushed.wrote (v.fi + n) hL P' = x := ⟨_, rfl⟩
    have hPF2 : ∀ k, PF v2 k → PF v k ∨ w.heap.size < k := fun k hk => by
      subst hv2
      rcases hk with hk | hk | hk | hk
      · exact Or.inl (Or.inl hk)
      · exact Or.inl (Or.inr (Or.inl hk))
      · rcases hk with hk | hk | hk | hk
        · exact Or.inl (Or.inr (Or.inr (Or.inl (Or.inl hk))))
        · exact Or.inl (Or.inr (Or.inr (Or.inl (Or.inr (Or.inl hk)))))
        · exact Or.inl (Or.inr (Or.inr (Or.inl (Or.inr (Or.inr (Or.inl hk))))))
        · have hk' : P'.ownBlock = some k := hk
          rcases OW.out with h | ⟨q, hq, hl⟩
          · rw [h] at hk'; cases hk'
          · rw [hq] at hk'
            have : q = k := Option.some.inj hk'
            exact Or.inr (by omega)
      · exact Or.inl (Or.inr (Or.inr (Or.inr hk)))
    have hS4 := S4.out
    rw [hv2] at hS4
    have e1 : v2.p = v.p ∧ v2.off = false ∧ v2.fu = v.fu ∧ v2.ps.length = 4 ∧ v2.dr = v.dr ∧ v2.br = false := by subst hv2; exact ⟨rfl, rfl, rfl, rfl, rfl, rfl⟩
    obtain ⟨e1, e2, e3, e4, e5, e6⟩ := e1
    have hfl := pager_flush.calls wc v2 hS4 e2 (by rw [e3, HFU.out]; rfl) (by omega)
    rw [e1] at hfl
    have HV2 := Aside0.mk hv2
    have HFL := Aside0.mk hfl
    have HPF2 := Aside0.mk hPF2
    have hqF2 : ¬ PF v2 w.heap.size := fun e => by
      rcases hPF2 _ e with h | h
      · exact QF.out h
      · omega
    have QF2 := Aside0.mk hqF2
    clear hqF2
    clear hfl hPF2 hS4 hv2
    go_wp2_with fail
    refine HFL.out.mono ?_
    rintro en w5 ⟨rfl, hs5, hf5⟩
    have hb5 := BL.fr B4.out hf5 QF2.out
    have q0 := BL.cell hb5 0
    have q1 := BL.cell hb5 1
    have q2 := BL.cell hb5 2
    simp only [List.getElem?_toArray, List.getElem?_cons_zero, List.getElem?_cons_succ] at q0 q1 q2
    obtain ⟨v3, hv3⟩ : ∃ x, v2.flushed = x := ⟨_, rfl⟩
    have hs5' : PS w5 v3 := hv3 ▸ hs5
    have e3p : v3.p = v.p ∧ v3.dr = v.dr := by subst hv3; exact ⟨e1, e5⟩
    obtain ⟨e3p, e3d⟩ := e3p
    have hpb := hs5'.pb
    rw [e3p] at hpb
    have p0 := hpb.all.1
    have p1 := hpb.all.2.1
    have p2 := hpb.all.2.2.1
    have p8 := hpb.all.2.2.2.2.2.2.2.2.1
    rw [e3d, HDR.out] at p8
    have pf0 := BL.free hpb 0
    have pf1 := BL.free hpb 1
    have pf2 := BL.free hpb 2
    have hset := BL.set (BL.set (BL.set hpb 0 (.int .u64 (v.g + 1))) 1 (.int .i64 r)) 2 (.int .u64 e)
    have hf6 : Fr (PF v2) wc w5 := hf5
    have hqp : ¬ w.heap.size = v.p := fun e => QF.out (Or.inl e)
    have hpq : ¬ v.p = w.heap.size := fun e => hqp e.symm
    have hF5 : Fr (PF v) w w5 := F4.out.then_ hf5 (fun k hk => (HPF2.out k hk).imp id (fun h => by omega))
    have HV3 := Aside0.mk hv3
    have S5 := Aside0.mk hs5'
    have E3 := Aside0.mk e3p
    have HSET := Aside0.mk hset
    have F5 := Aside0.mk hF5
    clear hs5 hs5' hpb hset hf6 hf5 hb5 hF5 hv3 e3p e3d e1 e2 e3 e4 e5 e6
    go_wp2_with fail
    obtain ⟨w6, hw6⟩ : ∃ x, ((w5.setCell ⟨v.p, 0, none⟩ (.int .u64 (v.g + 1))).setCell ⟨v.p, 1, none⟩ (.int .i64 r)).setCell ⟨v.p, 2, none⟩ (.int .u64 e) = x := ⟨_, rfl⟩
    have hf56 : Fr (· = v.p) w5 w6 := hw6 ▸ (((Fr.refl (· = v.p) w5).own 0 _).own 1 _).own 2 _
    have hb6 : PB w6 v3.p (v.g + 1) r e v3.d v3.fi v3.np v3.s (.map (some v3.M)) v3.dr v3.br := by
      rw [E3.out, ← hw6]; exact HSET.out
    have hs6 : PS w6 (v3.stated (v.g + 1) r e) := S5.out.state (v.g + 1) r e (by rw [E3.out]; exact hf56) hb6
    rw [hw6]
    have F6 := Aside0.mk (F5.out.trans (hf56.weak (fun k hk => Or.inl (Or.inl hk))))
    obtain ⟨v4, hv4⟩ : ∃ x, v3.stated (v.g + 1) r e = x := ⟨_, rfl⟩
    rw [hv4] at hs6
    have h4 : v4.p = v.p ∧ v4.s = v.s ∧ v4.np = v.np ∧ v4.T = v.T ∧ v4.fl = v.fl ∧ v4.F = v.F ∧ v4.br = false ∧ v4.off = false ∧ v4.fu = v.fu := by
      rw [← hv4, ← HV3.out, ← HV2.out]; exact ⟨rfl, rfl, rfl, rfl, rfl, rfl, rfl, rfl, rfl⟩
    have hPF4 : ∀ k, PF v4 k → PF v k := fun k hk => by
      rw [← hv4, ← HV3.out, ← HV2.out] at hk
      rcases hk with hk | hk | hk | hk
      · exact Or.inl hk
      · exact Or.inr (Or.inl hk)
      · rcases hk with hk | hk | hk | hk
        · exact Or.inr (Or.inr (Or.inl (Or.inl hk)))
        · exact Or.inr (Or.inr (Or.inl (Or.inr (Or.inl hk))))
        · exact Or.inr (Or.inr (Or.inl (Or.inr (Or.inr (Or.inl hk)))))
        · cases hk
      · exact Or.inr (Or.inr (Or.inr hk))
    have hgv0 : GV w6 v4 [] v4.F w6 := GV.start hs6 (by rw [h4.2.2.2.1, h4.2.2.2.2.1]; exact Q.out.fo)
    have HGV0 := Aside0.mk hgv0
    have H4 := Aside0.mk h4
    have HPF4 := Aside0.mk hPF4
    have HV4 := Aside0.mk hv4
    clear hgv0 h4 hPF4 hv4 hs6 hb6 hf56 hw6
    go_loopg [91] dl.length (fun kq v91 wr => ∃ (j : Nat) (F' : Value), v91 = .int .i64 j ∧ Aside0 (kq + j = dl.length) ∧ Aside0 (GV w6 v4 (dl.take j) F' wr))
    case atStart => exact ⟨0, v4.F, rfl, ⟨by omega⟩, HGV0⟩
    case round =>
      obtain ⟨j, F', rfl, HJ, HG⟩ := hrel
      have hdlb := HDLB.out
      obtain ⟨z1, z2, z3, z4, z5, z6, z7, z8, z9⟩ := H4.out
      have hFr : Fr (PF v) w wr := F6.out.trans (HG.out.fr.weak (fun k hk => Or.inl (HPF4.out k hk)))
      by_cases hj : j < dl.length
      · have kj : (j : Int) < (dl.length : Int) := by omega
        rcases own_il (Q.out.row hFr) with ⟨_, h0⟩ | ⟨gg, cap, hV, hil, _⟩
        · rw [h0] at hj; cases hj
        · rw [HDR.out] at hV
          injection hV with hA _ hcc
          subst hA
          subst hcc
          have hx := hil.at j hj
          rw [Nat.zero_add] at hx
          obtain ⟨i, hi, hin, hiT, _⟩ := Q.out.dt _ (List.getElem_mem hj)
          have hni : (i : Int) ∉ dl.take j := fun hm => by
            obtain ⟨q, hq, hqe⟩ := List.getElem_of_mem hm
            rw [List.length_take] at hq
            rw [List.getElem_take] at hqe
            have := (List.getElem_inj (xs := dl) (i := q) (j := j) (h₀ := by omega) (h₁ := hj) Q.out.dn).1 (by rw [hqe, hi])
            omega
          have hgv := HG.out.give i (by rw [z3]; exact hin) (by rw [z4]; exact hiT) hni (by rw [z5, List.length_take]; have := HFLB.out; omega) (by rw [z4, z3]; exact Q.out.ps.sp.lt)
          rw [show dl.take j ++ [(i : Int)] = dl.take (j + 1) from by rw [List.take_add_one, List.getElem?_eq_getElem hj, hi]; rfl, z2] at hgv
          rw [hi] at hx
          have c6 := HG.out.ps.pb.all.2.2.2.2.2.2.1
          change wr.cell? ⟨v4.p, 6, none⟩ = some (.pointer (some ⟨v4.s, 0, none⟩)) at c6
          rw [z1, z2] at c6
          have HGV := Aside0.mk hgv
          clear hgv hni hil hFr hi hiT z1 z2 z3 z4 z5 z6 z7 z8 z9
          go_wp2_with fail
          refine HGV.out.mono ?_
          rintro en w7 ⟨rfl, F2, hg2⟩
          have HG2 := Aside0.mk hg2
          clear hg2
          go_wp2_with fail
          go_roundg (dl.length - (j + 1))
          case measure => have := HJ.out; omega
          case rel => exact ⟨j + 1, F2, rfl, ⟨by omega⟩, HG2⟩
      · have kj : ¬ (j : Int) < (dl.length : Int) := by omega
        have e9 : dl.take j = dl := List.take_of_length_le (by omega)
        have hG := HG.out
        rw [e9] at hG
        have hst := pager_settle.calls wr v4.p _ _ _ _ _ _ _ _ _ _ hG.ps.pb
        rw [z1] at hst
        have HST := Aside0.mk hst
        have HGD := Aside0.mk hG
        have HFR := Aside0.mk hFr
        clear hst hG hFr e9 z1 z2 z3 z4 z5 z6 z7 z8 z9
        go_wp2_with fail
        refine HST.out.mono ?_
        rintro en w7 ⟨rfl, M, hb7, hm7, hM, hf7⟩
        obtain ⟨z1, z2, z3, z4, z5, z6, z7, z8, z9⟩ := H4.out
        have hs7 := HGD.out.ps.settled M (by show Fr (· = v4.p) wr w7; rw [z1]; exact hf7) hM hm7 (by show PB w7 v4.p _ _ _ _ _ _ _ _ _ _; rw [z1]; exact hb7)
        have hv : ({ v4 with T := giveT v4.T dl, F := F', fl := giveF v4.fl dl } : PV).settled M = v.doneQ r e P' M F' dl := by
          rw [← HV4.out, ← HV3.out, ← HV2.out, ← HHL.out, ← HN.out]; rfl
        rw [hv] at hs7
        have hqs : QS w7 (v.doneQ r e P' M F' dl) [] :=
          { ps := hs7
            dw := World.ownsRow_nil _ _ _ _
            dd := fun k hk => by cases hk
            fo := by have := HGD.out.fo; rw [z4, z5] at this; exact this
            fr := fun x hx => by cases hx
            dt := fun x hx => by cases hx
            dn := List.nodup_nil
            br := rfl
            off := rfl
            fu := Q.out.fu }
        have hown : F'.ownBlock = v.F.ownBlock ∨ ∃ k, F'.ownBlock = some k ∧ w.heap.size ≤ k := by
          have := HGD.out.ow
          rw [z6] at this
          exact this.imp id (fun ⟨k, h1, h2⟩ => ⟨k, h1, Nat.le_trans F6.out.size h2⟩)
        have HQS := Aside0.mk hqs
        have HOWN := Aside0.mk hown
        have F7 := Aside0.mk (HFR.out.trans (hf7.weak (fun k hk => Or.inl (Or.inl hk))))
        have HMM : Aside0 (w.heap.size ≤ M) := ⟨Nat.le_trans HFR.out.size hM⟩
        clear hs7 hv hqs hown hb7 hm7 hf7 hM z1 z2 z3 z4 z5 z6 z7 z8 z9
        go_wp2_with fail
        go_ret
        exact ⟨F', P', M, rfl, HQS.out, HOWN.out, HMM.out, F7.out⟩
set_option maxHeartbeats 8000000 in
set_option maxRecDepth 100000 in
theorem pager_Commit.none_ (w : World) (v : PV) (dl : List Int) (h : QS w v dl) (r : Int) (hr : r = -1) (e : Int) (he : v.e ≤ e) (he0 : 0 ≤ e) (he1 : e < 18446744073709551616) (hg0 : 0 ≤ v.g) (hg1 : v.g < 18446744073709551615) (hps : v.ps.length ≤ 90000) (hdl : dl.length ≤ 90000) (hfl : v.fl.length + dl.length < 4096) :
    Calls Try.prog 24 #[.pointer (some ⟨v.p, 0, none⟩), .int .i64 r, .int .u64 e] w (CommitQ w v dl r e) := by
  have hnp := h.ps.sp.nl
  have H := Aside0.mk h.ps
  have Q := Aside0.mk h
  have c0 := h.ps.pb.all.1
  have c2 := h.ps.pb.all.2.2.1
  have c6 := h.ps.pb.all.2.2.2.2.2.2.1
  have c8 := h.ps.pb.all.2.2.2.2.2.2.2.2.1
  have c9 := h.ps.pb.all.2.2.2.2.2.2.2.2.2
  obtain ⟨A, cD, hDR⟩ := ownsRow_form h.dw
  rw [hDR] at c8
  rw [h.br] at c9
  have HDR := Aside0.mk hDR
  have HOFF := Aside0.mk h.off
  have HFU := Aside0.mk h.fu
  have HFLB := Aside0.mk hfl
  have HDLB := Aside0.mk hdl
  have k1 : decide (e < v.e) = false := decide_eq_false (by omega)
  have hw1 : IntKind.u64.wrap (v.g + 1) = v.g + 1 := by rw [IntKind.wrap_u64]; omega
  have k3 : ((v.g + 1) == 0) = false := by simp; omega
  have k2 : (r != -1) = false := by simp [hr]
  clear hr
  clear h hDR hfl hdl
  go_enter Try.func24, Try.ntmps24
  go_wp2_with fail
  have hbl1 := BL.new w #[Value.int IntKind.u64 (v.g + 1), Value.int IntKind.i64 r, Value.int IntKind.u64 e] 111
  have hps1 : PS (w.alloc (Obj.cells #[Value.int IntKind.u64 (v.g + 1), Value.int IntKind.i64 r, Value.int IntKind.u64 e] 111)) v := H.out.fr (Fr.of_below (G := fun _ => False) (al _)) (fun _ _ e => e)
  obtain ⟨W1, hW1⟩ : ∃ x, w.alloc (Obj.cells #[Value.int IntKind.u64 (v.g + 1), Value.int IntKind.i64 r, Value.int IntKind.u64 e] 111) = x := ⟨_, rfl⟩
  have hal : Below w.heap.size w W1 := hW1 ▸ al _
  rw [hW1] at hbl1 hps1 ⊢
  have hqF : ¬ PF v w.heap.size := fun e => by have := H.out.lt _ e; omega
  refine (pager_flush.calls W1 v hps1 HOFF.out (by rw [HFU.out]; rfl) (by omega)).mono ?_
  rintro en w2 ⟨rfl, hs2, hf2⟩
  have hbl2 := BL.fr hbl1 hf2 hqF
  have hF2 : Fr (PF v) w w2 := (Fr.of_below hal).trans hf2
  have c2' := BL.cell hbl2 0
  have c3' := BL.cell hbl2 1
  have c4' := BL.cell hbl2 2
  simp only [List.getElem?_toArray, List.getElem?_cons_zero, List.getElem?_cons_succ] at c2' c3' c4'
  have S2 := Aside0.mk (show PS w2 v.flushed from hs2)
  have B2 := Aside0.mk hbl2
  have F2 := Aside0.mk hF2
  have QF := Aside0.mk hqF
  clear hs2 hf2 hbl2 hF2 hW1 hbl1 hps1 hal hqF
  go_wp2_with fail
  obtain ⟨n, hn⟩ : ∃ n : Nat, ((v.g + 1) % 2).toNat = n := ⟨_, rfl⟩
  have hn2 : n < 2 := by omega
  have hni : (v.g + 1) % 2 = (n : Int) := by omega
  have HN := Aside0.mk hn
  have hlen : (headL (v.g + 1) r e).length = 256 := by unfold headL headA; rw [putL_len, putL_len, putL_len, putL_len, List.length_replicate]
  have hhd : ∀ W : World, Calls Try.prog 66 #[.agg #[.int .u64 (v.g + 1), .int .i64 r, .int .u64 e]] W (HeadP W (v.g + 1) r e) := fun W => pager_head.calls _ _ _ W
  unfold HeadP at hhd
  obtain ⟨hL, hhL⟩ : ∃ x, headL (v.g + 1) r e = x := ⟨_, rfl⟩
  rw [hhL] at hhd hlen
  have HHD := Aside0.mk hhd
  have HHL := Aside0.mk hhL
  have hmod : IntKind.i64.wrap ((v.g + 1).tmod 2) = (n : Int) := by
    rw [Int.tmod_eq_emod_of_nonneg (by omega), hni, i64_w]; unfold wrap64; omega
  have hwr : ∀ (W : World) (N' : Nat), PS W v.flushed → BC W N' hL 5 → w2.heap.size ≤ N' → Calls Try.prog 65 #[.pointer (some ⟨v.p, 0, none⟩), .int .i64 (IntKind.i64.wrap ((v.g + 1).tmod 2)), .slice (some ⟨N', 0, none⟩) 256 256] W fun en w' => en = .returned (.int .i64 0) ∧ ∃ P', PS w' (v.flushed.wrote (v.fi + n) hL P') ∧ OwnB W v.flushed.P P' ∧ Fr (PF v.flushed) W w' := fun W N' h1 h2 h3 => by
    rw [hmod]
    have hBF : ¬ PF v.flushed N' := fun e => by have := S2.out.lt N' e; omega
    have := pager_write.calls W v.flushed h1 rfl (by show (v.fu && _) = false; rw [HFU.out]; rfl) n (by show n < v.np + 2; omega) N' 0 256 hL (by simpa [List.take_of_length_le (Nat.le_of_eq hlen)] using SB.of h2 0 256) hlen hBF (BL.lt h2) (by omega) (by show (0 : Nat) ≤ _; omega)
    exact this
  have hPF : ∀ k, PF v.flushed k → PF v k := fun k hk => by
    rcases hk with hk | hk | hk | hk
    · exact Or.inl hk
    · exact Or.inr (Or.inl hk)
    · rcases hk with hk | hk | hk | hk
      · exact Or.inr (Or.inr (Or.inl (Or.inl hk)))
      · exact Or.inr (Or.inr (Or.inl (Or.inr (Or.inl hk))))
      · exact Or.inr (Or.inr (Or.inl (Or.inr (Or.inr (Or.inl hk)))))
      · cases hk
    · exact Or.inr (Or.inr (Or.inr hk))
  have HWR := Aside0.mk hwr
  have HPF := Aside0.mk hPF
  clear hhd hhL hn hwr hPF hmod hni hn2
  go_cut [9] (fun v9 wx => v9 = .int .i64 0 ∧ ∃ P', Aside0 (PS wx (v.flushed.wrote (v.fi + n) hL P')) ∧ Aside0 (BL wx w.heap.size #[Value.int IntKind.u64 (v.g + 1), Value.int IntKind.i64 r, Value.int IntKind.u64 e] 111) ∧ Aside0 (Fr (PF v) w wx) ∧ Aside0 (P'.ownBlock = none ∨ ∃ k, P'.ownBlock = some k ∧ w.heap.size < k))
  case first =>
    go_region_with (first
      | (go_at_call 66; (with_reducible refine (HHD.out _).mono ?_); rintro e1 w3 ⟨N', rfl, hn', hge, hbl⟩; (have HN' := Aside0.mk hn'); (have B3 := Aside0.mk (B2.out.dr.keep hbl)); (have S3 := Aside0.mk (S2.out.dr.fr (Fr.of_below (G := fun _ => False) hbl) (fun _ _ e => e))); (have F3 := Aside0.mk ((F2.out.drew).below hbl)); (have HGE : Aside0 (w2.heap.size ≤ N') := ⟨hge⟩); (have x0 := BL.cell B3.out 0); (have x1 := BL.cell B3.out 1); (have x2 := BL.cell B3.out 2); (simp only [List.getElem?_toArray, List.getElem?_cons_zero, List.getElem?_cons_succ] at x0 x1 x2); clear hn' hbl hge)
      | (go_at_call 65; (with_reducible refine (HWR.out _ _ S3.out HN'.out HGE.out).mono ?_); rintro e1 w4 ⟨rfl, P', hs4, hown, hf4⟩; (have S4 := Aside0.mk hs4); (have F4 := Aside0.mk (F3.out.trans (hf4.weak (fun k hk => Or.inl (HPF.out k hk))))); (have B4 := Aside0.mk (BL.fr B3.out hf4 (fun e => QF.out (HPF.out _ e)))); (have OW := Aside0.mk hown); clear hs4 hown hf4))
    all_goals
      have hOW : P'.ownBlock = none ∨ ∃ k, P'.ownBlock = some k ∧ w.heap.size < k := by
        rcases OW.out with h | ⟨k, hk, hl⟩ | h
        · exact Or.inl h
        · exact Or.inr ⟨k, hk, by have := BL.lt B3.out; omega⟩
        · exact Or.inl h
      have HOW := Aside0.mk hOW
      clear hOW
      go_wp2_with fail
      go_meet
      exact ⟨rfl, P', S4, B4, F4, HOW⟩
  case rest =>
    obtain ⟨rfl, P', S4, B4, F4, OW⟩ := hcut
    obtain ⟨v2, hv2⟩ : ∃ x, v.flushed.wrote (v.fi + n) hL P' = x := ⟨_, rfl⟩
    have hPF2 : ∀ k, PF v2 k → PF v k ∨ w.heap.size < k := fun k hk => by
      subst hv2
      rcases hk with hk | hk | hk | hk
      · exact Or.inl (Or.inl hk)
      · exact Or.inl (Or.inr (Or.inl hk))
      · rcases hk with hk | hk | hk | hk
        · exact Or.inl (Or.inr (Or.inr (Or.inl (Or.inl hk))))
        · exact Or.inl (Or.inr (Or.inr (Or.inl (Or.inr (Or.inl hk)))))
        · exact Or.inl (Or.inr (Or.inr (Or.inl (Or.inr (Or.inr (Or.inl hk))))))
        · have hk' : P'.ownBlock = some k := hk
          rcases OW.out with h | ⟨q, hq, hl⟩
          · rw [h] at hk'; cases hk'
          · rw [hq] at hk'
            have : q = k := Option.some.inj hk'
            exact Or.inr (by omega)
      · exact Or.inl (Or.inr (Or.inr (Or.inr hk)))
    have hS4 := S4.out
    rw [hv2] at hS4
    have e1 : v2.p = v.p ∧ v2.off = false ∧ v2.fu = v.fu ∧ v2.ps.length = 4 ∧ v2.dr = v.dr ∧ v2.br = false := by subst hv2; exact ⟨rfl, rfl, rfl, rfl, rfl, rfl⟩
    obtain ⟨e1, e2, e3, e4, e5, e6⟩ := e1
    have hfl := pager_flush.calls wc v2 hS4 e2 (by rw [e3, HFU.out]; rfl) (by omega)
    rw [e1] at hfl
    have HV2 := Aside0.mk hv2
    have HFL := Aside0.mk hfl
    have HPF2 := Aside0.mk hPF2
    have hqF2 : ¬ PF v2 w.heap.size := fun e => by
      rcases hPF2 _ e with h | h
      · exact QF.out h
      · omega
    have QF2 := Aside0.mk hqF2
    clear hqF2
    clear hfl hPF2 hS4 hv2
    go_wp2_with fail
    refine HFL.out.mono ?_
    rintro en w5 ⟨rfl, hs5, hf5⟩
    have hb5 := BL.fr B4.out hf5 QF2.out
    have q0 := BL.cell hb5 0
    have q1 := BL.cell hb5 1
    have q2 := BL.cell hb5 2
    simp only [List.getElem?_toArray, List.getElem?_cons_zero, List.getElem?_cons_succ] at q0 q1 q2
    obtain ⟨v3, hv3⟩ : ∃ x, v2.flushed = x := ⟨_, rfl⟩
    have hs5' : PS w5 v3 := hv3 ▸ hs5
    have e3p : v3.p = v.p ∧ v3.dr = v.dr := by subst hv3; exact ⟨e1, e5⟩
    obtain ⟨e3p, e3d⟩ := e3p
    have hpb := hs5'.pb
    rw [e3p] at hpb
    have p0 := hpb.all.1
    have p1 := hpb.all.2.1
    have p2 := hpb.all.2.2.1
    have p8 := hpb.all.2.2.2.2.2.2.2.2.1
    rw [e3d, HDR.out] at p8
    have pf0 := BL.free hpb 0
    have pf1 := BL.free hpb 1
    have pf2 := BL.free hpb 2
    have hset := BL.set (BL.set (BL.set hpb 0 (.int .u64 (v.g + 1))) 1 (.int .i64 r)) 2 (.int .u64 e)
    have hf6 : Fr (PF v2) wc w5 := hf5
    have hqp : ¬ w.heap.size = v.p := fun e => QF.out (Or.inl e)
    have hpq : ¬ v.p = w.heap.size := fun e => hqp e.symm
    have hF5 : Fr (PF v) w w5 := F4.out.then_ hf5 (fun k hk => (HPF2.out k hk).imp id (fun h => by omega))
    have HV3 := Aside0.mk hv3
    have S5 := Aside0.mk hs5'
    have E3 := Aside0.mk e3p
    have HSET := Aside0.mk hset
    have F5 := Aside0.mk hF5
    clear hs5 hs5' hpb hset hf6 hf5 hb5 hF5 hv3 e3p e3d e1 e2 e3 e4 e5 e6
    go_wp2_with fail
    obtain ⟨w6, hw6⟩ : ∃ x, ((w5.setCell ⟨v.p, 0, none⟩ (.int .u64 (v.g + 1))).setCell ⟨v.p, 1, none⟩ (.int .i64 r)).setCell ⟨v.p, 2, none⟩ (.int .u64 e) = x := ⟨_, rfl⟩
    have hf56 : Fr (· = v.p) w5 w6 := hw6 ▸ (((Fr.refl (· = v.p) w5).own 0 _).own 1 _).own 2 _
    have hb6 : PB w6 v3.p (v.g + 1) r e v3.d v3.fi v3.np v3.s (.map (some v3.M)) v3.dr v3.br := by
      rw [E3.out, ← hw6]; exact HSET.out
    have hs6 : PS w6 (v3.stated (v.g + 1) r e) := S5.out.state (v.g + 1) r e (by rw [E3.out]; exact hf56) hb6
    rw [hw6]
    have F6 := Aside0.mk (F5.out.trans (hf56.weak (fun k hk => Or.inl (Or.inl hk))))
    obtain ⟨v4, hv4⟩ : ∃ x, v3.stated (v.g + 1) r e = x := ⟨_, rfl⟩
    rw [hv4] at hs6
    have h4 : v4.p = v.p ∧ v4.s = v.s ∧ v4.np = v.np ∧ v4.T = v.T ∧ v4.fl = v.fl ∧ v4.F = v.F ∧ v4.br = false ∧ v4.off = false ∧ v4.fu = v.fu := by
      rw [← hv4, ← HV3.out, ← HV2.out]; exact ⟨rfl, rfl, rfl, rfl, rfl, rfl, rfl, rfl, rfl⟩
    have hPF4 : ∀ k, PF v4 k → PF v k := fun k hk => by
      rw [← hv4, ← HV3.out, ← HV2.out] at hk
      rcases hk with hk | hk | hk | hk
      · exact Or.inl hk
      · exact Or.inr (Or.inl hk)
      · rcases hk with hk | hk | hk | hk
        · exact Or.inr (Or.inr (Or.inl (Or.inl hk)))
        · exact Or.inr (Or.inr (Or.inl (Or.inr (Or.inl hk))))
        · exact Or.inr (Or.inr (Or.inl (Or.inr (Or.inr (Or.inl hk)))))
        · cases hk
      · exact Or.inr (Or.inr (Or.inr hk))
    have hgv0 : GV w6 v4 [] v4.F w6 := GV.start hs6 (by rw [h4.2.2.2.1, h4.2.2.2.2.1]; exact Q.out.fo)
    have HGV0 := Aside0.mk hgv0
    have H4 := Aside0.mk h4
    have HPF4 := Aside0.mk hPF4
    have HV4 := Aside0.mk hv4
    clear hgv0 h4 hPF4 hv4 hs6 hb6 hf56 hw6
    go_loopg [91] dl.length (fun kq v91 wr => ∃ (j : Nat) (F' : Value), v91 = .int .i64 j ∧ Aside0 (kq + j = dl.length) ∧ Aside0 (GV w6 v4 (dl.take j) F' wr))
    case atStart => exact ⟨0, v4.F, rfl, ⟨by omega⟩, HGV0⟩
    case round =>
      obtain ⟨j, F', rfl, HJ, HG⟩ := hrel
      have hdlb := HDLB.out
      obtain ⟨z1, z2, z3, z4, z5, z6, z7, z8, z9⟩ := H4.out
      have hFr : Fr (PF v) w wr := F6.out.trans (HG.out.fr.weak (fun k hk => Or.inl (HPF4.out k hk)))
      by_cases hj : j < dl.length
      · have kj : (j : Int) < (dl.length : Int) := by omega
        rcases own_il (Q.out.row hFr) with ⟨_, h0⟩ | ⟨gg, cap, hV, hil, _⟩
        · rw [h0] at hj; cases hj
        · rw [HDR.out] at hV
          injection hV with hA _ hcc
          subst hA
          subst hcc
          have hx := hil.at j hj
          rw [Nat.zero_add] at hx
          obtain ⟨i, hi, hin, hiT, _⟩ := Q.out.dt _ (List.getElem_mem hj)
          have hni : (i : Int) ∉ dl.take j := fun hm => by
            obtain ⟨q, hq, hqe⟩ := List.getElem_of_mem hm
            rw [List.length_take] at hq
            rw [List.getElem_take] at hqe
            have := (List.getElem_inj (xs := dl) (i := q) (j := j) (h₀ := by omega) (h₁ := hj) Q.out.dn).1 (by rw [hqe, hi])
            omega
          have hgv := HG.out.give i (by rw [z3]; exact hin) (by rw [z4]; exact hiT) hni (by rw [z5, List.length_take]; have := HFLB.out; omega) (by rw [z4, z3]; exact Q.out.ps.sp.lt)
          rw [show dl.take j ++ [(i : Int)] = dl.take (j + 1) from by rw [List.take_add_one, List.getElem?_eq_getElem hj, hi]; rfl, z2] at hgv
          rw [hi] at hx
          have c6 := HG.out.ps.pb.all.2.2.2.2.2.2.1
          change wr.cell? ⟨v4.p, 6, none⟩ = some (.pointer (some ⟨v4.s, 0, none⟩)) at c6
          rw [z1, z2] at c6
          have HGV := Aside0.mk hgv
          clear hgv hni hil hFr hi hiT z1 z2 z3 z4 z5 z6 z7 z8 z9
          go_wp2_with fail
          refine HGV.out.mono ?_
          rintro en w7 ⟨rfl, F2, hg2⟩
          have HG2 := Aside0.mk hg2
          clear hg2
          go_wp2_with fail
          go_roundg (dl.length - (j + 1))
          case measure => have := HJ.out; omega
          case rel => exact ⟨j + 1, F2, rfl, ⟨by omega⟩, HG2⟩
      · have kj : ¬ (j : Int) < (dl.length : Int) := by omega
        have e9 : dl.take j = dl := List.take_of_length_le (by omega)
        have hG := HG.out
        rw [e9] at hG
        have hst := pager_settle.calls wr v4.p _ _ _ _ _ _ _ _ _ _ hG.ps.pb
        rw [z1] at hst
        have HST := Aside0.mk hst
        have HGD := Aside0.mk hG
        have HFR := Aside0.mk hFr
        clear hst hG hFr e9 z1 z2 z3 z4 z5 z6 z7 z8 z9
        go_wp2_with fail
        refine HST.out.mono ?_
        rintro en w7 ⟨rfl, M, hb7, hm7, hM, hf7⟩
        obtain ⟨z1, z2, z3, z4, z5, z6, z7, z8, z9⟩ := H4.out
        have hs7 := HGD.out.ps.settled M (by show Fr (· = v4.p) wr w7; rw [z1]; exact hf7) hM hm7 (by show PB w7 v4.p _ _ _ _ _ _ _ _ _ _; rw [z1]; exact hb7)
        have hv : ({ v4 with T := giveT v4.T dl, F := F', fl := giveF v4.fl dl } : PV).settled M = v.doneQ r e P' M F' dl := by
          rw [← HV4.out, ← HV3.out, ← HV2.out, ← HHL.out, ← HN.out]; rfl
        rw [hv] at hs7
        have hqs : QS w7 (v.doneQ r e P' M F' dl) [] :=
          { ps := hs7
            dw := World.ownsRow_nil _ _ _ _
            dd := fun k hk => by cases hk
            fo := by have := HGD.out.fo; rw [z4, z5] at this; exact this
            fr := fun x hx => by cases hx
            dt := fun x hx => by cases hx
            dn := List.nodup_nil
            br := rfl
            off := rfl
            fu := Q.out.fu }
        have hown : F'.ownBlock = v.F.ownBlock ∨ ∃ k, F'.ownBlock = some k ∧ w.heap.size ≤ k := by
          have := HGD.out.ow
          rw [z6] at this
          exact this.imp id (fun ⟨k, h1, h2⟩ => ⟨k, h1, Nat.le_trans F6.out.size h2⟩)
        have HQS := Aside0.mk hqs
        have HOWN := Aside0.mk hown
        have F7 := Aside0.mk (HFR.out.trans (hf7.weak (fun k hk => Or.inl (Or.inl hk))))
        have HMM : Aside0 (w.heap.size ≤ M) := ⟨Nat.le_trans HFR.out.size hM⟩
        clear hs7 hv hqs hown hb7 hm7 hf7 hM z1 z2 z3 z4 z5 z6 z7 z8 z9
        go_wp2_with fail
        go_ret
        exact ⟨F', P', M, rfl, HQS.out, HOWN.out, HMM.out, F7.out⟩
set_option maxHeartbeats 4000000 in
set_option maxRecDepth 100000 in
theorem pager_Commit.old (w : World) (v : PV) (h : PS w v) (r e : Int) (he : e < v.e) :
    Calls Try.prog 24 #[.pointer (some ⟨v.p, 0, none⟩), .int .i64 r, .int .u64 e] w fun en w' => en = .returned (.int .i64 1) ∧ w = w' := by
  have c2 := h.pb.all.2.2.1
  have k1 : decide (e < v.e) = true := decide_eq_true he
  clear h
  go_enter Try.func24, Try.ntmps24
  go_wp2_with fail
  go_ret
  exact ⟨rfl, rfl⟩
set_option maxHeartbeats 4000000 in
set_option maxRecDepth 100000 in
theorem pager_Commit.bad (w : World) (v : PV) (dl : List Int) (h : QS w v dl) (r e : Int) (he : v.e ≤ e) (hr : r ≠ -1) (hb : taken v r = false ∨ r ∈ dl) (hdl : dl.length ≤ 100000) :
    Calls Try.prog 24 #[.pointer (some ⟨v.p, 0, none⟩), .int .i64 r, .int .u64 e] w fun en w' => en = .returned (.int .i64 1) ∧ w = w' := by
  have c2 := h.ps.pb.all.2.2.1
  have c6 := h.ps.pb.all.2.2.2.2.2.2.1
  have c8 := h.ps.pb.all.2.2.2.2.2.2.2.2.1
  have k1 : decide (e < v.e) = false := decide_eq_false (by omega)
  have k2 : (r != -1) = true := by simpa using hr
  have htk := space_Taken.all v.s v.TB v.np v.c v.T v.F v.fl r w h.ps.sp
  change Calls _ _ _ _ fun e w' => e = .returned (.bool (taken v r)) ∧ w = w' at htk
  have hcn := contains_own r w h.dw hdl
  cases hx : taken v r with
  | false =>
    rw [hx] at htk
    have HT := Aside0.mk htk
    clear h htk hb hcn hx
    go_enter Try.func24, Try.ntmps24
    go_wp2_with fail
    refine HT.out.mono ?_
    rintro en w1 ⟨rfl, rfl⟩
    go_wp2_with fail
    go_ret
    exact ⟨rfl, rfl⟩
  | true =>
    rw [hx] at htk
    have hm : r ∈ dl := hb.resolve_left (by rw [hx]; decide)
    rw [decide_eq_true hm] at hcn
    have HT := Aside0.mk htk
    have HC := Aside0.mk hcn
    clear h htk hb hcn hx hm
    go_enter Try.func24, Try.ntmps24
    go_wp2_with fail
    refine HT.out.mono ?_
    rintro en w1 ⟨rfl, rfl⟩
    go_wp2_with fail
    refine HC.out.mono ?_
    rintro en w1 ⟨rfl, rfl⟩
    go_wp2_with fail
    go_ret
    exact ⟨rfl, rfl⟩
set_option maxHeartbeats 4000000 in
set_option maxRecDepth 100000 in
theorem space_Only.nil (s TB n c : Nat) (T : List Bool) (F : Value) (fl : List Int) (A : Option Addr) (cp : Nat) (w : World) (h : Sp w s TB n c T F fl) :
    Calls Try.prog 70 #[.pointer (some ⟨s, 0, none⟩), .slice A 0 cp] w (OnlyP w s n (onlyL (List.replicate n false) [])) := by
  have hnl := h.nl
  have c0 := h.d.all.1
  have hmk := mk_bools n hnl
  have H := Aside0.mk h
  obtain ⟨T0, hT0⟩ : ∃ x, List.replicate n false = x := ⟨_, rfl⟩
  rw [hT0] at hmk ⊢
  have hT0l : T0.length = n := by rw [← hT0, List.length_replicate]
  have hbn := BL.new w (bl T0) 4
  have hal : Below w.heap.size w (w.alloc (.cells (bl T0) 4)) := al _
  obtain ⟨W, hW⟩ : ∃ x, w.alloc (.cells (bl T0) 4) = x := ⟨_, rfl⟩
  rw [hW] at hbn hal
  have HBN := Aside0.mk hbn
  have HAL := Aside0.mk hal
  have HT0 := Aside0.mk hT0l
  have hs : SPB W s (.slice (some ⟨TB, 0, none⟩) n c) F := BL.keep h.d hal
  have hsl := h.lt' s (Or.inl rfl)
  have hfi := space_fill.calls s w.heap.size n _ F T0 W hs hbn (by omega) (by rw [hT0l]; exact hnl)
  rw [hT0l] at hfi
  have HFI := Aside0.mk hfi
  have HW := Aside0.mk hW
  clear h hT0 hbn hal hT0l hs hfi hW
  go_enter Try.func70, Try.ntmps70
  go_wp2_with fail
  rw [HW.out]
  go_loopg [18] 1 (fun kq v18 wr => v18 = .int .i64 0 ∧ W = wr)
  case atStart => exact ⟨rfl, rfl⟩
  case round =>
    obtain ⟨rfl, rfl⟩ := hrel
    go_wp2_with fail
    refine HFI.out.mono ?_
    rintro en w2 ⟨rfl, F2, hs2, ho2, hf2⟩
    rw [HT0.out] at hs2 ho2
    have hsw := HAL.out.size
    have hsp : Sp w2 s w.heap.size n n T0 F2 (freeL T0 n) :=
      { d := hs2
        t := BL.fr HBN.out hf2 (by omega)
        lt := HT0.out
        nl := hnl
        ow := ownsRow_base ho2 (Nat.zero_le _)
        rg := freeL_rg _ _
        fn := Nat.le_trans (freeL_len _ _) hnl
        ne := by omega
        pf := fun k hk => by have := (ho2.lt k hk).1; have := BL.lt HBN.out; omega }
    have HSP := Aside0.mk hsp
    have HF2 := Aside0.mk ((Fr.of_below (G := (· = s)) HAL.out).trans hf2)
    have HFB : Aside0 (∀ k, F2.ownBlock = some k → w.heap.size ≤ k) := ⟨fun k hk => by have := (ho2.lt k hk).1; omega⟩
    clear hsp hs2 ho2 hf2
    go_wp2_with fail
    go_ret
    exact ⟨_, F2, rfl, HSP.out, HF2.out, Nat.le_refl _, HFB.out⟩
/-- Whatever list of pages is named. -/
theorem space_Only.all (s TB n c : Nat) (T : List Bool) (F : Value) (fl : List Int) (A : Option Addr) (cp : Nat) (l : List Int) (w : World) (h : Sp w s TB n c T F fl) (hl : l = [] ∨ ∃ B o, A = some ⟨B, o, none⟩ ∧ IL w B o l ∧ B < w.heap.size) (hll : l.length ≤ 100000) :
    Calls Try.prog 70 #[.pointer (some ⟨s, 0, none⟩), .slice A l.length cp] w (OnlyP w s n (onlyL (List.replicate n false) l)) := by
  rcases hl with rfl | ⟨B, o, rfl, hil, hB⟩
  · exact space_Only.nil s TB n c T F fl A cp w h
  · exact space_Only.calls s TB n c T F fl B o cp l w h hil hll hB
theorem pigeon (n : Nat) : ∀ l : List Int, l.Nodup → (∀ x ∈ l, ∃ i : Nat, x = (i : Int) ∧ i < n) → l.length ≤ n := by
  induction n with
  | zero =>
    intro l _ h
    cases l with
    | nil => exact Nat.le_refl _
    | cons x r => obtain ⟨i, _, hi⟩ := h x (List.mem_cons_self ..); omega
  | succ n ih =>
    intro l hn h
    by_cases hm : (n : Int) ∈ l
    · have h1 := ih (l.erase (n : Int)) (hn.erase _) (fun x hx => by
        obtain ⟨i, hi, hin⟩ := h x (List.mem_of_mem_erase hx)
        refine ⟨i, hi, ?_⟩
        rcases Nat.lt_or_ge i n with h2 | h2
        · exact h2
        · have : i = n := by omega
          subst this
          rw [hi] at hx
          exact absurd hx hn.not_mem_erase)
      have h2 := List.length_erase_of_mem hm
      have : 0 < l.length := List.length_pos_of_mem hm
      omega
    · have := ih l hn (fun x hx => by
        obtain ⟨i, hi, hin⟩ := h x hx
        refine ⟨i, hi, ?_⟩
        rcases Nat.lt_or_ge i n with h2 | h2
        · exact h2
        · have : i = n := by omega
          subst this
          rw [hi] at hx
          exact absurd hx hm)
      omega
theorem QS.fl_len {w : World} {v : PV} {dl : List Int} (h : QS w v dl) : v.fl.length ≤ v.np :=
  pigeon v.np v.fl h.fo.nd fun x hx => by
    obtain ⟨i, hi, hil, _⟩ := h.fo.is x hx
    exact ⟨i, hi, by have := h.ps.sp.lt; omega⟩
theorem QS.dl_len {w : World} {v : PV} {dl : List Int} (h : QS w v dl) : dl.length ≤ v.np :=
  pigeon v.np dl h.dn fun x hx => by
    obtain ⟨i, hi, hin, _⟩ := h.dt x hx
    exact ⟨i, hi, hin⟩
/-- Where a value's row lies behind a call. -/
def OB (z : Nat) (a b : Value) : Prop := b.ownBlock = a.ownBlock ∨ (∃ k, b.ownBlock = some k ∧ z ≤ k) ∨ b.ownBlock = none
theorem OB.same (z : Nat) (a : Value) : OB z a a := Or.inl rfl
theorem OB.of {z : Nat} {a b : Value} (h : b.ownBlock = a.ownBlock ∨ ∃ k, b.ownBlock = some k ∧ z ≤ k) : OB z a b := h.imp id Or.inl
theorem OB.at {z : Nat} {a b : Value} (h : OB z a b) (k : Nat) (hk : b.ownBlock = some k) : a.ownBlock = some k ∨ z ≤ k := by
  rcases h with h | ⟨q, hq, hl⟩ | h
  · exact Or.inl (h ▸ hk)
  · rw [hq] at hk
    have : q = k := Option.some.inj hk
    exact Or.inr (by omega)
  · rw [h] at hk; cases hk
theorem grow_of {z : Nat} {v v' : PV} (e1 : v'.p = v.p) (e2 : v'.M = v.M ∨ z ≤ v'.M) (e3 : v'.d = v.d) (e4 : v'.N = v.N) (e5 : v'.S = v.S) (e6 : OB z v.P v'.P) (e7 : v'.s = v.s) (e8 : v'.TB = v.TB ∨ z ≤ v'.TB) (e9 : OB z v.F v'.F) (e10 : OB z v.dr v'.dr) (k : Nat) (hk : QF v' k) : QF v k ∨ z ≤ k := by
  rcases hk with hk | hk
  · rcases hk with hk | hk | hk | hk
    · exact Or.inl (Or.inl (Or.inl (hk.trans e1)))
    · rcases e2 with e2 | e2
      · exact Or.inl (Or.inl (Or.inr (Or.inl (hk.trans e2))))
      · exact Or.inr (by omega)
    · rcases hk with hk | hk | hk | hk
      · exact Or.inl (Or.inl (Or.inr (Or.inr (Or.inl (Or.inl (hk.trans e3))))))
      · exact Or.inl (Or.inl (Or.inr (Or.inr (Or.inl (Or.inr (Or.inl (hk.trans e4)))))))
      · exact Or.inl (Or.inl (Or.inr (Or.inr (Or.inl (Or.inr (Or.inr (Or.inl (hk.trans e5))))))))
      · exact (e6.at k hk).imp (fun h => Or.inl (Or.inr (Or.inr (Or.inl (Or.inr (Or.inr (Or.inr h))))))) id
    · rcases hk with hk | hk | hk
      · exact Or.inl (Or.inl (Or.inr (Or.inr (Or.inr (Or.inl (hk.trans e7))))))
      · rcases e8 with e8 | e8
        · exact Or.inl (Or.inl (Or.inr (Or.inr (Or.inr (Or.inr (Or.inl (hk.trans e8)))))))
        · exact Or.inr (by omega)
      · exact (e9.at k hk).imp (fun h => Or.inl (Or.inr (Or.inr (Or.inr (Or.inr (Or.inr h)))))) id
  · exact (e10.at k hk).imp Or.inr id
/-- A pager as a script has left it. -/
structure NS (W0 w : World) (v : PV) (dl : List Int) (k : Nat) : Prop where
  q : QS w v dl
  np : v.np = 12
  mb : v.m ≤ k
  pb : v.ps.length ≤ 4 * k
  g0 : 0 ≤ v.g
  g1 : v.g ≤ (k : Int)
  e0 : 1 ≤ v.e
  e1 : v.e ≤ 1 + 2 * (k : Int)
  lo : ∀ k, QF v k → W0.heap.size ≤ k
  bl : Below W0.heap.size W0 w
theorem NS.le {W0 w : World} {v : PV} {dl : List Int} {k k' : Nat} (h : NS W0 w v dl k) (hk : k ≤ k') : NS W0 w v dl k' :=
  { h with mb := Nat.le_trans h.mb hk, pb := by have := h.pb; omega, g1 := by have := h.g1; omega, e1 := by have := h.e1; omega }
theorem NS.mk' {W0 w w' : World} {v v' : PV} {dl dl' : List Int} {k k' : Nat} (h : NS W0 w v dl k) (hq : QS w' v' dl') (np : v'.np = v.np) (mb : v'.m ≤ k') (pb : v'.ps.length ≤ 4 * k') (g0 : 0 ≤ v'.g) (g1 : v'.g ≤ (k' : Int)) (e0 : 1 ≤ v'.e) (e1 : v'.e ≤ 1 + 2 * (k' : Int)) (hg : ∀ q, QF v' q → QF v q ∨ w.heap.size ≤ q) (hf : Fr (QF v) w w') : NS W0 w' v' dl' k' :=
  { q := hq, np := np.trans h.np, mb := mb, pb := pb, g0 := g0, g1 := g1, e0 := e0, e1 := e1
    lo := fun q hk => by
      rcases hg q hk with hk | hk
      · exact h.lo q hk
      · have := h.bl.size; omega
    bl := Fr.to_below h.bl hf h.bl.size h.lo }
theorem NS.below {W0 w w' : World} {v : PV} {dl : List Int} {k : Nat} (h : NS W0 w v dl k) (hb : Below w.heap.size w w') : NS W0 w' v dl k :=
  { h with q := h.q.fr' (Fr.of_below (G := fun _ => False) hb) (fun _ _ e => e), bl := below_step h.bl hb }
theorem Fr.wide {w w' : World} {v : PV} (h : Fr (PF v) w w') : Fr (QF v) w w' := h.weak fun k hk => Or.inl (Or.inl hk)
set_option maxHeartbeats 1000000 in
theorem NS.take {W0 w : World} {v : PV} {dl : List Int} {k : Nat} (h : NS W0 w v dl k) (hk : k ≤ 1000) (m : Nat) (hm : v.fl.length = m + 1) :
    Calls Try.prog 28 #[.pointer (some ⟨v.p, 0, none⟩)] w fun en w' => ∃ (i : Nat) (v' : PV), en = .returned (.tuple #[.int .i64 (i : Int), .int .i64 0]) ∧ i < 12 ∧ v.T.getD i false = false ∧ v'.p = v.p ∧ v'.T = v.T.set i true ∧ v'.f = (fun x => x == (i : Int) || v.f x) ∧ v'.fl.length = m ∧ NS W0 w' v' dl (k + 1) ∧ (∀ q, QF v' q → QF v q ∨ w.heap.size ≤ q) ∧ Fr (QF v) w w' := by
  refine (pager_Take.calls w v h.q.ps m hm (by have := h.mb; omega)).mono ?_
  rintro en w' ⟨i, F', hi, hin, rfl, hps, hF, hf⟩
  obtain ⟨hfo, hTi, hiT⟩ := h.q.fo.pop m i hm hi
  have hTl := h.q.ps.sp.lt
  have hqs : QS w' { v with m := v.m + 1, f := fun x => x == (i : Int) || v.f x, T := v.T.set i true, F := F', fl := (popL v.fl m).take m } dl :=
    { ps := hps
      dw := h.q.row hf
      dd := fun q hq e => by
        refine h.q.dd q hq ?_
        rcases e with e | e | e | e
        · exact Or.inl e
        · exact Or.inr (Or.inl e)
        · exact Or.inr (Or.inr (Or.inl e))
        · rcases e with e | e | e
          · exact Or.inr (Or.inr (Or.inr (Or.inl e)))
          · exact Or.inr (Or.inr (Or.inr (Or.inr (Or.inl e))))
          · exact Or.inr (Or.inr (Or.inr (Or.inr (Or.inr (hF ▸ e)))))
      fo := hfo
      fr := fun x hx => by
        have hx' : (x == (i : Int) || v.f x) = true := hx
        rw [Bool.or_eq_true] at hx'
        rcases hx' with h1 | h1
        · exact ⟨i, by simpa using h1, hin, by show (v.T.set i true).getD i false = true; rw [getD_set v.T i i true hiT, if_pos rfl]⟩
        · obtain ⟨j, hj, hjn, hjT⟩ := h.q.fr x h1
          refine ⟨j, hj, hjn, ?_⟩
          show (v.T.set i true).getD j false = true
          rw [getD_set v.T i j true hiT]
          split
          · rfl
          · exact hjT
      dt := fun x hx => by
        obtain ⟨j, hj, hjn, hjT, hjf⟩ := h.q.dt x hx
        have hij : i ≠ j := fun e => by subst e; rw [hTi] at hjT; cases hjT
        refine ⟨j, hj, hjn, ?_, ?_⟩
        · show (v.T.set i true).getD j false = true
          rw [getD_set v.T i j true hiT, if_neg hij]
          exact hjT
        · show (x == (i : Int) || v.f x) = false
          rw [hjf, Bool.or_false]
          have : x ≠ (i : Int) := by omega
          simpa using this
      dn := h.q.dn
      br := h.q.br
      off := h.q.off
      fu := h.q.fu }
  have hg : ∀ q, QF { v with m := v.m + 1, f := fun x => x == (i : Int) || v.f x, T := v.T.set i true, F := F', fl := (popL v.fl m).take m } q → QF v q ∨ w.heap.size ≤ q := grow_of rfl (Or.inl rfl) rfl rfl rfl (OB.same _ _) rfl (Or.inl rfl) (Or.inl hF) (OB.same _ _)
  refine ⟨i, { v with m := v.m + 1, f := fun x => x == (i : Int) || v.f x, T := v.T.set i true, F := F', fl := (popL v.fl m).take m }, rfl, by have := h.np; omega, hTi, rfl, rfl, rfl, ?_, h.mk' hqs rfl (by have := h.mb; show v.m + 1 ≤ k + 1; omega) (by have := h.pb; show v.ps.length ≤ _; omega) h.g0 (by have := h.g1; show v.g ≤ _; omega) h.e0 (by have := h.e1; show v.e ≤ _; omega) hg hf.wide, hg, hf.wide⟩
  show ((popL v.fl m).take m).length = m
  rw [List.length_take, popL_len]
  omega
theorem SB.ends {w : World} {B o : Nat} {l : List UInt8} (_ : SB w B o l) : True := trivial
/-- A slice of bytes that may be written. -/
def WB (w : World) (v : PV) (A : Option Addr) (m c : Nat) : Prop := m = 256 → ∃ B o b, A = some ⟨B, o, none⟩ ∧ SB w B o b ∧ b.length = 256 ∧ ¬ PF v B ∧ B < w.heap.size ∧ 256 ≤ c
theorem NS.write {W0 w : World} {v : PV} {dl : List Int} {k : Nat} (h : NS W0 w v dl k) (hk : k ≤ 1000) (x : Int) (hx : (Lit.int .i64 x).wf = true) (A : Option Addr) (m c : Nat) (hb : WB w v A m c) :
    Calls Try.prog 26 #[.pointer (some ⟨v.p, 0, none⟩), .int .i64 x, .slice A m c] w fun en w' => ∃ (v' : PV), en = .returned (.int .i64 (if v.f x = true ∧ m = 256 then 0 else 1)) ∧ v'.p = v.p ∧ v'.T = v.T ∧ v'.f = v.f ∧ v'.fl = v.fl ∧ NS W0 w' v' dl (k + 1) ∧ (∀ q, QF v' q → QF v q ∨ w.heap.size ≤ q) ∧ Fr (QF v) w w' := by
  by_cases hc : v.f x = true ∧ m = 256
  · obtain ⟨hf, rfl⟩ := hc
    obtain ⟨B, o, b, rfl, hsb, hbl, hB, hBl, hcc⟩ := hb rfl
    obtain ⟨i, rfl, hi, hT⟩ := h.q.fr x hf
    rw [if_pos ⟨hf, rfl⟩]
    refine (pager_Write.calls w v h.q.ps h.q.off h.q.br (by rw [h.q.fu]; rfl) i hi hf B o c b hsb hbl hB hBl hcc (by have := h.pb; omega)).mono ?_
    rintro en w' ⟨rfl, P', hps, hown, hf'⟩
    have hqs : QS w' { v with br := false, now := lay v.now ((v.fi + (2 + i)) * 256) b, ps := v.ps ++ pcs (v.fi + (2 + i)) b 4, P := P', lf := wrap64 (v.lf - 1), off := false } dl :=
      { ps := hps
        dw := h.q.row hf'
        dd := fun q hq e => by
          have hql := (h.q.dw.lt q hq).2
          rcases e with e | e | e | e
          · exact h.q.dd q hq (Or.inl e)
          · exact h.q.dd q hq (Or.inr (Or.inl e))
          · rcases e with e | e | e | e
            · exact h.q.dd q hq (Or.inr (Or.inr (Or.inl (Or.inl e))))
            · exact h.q.dd q hq (Or.inr (Or.inr (Or.inl (Or.inr (Or.inl e)))))
            · exact h.q.dd q hq (Or.inr (Or.inr (Or.inl (Or.inr (Or.inr (Or.inl e))))))
            · rcases OB.at (show OB w.heap.size v.P P' from hown) q e with e | e
              · exact h.q.dd q hq (Or.inr (Or.inr (Or.inl (Or.inr (Or.inr (Or.inr e))))))
              · omega
          · exact h.q.dd q hq (Or.inr (Or.inr (Or.inr e)))
        fo := h.q.fo
        fr := h.q.fr
        dt := h.q.dt
        dn := h.q.dn
        br := rfl
        off := rfl
        fu := h.q.fu }
    have hg : ∀ q, QF { v with br := false, now := lay v.now ((v.fi + (2 + i)) * 256) b, ps := v.ps ++ pcs (v.fi + (2 + i)) b 4, P := P', lf := wrap64 (v.lf - 1), off := false } q → QF v q ∨ w.heap.size ≤ q := grow_of rfl (Or.inl rfl) rfl rfl rfl hown rfl (Or.inl rfl) (OB.same _ _) (OB.same _ _)
    refine ⟨_, rfl, ?_, ?_, ?_, ?_, h.mk' hqs rfl (by have := h.mb; show v.m ≤ _; omega) (by have := h.pb; show (v.ps ++ pcs _ _ 4).length ≤ _; rw [List.length_append, pcs_len]; omega) h.g0 (by have := h.g1; show v.g ≤ _; omega) h.e0 (by have := h.e1; show v.e ≤ _; omega) hg hf'.wide, hg, hf'.wide⟩ <;> rfl
  · rw [if_neg hc]
    refine (pager_Write.bad w v h.q.ps x hx A m c (by
      cases hf : v.f x with
      | false => exact Or.inl rfl
      | true => exact Or.inr (fun e => hc ⟨hf, e⟩))).mono ?_
    rintro en w' ⟨rfl, rfl⟩
    exact ⟨v, rfl, rfl, rfl, rfl, rfl, h.le (by omega), fun q hq => Or.inl hq, Fr.refl _ _⟩
theorem NS.drop {W0 w : World} {v : PV} {dl : List Int} {k : Nat} (h : NS W0 w v dl k) (hk : k ≤ 1000) (x : Int) :
    Calls Try.prog 30 #[.pointer (some ⟨v.p, 0, none⟩), .int .i64 x] w fun en w' => ∃ (v' : PV) (dl' : List Int) (c : Int), en = .returned (.int .i64 c) ∧ v'.p = v.p ∧ NS W0 w' v' dl' (k + 1) := by
  have hdl := h.q.dl_len
  have hfl := h.q.fl_len
  have hnp := h.np
  by_cases hc : taken v x = false ∨ x ∈ dl
  · refine (pager_Drop.bad w v dl h.q x hc (by omega)).mono ?_
    rintro en w' ⟨rfl, rfl⟩
    exact ⟨v, dl, 1, rfl, rfl, h.le (by omega)⟩
  · have ht : taken v x = true := by
      cases ht : taken v x with
      | true => rfl
      | false => exact absurd (Or.inl ht) hc
    have hni : x ∉ dl := fun e => hc (Or.inr e)
    obtain ⟨i, rfl, hi, hT⟩ := taken_is ht
    cases hf : v.f i with
    | true =>
      refine (pager_Drop.fresh w v dl h.q i hf (by omega) (by omega)).mono ?_
      rintro en w' ⟨F', rfl, hq, hown, hfr⟩
      refine ⟨_, dl, 0, rfl, ?_, h.mk' hq rfl (by have := h.mb; show v.m ≤ _; omega) (by have := h.pb; show v.ps.length ≤ _; omega) h.g0 (by have := h.g1; show v.g ≤ _; omega) h.e0 (by have := h.e1; show v.e ≤ _; omega) (grow_of rfl (Or.inl rfl) rfl rfl rfl (OB.same _ _) rfl (Or.inl rfl) (OB.of hown) (OB.same _ _)) hfr.wide⟩
      rfl
    | false =>
      refine (pager_Drop.stale w v dl h.q i hi hT hni hf (by omega)).mono ?_
      rintro en w' ⟨V', rfl, hq, hown, hfr⟩
      refine ⟨_, dl ++ [(i : Int)], 0, rfl, ?_, h.mk' hq rfl (by have := h.mb; show v.m ≤ _; omega) (by have := h.pb; show v.ps.length ≤ _; omega) h.g0 (by have := h.g1; show v.g ≤ _; omega) h.e0 (by have := h.e1; show v.e ≤ _; omega) (grow_of rfl (Or.inl rfl) rfl rfl rfl (OB.same _ _) rfl (Or.inl rfl) (OB.same _ _) (OB.of hown)) hfr⟩
      rfl
theorem NS.undo {W0 w : World} {v : PV} {dl : List Int} {k : Nat} (h : NS W0 w v dl k) (hk : k ≤ 1000) :
    Calls Try.prog 29 #[.pointer (some ⟨v.p, 0, none⟩)] w fun en w' => ∃ (v' : PV), en = .returned (.tuple #[]) ∧ v'.p = v.p ∧ NS W0 w' v' [] (k + 1) := by
  have hfl := h.q.fl_len
  have hnp := h.np
  refine (pager_Undo.calls w v dl h.q (by omega)).mono ?_
  rintro en w' ⟨F', M, rfl, hq, hown, hM, hfr⟩
  refine ⟨_, rfl, ?_, h.mk' hq rfl (Nat.zero_le _) (by have := h.pb; show v.ps.length ≤ _; omega) h.g0 (by have := h.g1; show v.g ≤ _; omega) h.e0 (by have := h.e1; show v.e ≤ _; omega) (grow_of rfl (Or.inr hM) rfl rfl rfl (OB.same _ _) rfl (Or.inl rfl) (OB.of hown) (Or.inr (Or.inr rfl))) hfr.wide⟩
  rfl
theorem doneQ_fl (v : PV) (r e : Int) (P' : Value) (M : Nat) (F' : Value) (dl : List Int) : (v.doneQ r e P' M F' dl).ps = [] ∧ (v.doneQ r e P' M F' dl).g = v.g + 1 ∧ (v.doneQ r e P' M F' dl).e = e ∧ (v.doneQ r e P' M F' dl).np = v.np ∧ (v.doneQ r e P' M F' dl).m = 0 ∧ (v.doneQ r e P' M F' dl).p = v.p ∧ (v.doneQ r e P' M F' dl).f = (fun _ => false) := ⟨rfl, rfl, rfl, rfl, rfl, rfl, rfl⟩
theorem NS.done {W0 w w' : World} {v : PV} {dl : List Int} {k : Nat} (h : NS W0 w v dl k) (r e : Int) (he : v.e ≤ e) (he2 : e ≤ v.e + 2) (F' P' : Value) (M : Nat) (hq : QS w' (v.doneQ r e P' M F' dl) []) (hown : F'.ownBlock = v.F.ownBlock ∨ ∃ k, F'.ownBlock = some k ∧ w.heap.size ≤ k) (hM : w.heap.size ≤ M) (hfr : Fr (PF v) w w') : NS W0 w' (v.doneQ r e P' M F' dl) [] (k + 1) :=
  h.mk' hq rfl (Nat.zero_le _) (Nat.zero_le _) (by have := h.g0; show 0 ≤ v.g + 1; omega) (by have := h.g1; show v.g + 1 ≤ _; omega) (by have := h.e0; show 1 ≤ e; omega) (by have := h.e1; show e ≤ _; omega) (grow_of rfl (Or.inr hM) rfl rfl rfl (Or.inr (Or.inr rfl)) rfl (Or.inl rfl) (OB.of hown) (Or.inr (Or.inr rfl))) hfr.wide
theorem NS.commit {W0 w : World} {v : PV} {dl : List Int} {k : Nat} (h : NS W0 w v dl k) (hk : k ≤ 1000) (r e : Int) (he0 : 0 ≤ e) (he2 : e ≤ v.e + 2) :
    Calls Try.prog 24 #[.pointer (some ⟨v.p, 0, none⟩), .int .i64 r, .int .u64 e] w fun en w' => ∃ (v' : PV) (dl' : List Int) (c : Int), en = .returned (.int .i64 c) ∧ v'.p = v.p ∧ NS W0 w' v' dl' (k + 1) ∧ (r = -1 → v.e ≤ e → c = 0 ∧ v'.f = (fun _ => false)) := by
  have hdl := h.q.dl_len
  have hfl := h.q.fl_len
  have hnp := h.np
  have hg0 := h.g0
  have hg1 := h.g1
  have he1 := h.e1
  have hpb := h.pb
  by_cases he : v.e ≤ e
  · by_cases hr : r = -1
    · refine (pager_Commit.none_ w v dl h.q r hr e he he0 (by omega) hg0 (by omega) (by omega) (by omega) (by omega)).mono ?_
      rintro en w' ⟨F', P', M, rfl, hq, hown, hM, hfr⟩
      exact ⟨v.doneQ r e P' M F' dl, [], 0, rfl, rfl, h.done r e he he2 F' P' M hq hown hM hfr, fun _ _ => ⟨rfl, rfl⟩⟩
    · by_cases hc : taken v r = false ∨ r ∈ dl
      · refine (pager_Commit.bad w v dl h.q r e he hr hc (by omega)).mono ?_
        rintro en w' ⟨rfl, rfl⟩
        exact ⟨v, dl, 1, rfl, rfl, h.le (by omega), fun h1 => absurd h1 hr⟩
      · have ht : taken v r = true := by
          cases ht : taken v r with
          | true => rfl
          | false => exact absurd (Or.inl ht) hc
        refine (pager_Commit.root w v dl h.q r ht (fun e => hc (Or.inr e)) e he he0 (by omega) hg0 (by omega) (by omega) (by omega) (by omega)).mono ?_
        rintro en w' ⟨F', P', M, rfl, hq, hown, hM, hfr⟩
        exact ⟨v.doneQ r e P' M F' dl, [], 0, rfl, rfl, h.done r e he he2 F' P' M hq hown hM hfr, fun h1 => absurd h1 hr⟩
  · refine (pager_Commit.old w v h.q.ps r e (by omega)).mono ?_
    rintro en w' ⟨rfl, rfl⟩
    exact ⟨v, dl, 1, rfl, rfl, h.le (by omega), fun _ h1 => absurd h1 he⟩
set_option maxHeartbeats 4000000 in
set_option maxRecDepth 100000 in
theorem pager_Use.any (w : World) (v : PV) (h : PS w v) (A : Option Addr) (cp : Nat) (l : List Int) (hl : l = [] ∨ ∃ B o, A = some ⟨B, o, none⟩ ∧ IL w B o l ∧ B < w.heap.size) (hll : l.length ≤ 100000) (T' : List Bool) (hT : onlyL (List.replicate v.np false) l = some T') :
    Calls Try.prog 31 #[.pointer (some ⟨v.p, 0, none⟩), .slice A l.length cp] w (UseP w v (some T')) := by
  have c6 := h.pb.all.2.2.2.2.2.2.1
  have ho := space_Only.all v.s v.TB v.np v.c v.T v.F v.fl A cp l w h.sp hl hll
  rw [hT] at ho
  have H := Aside0.mk h
  have HOn := Aside0.mk ho
  clear h hl hT ho
  go_enter Try.func31, Try.ntmps31
  go_wp2_with fail
  refine HOn.out.mono ?_
  rintro en w1 ⟨TB', F', rfl, hsp, hf1, hTB, hFB⟩
  have hsl := H.out.sx v.s (Or.inl rfl)
  have hpb := BL.fr H.out.pb hf1 (fun e => hsl.1 e.symm)
  have HSP := Aside0.mk hsp
  have HF1 := Aside0.mk hf1
  have HPB := Aside0.mk hpb
  have HTB : Aside0 (w.heap.size ≤ TB' ∧ ∀ k, F'.ownBlock = some k → w.heap.size ≤ k) := ⟨hTB, hFB⟩
  clear hsp hf1 hpb hTB hFB hsl
  go_wp2_with fail
  refine (pager_settle.calls w1 v.p _ _ _ _ _ _ _ _ _ _ HPB.out).mono ?_
  rintro en w2 ⟨rfl, M, hb2, hm2, hM, hf2⟩
  have hsz := HF1.out.size
  have hSk : ∀ k, SpF v.s TB' F' k → k = v.s ∨ w.heap.size ≤ k := fun k hk => by
    rcases hk with hk | hk | hk
    · exact Or.inl hk
    · exact Or.inr (by have := HTB.out.1; omega)
    · exact Or.inr (HTB.out.2 k hk)
  have hpl := H.out.lt v.p (Or.inl rfl)
  have hps : PS w2 { v with M := M, m := 0, f := fun _ => false, dr := .slice none 0 0, TB := TB', c := v.np, T := T', F := F', fl := freeL T' v.np } :=
    { pb := hb2
      fm := hm2
      dk := (H.out.dk.fr HF1.out (fun k hk e => (H.out.dx k hk).2.2 (Or.inl e))).fr hf2 (fun k hk => (H.out.dx k hk).1)
      sp := HSP.out.fr hf2 (fun k hk e => by
        rcases hSk k hk with h | h
        · exact (H.out.sx v.s (Or.inl rfl)).1 (h.symm.trans e)
        · omega)
      pm := by show v.p ≠ M; omega
      dx := fun k hk => by
        have hkl := H.out.dk.lt k hk
        show k ≠ v.p ∧ k ≠ M ∧ ¬ SpF v.s TB' F' k
        refine ⟨(H.out.dx k hk).1, by omega, fun e => ?_⟩
        rcases hSk k e with h | h
        · exact (H.out.dx k hk).2.2 (Or.inl h)
        · omega
      sx := fun k hk => by
        have hkl := HSP.out.lt' k hk
        show k ≠ v.p ∧ k ≠ M
        refine ⟨?_, by omega⟩
        rcases hSk k hk with h | h
        · rw [h]; exact (H.out.sx v.s (Or.inl rfl)).1
        · omega
      nb := H.out.nb
      rg := H.out.rg }
  have HPS := Aside0.mk hps
  have HFF := Aside0.mk ((HF1.out.weak (G1 := PF v) (fun k hk => Or.inl (Or.inr (Or.inr (Or.inr (Or.inl hk)))))).trans (hf2.weak (G1 := PF v) (fun k hk => Or.inl (Or.inl hk))))
  have HMM : Aside0 (w.heap.size ≤ M) := ⟨by omega⟩
  clear hps hSk hb2 hm2 hf2 hM
  go_wp2_with fail
  go_ret
  exact ⟨M, TB', F', rfl, HPS.out, HFF.out, HTB.out.1, HMM.out, HTB.out.2⟩
set_option maxHeartbeats 4000000 in
set_option maxRecDepth 100000 in
theorem pager_Use.none_ (w : World) (v : PV) (h : PS w v) (A : Option Addr) (cp : Nat) (l : List Int) (hl : l = [] ∨ ∃ B o, A = some ⟨B, o, none⟩ ∧ IL w B o l ∧ B < w.heap.size) (hll : l.length ≤ 100000) (hT : onlyL (List.replicate v.np false) l = none) :
    Calls Try.prog 31 #[.pointer (some ⟨v.p, 0, none⟩), .slice A l.length cp] w (UseP w v none) := by
  have c6 := h.pb.all.2.2.2.2.2.2.1
  have ho := space_Only.all v.s v.TB v.np v.c v.T v.F v.fl A cp l w h.sp hl hll
  rw [hT] at ho
  have HOn := Aside0.mk ho
  clear h hl hT ho
  go_enter Try.func31, Try.ntmps31
  go_wp2_with fail
  refine HOn.out.mono ?_
  rintro en w1 ⟨rfl, hb⟩
  have HB := Aside0.mk hb
  clear hb
  go_wp2_with fail
  go_ret
  exact ⟨rfl, HB.out⟩
theorem NS.use {W0 w : World} {v : PV} {dl : List Int} {k : Nat} (h : NS W0 w v dl k) (hk : k ≤ 1000) (A : Option Addr) (cp : Nat) (l : List Int) (hl : l = [] ∨ ∃ B o, A = some ⟨B, o, none⟩ ∧ IL w B o l ∧ B < w.heap.size) (hll : l.length ≤ 100000) :
    Calls Try.prog 31 #[.pointer (some ⟨v.p, 0, none⟩), .slice A l.length cp] w fun en w' => ∃ (v' : PV) (dl' : List Int) (c : Int), en = .returned (.int .i64 c) ∧ v'.p = v.p ∧ NS W0 w' v' dl' (k + 1) := by
  cases hR : onlyL (List.replicate v.np false) l with
  | none =>
    refine (pager_Use.none_ w v h.q.ps A cp l hl hll hR).mono ?_
    rintro en w' ⟨rfl, hb⟩
    exact ⟨v, dl, 1, rfl, rfl, (h.below hb).le (by omega)⟩
  | some T' =>
    have hTl : T'.length = v.np := by rw [onlyL_len _ _ _ hR, List.length_replicate]
    refine (pager_Use.any w v h.q.ps A cp l hl hll T' hR).mono ?_
    rintro en w' ⟨M, TB', F', rfl, hps, hfr, hTB, hM, hF⟩
    have hq : QS w' { v with M := M, m := 0, f := fun _ => false, dr := .slice none 0 0, TB := TB', c := v.np, T := T', F := F', fl := freeL T' v.np } [] :=
      { ps := hps
        dw := World.ownsRow_nil _ _ _ _
        dd := fun k hk => by cases hk
        fo := by rw [← hTl]; exact FreeOK.freeL T'
        fr := fun x hx => by cases hx
        dt := fun x hx => by cases hx
        dn := List.nodup_nil
        br := h.q.br
        off := h.q.off
        fu := h.q.fu }
    have hob : OB w.heap.size v.F F' := by
      cases hc : F'.ownBlock with
      | none => exact Or.inr (Or.inr hc)
      | some q => exact Or.inr (Or.inl ⟨q, hc, hF q hc⟩)
    refine ⟨_, [], 0, rfl, ?_, h.mk' hq rfl (Nat.zero_le _) (by have := h.pb; show v.ps.length ≤ _; omega) h.g0 (by have := h.g1; show v.g ≤ _; omega) h.e0 (by have := h.e1; show v.e ≤ _; omega) (grow_of rfl (Or.inr hM) rfl rfl rfl (OB.same _ _) rfl (Or.inr hTB) hob (Or.inr (Or.inr rfl))) hfr.wide⟩
    rfl
set_option maxHeartbeats 4000000 in
set_option maxRecDepth 100000 in
theorem ref_Block.nil (A : Option Addr) (cp : Nat) (w : World) :
    Calls Try.prog 27 #[.slice A 0 cp] w fun en w' => ∃ N : Nat, en = .returned (.slice (some ⟨N, 0, none⟩) 256 256) ∧ BC w' N (List.replicate 256 0) 5 ∧ w.heap.size ≤ N ∧ Below w.heap.size w w' := by
  have hmk : ∀ W : World, (Instr.makeSlice 38 (.int .i64 256) (.int .i64 256)).run Try.prog W = .ok (.slice (some ⟨W.heap.size, 0, none⟩) 256 256) (W.alloc (.cells (cl (List.replicate 256 0)).toArray 5)) := mk_bytes 256 (by omega)
  obtain ⟨l0, hl0⟩ : ∃ l : List UInt8, List.replicate 256 0 = l := ⟨_, rfl⟩
  rw [hl0] at hmk ⊢
  clear hl0
  have hbn := BL.new w (cl l0).toArray 5
  have hal : Below w.heap.size w (w.alloc (.cells (cl l0).toArray 5)) := al _
  obtain ⟨W, hW⟩ : ∃ x, w.alloc (.cells (cl l0).toArray 5) = x := ⟨_, rfl⟩
  rw [hW] at hbn hal
  have HBN := Aside0.mk hbn
  have HAL := Aside0.mk hal
  have HW := Aside0.mk hW
  clear hbn hal hW
  go_enter Try.func27, Try.ntmps27
  go_wp2_with fail
  rw [HW.out]
  go_loopg [4] 1 (fun kq v4 wr => v4 = .int .i64 0 ∧ W = wr)
  case atStart => exact ⟨rfl, rfl⟩
  case round =>
    obtain ⟨rfl, rfl⟩ := hrel
    go_wp2
    go_ret
    exact ⟨w.heap.size, rfl, HBN.out, Nat.le_refl _, HAL.out⟩
/-- An act of a script, as it came. -/
structure ActV where
  kind : Int
  n : Int
  m : Int
  bA : Option Addr
  bs : List UInt8
  bc : Nat
  short : Bool
  lA : Option Addr
  ls : List Int
  lc : Nat
  kA : Option Addr
  kn : Nat
  kc : Nat
def ActV.cells (a : ActV) : Array Value := #[.int .i64 a.kind, .int .i64 a.n, .int .i64 a.m, .slice a.bA a.bs.length a.bc, .bool a.short, .slice a.lA a.ls.length a.lc, .slice a.kA a.kn a.kc]
structure ActOK (W0 : World) (a : ActV) : Prop where
  nw : (Lit.int .i64 a.n).wf = true
  b : a.bs = [] ∨ ∃ B o, a.bA = some ⟨B, o, none⟩ ∧ SB W0 B o a.bs ∧ B < W0.heap.size
  l : a.ls = [] ∨ ∃ B o, a.lA = some ⟨B, o, none⟩ ∧ IL W0 B o a.ls ∧ B < W0.heap.size
set_option maxHeartbeats 4000000 in
set_option maxRecDepth 100000 in
theorem act_small.calls (a : ActV) (w : World) :
    Calls Try.prog 22 #[.agg a.cells] w fun en w' => (∃ b : Bool, en = .returned (.bool b) ∧ (b = true → a.bs.length ≤ 300 ∧ a.ls.length ≤ 40)) ∧ Below w.heap.size w w' := by
  unfold ActV.cells
  obtain ⟨lb, hlb⟩ : ∃ x, a.bs.length = x := ⟨_, rfl⟩
  obtain ⟨ll, hll⟩ : ∃ x, a.ls.length = x := ⟨_, rfl⟩
  rw [hlb, hll]
  have hal : ∀ o : Obj, Below w.heap.size w (w.alloc o) := fun o => al o
  by_cases h1 : lb ≤ 300
  · have d1 : decide ((lb : Int) ≤ 300) = true := decide_eq_true (by omega)
    by_cases h2 : a.kn ≤ 400
    · have d2 : decide ((a.kn : Int) ≤ 400) = true := decide_eq_true (by omega)
      by_cases h3 : ll ≤ 40
      · have d3 : decide ((ll : Int) ≤ 40) = true := decide_eq_true (by omega)
        go_enter Try.func22, Try.ntmps22
        go_wp2
        go_ret
        exact ⟨⟨true, rfl, fun _ => ⟨h1, h3⟩⟩, hal _⟩
      · have d3 : decide ((ll : Int) ≤ 40) = false := decide_eq_false (by omega)
        go_enter Try.func22, Try.ntmps22
        go_wp2
        go_ret
        exact ⟨⟨false, rfl, fun h => by cases h⟩, hal _⟩
    · have d2 : decide ((a.kn : Int) ≤ 400) = false := decide_eq_false (by omega)
      go_enter Try.func22, Try.ntmps22
      go_wp2
      go_ret
      exact ⟨⟨false, rfl, fun h => by cases h⟩, hal _⟩
  · have d1 : decide ((lb : Int) ≤ 300) = false := decide_eq_false (by omega)
    go_enter Try.func22, Try.ntmps22
    go_wp2
    go_ret
    exact ⟨⟨false, rfl, fun h => by cases h⟩, hal _⟩
theorem own_sb {w : World} {g n cap : Nat} {l : List UInt8} (h : w.ownsRow 0 5 1 (.slice (some ⟨g, 0, none⟩) n cap) n (cl l)) (hl : l.length = n) : SB w g 0 l ∧ n ≤ cap ∧ g < w.heap.size := by
  rcases h.2 with ⟨h0, _⟩ | ⟨B, cap', cur, he, _, hb, hn, hmx, hsz, hx⟩
  · cases h0
  · injection he with h1 h2 h3
    injection h1 with h1
    injection h1 with h1
    subst h1 h3
    refine ⟨fun j v hj => ?_, hn, (Array.getElem?_eq_some_iff.1 hb).1⟩
    rw [Nat.zero_add, BL.cell (show BL w g cur 5 from hb)]
    rw [← hx, List.getElem?_take] at hj
    split at hj
    · simpa using hj
    · cases hj
def BytesP (w : World) (en : Ending) (w' : World) : Prop :=
  ∃ (A : Option Addr) (m c : Nat), en = .returned (.slice A m c) ∧ (m = 256 → ∃ B o b, A = some ⟨B, o, none⟩ ∧ SB w' B o b ∧ b.length = 256 ∧ w.heap.size ≤ B ∧ B < w'.heap.size ∧ 256 ≤ c) ∧ Below w.heap.size w w'
theorem block_any (A : Option Addr) (cp : Nat) (l : List UInt8) (w : World) (h : l = [] ∨ ∃ B o, A = some ⟨B, o, none⟩ ∧ SB w B o l ∧ B < w.heap.size) (hl : l.length ≤ 100000) :
    Calls Try.prog 27 #[.slice A l.length cp] w fun en w' => ∃ (N : Nat) (b : List UInt8), en = .returned (.slice (some ⟨N, 0, none⟩) 256 256) ∧ BC w' N b 5 ∧ b.length = 256 ∧ w.heap.size ≤ N ∧ Below w.heap.size w w' := by
  rcases h with rfl | ⟨B, o, rfl, hs, hB⟩
  · refine (ref_Block.nil A cp w).mono ?_
    rintro en w' ⟨N, rfl, h1, h2, h3⟩
    exact ⟨N, _, rfl, h1, List.length_replicate, h2, h3⟩
  · cases l with
    | nil =>
      refine (ref_Block.nil _ cp w).mono ?_
      rintro en w' ⟨N, rfl, h1, h2, h3⟩
      exact ⟨N, _, rfl, h1, List.length_replicate, h2, h3⟩
    | cons c r =>
      refine (ref_Block.calls B o cp (c :: r) w hs hB (by simp) hl).mono ?_
      rintro en w' ⟨N, rfl, h1, h2, h3⟩
      exact ⟨N, _, rfl, h1, blkL_len _ _, h2, h3⟩
set_option maxHeartbeats 4000000 in
set_option maxRecDepth 100000 in
theorem act_bytes.calls (a : ActV) (w : World) (hb : a.bs = [] ∨ ∃ B o, a.bA = some ⟨B, o, none⟩ ∧ SB w B o a.bs ∧ B < w.heap.size) (hl : a.bs.length ≤ 300) :
    Calls Try.prog 61 #[.agg a.cells] w (BytesP w) := by
  unfold ActV.cells
  have HL := Aside0.mk hl
  have HB := Aside0.mk hb
  cases hs : a.short with
  | false =>
    obtain ⟨w1, hw1⟩ : ∃ x, w.alloc (.cells #[Value.int .i64 a.kind, .int .i64 a.n, .int .i64 a.m, .slice a.bA a.bs.length a.bc, .bool false, .slice a.lA a.ls.length a.lc, .slice a.kA a.kn a.kc] 59) = x := ⟨_, rfl⟩
    have hal : Below w.heap.size w w1 := hw1 ▸ al _
    have hblk := block_any a.bA a.bc a.bs w1 (hb.imp id (fun ⟨B, o, h1, h2, h3⟩ => ⟨B, o, h1, h2.keep h3 hal, Nat.lt_of_lt_of_le h3 hal.size⟩)) (by omega)
    have HBK := Aside0.mk hblk
    have HAL := Aside0.mk hal
    have HW1 := Aside0.mk hw1
    clear hb hl hblk hal hw1
    go_enter Try.func61, Try.ntmps61
    go_wp2_with fail
    rw [HW1.out]
    refine HBK.out.mono ?_
    rintro en w2 ⟨N, b, rfl, hN, hbl, hNl, hbl2⟩
    have hfin : BytesP w (.returned (.slice (some ⟨N, 0, none⟩) 256 256)) w2 := ⟨_, 256, 256, rfl, fun _ => ⟨N, 0, b, rfl, by simpa [List.take_of_length_le (Nat.le_of_eq hbl)] using SB.of hN 0 256, hbl, Nat.le_trans HAL.out.size hNl, BL.lt hN, by omega⟩, below_step HAL.out hbl2⟩
    have HFIN := Aside0.mk hfin
    clear hfin hN hbl hNl hbl2
    go_wp2
    go_ret
    exact HFIN.out
  | true =>
    obtain ⟨i5, hi5, hm5⟩ := Option.map_eq_some_iff.1 byte_info
    simp only [Prod.mk.injEq] at hm5
    obtain ⟨w1, hw1⟩ : ∃ x, (w.alloc (.cells #[Value.int .i64 a.kind, .int .i64 a.n, .int .i64 a.m, .slice a.bA a.bs.length a.bc, .bool true, .slice a.lA a.ls.length a.lc, .slice a.kA a.kn a.kc] 59)).alloc (.cells #[] 5) = x := ⟨_, rfl⟩
    have hal : Below w.heap.size w w1 := hw1 ▸ below_step (al _) (al _)
    have hrow : w1.ownsRow 0 5 1 (.slice (some ⟨w.heap.size + 1, 0, none⟩) 0 0) 0 [] := by
      rw [← hw1]
      have := World.ownsRow_made (base := 0) (e := 5) (size := 1) (w.alloc (.cells #[Value.int .i64 a.kind, .int .i64 a.n, .int .i64 a.m, .slice a.bA a.bs.length a.bc, .bool true, .slice a.lA a.ls.length a.lc, .slice a.kA a.kn a.kc] 59)) #[] 0 (Nat.zero_le _) (by simp [maxLen]) rfl
      rwa [al_size] at this
    have hz1 : w1.heap.size = w.heap.size + 2 := by rw [← hw1, al_size, al_size]
    by_cases hne0 : a.bs = []
    · have he := hne0
      have hl0 : a.bs.length = 0 := by rw [he]; rfl
      rw [hl0] at hw1 ⊢
      clear hl HL HB he hl0 hrow
      obtain ⟨A, hA⟩ : ∃ x, a.bA = x := ⟨_, rfl⟩
      rw [hA] at hw1 ⊢
      have HAL := Aside0.mk hal
      have HW1 := Aside0.mk hw1
      clear hw1 hal hz1
      cases A with
      | none =>
        go_enter Try.func61, Try.ntmps61
        go_wp2_with fail
        rw [HW1.out]
        go_ret
        exact ⟨_, 0, 0, rfl, fun h => absurd h (by decide), HAL.out⟩
      | some A =>
        go_enter Try.func61, Try.ntmps61
        go_wp2_with fail
        rw [HW1.out]
        go_ret
        exact ⟨_, 0, 0, rfl, fun h => absurd h (by decide), HAL.out⟩
    · obtain ⟨B, o, hA, hsb, hBl⟩ := hb.resolve_left hne0
      by_cases h0 : a.bs.length = 0
      · exact absurd (List.eq_nil_of_length_eq_zero h0) hne0
      · have hrow2 : ((w.alloc (.cells #[Value.int .i64 a.kind, .int .i64 a.n, .int .i64 a.m, .slice a.bA a.bs.length a.bc, .bool true, .slice a.lA a.ls.length a.lc, .slice a.kA a.kn a.kc] 59)).alloc (.cells #[] 5)).ownsRow 0 5 1 (.slice (some ⟨w.heap.size + 1, 0, none⟩) 0 0) 0 [] := by rw [hw1]; exact hrow
        have hsb2 : SB ((w.alloc (.cells #[Value.int .i64 a.kind, .int .i64 a.n, .int .i64 a.m, .slice a.bA a.bs.length a.bc, .bool true, .slice a.lA a.ls.length a.lc, .slice a.kA a.kn a.kc] 59)).alloc (.cells #[] 5)) B o a.bs := hsb.keep hBl (below_step (al _) (al _))
        rw [hA] at hrow2 hsb2 hw1 ⊢
        have HRW := Aside0.mk hrow2
        have HSB := Aside0.mk hsb2
        have HAL := Aside0.mk hal
        have HW1 := Aside0.mk hw1
        have HI := Aside0.mk hi5
        have HM := Aside0.mk hm5
        have HZ1 := Aside0.mk hz1
        have H0 := Aside0.mk h0
        clear hrow hrow2 hsb hsb2 hw1 hal hi5 hm5 hz1 h0 hl
        go_enter Try.func61, Try.ntmps61
        go_wp2_with (first
          | (at_builtin; (refine wpList_append_lies _ rfl (.tmp 5) (.tmp 7) 38 rfl 0 5 i5 (.int .u8 0) 1 1 Try.underlying38 HI.out HM.out.1 HM.out.2.1 HM.out.2.2 rfl (by decide) (.slice (some ⟨w.heap.size + 1, 0, none⟩) 0 0) 0 [] rfl HRW.out ⟨B, o, none⟩ a.bs.length a.bc (cl a.bs) rfl (by rw [cl_len, Nat.mul_one]) HSB.out.src (cl_oneCell _) (by have := H0.out; omega) (by have := HL.out; simp [maxLen]; omega) (by have := HL.out; omega) (Nat.zero_le _) _ rfl ?_); intro g cap w9 ho9 hg9 hgg hgl; (have HO9 := Aside0.mk ho9); (have HG9 := Aside0.mk hg9); (have HGG := Aside0.mk hgg); (have HGL := Aside0.mk hgl); clear ho9 hg9 hgg hgl))
        have ho := HO9.out
        rw [Nat.zero_add, List.nil_append] at ho
        obtain ⟨hs9, hcap, hgl⟩ := own_sb ho rfl
        have hg : w.heap.size ≤ g := by
          rcases HGG.out with h | h
          · have : w.heap.size + 1 = g := Option.some.inj h
            omega
          · rw [h, al_size, al_size]; omega
        have hb9 : Below w.heap.size w w9 := Fr.to_below (below_step (al _) (al _)) (Fr.of_grown HG9.out) (by rw [al_size, al_size]; omega) (fun q hq => by have : w.heap.size + 1 = q := Option.some.inj hq; omega)
        go_ret
        exact ⟨_, _, _, rfl, fun h => ⟨g, 0, a.bs, rfl, hs9, h, hg, hgl, by omega⟩, hb9⟩
theorem ActOK.bw {W0 w : World} {a : ActV} (h : ActOK W0 a) (hb : Below W0.heap.size W0 w) : (a.bs = [] ∨ ∃ B o, a.bA = some ⟨B, o, none⟩ ∧ SB w B o a.bs ∧ B < w.heap.size) ∧ (a.ls = [] ∨ ∃ B o, a.lA = some ⟨B, o, none⟩ ∧ IL w B o a.ls ∧ B < w.heap.size) := by
  refine ⟨h.b.imp id ?_, h.l.imp id ?_⟩
  · rintro ⟨B, o, h1, h2, h3⟩
    exact ⟨B, o, h1, h2.keep h3 hb, Nat.lt_of_lt_of_le h3 hb.size⟩
  · rintro ⟨B, o, h1, h2, h3⟩
    exact ⟨B, o, h1, fun j v hj => by rw [hb.cell (p := ⟨B, o + j, none⟩) h3]; exact h2 j v hj, Nat.lt_of_lt_of_le h3 hb.size⟩
theorem NS.write2 {W0 w : World} {v : PV} {dl : List Int} {k : Nat} (h : NS W0 w v dl k) (hk : k ≤ 1000) (x : Int) (hx : (Lit.int .i64 x).wf = true) (A : Option Addr) (m c : Nat) (hb : WB w v A m c) :
    Calls Try.prog 26 #[.pointer (some ⟨v.p, 0, none⟩), .int .i64 x, .slice A m c] w fun en w' => ∃ (v' : PV) (cc : Int), en = .returned (.int .i64 cc) ∧ v'.p = v.p ∧ NS W0 w' v' dl (k + 1) := by
  refine (h.write hk x hx A m c hb).mono ?_
  rintro en w' ⟨v', rfl, h1, _, _, _, h2, _⟩
  exact ⟨v', _, rfl, h1, h2⟩
theorem NS.ready {W0 w1 w2 : World} {v : PV} {dl : List Int} {k : Nat} (h : NS W0 w1 v dl k) (hk : k ≤ 500) (x : Int) (hx : (Lit.int .i64 x).wf = true) (A : Option Addr) (m c : Nat) (hm : m = 256 → ∃ B o b, A = some ⟨B, o, none⟩ ∧ SB w2 B o b ∧ b.length = 256 ∧ w1.drew.heap.size ≤ B ∧ B < w2.heap.size ∧ 256 ≤ c) (hb : Below w1.drew.heap.size w1.drew w2) :
    Calls Try.prog 26 #[.pointer (some ⟨v.p, 0, none⟩), .int .i64 x, .slice A m c] w2 fun en w' => ∃ (v' : PV) (cc : Int), en = .returned (.int .i64 cc) ∧ v'.p = v.p ∧ NS W0 w' v' dl (k + 1) := by
  have hb' : Below w1.heap.size w1 w2 := (Below.refl w1.heap.size w1).drew.trans hb
  refine (h.below hb').write2 (by omega) x hx A m c fun e => ?_
  obtain ⟨B, o, b, e1, e2, e3, e4, e5, e6⟩ := hm e
  refine ⟨B, o, b, e1, e2, e3, fun e => ?_, e5, e6⟩
  have h1 := h.q.lt B (Or.inl e)
  have h2 : w1.heap.size ≤ B := e4
  omega
theorem and3 (m : Int) : 0 ≤ Go.bits .and .i64 m 3 ∧ Go.bits .and .i64 m 3 ≤ 3 := by
  have h : Go.bits .and .i64 m 3 = IntKind.i64.wrap ((BitVec.ofInt 64 m &&& BitVec.ofInt 64 3).toNat : Int) := rfl
  have h2 : (BitVec.ofInt 64 m &&& BitVec.ofInt 64 3).toNat ≤ 3 := by
    rw [BitVec.toNat_and]
    exact Nat.and_le_right
  rw [h, i64_w]
  unfold wrap64
  omega
def PlayP (W0 : World) (v : PV) (k : Nat) (en : Ending) (w' : World) : Prop := ∃ (v' : PV) (dl' : List Int) (x c : Int), en = .returned (.tuple #[.int .i64 x, .int .i64 c]) ∧ v'.p = v.p ∧ NS W0 w' v' dl' (k + 1)
set_option maxHeartbeats 4000000 in
set_option maxRecDepth 100000 in
theorem NS.play {W0 w : World} {v : PV} {dl : List Int} {k : Nat} (h : NS W0 w v dl k) (hk : k ≤ 500) (a : ActV) (ha : ActOK W0 a) (hs : a.bs.length ≤ 300 ∧ a.ls.length ≤ 40) :
    Calls Try.prog 23 #[.pointer (some ⟨v.p, 0, none⟩), .agg a.cells] w (PlayP W0 v k) := by
  have hal : Below w.heap.size w (w.alloc (.cells a.cells 59)) := al _
  have hbn := BL.new w a.cells 59
  have hh := h.below hal
  obtain ⟨w1, hw1⟩ : ∃ x, w.alloc (.cells a.cells 59) = x := ⟨_, rfl⟩
  rw [hw1] at hbn hh
  have hab := ha.bw hh.bl
  have HH := Aside0.mk hh
  have HAB := Aside0.mk hab
  have HNW := Aside0.mk ha.nw
  have HS := Aside0.mk hs
  have HBN := Aside0.mk hbn
  have HW1 := Aside0.mk (show w.alloc (.cells #[.int .i64 a.kind, .int .i64 a.n, .int .i64 a.m, .slice a.bA a.bs.length a.bc, .bool a.short, .slice a.lA a.ls.length a.lc, .slice a.kA a.kn a.kc] 59) = w1 from hw1)
  have q0 := hbn.cell 0
  have q1 := hbn.cell 1
  have q2 := hbn.cell 2
  have q3 := hbn.cell 3
  have q4 := hbn.cell 4
  have q5 := hbn.cell 5
  have q6 := hbn.cell 6
  simp only [ActV.cells, List.getElem?_toArray, List.getElem?_cons_zero, List.getElem?_cons_succ] at q0 q1 q2 q3 q4 q5 q6
  clear h ha hs hal hbn hh hab
  by_cases h1 : a.kind = 1
  · have hw := HW1.out
    rw [h1] at hw q0
    have HWK := Aside0.mk hw
    clear hw
    unfold ActV.cells
    rw [h1]
    clear hw1 h1
    go_enter Try.func23, Try.ntmps23
    go_wp2_with fail
    rw [HWK.out]
    cases hfl : v.fl with
    | nil =>
      refine (pager_Take.full w1 v HH.out.q.ps hfl).mono ?_
      rintro en w2 ⟨rfl, rfl⟩
      have HN := Aside0.mk (HH.out.le (show k ≤ k + 1 by omega))
      clear hfl
      go_wp2_with fail
      exact bodyPost_ret (v := .tuple #[.int .i64 0, .int .i64 3]) (by simp [results, Try.results23, go_sem]) rfl ⟨v, dl, 0, 3, rfl, rfl, HN.out⟩
    | cons y r =>
      refine (HH.out.take (by omega) r.length (by rw [hfl]; rfl)).mono ?_
      rintro en w2 ⟨i, v', rfl, _, _, hp, _, _, _, hn, _⟩
      have HN := Aside0.mk hn
      have HP := Aside0.mk hp
      clear hfl hn hp
      go_wp2_with fail
      exact bodyPost_ret (v := .tuple #[.int .i64 (i : Int), .int .i64 0]) (by simp [results, Try.results23, go_sem]) rfl ⟨v', dl, (i : Int), 0, rfl, HP.out, HN.out⟩
  by_cases h2 : a.kind = 2
  · have hby : ∀ W : World, Below w1.heap.size w1 W → Calls Try.prog 61 #[.agg #[.int .i64 2, .int .i64 a.n, .int .i64 a.m, .slice a.bA a.bs.length a.bc, .bool a.short, .slice a.lA a.ls.length a.lc, .slice a.kA a.kn a.kc]] W (BytesP W) := fun W hb => act_bytes.calls { a with kind := 2 } W (HAB.out.1.imp id (fun ⟨B, o, e1, e2, e3⟩ => ⟨B, o, e1, e2.keep e3 hb, Nat.lt_of_lt_of_le e3 hb.size⟩)) HS.out.1
    have HBY := Aside0.mk hby
    clear hby
    have hw := HW1.out
    rw [h2] at hw q0
    have HWK := Aside0.mk hw
    clear hw
    unfold ActV.cells
    rw [h2]
    clear hw1 h2
    go_enter Try.func23, Try.ntmps23
    go_wp2_with fail
    rw [HWK.out]
    go_region_with (first
      | (go_at_call 61; (with_reducible refine (HBY.out _ ?_).mono ?_); (exact (Below.refl _ _).drew); rintro e1 w2 ⟨A, m, c, rfl, hm, hbl⟩; (have HWC := Aside0.mk (HH.out.ready hk a.n HNW.out A m c hm hbl)); (have e1' : w2.cell? ⟨w.heap.size, 1, none⟩ = w1.cell? ⟨w.heap.size, 1, none⟩ := hbl.cell (p := ⟨w.heap.size, 1, none⟩) (BL.lt HBN.out)); rw [q1] at e1'; clear hm hbl)
      | (go_at_call 26; (with_reducible refine HWC.out.mono ?_); rintro e1 w3 ⟨v', cc, rfl, hp, hn⟩; (have HN := Aside0.mk hn); (have HP := Aside0.mk hp); clear hn hp))
    all_goals
      go_wp2_with fail
      exact bodyPost_ret (v := .tuple #[.int .i64 0, .int .i64 cc]) (by simp [results, Try.results23, go_sem]) rfl ⟨v', dl, 0, cc, rfl, HP.out, HN.out⟩
  by_cases h3 : a.kind = 3
  · have hw := HW1.out
    rw [h3] at hw q0
    have HWK := Aside0.mk hw
    clear hw
    unfold ActV.cells
    rw [h3]
    clear hw1 h3
    go_enter Try.func23, Try.ntmps23
    go_wp2_with fail
    rw [HWK.out]
    refine (HH.out.drop (by omega) a.n).mono ?_
    rintro en w2 ⟨v', dl', cc, rfl, hp, hn⟩
    have HN := Aside0.mk hn
    have HP := Aside0.mk hp
    clear hn hp
    go_wp2_with fail
    exact bodyPost_ret (v := .tuple #[.int .i64 0, .int .i64 cc]) (by simp [results, Try.results23, go_sem]) rfl ⟨v', dl', 0, cc, rfl, HP.out, HN.out⟩
  by_cases h5 : a.kind = 5
  · have hw := HW1.out
    rw [h5] at hw q0
    have HWK := Aside0.mk hw
    clear hw
    unfold ActV.cells
    rw [h5]
    clear hw1 h5
    go_enter Try.func23, Try.ntmps23
    go_wp2_with fail
    rw [HWK.out]
    refine (HH.out.undo (by omega)).mono ?_
    rintro en w2 ⟨v', rfl, hp, hn⟩
    have HN := Aside0.mk hn
    have HP := Aside0.mk hp
    clear hn hp
    go_wp2_with fail
    exact bodyPost_ret (v := .tuple #[.int .i64 0, .int .i64 0]) (by simp [results, Try.results23, go_sem]) rfl ⟨v', [], 0, 0, rfl, HP.out, HN.out⟩
  by_cases h6 : a.kind = 6
  · have hw := HW1.out
    rw [h6] at hw q0
    have HWK := Aside0.mk hw
    clear hw
    unfold ActV.cells
    rw [h6]
    clear hw1 h6
    go_enter Try.func23, Try.ntmps23
    go_wp2_with fail
    rw [HWK.out]
    refine (HH.out.use (by omega) a.lA a.lc a.ls HAB.out.2 (by have := HS.out.2; omega)).mono ?_
    rintro en w2 ⟨v', dl', cc, rfl, hp, hn⟩
    have HN := Aside0.mk hn
    have HP := Aside0.mk hp
    clear hn hp
    go_wp2_with fail
    exact bodyPost_ret (v := .tuple #[.int .i64 0, .int .i64 cc]) (by simp [results, Try.results23, go_sem]) rfl ⟨v', dl', 0, cc, rfl, HP.out, HN.out⟩
  by_cases h4 : a.kind = 4
  · have hw := HW1.out
    rw [h4] at hw q0
    have HWK := Aside0.mk hw
    clear hw
    unfold ActV.cells
    rw [h4]
    clear hw1 h4
    go_enter Try.func23, Try.ntmps23
    go_wp2_with fail
    rw [HWK.out]
    have he : ∀ W : World, NS W0 W v dl k → Calls Try.prog 18 #[.pointer (some ⟨v.p, 0, none⟩)] W fun en w' => en = .returned (.int .u64 v.e) ∧ W = w' := fun W h => pager_Epoch.calls W v h.q.ps
    have HE := Aside0.mk he
    have HD : Aside0 (NS W0 w1.drew v dl k) := ⟨HH.out.below (Below.refl _ _).drew⟩
    have hx : 0 ≤ IntKind.u64.wrap (IntKind.u64.wrap (v.e + IntKind.u64.wrap (bits BinOp.and IntKind.i64 a.m 3)) - 1) ∧ IntKind.u64.wrap (IntKind.u64.wrap (v.e + IntKind.u64.wrap (bits BinOp.and IntKind.i64 a.m 3)) - 1) ≤ v.e + 2 := by
      have h1 := and3 a.m
      have h2 := HH.out.e0
      have h3 := HH.out.e1
      rw [IntKind.wrap_u64, IntKind.wrap_u64, IntKind.wrap_u64]
      omega
    have hcm := HD.out.commit (by omega) a.n _ hx.1 hx.2
    have HCM := Aside0.mk hcm
    clear he hx hcm
    go_region_with (first
      | (go_at_call 18; (with_reducible refine (HE.out _ HD.out).mono ?_); rintro e1 w2 ⟨rfl, rfl⟩)
      | (go_at_call 24; (with_reducible refine HCM.out.mono ?_); rintro e1 w3 ⟨v', dl', cc, rfl, hp, hn, _⟩; (have HN := Aside0.mk hn); (have HP := Aside0.mk hp); clear hn hp))
    all_goals
      go_wp2_with fail
      exact bodyPost_ret (v := .tuple #[.int .i64 0, .int .i64 cc]) (by simp [results, Try.results23, go_sem]) rfl ⟨v', dl', 0, cc, rfl, HP.out, HN.out⟩
  · unfold ActV.cells
    clear hw1
    have HN := Aside0.mk (HH.out.le (show k ≤ k + 1 by omega))
    go_enter Try.func23, Try.ntmps23
    go_wp2_with fail
    rw [HW1.out]
    exact bodyPost_ret (v := .tuple #[.int .i64 0, .int .i64 0]) (by simp [results, Try.results23, go_sem]) rfl ⟨v, dl, 0, 0, rfl, rfl, HN.out⟩
/-- A script, as it came. -/
structure ScOK (W0 : World) (A : Option Addr) (acts : List ActV) : Prop where
  at_ : acts = [] ∨ ∃ B o, A = some ⟨B, o, none⟩ ∧ B < W0.heap.size ∧ ∀ (j : Nat) (hj : j < acts.length), W0.rangeAt B (o + j * 7) acts[j].cells.toList
  ok : ∀ a ∈ acts, ActOK W0 a
theorem NS.start {w w1 : World} {v : PV} (h : PS w1 v) (h0 : PV0 v) (hb : Below w.heap.size w w1) (hk : ∀ k, PF v k → w.heap.size ≤ k) : NS w w1 v [] 0 :=
  { q :=
      { ps := h
        dw := by rw [h0.dr]; exact World.ownsRow_nil _ _ _ _
        dd := fun k hk => by rw [h0.dr] at hk; cases hk
        fo := by
          have := FreeOK.freeL v.T
          rw [h.sp.lt, h0.np] at this
          rw [h0.fl, ← h0.T]
          exact this
        fr := fun x hx => by rw [h0.f] at hx; cases hx
        dt := fun x hx => by cases hx
        dn := List.nodup_nil
        br := h0.br
        off := h0.off
        fu := h0.fu }
    np := h0.np
    mb := by rw [h0.m]; exact Nat.le_refl _
    pb := by rw [h0.ps]; exact Nat.le_refl _
    g0 := by rw [show v.g = 0 from congrArg Prod.fst h0.st]; decide
    g1 := by rw [show v.g = 0 from congrArg Prod.fst h0.st]; decide
    e0 := by rw [show v.e = 1 from congrArg (fun x => x.2.2) h0.st]; decide
    e1 := by rw [show v.e = 1 from congrArg (fun x => x.2.2) h0.st]; decide
    lo := fun k hk' => by
      rcases hk' with hk' | hk'
      · exact hk k hk'
      · rw [h0.dr] at hk'; cases hk'
    bl := hb }
/-- The law's second part: what it holds of the marks. -/
structure NL (w wr : World) (v : PV) (dl : List Int) (k u : Nat) (Us T : List Bool) (i : Nat) : Prop where
  ns : NS w wr v dl k
  ln : Us.length = 12
  bl : BL wr u (bl Us) 4
  nu : ¬ QF v u
  ul : w.heap.size ≤ u
  at_ : ∀ j : Nat, j < i → Us.getD j false = T.getD j false
theorem NL.below {w wr w' : World} {v : PV} {dl : List Int} {k u : Nat} {Us T : List Bool} {i : Nat} (h : NL w wr v dl k u Us T i) (hb : Below wr.heap.size wr w') : NL w w' v dl k u Us T i :=
  { h with ns := h.ns.below hb, bl := h.bl.keep hb }
theorem NL.dr {w wr : World} {v : PV} {dl : List Int} {k u : Nat} {Us T : List Bool} {i : Nat} (h : NL w wr v dl k u Us T i) : NL w wr.drew v dl k u Us T i := h.below (Below.refl _ _).drew
theorem NL.cell {w wr : World} {v : PV} {dl : List Int} {k u : Nat} {Us T : List Bool} {i : Nat} (h : NL w wr v dl k u Us T i) (j : Nat) (hj : j < 12) : wr.cell? ⟨u, j, none⟩ = some (.bool (Us.getD j false)) := by
  rw [BL.cell h.bl, bl_at Us j (by rw [h.ln]; exact hj), List.getD_eq_getElem?_getD, List.getElem?_eq_getElem (by rw [h.ln]; exact hj)]; rfl
theorem NL.set {w wr : World} {v : PV} {dl : List Int} {k u : Nat} {Us T : List Bool} {i : Nat} (h : NL w wr v dl k u Us T i) (j : Nat) (b : Bool) (i' : Nat) (T' : List Bool) (ha : ∀ q : Nat, q < i' → (Us.set j b).getD q false = T'.getD q false) : NL w (wr.setCell ⟨u, j, none⟩ (.bool b)) v dl k u (Us.set j b) T' i' :=
  have hf : Fr (· = u) wr (wr.setCell ⟨u, j, none⟩ (.bool b)) := (Fr.refl (· = u) wr).own j _
  { ns := { h.ns with q := h.ns.q.fr' hf (fun q hq e => h.nu (e ▸ hq)), bl := hf.to_below h.ns.bl h.ns.bl.size (fun q hq => hq ▸ h.ul) }
    ln := by rw [List.length_set]; exact h.ln
    bl := by have := BL.set h.bl j (.bool b); rwa [bl_set] at this
    nu := h.nu
    ul := h.ul
    at_ := ha }
theorem NL.put {w wr : World} {v : PV} {dl : List Int} {k u : Nat} {Us T : List Bool} {i : Nat} (h : NL w wr v dl k u Us T i) (hi : i < 12) : NL w (wr.setCell ⟨u, i, none⟩ (.bool (T.getD i false))) v dl k u (Us.set i (T.getD i false)) T (i + 1) :=
  h.set i _ _ _ fun q hq => by
    rw [List.getD_eq_getElem?_getD, List.getElem?_set]
    by_cases e : i = q
    · subst e
      rw [if_pos rfl, if_pos (by rw [h.ln]; exact hi)]; rfl
    · rw [if_neg e, ← List.getD_eq_getElem?_getD]
      exact h.at_ q (by omega)
theorem NL.block {w wr : World} {v : PV} {dl : List Int} {k u : Nat} {Us T : List Bool} {i : Nat} (h : NL w wr v dl k u Us T i) (bA : Option Addr) (bc : Nat) (bs : List UInt8) (hb : bs = [] ∨ ∃ B o, bA = some ⟨B, o, none⟩ ∧ SB w B o bs ∧ B < w.heap.size) (hl : bs.length ≤ 300) :
    Calls Try.prog 27 #[.slice bA bs.length bc] wr fun en w' => ∃ (N : Nat) (b : List UInt8), en = .returned (.slice (some ⟨N, 0, none⟩) 256 256) ∧ BC w' N b 5 ∧ b.length = 256 ∧ wr.heap.size ≤ N ∧ NL w w' v dl k u Us T i := by
  refine (block_any bA bc bs wr (hb.imp id (fun ⟨B, o, e1, e2, e3⟩ => ⟨B, o, e1, e2.keep e3 h.ns.bl, Nat.lt_of_lt_of_le e3 h.ns.bl.size⟩)) (by omega)).mono ?_
  rintro en w' ⟨N, b, rfl, h1, h2, h3, h4⟩
  exact ⟨N, b, rfl, h1, h2, h3, h.below h4⟩
/-- What a read tells of a page: whether it is taken. -/
theorem NL.read {w wr : World} {v : PV} {dl : List Int} {k u : Nat} {Us T : List Bool} {i : Nat} (h : NL w wr v dl k u Us T i) (x : Nat) (hx : x < 12) (b : Bool) (hb : v.T.getD x false = b) :
    Calls Try.prog 25 #[.pointer (some ⟨v.p, 0, none⟩), .int .i64 x] wr fun en w' => ∃ (A : Option Addr) (n c : Nat), en = .returned (.tuple #[.slice A n c, .int .i64 (bif b then 0 else 1)]) ∧ NL w w' v dl k u Us T i := by
  cases b with
  | true =>
    refine (pager_Read.yes wr v h.ns.q.ps h.ns.q.off x (by rw [h.ns.np]; exact hx) hb).mono ?_
    rintro en w' ⟨B, rfl, _, _, hbl⟩
    exact ⟨_, _, _, rfl, h.below hbl⟩
  | false =>
    refine (pager_Read.no wr v h.ns.q.ps x (by unfold taken; rw [Int.toNat_natCast, hb, Bool.and_false])).mono ?_
    rintro en w' ⟨rfl, rfl⟩
    exact ⟨_, _, _, rfl, h⟩
/-- A page that is not fresh is not written. -/
theorem NL.not {w wr : World} {v : PV} {dl : List Int} {k u : Nat} {Us T : List Bool} {i : Nat} (h : NL w wr v dl k u Us T i) (hf : v.f = fun _ => false) (x : Nat) (hx : x < 12) (A : Option Addr) (m c : Nat) :
    Calls Try.prog 26 #[.pointer (some ⟨v.p, 0, none⟩), .int .i64 x, .slice A m c] wr fun en w' => en = .returned (.int .i64 1) ∧ NL w w' v dl k u Us T i := by
  refine (pager_Write.bad wr v h.ns.q.ps x (wf64 _ (by omega)) A m c (Or.inl (by rw [hf]))).mono ?_
  rintro en w' ⟨rfl, rfl⟩
  exact ⟨rfl, h⟩
/-- A page is taken: it was none that was. -/
theorem NL.take {w wr : World} {v : PV} {dl : List Int} {k u : Nat} {Us : List Bool} (h : NL w wr v dl k u Us v.T 12) (hk : k ≤ 1000) (m : Nat) (hm : v.fl.length = m + 1) :
    Calls Try.prog 28 #[.pointer (some ⟨v.p, 0, none⟩)] wr fun en w' => ∃ (x : Nat) (v' : PV), en = .returned (.tuple #[.int .i64 (x : Int), .int .i64 0]) ∧ x < 12 ∧ Us.getD x false = false ∧ v'.p = v.p ∧ v'.T = v.T.set x true ∧ v'.f x = true ∧ v'.fl.length = m ∧ NL w w' v' dl (k + 1) u Us v.T 12 := by
  refine (h.ns.take hk m hm).mono ?_
  rintro en w' ⟨x, v', rfl, hx, hT, hp, hT', hf', hl, hn, hg, hfr⟩
  refine ⟨x, v', rfl, hx, (h.at_ x hx).trans hT, hp, hT', by rw [hf']; simp, hl, { ns := hn, ln := h.ln, bl := h.bl.fr hfr h.nu, nu := fun e => ?_, ul := h.ul, at_ := h.at_ }⟩
  rcases hg u e with e | e
  · exact h.nu e
  · have := h.bl.lt; omega
/-- A fresh page is written. -/
theorem NL.write {w wr : World} {v : PV} {dl : List Int} {k u : Nat} {Us T : List Bool} {i : Nat} (h : NL w wr v dl k u Us T i) (hk : k ≤ 1000) (x : Nat) (hx : x < 12) (hf : v.f x = true) (N : Nat) (b : List UInt8) (hN : BC wr N b 5) (hb : b.length = 256) (hq : ¬ QF v N) :
    Calls Try.prog 26 #[.pointer (some ⟨v.p, 0, none⟩), .int .i64 x, .slice (some ⟨N, 0, none⟩) 256 256] wr fun en w' => ∃ v' : PV, en = .returned (.int .i64 0) ∧ v'.p = v.p ∧ v'.T = v.T ∧ v'.fl = v.fl ∧ NL w w' v' dl (k + 1) u Us T i := by
  refine (h.ns.write hk x (wf64 _ (by omega)) _ 256 256 fun _ => ⟨N, 0, b, rfl, by simpa [List.take_of_length_le (Nat.le_of_eq hb)] using SB.of hN 0 256, hb, fun e => hq (Or.inl e), BL.lt hN, Nat.le_refl _⟩).mono ?_
  rw [if_pos ⟨hf, rfl⟩]
  rintro en w' ⟨v', rfl, h1, h2, h3, h4, hn, hg, hfr⟩
  refine ⟨v', rfl, h1, h2, h4, { ns := hn, ln := h.ln, bl := h.bl.fr hfr h.nu, nu := fun e => ?_, ul := h.ul, at_ := h.at_ }⟩
  rcases hg u e with e | e
  · exact h.nu e
  · have := h.bl.lt; omega
theorem NL.mark {w wr : World} {v : PV} {dl : List Int} {k u : Nat} {Us T : List Bool} (h : NL w wr v dl k u Us T 12) (hT : T.length = 12) (x : Nat) (hx : x < 12) (hv : v.T = T.set x true) : NL w (wr.setCell ⟨u, x, none⟩ (.bool true)) v dl k u (Us.set x true) v.T 12 :=
  h.set x true 12 v.T fun q hq => by
    rw [hv]
    rw [List.getD_eq_getElem?_getD, List.getD_eq_getElem?_getD, List.getElem?_set, List.getElem?_set]
    by_cases e : x = q
    · rw [if_pos e, if_pos e, if_pos (by rw [h.ln]; exact hx), if_pos (by rw [hT]; exact hx)]
    · rw [if_neg e, if_neg e, ← List.getD_eq_getElem?_getD, ← List.getD_eq_getElem?_getD]
      exact h.at_ q hq
set_option maxHeartbeats 4000000 in
set_option maxRecDepth 100000 in
theorem pagerNever.calls (A : Option Addr) (c : Nat) (acts : List ActV) (bA : Option Addr) (bc : Nat) (bs : List UInt8) (w : World) (hsc : ScOK w A acts) (hb : bs = [] ∨ ∃ B o, bA = some ⟨B, o, none⟩ ∧ SB w B o bs ∧ B < w.heap.size) :
    Calls Try.prog 4 #[.slice A acts.length c, .slice bA bs.length bc] w (AliveP w) := by
  have HSC := Aside0.mk hsc
  have HBB := Aside0.mk hb
  clear hsc hb
  by_cases hbl : bs.length ≤ 300
  · have d1 : decide ((bs.length : Int) > 300) = false := decide_eq_false (by omega)
    go_enter Try.func4, Try.ntmps4
    go_wp2_with fail
    refine (made_calls _).mono ?_
    rintro en w1 ⟨v, rfl, hps, hv, hO, hkb⟩
    have HN1 := Aside0.mk (NS.start hps hv hO hkb)
    clear hps hv hO hkb
    go_upto_block 0 with fail
    go_cut [] (fun wx => ∃ (v' : PV) (dl : List Int), Aside0 (v'.p = v.p) ∧ Aside0 (NS w wx v' dl 50))
    case first =>
      go_wp2_with fail
      go_loopg [8] 50 (fun kq v8 wr => ∃ (i : Nat) (v' : PV) (dl : List Int), v8 = .int .i64 i ∧ Aside0 (kq + i = 50) ∧ Aside0 (v'.p = v.p) ∧ Aside0 (NS w wr v' dl i))
      case atStart => exact ⟨0, v, [], rfl, ⟨rfl⟩, ⟨rfl⟩, HN1⟩
      case round =>
        obtain ⟨i, v', dl, rfl, HJ, HP, HN⟩ := hrel
        have hi50 : i ≤ 50 := by have := HJ.out; omega
        by_cases hi : i < acts.length
        · have k1 : (i : Int) < (acts.length : Int) := by omega
          by_cases h5 : i < 50
          · have k2 : (i : Int) < 50 := by omega
            rcases HSC.out.at_ with h0 | ⟨B, o, hA, hB, hrg⟩
            · rw [h0] at hi; cases hi
            · have hok := HSC.out.ok _ (List.getElem_mem hi)
              have hr := hrg i hi
              obtain ⟨a, haa⟩ : ∃ x, acts[i] = x := ⟨_, rfl⟩
              rw [haa] at hok hr
              have hr2 : ∀ (j : Nat) (x : Value), a.cells.toList[j]? = some x → wr.cell? ⟨B, o + i * 7 + j, none⟩ = some x := fun j x hx => by
                rw [HN.out.bl.cell (p := ⟨B, o + i * 7 + j, none⟩) hB]; exact hr j x hx
              have q0 := hr2 0 _ rfl
              have q1 := hr2 1 _ rfl
              have q2 := hr2 2 _ rfl
              have q3 := hr2 3 _ rfl
              have q4 := hr2 4 _ rfl
              have q5 := hr2 5 _ rfl
              have q6 := hr2 6 _ rfl
              rw [Nat.add_zero] at q0
              have hsm := act_small.calls a wr
              unfold ActV.cells at hsm
              have HSM := Aside0.mk hsm
              have HOK := Aside0.mk hok
              subst hA
              clear hsm hok hr hr2 haa hrg
              go_wp2_with fail
              refine HSM.out.mono ?_
              rintro en w2 ⟨⟨b, rfl, hb⟩, hbl2⟩
              have hN2 := HN.out.below hbl2
              have HN2 := Aside0.mk hN2
              have HBS := Aside0.mk hb
              have hcl : ∀ j : Nat, w2.cell? ⟨B, j, none⟩ = wr.cell? ⟨B, j, none⟩ := fun j => hbl2.cell (p := ⟨B, j, none⟩) (Nat.lt_of_lt_of_le hB HN.out.bl.size)
              have r0 := (hcl (o + i * 7)).trans q0
              have r1 := (hcl (o + i * 7 + 1)).trans q1
              have r2 := (hcl (o + i * 7 + 2)).trans q2
              have r3 := (hcl (o + i * 7 + 3)).trans q3
              have r4 := (hcl (o + i * 7 + 4)).trans q4
              have r5 := (hcl (o + i * 7 + 5)).trans q5
              have r6 := (hcl (o + i * 7 + 6)).trans q6
              clear hN2 hb hbl2 hcl q0 q1 q2 q3 q4 q5 q6
              cases b with
              | false =>
                go_wp2_with fail
                go_roundg (50 - (i + 1))
                case measure => have := HJ.out; omega
                case rel => exact ⟨i + 1, v', dl, rfl, ⟨by omega⟩, HP, ⟨HN2.out.le (by omega)⟩⟩
              | true =>
                by_cases k7 : a.kind < 7
                · have d7 : decide (a.kind < 7) = true := decide_eq_true k7
                  have hpl := HN2.out.play (by omega) a HOK.out (HBS.out rfl)
                  rw [HP.out] at hpl
                  unfold ActV.cells at hpl
                  have HPL := Aside0.mk hpl
                  clear hpl
                  go_wp2_with fail
                  refine HPL.out.mono ?_
                  rintro en w3 ⟨v3, dl3, x, cc, rfl, hp3, hn3⟩
                  have HP3 := Aside0.mk (hp3.trans HP.out)
                  have HN3 := Aside0.mk hn3
                  clear hp3 hn3
                  go_wp2_with fail
                  go_roundg (50 - (i + 1))
                  case measure => have := HJ.out; omega
                  case rel => exact ⟨i + 1, v3, dl3, rfl, ⟨by omega⟩, HP3, HN3⟩
                · have d7 : decide (a.kind < 7) = false := decide_eq_false k7
                  go_wp2_with fail
                  go_roundg (50 - (i + 1))
                  case measure => have := HJ.out; omega
                  case rel => exact ⟨i + 1, v', dl, rfl, ⟨by omega⟩, HP, ⟨HN2.out.le (by omega)⟩⟩
          · have k2 : ¬ (i : Int) < 50 := by omega
            go_wp2_with fail
            go_meet
            exact ⟨v', dl, HP, ⟨HN.out.le hi50⟩⟩
        · have k1 : ¬ (i : Int) < (acts.length : Int) := by omega
          go_wp2_with fail
          go_meet
          exact ⟨v', dl, HP, ⟨HN.out.le hi50⟩⟩
    case rest =>
      obtain ⟨v', dl, HP, HN⟩ := hcut
      have ce := pager_Epoch.calls wc v' HN.out.q.ps
      have hcm : Calls Try.prog 24 #[.pointer (some ⟨v.p, 0, none⟩), .int .i64 (-1), .int .u64 v'.e] wc fun en w' => ∃ (v2 : PV) (dl2 : List Int), en = .returned (.int .i64 0) ∧ v2.p = v.p ∧ NS w w' v2 dl2 51 ∧ v2.f = (fun _ => false) := by
        rw [← HP.out]
        refine (HN.out.commit (by omega) (-1) v'.e (by have := HN.out.e0; omega) (by omega)).mono ?_
        rintro en w' ⟨v2, dl2, cc, he, hp2, hn2, hz⟩
        obtain ⟨h0, h1⟩ := hz rfl (Int.le_refl _)
        subst h0
        exact ⟨v2, dl2, he, hp2.trans rfl, hn2, h1⟩
      rw [HP.out] at ce
      have CE := Aside0.mk ce
      have HCM := Aside0.mk hcm
      clear ce hcm
      go_wp2_with fail
      refine CE.out.mono ?_
      rintro en w2 ⟨rfl, rfl⟩
      go_wp2_with fail
      refine HCM.out.mono ?_
      rintro en w2 ⟨v2, dl2, rfl, hp2', hn2, hf2⟩
      have cf := pager_Free.calls w2 v2 hn2.q.ps
      rw [hp2'] at cf
      have CF := Aside0.mk cf
      have HP2 := Aside0.mk hp2'
      have HN2 := Aside0.mk hn2
      have HF2 := Aside0.mk hf2
      clear cf hp2' hn2 hf2
      go_wp2_with fail
      refine CF.out.mono ?_
      rintro en w3 ⟨rfl, rfl⟩
      have hmk : ∀ W : World, (Instr.makeSlice 45 (.int .i64 12) (.int .i64 12)).run Try.prog W = .ok (.slice (some ⟨W.heap.size, 0, none⟩) 12 12) (W.alloc (.cells (bl (List.replicate 12 false)) 4)) := mk_bools 12 (by omega)
      obtain ⟨T0, hT0⟩ : ∃ x, List.replicate 12 false = x := ⟨_, rfl⟩
      rw [hT0] at hmk
      have hT0l : T0.length = 12 := by rw [← hT0, List.length_replicate]
      have hbn := BL.new w2 (bl T0) 4
      have hal : Below w2.heap.size w2 (w2.alloc (.cells (bl T0) 4)) := al _
      obtain ⟨u, hu⟩ : ∃ x, w2.heap.size = x := ⟨_, rfl⟩
      have HU := Aside0.mk hu
      obtain ⟨W3, hW3⟩ : ∃ x, w2.alloc (.cells (bl T0) 4) = x := ⟨_, rfl⟩
      rw [hW3, hu] at hbn
      rw [hW3] at hal
      have HBN := Aside0.mk hbn
      have HN3 := Aside0.mk (HN2.out.below hal)
      have HW3 := Aside0.mk hW3
      have HT0 := Aside0.mk hT0l
      have HNU : Aside0 (¬ QF v2 u) := ⟨fun e => by have := HN2.out.q.lt u e; omega⟩
      clear hT0 hbn hal hu hW3 hT0l
      go_wp2_with fail
      rw [HW3.out]
      rw [HU.out]
      have HR0 : Aside0 (NL w W3 v2 dl2 51 u T0 v2.T 0) := ⟨{ ns := HN3.out, ln := HT0.out, bl := HBN.out, nu := HNU.out, ul := by have := HN2.out.bl.size; have := HU.out; omega, at_ := fun j hj => absurd hj (Nat.not_lt_zero _) }⟩
      go_loopg [11] 12 (fun kq v11 wr => ∃ (i : Nat) (Us : List Bool), v11 = .int .i64 i ∧ Aside0 (kq + i = 12) ∧ Aside0 (NL w wr v2 dl2 51 u Us v2.T i))
      case atStart => exact ⟨0, T0, rfl, ⟨rfl⟩, HR0⟩
      case round =>
        obtain ⟨i, Us, rfl, HJ, HR⟩ := hrel
        by_cases hi : i < 12
        · have k1 : (i : Int) < 12 := by omega
          have hput : ∀ (b : Bool) (W : World), v2.T.getD i false = b → NL w W v2 dl2 51 u Us v2.T i → NL w (W.setCell ⟨u, i, none⟩ (.bool b)) v2 dl2 51 u (Us.set i b) v2.T (i + 1) := fun b W e h => e ▸ h.put hi
          have HPUT := Aside0.mk hput
          cases hT : v2.T.getD i false with
          | true =>
            have hrd := HR.out.read i hi true hT
            rw [HP2.out] at hrd
            have HRD := Aside0.mk hrd
            have HT := Aside0.mk hT
            clear hrd hT hput
            go_wp2_with fail
            refine HRD.out.mono ?_
            rintro en w4 ⟨A4, n4, c4, rfl, hn4⟩
            have q4 := hn4.cell i hi
            have f4 := BL.free hn4.bl i
            have HN5 := Aside0.mk (HPUT.out true w4 HT.out hn4)
            have HBK := Aside0.mk (HN5.out.block bA bc bs HBB.out hbl)
            clear hn4
            go_wp2_with fail
            refine HBK.out.mono ?_
            rintro en w6 ⟨N6, b6, rfl, _, _, _, hn6⟩
            have hnw := hn6.not HF2.out i hi (some ⟨N6, 0, none⟩) 256 256
            rw [HP2.out] at hnw
            have HNW := Aside0.mk hnw
            clear hn6 hnw
            go_wp2_with fail
            refine HNW.out.mono ?_
            rintro en w7 ⟨rfl, hn7⟩
            have HN7 := Aside0.mk hn7
            clear hn7
            go_wp2_with fail
            go_roundg (12 - (i + 1))
            case measure => have := HJ.out; omega
            case rel => exact ⟨i + 1, _, rfl, ⟨by omega⟩, HN7⟩
          | false =>
            have hrd := HR.out.read i hi false hT
            rw [HP2.out] at hrd
            have HRD := Aside0.mk hrd
            have HT := Aside0.mk hT
            clear hrd hT hput
            go_wp2_with fail
            refine HRD.out.mono ?_
            rintro en w4 ⟨A4, n4, c4, rfl, hn4⟩
            have q4 := hn4.cell i hi
            have f4 := BL.free hn4.bl i
            have HN5 := Aside0.mk (HPUT.out false w4 HT.out hn4)
            have HBK := Aside0.mk (HN5.out.block bA bc bs HBB.out hbl)
            clear hn4
            go_wp2_with fail
            refine HBK.out.mono ?_
            rintro en w6 ⟨N6, b6, rfl, _, _, _, hn6⟩
            have hnw := hn6.not HF2.out i hi (some ⟨N6, 0, none⟩) 256 256
            rw [HP2.out] at hnw
            have HNW := Aside0.mk hnw
            clear hn6 hnw
            go_wp2_with fail
            refine HNW.out.mono ?_
            rintro en w7 ⟨rfl, hn7⟩
            have HN7 := Aside0.mk hn7
            clear hn7
            go_wp2_with fail
            go_roundg (12 - (i + 1))
            case measure => have := HJ.out; omega
            case rel => exact ⟨i + 1, _, rfl, ⟨by omega⟩, HN7⟩
        · have k1 : ¬ (i : Int) < 12 := by omega
          have e1 : i = 12 := by have := HJ.out; omega
          have hr12 : ∃ (v3 : PV) (dl3 : List Int) (Us : List Bool), v3.p = v.p ∧ v3.fl.length = v2.fl.length ∧ NL w wr v3 dl3 52 u Us v3.T 12 := ⟨v2, dl2, Us, HP2.out, rfl, { (e1 ▸ HR.out) with ns := HR.out.ns.le (by omega) }⟩
          have HR12 := Aside0.mk hr12
          have hfm : v2.fl.length ≤ 12 := by have := HN2.out.q.fl_len; have := HN2.out.np; omega
          obtain ⟨m, hm⟩ : ∃ x, v2.fl.length = x := ⟨_, rfl⟩
          rw [hm] at hfm hr12
          have HR12 := Aside0.mk hr12
          have HFM := Aside0.mk hfm
          clear hr12 hfm e1
          go_wp2_with fail
          go_loopg [14] m (fun kq v14 wr => ∃ (j : Nat) (v3 : PV) (dl3 : List Int) (Us : List Bool), v14 = .int .i64 j ∧ Aside0 (kq + j = m) ∧ Aside0 (v3.p = v.p ∧ v3.fl.length = kq) ∧ Aside0 (NL w wr v3 dl3 (52 + 2 * j) u Us v3.T 12))
          case atStart => 
            obtain ⟨v3, dl3, Us, hp3, hf3, hn3⟩ := HR12.out
            exact ⟨0, v3, dl3, Us, rfl, ⟨rfl⟩, ⟨hp3, hf3⟩, ⟨hn3⟩⟩
          case round =>
            obtain ⟨j, v3, dl3, Us, rfl, HJ, HPF, HR⟩ := hrel
            by_cases hj : j < m
            · have k1 : (j : Int) < (m : Int) := by omega
              have jb : (j : Int) < 12 := by have := HFM.out; omega
              have htk := HR.out.take (by have := HFM.out; omega) (m - j - 1) (by have := HPF.out.2; have := HJ.out; omega)
              rw [HPF.out.1] at htk
              have HTK := Aside0.mk htk
              clear htk
              go_wp2_with fail
              refine HTK.out.mono ?_
              rintro en w4 ⟨x, v4, rfl, hx, hux, hp4, hT4, hf4, hl4, hn4⟩
              have q4 := hn4.cell x hx
              rw [hux] at q4
              have f4 := BL.free hn4.bl x
              have x0 : ¬ (x : Int) < 0 := by omega
              have x1 : ¬ (x : Int) ≥ 12 := by omega
              have HN4 := Aside0.mk hn4
              have HX4 := Aside0.mk hx
              have HP4 := Aside0.mk hp4
              have HT4 := Aside0.mk hT4
              have HF4 := Aside0.mk hf4
              have HL4 := Aside0.mk hl4
              have HBK := Aside0.mk (hn4.block bA bc bs HBB.out hbl)
              clear hn4 hp4 hT4 hf4 hl4 hux
              go_wp2_with fail
              refine HBK.out.mono ?_
              rintro en w6 ⟨N6, b6, rfl, hB6, hl6, hN6, hn6⟩
              have hwr := hn6.write (by have := HJ.out; have := HFM.out; omega) x HX4.out HF4.out N6 b6 hB6 hl6 (fun e => by have := HN4.out.ns.q.lt N6 e; omega)
              rw [HP4.out] at hwr
              have HWR := Aside0.mk hwr
              clear hwr hB6 hl6 hN6 hn6
              go_wp2_with fail
              refine HWR.out.mono ?_
              rintro en w7 ⟨v7, rfl, hp7, hT7, hl7, hn7⟩
              have f7 := BL.free hn7.bl x
              have q7 := hn7.cell x HX4.out
              have hT3 : v3.T.length = 12 := by rw [HR.out.ns.q.ps.sp.lt, HR.out.ns.np]
              have hmk := hn7.mark hT3 x HX4.out (hT7.trans HT4.out)
              have HP7 := Aside0.mk hp7
              have HL7 := Aside0.mk (hl7 ▸ HL4.out)
              have HMK := Aside0.mk hmk
              clear hn7 hp7 hT7 hl7 hmk hT3
              go_wp2_with fail
              go_roundg (m - (j + 1))
              case measure => have := HJ.out; omega
              case rel => exact ⟨j + 1, v7, dl3, _, rfl, ⟨by have := HJ.out; omega⟩, ⟨HP7.out, by rw [HL7.out]; have := HJ.out; omega⟩, HMK⟩
            · have k1 : ¬ (j : Int) < (m : Int) := by omega
              have hz := HPF.out.2
              have hfl0 : v3.fl = [] := List.eq_nil_of_length_eq_zero (by have := HJ.out; omega)
              have htk := pager_Take.full wr v3 HR.out.ns.q.ps hfl0
              rw [HPF.out.1] at htk
              have HTK := Aside0.mk htk
              clear htk hfl0 hz
              go_wp2_with fail
              refine HTK.out.mono ?_
              rintro en w4 ⟨rfl, rfl⟩
              go_wp2_with fail
              refine (alive_calls _).mono ?_
              rintro en w5 ⟨rfl, hb5⟩
              have HB5 := Aside0.mk (below_step HR.out.ns.bl hb5)
              clear hb5
              go_wp2_with fail
              go_ret
              exact ⟨rfl, HB5.out⟩
  · have d1 : decide ((bs.length : Int) > 300) = true := decide_eq_true (by omega)
    go_enter Try.func4, Try.ntmps4
    go_wp2_with fail
    refine (made_calls _).mono ?_
    rintro en w1 ⟨v, rfl, hps, hv, hO, hkb⟩
    have HO := Aside0.mk hO
    clear hps hv hO hkb
    go_wp2_with fail
    go_ret
    exact ⟨rfl, HO.out⟩
section
variable {H : Type} {enc : TypeId × Value → H} {W : World} {base : Nat} {spare : Nat → Bool} {held : Bool} {m : Nat} {x : DataW H × List MemPlace}
theorem pick_list {α : Type} {p : Nat → α → Prop} (n : Nat) (h : ∀ i, i < n → ∃ v, p i v) : ∃ l : List α, l.length = n ∧ ∀ i v, l[i]? = some v → p i v := by
  induction n with
  | zero => exact ⟨[], rfl, by simp⟩
  | succ n ih =>
    obtain ⟨l, hl, hp⟩ := ih (fun i hi => h i (by omega))
    obtain ⟨v, hv⟩ := h n (by omega)
    refine ⟨l ++ [v], by simp [hl], fun i u hu => ?_⟩
    by_cases hi : i < n
    · rw [List.getElem?_append_left (by omega)] at hu
      exact hp i u hu
    · rw [List.getElem?_append_right (by omega)] at hu
      have hn : i - l.length = 0 := by
        by_cases h0 : i - l.length = 0
        · exact h0
        · rw [List.getElem?_eq_none (by simp; omega)] at hu; cases hu
      rw [hn] at hu
      have : i = n := by omega
      subst this
      cases hu
      exact hv
theorem addr_add (B o n : Nat) : Addr.add ⟨B, o, none⟩ n = ⟨B, o + n, none⟩ := by
  unfold Addr.add
  split
  · rename_i h; rw [h, Nat.add_zero]
  · rfl
/-- A row that came: its elements, one by one, each as p says of its cells. -/
theorem open_row {α : Type} {t e : TypeId} {z : Nat} (hu : Try.prog.underlying t = some (.slice e)) (hc : Try.prog.cellsOf e = z) (hz : 0 < z) (p : α → List Value → Prop)
    (he : ∀ n cs y, DataW.trod enc Try.prog W base spare held n e cs = some y → ∃ v, p v cs) {v : Value} (h : DataW.trod enc Try.prog W base spare held m t [v] = some x) :
    ∃ (l : List α) (A : Option Addr) (c : Nat), v = .slice A l.length c ∧ (l = [] ∨ ∃ B o, A = some ⟨B, o, none⟩ ∧ B < W.heap.size ∧ ∀ (j : Nat) (hj : j < l.length), ∃ cs : List Value, cs.length = z ∧ p l[j] cs ∧ W.rangeAt B (o + j * z) cs) := by
  rcases DataW.trod_slice hu h with ⟨hv, _⟩ | ⟨a, len, cap, elems, rest, m', hm, hv, _, hb, hl, hcm, hlen, hel, _, _⟩
  · cases hv
    exact ⟨[], none, 0, rfl, Or.inl rfl⟩
  · cases hv
    have each : ∀ i, i < len → ∃ v, ∃ c, c.length = z ∧ p v c ∧ ∀ j, j < z → W.cell? ((a.add (i * z)).add j) = c[j]? := by
      intro i hi
      have h1 := hel i hi
      rw [List.getElem?_eq_getElem (by omega)] at h1
      obtain ⟨c, hc1, hc2⟩ := Option.bind_eq_some_iff.1 h1
      obtain ⟨v, hv⟩ := he _ _ _ hc2
      obtain ⟨_, hcl, hcc⟩ := World.cells?_some hc1
      refine ⟨v, c, by rw [hcl, hc], hv, fun j hj => ?_⟩
      have := hcc j (by rw [hc]; exact hj)
      rw [hc] at this
      exact this
    obtain ⟨l, hll, hp⟩ := pick_list len each
    refine ⟨l, some a, cap, by rw [hll], ?_⟩
    by_cases h0 : len = 0
    · exact Or.inl (List.eq_nil_of_length_eq_zero (by omega))
    · right
      obtain ⟨B, o, s⟩ := a
      have hat : ∀ (j : Nat) (hj : j < l.length), ∃ c : List Value, c.length = z ∧ p l[j] c ∧ ∀ q, q < z → W.cell? ((Addr.add ⟨B, o, s⟩ (j * z)).add q) = c[q]? := fun j hj => hp j _ (List.getElem?_eq_getElem hj)
      obtain ⟨c0, hc0, _, hq0⟩ := hat 0 (by omega)
      have h00 := hq0 0 hz
      rw [List.getElem?_eq_getElem (by omega)] at h00
      have hs : s = none := by
        cases s with
        | none => rfl
        | some s =>
          unfold World.cell? at h00
          split at h00
          · exact absurd h00 (by simp [Addr.add])
          · cases h00
      subst hs
      refine ⟨B, o, rfl, by have := World.block_lt_of_cell? W _ h00; simpa [Addr.add] using this, fun j hj => ?_⟩
      obtain ⟨c, hcl, hpc, hq⟩ := hat j hj
      refine ⟨c, hcl, hpc, fun q v hv => ?_⟩
      have hqz : q < z := by rw [← hcl]; exact (List.getElem?_eq_some_iff.1 hv).1
      have hh := (hq q hqz).trans hv
      rwa [addr_add, addr_add] at hh
theorem open_bytes {v : Value} (h : DataW.trod enc Try.prog W base spare held m 38 [v] = some x) :
    ∃ (l : List UInt8) (A : Option Addr) (c : Nat), v = .slice A l.length c ∧ (l = [] ∨ ∃ B o, A = some ⟨B, o, none⟩ ∧ SB W B o l ∧ B < W.heap.size) := by
  obtain ⟨l, A, c, rfl, hl⟩ := open_row (z := 1) Try.underlying38 (by kernel_rfl) (by decide) (fun (b : UInt8) (cs : List Value) => cs = [.int .u8 (b.toNat : Int)]) (fun n cs y hy => by
    obtain ⟨k, rfl, _, hw⟩ := DataW.trod_int Try.underlying5 hy
    have hw' : 0 ≤ k ∧ k ≤ 255 := by
      simp only [Lit.wf, Bool.and_eq_true, decide_eq_true_eq] at hw
      exact hw
    refine ⟨UInt8.ofNat k.toNat, ?_⟩
    have : (UInt8.ofNat k.toNat).toNat = k.toNat := by
      rw [UInt8.toNat_ofNat']
      omega
    rw [this]
    congr 2
    omega) h
  refine ⟨l, A, c, rfl, hl.imp id ?_⟩
  rintro ⟨B, o, rfl, hB, hj⟩
  refine ⟨B, o, rfl, fun j v hv => ?_, hB⟩
  have hjl : j < l.length := by rw [← cl_len]; exact (List.getElem?_eq_some_iff.1 hv).1
  obtain ⟨cs, _, rfl, hr⟩ := hj j hjl
  have := hr 0 _ rfl
  rw [Nat.mul_one, Nat.add_zero] at this
  rw [this, ← hv]
  unfold cl
  rw [List.getElem?_map, List.getElem?_eq_getElem hjl]; rfl
theorem open_ints {v : Value} (h : DataW.trod enc Try.prog W base spare held m 57 [v] = some x) :
    ∃ (l : List Int) (A : Option Addr) (c : Nat), v = .slice A l.length c ∧ (l = [] ∨ ∃ B o, A = some ⟨B, o, none⟩ ∧ IL W B o l ∧ B < W.heap.size) := by
  obtain ⟨l, A, c, rfl, hl⟩ := open_row (z := 1) Try.underlying57 (by kernel_rfl) (by decide) (fun (b : Int) (cs : List Value) => cs = [.int .i64 b]) (fun n cs y hy => by
    obtain ⟨k, rfl, _, hw⟩ := DataW.trod_int Try.underlying3 hy
    exact ⟨k, rfl⟩) h
  refine ⟨l, A, c, rfl, hl.imp id ?_⟩
  rintro ⟨B, o, rfl, hB, hj⟩
  refine ⟨B, o, rfl, fun j v hv => ?_, hB⟩
  have hjl : j < l.length := by
    have := (List.getElem?_eq_some_iff.1 hv).1
    rwa [List.length_map] at this
  obtain ⟨cs, _, rfl, hr⟩ := hj j hjl
  have := hr 0 _ rfl
  rw [Nat.mul_one, Nat.add_zero] at this
  rw [this, ← hv, List.getElem?_map, List.getElem?_eq_getElem hjl]; rfl
theorem open_bools {v : Value} (h : DataW.trod enc Try.prog W base spare held m 45 [v] = some x) :
    ∃ (l : List Bool) (A : Option Addr) (c : Nat), v = .slice A l.length c ∧ (l = [] ∨ ∃ B o, A = some ⟨B, o, none⟩ ∧ W.rangeAt B o (l.map Value.bool) ∧ B < W.heap.size) := by
  obtain ⟨l, A, c, rfl, hl⟩ := open_row (z := 1) Try.underlying45 (by kernel_rfl) (by decide) (fun (b : Bool) (cs : List Value) => cs = [.bool b]) (fun n cs y hy => by
    obtain ⟨k, rfl, _⟩ := DataW.trod_bool Try.underlying4 hy
    exact ⟨k, rfl⟩) h
  refine ⟨l, A, c, rfl, hl.imp id ?_⟩
  rintro ⟨B, o, rfl, hB, hj⟩
  refine ⟨B, o, rfl, fun j v hv => ?_, hB⟩
  have hjl : j < l.length := by
    have := (List.getElem?_eq_some_iff.1 hv).1
    rwa [List.length_map] at this
  obtain ⟨cs, _, rfl, hr⟩ := hj j hjl
  have := hr 0 _ rfl
  rw [Nat.mul_one, Nat.add_zero] at this
  rw [this, ← hv, List.getElem?_map, List.getElem?_eq_getElem hjl]; rfl
set_option maxRecDepth 100000 in
theorem open_act {n : Nat} {cs : List Value} {y : DataW H × List MemPlace} (h : DataW.trod enc Try.prog W base spare held n 59 cs = some y) :
    ∃ a : ActV, cs = a.cells.toList ∧ ActOK W a := by
  obtain ⟨xs, m, hm, _, hl, hlen, hf⟩ := DataW.trod_struct Try.underlying59 h
  have hl2 : cs.length = 7 := hl.trans (by kernel_rfl)
  obtain ⟨u0, u1, u2, u3, u4, u5, u6, rfl⟩ : ∃ u0 u1 u2 u3 u4 u5 u6, cs = [u0, u1, u2, u3, u4, u5, u6] := by
    match cs, hl2 with
    | [u0, u1, u2, u3, u4, u5, u6], _ => exact ⟨u0, u1, u2, u3, u4, u5, u6, rfl⟩
  have hx : xs.length = 7 := hlen
  obtain ⟨y0, y1, y2, y3, y4, y5, y6, rfl⟩ : ∃ y0 y1 y2 y3 y4 y5 y6, xs = [y0, y1, y2, y3, y4, y5, y6] := by
    match xs, hx with
    | [y0, y1, y2, y3, y4, y5, y6], _ => exact ⟨y0, y1, y2, y3, y4, y5, y6, rfl⟩
  have c3 : Try.prog.cellsOf 3 = 1 := by kernel_rfl
  have cB : Try.prog.cellsOf 38 = 1 := by kernel_rfl
  have c4 : Try.prog.cellsOf 4 = 1 := by kernel_rfl
  have cI : Try.prog.cellsOf 57 = 1 := by kernel_rfl
  have cK : Try.prog.cellsOf 45 = 1 := by kernel_rfl
  have h0 : DataW.trod enc Try.prog W base spare held m 3 (List.take (Try.prog.cellsOf 3) [u0, u1, u2, u3, u4, u5, u6]) = some y0 := hf 0 _ rfl
  have h1 : DataW.trod enc Try.prog W base spare held m 3 (List.take (Try.prog.cellsOf 3) [u1, u2, u3, u4, u5, u6]) = some y1 := hf 1 _ rfl
  have h2 : DataW.trod enc Try.prog W base spare held m 3 (List.take (Try.prog.cellsOf 3) [u2, u3, u4, u5, u6]) = some y2 := hf 2 _ rfl
  have h3 : DataW.trod enc Try.prog W base spare held m 38 (List.take (Try.prog.cellsOf 38) [u3, u4, u5, u6]) = some y3 := hf 3 _ rfl
  have h4 : DataW.trod enc Try.prog W base spare held m 4 (List.take (Try.prog.cellsOf 4) [u4, u5, u6]) = some y4 := hf 4 _ rfl
  have h5 : DataW.trod enc Try.prog W base spare held m 57 (List.take (Try.prog.cellsOf 57) [u5, u6]) = some y5 := hf 5 _ rfl
  have h6 : DataW.trod enc Try.prog W base spare held m 45 (List.take (Try.prog.cellsOf 45) [u6]) = some y6 := hf 6 _ rfl
  rw [c3] at h0 h1 h2
  rw [cB] at h3
  rw [c4] at h4
  rw [cI] at h5
  rw [cK] at h6
  obtain ⟨v0, e0, _, _⟩ := DataW.trod_int Try.underlying3 h0
  obtain ⟨v1, e1, _, w1⟩ := DataW.trod_int Try.underlying3 h1
  obtain ⟨v2, e2, _, _⟩ := DataW.trod_int Try.underlying3 h2
  obtain ⟨v3, A3, k3, rfl, g3⟩ := open_bytes h3
  obtain ⟨v4, e4, _⟩ := DataW.trod_bool Try.underlying4 h4
  obtain ⟨v5, A5, k5, rfl, g5⟩ := open_ints h5
  obtain ⟨v6, A6, k6, rfl, g6⟩ := open_bools h6
  have e0' : [u0] = [Value.int .i64 v0] := e0
  have e1' : [u1] = [Value.int .i64 v1] := e1
  have e2' : [u2] = [Value.int .i64 v2] := e2
  have e4' : [u4] = [Value.bool v4] := e4
  cases e0'
  cases e1'
  cases e2'
  cases e4'
  exact ⟨⟨v0, v1, v2, A3, v3, k3, v4, A5, v5, k5, A6, v6.length, k6⟩, rfl, ⟨w1, g3, g5⟩⟩
theorem open_acts {v : Value} (h : DataW.trod enc Try.prog W base spare held m 54 [v] = some x) :
    ∃ (l : List ActV) (A : Option Addr) (c : Nat), v = .slice A l.length c ∧ ScOK W A l := by
  obtain ⟨l, A, c, rfl, hl⟩ := open_row (z := 7) Try.underlying54 (by kernel_rfl) (by decide) (fun (a : ActV) (cs : List Value) => cs = a.cells.toList ∧ ActOK W a) (fun n cs y hy => open_act hy) h
  refine ⟨l, A, c, rfl, ?_⟩
  rcases hl with rfl | ⟨B, o, rfl, hB, hj⟩
  · exact ⟨Or.inl rfl, fun a ha => by cases ha⟩
  · refine ⟨Or.inr ⟨B, o, rfl, hB, fun j hjl => ?_⟩, fun a ha => ?_⟩
    · obtain ⟨cs, _, ⟨rfl, _⟩, hr⟩ := hj j hjl
      exact hr
    · obtain ⟨j, hjl, rfl⟩ := List.getElem_of_mem ha
      obtain ⟨cs, _, ⟨_, hok⟩, _⟩ := hj j hjl
      exact hok
end
theorem rev_bit (x : BitVec 32) (i : Nat) (h : i < 32) : x.reverse.getLsbD i = x.getLsbD (31 - i) := by
  rw [BitVec.getLsbD_reverse, BitVec.getMsbD]
  simp [h]
theorem rev_xor (x y : BitVec 32) : (x ^^^ y).reverse = x.reverse ^^^ y.reverse := by
  apply BitVec.eq_of_getLsbD_eq
  intro i hi
  rw [rev_bit _ _ hi, BitVec.getLsbD_xor, BitVec.getLsbD_xor, rev_bit _ _ hi, rev_bit _ _ hi]
theorem rev_shl (x : BitVec 32) : (x <<< 1).reverse = x.reverse >>> 1 := by
  apply BitVec.eq_of_getLsbD_eq
  intro i hi
  rw [rev_bit _ _ hi, BitVec.getLsbD_shiftLeft, BitVec.getLsbD_ushiftRight]
  by_cases h : i = 31
  · subst h
    simp [BitVec.getLsbD_reverse, BitVec.getMsbD]
  · rw [rev_bit _ _ (by omega)]
    have h1 : 31 - i < 32 := by omega
    have h2 : ¬ 31 - i < 1 := by omega
    simp only [h1, h2, decide_true, decide_false, Bool.not_false, Bool.true_and]
    congr 1
    omega
def stepI (s : BitVec 32) : BitVec 32 := if s.getLsbD 0 = true then (s >>> 1) ^^^ 0xEDB88320#32 else s >>> 1
def stepR (x c : BitVec 32) : BitVec 32 := if (x.getLsbD 31 != c.getLsbD 0) = true then (x <<< 1) ^^^ 0x04C11DB7#32 else x <<< 1
theorem step_rel (s x c : BitVec 32) (h : s = x.reverse ^^^ c) : stepI s = (stepR x c).reverse ^^^ (c >>> 1) := by
  have hb : s.getLsbD 0 = (x.getLsbD 31 != c.getLsbD 0) := by
    rw [h, BitVec.getLsbD_xor, rev_bit _ _ (by omega)]
  have hs : s >>> 1 = (x.reverse >>> 1) ^^^ (c >>> 1) := by rw [h, BitVec.ushiftRight_xor_distrib]
  have hp : (0x04C11DB7#32).reverse = 0xEDB88320#32 := by decide +kernel
  unfold stepI stepR
  rw [hb]
  by_cases hc : (x.getLsbD 31 != c.getLsbD 0) = true
  · rw [if_pos hc, if_pos hc, hs, rev_xor, rev_shl, hp, BitVec.xor_assoc, BitVec.xor_assoc, BitVec.xor_comm (c >>> 1)]
  · rw [if_neg hc, if_neg hc, hs, rev_shl]
def stepsI : Nat → BitVec 32 → BitVec 32
  | 0, s => s
  | n + 1, s => stepI (stepsI n s)
def stepsR (c : BitVec 32) : Nat → BitVec 32 → BitVec 32
  | 0, x => x
  | n + 1, x => stepR (stepsR c n x) (c >>> n)
theorem steps_rel (x c : BitVec 32) (n : Nat) : stepsI n (x.reverse ^^^ c) = (stepsR c n x).reverse ^^^ (c >>> n) := by
  induction n with
  | zero => simp [stepsI, stepsR]
  | succ n ih =>
    rw [stepsI, stepsR, step_rel _ _ _ ih, ← BitVec.shiftRight_add]
theorem byte_rel (x c : BitVec 32) (hc : c.toNat < 256) : stepsI 8 (x.reverse ^^^ c) = (stepsR c 8 x).reverse := by
  rw [steps_rel]
  have : c >>> 8 = 0#32 := by
    apply BitVec.eq_of_toNat_eq
    rw [BitVec.toNat_ushiftRight, Nat.shiftRight_eq_div_pow]
    simp
    omega
  rw [this, BitVec.xor_zero]

/-- A number of 32 bits as it stands in a cell. -/
def B32 (x : BitVec 32) : Int := (x.toNat : Int)
theorem B32_lt (x : BitVec 32) : 0 ≤ B32 x ∧ B32 x < 4294967296 := ⟨by unfold B32; omega, by have := x.isLt; unfold B32; omega⟩
theorem B32_xor (x y : BitVec 32) : Go.bits .xor .u32 (B32 x) (B32 y) = B32 (x ^^^ y) := by
  unfold B32
  show IntKind.u32.wrap (((BitVec.ofInt 32 (x.toNat : Int)) ^^^ (BitVec.ofInt 32 (y.toNat : Int))).toNat : Int) = _
  rw [BitVec.ofInt_natCast, BitVec.ofInt_natCast, BitVec.ofNat_toNat, BitVec.ofNat_toNat, BitVec.setWidth_eq, BitVec.setWidth_eq, IntKind.wrap_u32]
  have := (x ^^^ y).isLt
  omega
theorem B32_one (x : BitVec 32) : (Go.bits .and .u32 (B32 x) 1 != 0) = x.getLsbD 0 := by
  have h : Go.bits .and .u32 (B32 x) 1 = ((x &&& 1#32).toNat : Int) := by
    unfold B32
    show IntKind.u32.wrap (((BitVec.ofInt 32 (x.toNat : Int)) &&& 1#32).toNat : Int) = _
    rw [BitVec.ofInt_natCast, BitVec.ofNat_toNat, BitVec.setWidth_eq, IntKind.wrap_u32]
    have := (x &&& 1#32).isLt
    omega
  rw [h, BitVec.toNat_and, show (1#32).toNat = 1 from rfl, Nat.and_one_is_mod]
  unfold BitVec.getLsbD
  rw [Nat.testBit_zero]
  rcases Nat.mod_two_eq_zero_or_one x.toNat with h | h <;> rw [h] <;> rfl
theorem B32_half (x : BitVec 32) : B32 x / (2 : Int) = B32 (x >>> 1) := by
  unfold B32
  rw [BitVec.toNat_ushiftRight, Nat.shiftRight_eq_div_pow]
  omega
theorem B32_twice (x : BitVec 32) : IntKind.u32.wrap (B32 x * (2 : Int)) = B32 (x <<< 1) := by
  unfold B32
  rw [BitVec.toNat_shiftLeft, Nat.shiftLeft_eq, IntKind.wrap_u32]
  omega
theorem crcBit_B (x : BitVec 32) : crcBit (B32 x) = B32 (stepI x) := by
  unfold crcBit stepI
  rw [B32_one, B32_half]
  by_cases h : x.getLsbD 0 = true
  · rw [if_pos h, if_pos h, show (3988292384 : Int) = B32 0xEDB88320#32 from rfl, B32_xor]
  · rw [if_neg h, if_neg h]
theorem crcBits_B (n : Nat) (x : BitVec 32) : crcBits n (B32 x) = B32 (stepsI n x) := by
  induction n with
  | zero => rfl
  | succ n ih => rw [crcBits, stepsI, ih, crcBit_B]
def cB (c : UInt8) : BitVec 32 := BitVec.ofNat 32 c.toNat
theorem cB_nat (c : UInt8) : (cB c).toNat = c.toNat := by
  unfold cB
  rw [BitVec.toNat_ofNat]
  have := c.toNat_lt
  omega
theorem crcByte_B (c : UInt8) (x : BitVec 32) : crcByte (B32 x) c = B32 (stepsI 8 (x ^^^ cB c)) := by
  unfold crcByte
  rw [show ((c.toNat : Int) % 4294967296) = B32 (cB c) from by unfold B32; rw [cB_nat]; have := c.toNat_lt; omega, B32_xor, crcBits_B]
/-- The reference's sum, bit by bit from the top. -/
def refFold (l : List UInt8) (x : BitVec 32) : BitVec 32 := l.foldl (fun x c => stepsR (cB c) 8 x) x
theorem crc_ref (l : List UInt8) (x : BitVec 32) : l.foldl crcByte (B32 x.reverse) = B32 (refFold l x).reverse := by
  induction l generalizing x with
  | nil => rfl
  | cons c r ih =>
    rw [List.foldl_cons, crcByte_B, byte_rel x (cB c) (by rw [cB_nat]; have := c.toNat_lt; omega), ih]
    rfl
theorem crcL_ref (l : List UInt8) : crcL l = Go.bits .xor .u32 (B32 (refFold l (0xFFFFFFFF#32)).reverse) 4294967295 := by
  have h0 : crc0 = B32 (0xFFFFFFFF#32).reverse := by
    have : (0xFFFFFFFF#32).reverse = 0xFFFFFFFF#32 := by decide +kernel
    rw [this]
    decide +kernel
  unfold crcL
  rw [h0, crc_ref, show IntKind.u32.max = B32 0xFFFFFFFF#32 from rfl, show (4294967295 : Int) = B32 0xFFFFFFFF#32 from rfl, B32_xor, B32_xor, BitVec.xor_comm]
/-- Turned, round by round. -/
theorem turn_step (x : BitVec 32) (j : Nat) (hj : j < 32) : 2 * (x.reverse.toNat / 2 ^ (32 - j)) + x.toNat / 2 ^ j % 2 = x.reverse.toNat / 2 ^ (32 - (j + 1)) := by
  have hb : x.toNat / 2 ^ j % 2 = x.reverse.toNat / 2 ^ (31 - j) % 2 := by
    have h := rev_bit x (31 - j) (by omega)
    rw [show 31 - (31 - j) = j from by omega] at h
    unfold BitVec.getLsbD at h
    rw [Nat.testBit_eq_decide_div_mod_eq, Nat.testBit_eq_decide_div_mod_eq] at h
    have := decide_eq_decide.1 h
    omega
  rw [hb, show 32 - j = (31 - j) + 1 from by omega, Nat.pow_succ, ← Nat.div_div_eq_div_mul, show 32 - (j + 1) = 31 - j from by omega]
  omega
theorem B32_top (y : BitVec 32) : y.getLsbD 31 = decide ((2147483648 : Int) ≤ B32 y) := by
  unfold BitVec.getLsbD B32
  rw [Nat.testBit_eq_decide_div_mod_eq]
  have := y.isLt
  rw [decide_eq_decide]
  omega
theorem cB_bit (c : UInt8) (k : Nat) : (cB c >>> k).getLsbD 0 = (((c.toNat / 2 ^ k : Nat) : Int).tmod (2 : Int) == 1) := by
  unfold BitVec.getLsbD
  rw [BitVec.toNat_ushiftRight, cB_nat, Nat.shiftRight_eq_div_pow, Nat.testBit_eq_decide_div_mod_eq]
  rw [show ((c.toNat / 2 ^ k : Nat) : Int).tmod (2 : Int) = ((c.toNat / 2 ^ k % 2 : Nat) : Int) from rfl, Nat.pow_zero, Nat.div_one]
  rcases Nat.mod_two_eq_zero_or_one (c.toNat / 2 ^ k) with h | h <;> rw [h] <;> rfl
theorem ref_step (x : BitVec 32) (c : UInt8) (k : Nat) (y : BitVec 32) (n m : Int) (hy : stepsR (cB c) k x = y) (hn : B32 y = n) (hm : m = ((c.toNat / 2 ^ k : Nat) : Int)) :
    B32 (stepsR (cB c) (k + 1) x) = if (decide ((2147483648 : Int) ≤ n) != (m.tmod 2 == 1)) = true then Go.bits .xor .u32 (n * 2 % 4294967296) 79764919 else n * 2 % 4294967296 := by
  have h2 : n * (2 : Int) % (4294967296 : Int) = B32 (y <<< 1) := by rw [← hn, ← B32_twice, IntKind.wrap_u32]
  rw [stepsR, hy, stepR, B32_top, hn, cB_bit, ← hm, h2]
  by_cases h : (decide ((2147483648 : Int) ≤ n) != (m.tmod 2 == 1)) = true
  · rw [if_pos h, if_pos h, show (79764919 : Int) = B32 0x04C11DB7#32 from rfl, B32_xor]
  · rw [if_neg h, if_neg h]
set_option maxHeartbeats 2000000 in
set_option maxRecDepth 100000 in
theorem ref_turned.calls (x : BitVec 32) (w : World) :
    Calls Try.prog 99 #[.int .u32 (B32 x)] w fun e w' => e = .returned (.int .u32 (B32 x.reverse)) ∧ w = w' := by
  obtain ⟨n, hn⟩ : ∃ n, B32 x = n := ⟨_, rfl⟩
  rw [hn]
  have HN := Aside0.mk hn
  clear hn
  go_enter Try.func99, Try.ntmps99
  go_wp2
  go_loopg [0, 3, 4] 32 (fun kq v0 v3 v4 wr => ∃ (j : Nat) (a y : Int), v4 = .int .i64 j ∧ v0 = .int .u32 a ∧ v3 = .int .u32 y ∧ Aside0 (kq + j = 32) ∧ Aside0 (a = ((x.toNat / 2 ^ j : Nat) : Int)) ∧ Aside0 (y = ((x.reverse.toNat / 2 ^ (32 - j) : Nat) : Int)) ∧ w = wr)
  case atStart =>
    refine ⟨0, n, 0, rfl, rfl, rfl, ⟨by omega⟩, ⟨?_⟩, ⟨?_⟩, rfl⟩
    · rw [← HN.out]; unfold B32; simp
    · have := x.reverse.isLt
      rw [Nat.div_eq_of_lt (by simpa using this)]; rfl
  case round =>
    obtain ⟨j, a, y, rfl, rfl, rfl, HJ, HA, HY, rfl⟩ := hrel
    by_cases hj : j < 32
    · have k1 : (j : Int) < 32 := by omega
      go_wp2
      go_roundg (32 - (j + 1))
      case measure => have := HJ.out; omega
      case rel =>
        obtain ⟨A, hA⟩ : ∃ A : Nat, x.toNat / 2 ^ j = A := ⟨_, rfl⟩
        obtain ⟨Y, hY⟩ : ∃ Y : Nat, x.reverse.toNat / 2 ^ (32 - j) = Y := ⟨_, rfl⟩
        have ha := HA.out
        have hy := HY.out
        have hs := turn_step x j hj
        rw [hA] at ha hs
        rw [hY] at hy hs
        have hAl : A < 4294967296 := by
          have := x.isLt
          rw [← hA]
          exact Nat.lt_of_le_of_lt (Nat.div_le_self _ _) this
        have hYl : x.reverse.toNat / 2 ^ (32 - (j + 1)) < 4294967296 := Nat.lt_of_le_of_lt (Nat.div_le_self _ _) x.reverse.isLt
        have t1 : a.tdiv 2 = ((A / 2 : Nat) : Int) := by rw [ha]; rfl
        have t2 : a.tmod 2 = ((A % 2 : Nat) : Int) := by rw [ha]; rfl
        have hA2 : x.toNat / 2 ^ (j + 1) = A / 2 := by rw [Nat.pow_succ, ← Nat.div_div_eq_div_mul, hA]
        refine ⟨j + 1, _, _, rfl, rfl, rfl, ⟨by omega⟩, ⟨?_⟩, ⟨?_⟩, rfl⟩
        · rw [t1, hA2]
          omega
        · rw [t2, hy, ← hs]
          omega
    · have k1 : ¬ (j : Int) < 32 := by omega
      have e1 : j = 32 := by have := HJ.out; omega
      have HE := Aside0.mk e1
      clear e1
      go_wp2
      go_ret
      refine ⟨?_, rfl⟩
      rw [HY.out, HE.out]
      simp [B32]
set_option maxHeartbeats 2000000 in
set_option maxRecDepth 100000 in
theorem ref_More.calls (B o cp : Nat) (l : List UInt8) (w : World) (h : SB w B o l) (hl : l.length ≤ 1000000) :
    Calls Try.prog 84 #[.int .u32 0, .slice (some ⟨B, o, none⟩) l.length cp] w fun e w' => e = .returned (.int .u32 (crcL l)) ∧ w = w' := by
  have H := Aside0.mk h
  have ht := fun x => ref_turned.calls x w
  have hx0 : Go.bits .xor .u32 0 4294967295 = B32 0xFFFFFFFF#32 := by decide +kernel
  have HT := Aside0.mk ht
  have HX0 := Aside0.mk hx0
  have hrev : (0xFFFFFFFF#32).reverse = 0xFFFFFFFF#32 := by decide +kernel
  have HREV := Aside0.mk hrev
  clear h ht hx0 hrev
  go_enter Try.func84, Try.ntmps84
  go_wp2_with fail
  rw [HX0.out]
  refine (HT.out _).mono ?_
  rintro en w1 ⟨rfl, rfl⟩
  rw [HREV.out]
  go_wp2_with fail
  go_loopg [5, 6] l.length (fun kq v5 v6 wr => ∃ j : Nat, v6 = .int .i64 j ∧ v5 = .int .u32 (B32 (refFold (l.take j) 0xFFFFFFFF#32)) ∧ Aside0 (kq + j = l.length) ∧ w = wr)
  case atStart => exact ⟨0, rfl, rfl, ⟨by omega⟩, rfl⟩
  case round =>
    obtain ⟨j, rfl, rfl, HJ, rfl⟩ := hrel
    obtain ⟨x, hx⟩ : ∃ x, refFold (l.take j) 0xFFFFFFFF#32 = x := ⟨_, rfl⟩
    rw [hx]
    have HX := Aside0.mk hx
    clear hx
    by_cases hj : j < l.length
    · have hc := H.out.at j hj
      obtain ⟨c, hcc⟩ : ∃ c, l[j] = c := ⟨_, rfl⟩
      rw [hcc] at hc
      have k1 : (j : Int) < (l.length : Int) := by omega
      have HC := Aside0.mk hcc
      clear hcc
      obtain ⟨n, hn⟩ : ∃ n, B32 x = n := ⟨_, rfl⟩
      have HN := Aside0.mk hn
      rw [hn]
      clear hn
      go_wp2
      go_loopg [5, 7, 8] 8 (fun kq v5 v7 v8 wr => ∃ (k : Nat) (m : Int), v8 = .int .i64 k ∧ v7 = .int .u8 m ∧ v5 = .int .u32 (B32 (stepsR (cB c) k x)) ∧ Aside0 (m = ((c.toNat / 2 ^ k : Nat) : Int)) ∧ Aside0 (kq + k = 8) ∧ w = wr)
      case atStart => exact ⟨0, _, rfl, rfl, by rw [stepsR, HN.out], ⟨by simp⟩, ⟨rfl⟩, rfl⟩
      case round =>
        obtain ⟨k, m, rfl, rfl, rfl, HM, HK, rfl⟩ := hrel
        obtain ⟨y, hy⟩ : ∃ y, stepsR (cB c) k x = y := ⟨_, rfl⟩
        rw [hy]
        have HY := Aside0.mk hy
        obtain ⟨n, hn⟩ : ∃ n, B32 y = n := ⟨_, rfl⟩
        have HN := Aside0.mk hn
        rw [hn]
        clear hn hy
        by_cases hk : k < 8
        · have k2 : (k : Int) < 8 := by omega
          have hst := ref_step x c k y n m HY.out HN.out HM.out
          obtain ⟨p, hp⟩ : ∃ p : Bool, decide ((2147483648 : Int) ≤ n) = p := ⟨_, rfl⟩
          obtain ⟨q, hq⟩ : ∃ q : Bool, (m.tmod 2 == 1) = q := ⟨_, rfl⟩
          rw [hp, hq] at hst
          have HST := Aside0.mk hst
          clear hst
          have hmd : m.tdiv 2 % 256 = ((c.toNat / 2 ^ (k + 1) : Nat) : Int) := by
            rw [HM.out, Nat.pow_succ, ← Nat.div_div_eq_div_mul]
            have h1 : ((c.toNat / 2 ^ k : Nat) : Int).tdiv 2 = ((c.toNat / 2 ^ k / 2 : Nat) : Int) := rfl
            rw [h1]
            have h2 := Nat.div_le_self c.toNat (2 ^ k)
            have h3 := c.toNat_lt
            generalize c.toNat / 2 ^ k = A at h2 ⊢
            generalize c.toNat = C at h2 h3
            omega
          have HMD := Aside0.mk hmd
          clear hmd
          cases p <;> cases q <;> go_wp2
          all_goals
            go_roundg (8 - (k + 1))
            case measure => have := HK.out; omega
            case rel => exact ⟨k + 1, _, rfl, rfl, by rw [HST.out]; rfl, HMD, ⟨by omega⟩, rfl⟩
        · have k2 : ¬ (k : Int) < 8 := by omega
          have e1 : k = 8 := by have := HK.out; omega
          have HE := Aside0.mk e1
          clear e1
          go_wp2
          go_roundg (l.length - (j + 1))
          case measure => have := HJ.out; omega
          case rel =>
            refine ⟨j + 1, rfl, ?_, ⟨by omega⟩, rfl⟩
            rw [← HN.out, ← HY.out, HE.out, ← HX.out, List.take_add_one, List.getElem?_eq_getElem hj, HC.out]
            unfold refFold
            rw [List.foldl_append]
            rfl
    · have k1 : ¬ (j : Int) < (l.length : Int) := by omega
      have e1 : j = l.length := by have := HJ.out; omega
      have hfin : crcL l = Go.bits .xor .u32 (B32 x.reverse) 4294967295 := by rw [crcL_ref, ← HX.out, e1, List.take_length]
      have HFIN := Aside0.mk hfin
      clear e1 hfin
      go_wp2_with fail
      refine (HT.out _).mono ?_
      rintro en w1 ⟨rfl, rfl⟩
      go_wp2_with fail
      go_ret
      exact ⟨by rw [HFIN.out]; rfl, rfl⟩
theorem ref_Sum.calls (B o cp : Nat) (l : List UInt8) (w : World) (h : SB w B o l) (hl : l.length ≤ 1000000) :
    Calls Try.prog 47 #[.slice (some ⟨B, o, none⟩) l.length cp] w fun e w' => e = .returned (.int .u32 (crcL l)) ∧ w = w' := by
  have H := Aside0.mk (ref_More.calls B o cp l w h hl)
  clear h
  go_enter Try.func47, Try.ntmps47
  go_wp2_with fail
  refine H.out.mono ?_
  rintro en w1 ⟨rfl, rfl⟩
  go_wp2_with fail
  go_ret
  exact ⟨rfl, rfl⟩
/-- A number's bytes, the highest first. -/
def beL (n : Int) (m : Nat) : List UInt8 := (List.range m).map fun j => bV (sh8 (m - 1 - j) n)
theorem beL_len (n : Int) (m : Nat) : (beL n m).length = m := by simp [beL]
theorem sh8_div (q : Nat) (n : Int) : sh8 q n = n / (2 : Int) ^ (8 * q) := by
  induction q with
  | zero => simp [sh8]
  | succ q ih =>
    rw [sh8, ih, show 8 * (q + 1) = 8 * q + 8 from by omega, Int.pow_add, Int.ediv_ediv_of_nonneg (Int.pow_nonneg (by decide))]
    rfl
theorem beL_at (n : Int) (m j : Nat) (hj : j < m) : (beL n m).take (j + 1) = (beL n m).take j ++ [bV (sh8 (m - 1 - j) n)] := by
  rw [List.take_add_one]
  congr 1
  unfold beL
  rw [List.getElem?_map, List.getElem?_range hj]; rfl
theorem row_step {w wr W w9 : World} {V V1 : Value} {g n c : Nat} (hF : Fr (fun q => V.ownBlock = some q) w wr) (hV : OwnB w V V1) (hal : Below wr.heap.size wr W) (hg9 : W.grownBy w9 V1.ownBlock) (hgg : V1.ownBlock = some g ∨ g = W.heap.size) :
    Fr (fun q => V.ownBlock = some q) w w9 ∧ OwnB w V (.slice (some ⟨g, 0, none⟩) n c) := by
  have hsz := hF.size
  have hsz2 := hal.size
  refine ⟨(hF.below hal).then_ (Fr.of_grown hg9) fun q hq => ?_, ?_⟩
  · rcases hV with h | ⟨k, hk, hl⟩ | h
    · exact Or.inl (h ▸ hq)
    · rw [hk] at hq
      exact Or.inr (by have := Option.some.inj hq; omega)
    · rw [h] at hq; cases hq
  · show OwnB w V (.slice (some ⟨g, 0, none⟩) n c)
    have e : (Value.slice (some ⟨g, 0, none⟩) n c).ownBlock = some g := rfl
    rcases hgg with h1 | h1
    · rcases hV with h | ⟨k, hk, hl⟩ | h
      · exact Or.inl (by rw [e, ← h1, h])
      · rw [hk] at h1
        exact Or.inr (Or.inl ⟨g, e, by have := Option.some.inj h1; omega⟩)
      · rw [h] at h1; cases h1
    · exact Or.inr (Or.inl ⟨g, e, by omega⟩)
def RPutP (w : World) (V : Value) (l : List UInt8) (en : Ending) (w' : World) : Prop :=
  ∃ V' : Value, en = .returned V' ∧ w'.ownsRow 0 5 1 V' l.length (cl l) ∧ Fr (fun q => V.ownBlock = some q) w w' ∧ OwnB w V V'
set_option maxHeartbeats 2000000 in
set_option maxRecDepth 100000 in
theorem ref_Put.calls (V : Value) (l : List UInt8) (n : Int) (m : Nat) (w : World) (h : w.ownsRow 0 5 1 V l.length (cl l)) (hl : l.length ≤ 100000) (hm : m ≤ 8) :
    Calls Try.prog 46 #[V, .int .u64 n, .int .i64 m] w (RPutP w V (l ++ beL n m)) := by
  obtain ⟨i5, hi5, hm5⟩ := Option.map_eq_some_iff.1 byte_info
  simp only [Prod.mk.injEq] at hm5
  have H := Aside0.mk h
  have HI := Aside0.mk hi5
  have HM := Aside0.mk hm5
  have HL := Aside0.mk hl
  clear h hi5 hm5 hl
  go_enter Try.func46, Try.ntmps46
  go_wp2_with fail
  go_loopg [0, 7] m (fun kq v0 v7 wr => ∃ (j : Nat) (i : Int) (V1 : Value), v7 = .int .i64 i ∧ V1 = v0 ∧ Aside0 (i = (m : Int) - 1 - (j : Int)) ∧ Aside0 (kq + j = m) ∧ Aside0 (wr.ownsRow 0 5 1 V1 (l.length + j) (cl (l ++ (beL n m).take j))) ∧ Aside0 (Fr (fun q => V.ownBlock = some q) w wr) ∧ Aside0 (OwnB w V V1))
  case atStart => exact ⟨0, (m : Int) - 1, V, rfl, rfl, ⟨by omega⟩, ⟨rfl⟩, ⟨by simpa using H.out⟩, ⟨Fr.refl _ _⟩, ⟨Or.inl rfl⟩⟩
  case round =>
    obtain ⟨j, i, V1, rfl, rfl, HJI, HJ, HO, HF, HV⟩ := hrel
    by_cases hj : j < m
    · obtain ⟨q, hq⟩ : ∃ q : Nat, i = (q : Int) := ⟨m - 1 - j, by have := HJI.out; omega⟩
      subst hq
      have hq8 : q < 8 := by have := HJI.out; omega
      have k1 : decide ((q : Int) ≥ 0) = true := decide_eq_true (by omega)
      have HQ : Aside0 (q = m - 1 - j) := ⟨by have := HJI.out; omega⟩
      obtain ⟨x, hx⟩ : ∃ x : Int, n / (2 : Int) ^ (8 * q) = x := ⟨_, rfl⟩
      have HX := Aside0.mk hx
      have HOA := Aside0.mk (HO.out.alloc (.cells #[Value.int .u8 (x % 256)] 5))
      have HN := Aside0.mk (BL.new wr #[Value.int .u8 (x % 256)] 5)
      go_wp2_with (first
        | (at_builtin; (refine wpList_append_lies _ rfl (.tmp 14) (.tmp 21) 38 rfl 0 5 i5 (.int .u8 0) 1 1 Try.underlying38 HI.out HM.out.1 HM.out.2.1 HM.out.2.2 rfl (by decide) V1 (l.length + j) _ rfl HOA.out ⟨wr.heap.size, 0, none⟩ 1 1 [.int .u8 (x % 256)] rfl rfl ?hn ?h1 (by decide) ?h63 ?hby (Nat.zero_le _) _ rfl ?_); go_loud (case hn => (intro k u hk; cases k with | zero => (simp at hk; subst hk; exact (BL.cell HN.out 0).trans rfl) | succ k => simp at hk)); go_loud (case h1 => (intro u hu; simp at hu; subst hu; rfl)); go_loud (case h63 => (have := HL.out; simp [maxLen]; omega)); go_loud (case hby => (have := HL.out; omega)); intro g cap w9 ho9 hg9 hgg hgl; have HO9 := Aside0.mk ho9; have HG9 := Aside0.mk hg9; have HGG := Aside0.mk hgg; clear ho9 hg9 hgg hgl))
      have hrs := row_step (n := l.length + j + 1) (c := cap) HF.out HV.out (al _) HG9.out HGG.out
      have HRS := Aside0.mk hrs
      clear hrs
      go_roundg (m - (j + 1))
      case measure => have := HJ.out; omega
      case rel =>
        refine ⟨j + 1, _, _, rfl, rfl, ⟨by have := HJI.out; omega⟩, ⟨by omega⟩, ⟨?_⟩, ⟨HRS.out.1⟩, ⟨HRS.out.2⟩⟩
        rw [beL_at n m j hj, ← HQ.out, sh8_div, HX.out, ← List.append_assoc]
        have hr := HO9.out
        have hb : cl ((l ++ (beL n m).take j) ++ [bV x]) = cl (l ++ (beL n m).take j) ++ [Value.int .u8 (x % 256)] := by
          unfold cl
          rw [List.map_append, List.map_singleton, bV_int]
        rw [hb]
        exact hr
    · have k1 : decide (i ≥ 0) = false := decide_eq_false (by have := HJI.out; omega)
      have e1 : j = m := by have := HJ.out; omega
      have HE := Aside0.mk e1
      clear e1
      go_wp2_with fail
      go_ret
      refine ⟨V1, rfl, ?_, HF.out, HV.out⟩
      have h := HO.out
      rw [HE.out, List.take_of_length_le (by rw [beL_len]; omega)] at h
      rw [List.length_append, beL_len]
      exact h
/-- A row of bytes that a call has laid anew. -/
structure RB (w wr : World) (V : Value) (l : List UInt8) : Prop where
  row : wr.ownsRow 0 5 1 V l.length (cl l)
  bl : Below w.heap.size w wr
  nw : ∀ k, V.ownBlock = some k → w.heap.size ≤ k
theorem RB.nil (w : World) : RB w w (.slice none 0 0) [] := ⟨World.ownsRow_nil _ _ _ _, Below.refl _ _, fun k hk => by cases hk⟩
theorem RB.step {w wr w' : World} {V V' : Value} {l l' : List UInt8} (h : RB w wr V l) (hr : w'.ownsRow 0 5 1 V' l'.length (cl l')) (hf : Fr (fun q => V.ownBlock = some q) wr w') (ho : OwnB wr V V') : RB w w' V' l' :=
  { row := hr
    bl := hf.to_below h.bl h.bl.size h.nw
    nw := fun k hk => by
      have := h.bl.size
      rcases ho with e | ⟨q, hq, hl⟩ | e
      · exact h.nw k (e ▸ hk)
      · rw [hq] at hk
        have := Option.some.inj hk
        omega
      · rw [e] at hk; cases hk }
theorem RB.dr {w wr : World} {V : Value} {l : List UInt8} (h : RB w wr V l) : RB w wr.drew V l := h.step h.row (Fr.refl _ _).drew (Or.inl rfl)
theorem RB.put {w wr : World} {V : Value} {l : List UInt8} (h : RB w wr V l) (n : Int) (m : Nat) (hl : l.length ≤ 100000) (hm : m ≤ 8) :
    Calls Try.prog 46 #[V, .int .u64 n, .int .i64 m] wr fun en w' => ∃ V', en = .returned V' ∧ RB w w' V' (l ++ beL n m) := by
  refine (ref_Put.calls V l n m wr h.row hl hm).mono ?_
  rintro en w' ⟨V', rfl, hr, hf, ho⟩
  exact ⟨V', rfl, h.step hr hf ho⟩
theorem RB.form {w wr : World} {V : Value} {l : List UInt8} (h : RB w wr V l) (hl : 0 < l.length) : ∃ g c, V = .slice (some ⟨g, 0, none⟩) l.length c ∧ SB wr g 0 l ∧ g < wr.heap.size := by
  rcases h.row.2 with ⟨rfl, h0⟩ | ⟨g, cap, cur, rfl, _⟩
  · omega
  · obtain ⟨h1, _, h2⟩ := own_sb h.row rfl
    exact ⟨g, cap, rfl, h1, h2⟩
/-- The document's head of a state: one sector. -/
def rHead60 (g r e : Int) : List UInt8 := ((([] ++ beL g 8) ++ beL (IntKind.u64.wrap (IntKind.i64.wrap (r + 1))) 8) ++ beL e 8) ++ List.replicate 36 0
def rHead (g r e : Int) : List UInt8 := rHead60 g r e ++ beL (IntKind.u64.wrap (crcL (rHead60 g r e))) 4
theorem zeros_bytes (n : Nat) : (Builtin.zeroCells (Value.int .u8 0).cells n).toList = cl (List.replicate n 0) := by
  have h := made_bytes n
  have e : Builtin.zeroCells (Value.int .u8 0).cells n = madeCells (Value.int .u8 0).cells n := by
    unfold Builtin.zeroCells madeCells
    rw [show (Value.int .u8 0).cells.size = 1 from rfl, Nat.mul_one]
  rw [e, h]
theorem append_zeros (w : World) (V : Value) (l : List UInt8) (n : Nat) (h : w.ownsRow 0 5 1 V l.length (cl l)) (hl : l.length + n ≤ 1000000) :
    ∃ V' w', (Builtin.append_ #[38, 3] 38 #[V, .int .i64 n]).run Try.prog w = .ok V' w' ∧ w'.ownsRow 0 5 1 V' (l ++ List.replicate n 0).length (cl (l ++ List.replicate n 0)) ∧ Fr (fun q => V.ownBlock = some q) w w' ∧ OwnB w V V' := by
  obtain ⟨i5, hi5, hm5⟩ := Option.map_eq_some_iff.1 byte_info
  simp only [Prod.mk.injEq] at hm5
  obtain ⟨V', w', h1, h2, h3, h4⟩ := run_append_zeros (P := Try.prog) w 0 38 3 38 5 i5 _ 1 1 Try.underlying38 Try.underlying3 hi5 hm5.1 hm5.2.1 hm5.2.2 rfl (by decide) (by decide) V l.length (cl l) h .i64 n (by
    rw [zeros_bytes]
    exact cl_oneCell _) (by omega) (Nat.zero_le _)
  refine ⟨V', w', h1, ?_, Fr.of_grown h3, ?_⟩
  · rw [zeros_bytes] at h2
    rw [List.length_append, List.length_replicate]
    have : cl (l ++ List.replicate n 0) = cl l ++ cl (List.replicate n 0) := by unfold cl; rw [List.map_append]
    rw [this]
    exact h2
  · rcases h4 with h4 | h4
    · exact Or.inl h4
    · exact Or.inr (Or.inl ⟨_, h4, Nat.le_refl _⟩)
def RHeadP (w : World) (g r e : Int) (en : Ending) (w' : World) : Prop := ∃ V', en = .returned V' ∧ RB w w' V' (rHead g r e)
set_option maxHeartbeats 2000000 in
set_option maxRecDepth 100000 in
theorem ref_Head.calls (g r e : Int) (w : World) :
    Calls Try.prog 10 #[.int .u64 g, .int .i64 r, .int .u64 e] w (RHeadP w g r e) := by
  obtain ⟨rr, hrr⟩ : ∃ x, IntKind.u64.wrap (IntKind.i64.wrap (r + 1)) = x := ⟨_, rfl⟩
  have hrr' : IntKind.u64.wrap (wrap64 (r + 1)) = rr := by rw [← i64_w]; exact hrr
  have HRR := Aside0.mk hrr
  have HRR' := Aside0.mk hrr'
  clear hrr hrr'
  go_enter Try.func10, Try.ntmps10
  go_wp2_with fail
  refine ((RB.nil w).put g 8 (by decide) (by decide)).mono ?_
  rintro en w1 ⟨V1, rfl, h1⟩
  have H1 := Aside0.mk (h1.put rr 8 (by simp [beL_len]) (by decide))
  clear h1
  go_wp2_with fail
  rw [HRR'.out]
  refine H1.out.mono ?_
  rintro en w2 ⟨V2, rfl, h2⟩
  have H2 := Aside0.mk (h2.put e 8 (by simp [beL_len]) (by decide))
  clear h2
  go_wp2_with fail
  refine H2.out.mono ?_
  rintro en w3 ⟨V3, rfl, h3⟩
  obtain ⟨V4, w4, hrun, hrow, hf4, ho4⟩ := append_zeros w3 V3 _ 36 h3.row (by simp [beL_len])
  have h4 : RB w w4 V4 (rHead60 g r e) := by
    unfold rHead60
    rw [HRR.out]
    exact h3.step hrow hf4 ho4
  have hl60 : (rHead60 g r e).length = 60 := by simp [rHead60, beL_len]
  obtain ⟨h60, hh60⟩ : ∃ x, rHead60 g r e = x := ⟨_, rfl⟩
  rw [hh60] at h4 hl60
  have HH := Aside0.mk hh60
  have HL := Aside0.mk hl60
  have HRUN := Aside0.mk hrun
  have H4 := Aside0.mk h4
  clear h3 hrow hf4 ho4 hrun h4 hh60 hl60
  go_wp2_with (first
    | (at_builtin; refine Lib.wpList_append_run _ rfl (.tmp 18) (.const (.int .i64 36)) 38 3 rfl V3 (.int .i64 36) rfl rfl V4 w4 HRUN.out ?_))
  obtain ⟨g4, c4, hV4, hs4, hg4⟩ := H4.out.form (by rw [HL.out]; decide)
  have hsum := ref_Sum.calls g4 0 c4 h60 w4 hs4 (by rw [HL.out]; decide)
  rw [← hV4] at hsum
  obtain ⟨cc, hcc⟩ : ∃ x, crcL h60 = x := ⟨_, rfl⟩
  rw [hcc] at hsum
  have HSUM := Aside0.mk hsum
  have HCC := Aside0.mk hcc
  clear hV4 hs4 hg4 hsum hcc
  refine HSUM.out.mono ?_
  rintro en w5 ⟨rfl, rfl⟩
  obtain ⟨cw, hcw⟩ : ∃ x, IntKind.u64.wrap cc = x := ⟨_, rfl⟩
  have hput := H4.out.put cw 4 (by rw [HL.out]; decide) (by decide)
  have HPUT := Aside0.mk hput
  have HCW := Aside0.mk hcw
  clear hput hcw
  go_wp2_with fail
  rw [HCW.out]
  refine HPUT.out.mono ?_
  rintro en w6 ⟨V6, rfl, h6⟩
  have h7 : RB w w6 V6 (rHead g r e) := by
    unfold rHead
    rw [HH.out, HCC.out, HCW.out]
    exact h6
  have H7 := Aside0.mk h7
  clear h6 h7
  go_wp2_with fail
  go_ret
  exact ⟨V6, rfl, H7.out⟩
/-- A number laid into a row, whole. -/
theorem putL_at (l : List UInt8) (o m : Nat) (n : Int) (i : Nat) (hi : i ≤ m) (ho : o + m ≤ l.length) (q : Nat) : (putL l o m n i)[q]? = if o + (m - i) ≤ q ∧ q < o + m then some (bV (sh8 (o + m - 1 - q) n)) else l[q]? := by
  induction i with
  | zero => rw [putL, if_neg (by omega)]
  | succ i ih =>
    rw [putL, List.getElem?_set, ih (by omega), putL_len]
    by_cases h : o + (m - 1 - i) = q
    · rw [if_pos h, if_pos (by omega), if_pos (by omega), show o + m - 1 - q = i from by omega]
    · rw [if_neg h]
      by_cases h2 : o + (m - i) ≤ q ∧ q < o + m
      · rw [if_pos h2, if_pos (by omega)]
      · rw [if_neg h2, if_neg (by omega)]
theorem putL_whole (a b c : List UInt8) (n : Int) (m : Nat) (hb : b.length = m) : putL (a ++ b ++ c) a.length m n m = a ++ beL n m ++ c := by
  apply List.ext_getElem?
  intro q
  rw [putL_at _ _ _ _ _ (Nat.le_refl _) (by simp; omega), Nat.sub_self, Nat.add_zero]
  by_cases h : a.length ≤ q ∧ q < a.length + m
  · rw [if_pos h, List.append_assoc, List.getElem?_append_right h.1, List.getElem?_append_left (by rw [beL_len]; omega)]
    unfold beL
    rw [List.getElem?_map, List.getElem?_range (by omega)]
    show some _ = some (bV (sh8 (m - 1 - (q - a.length)) n))
    rw [show m - 1 - (q - a.length) = a.length + m - 1 - q from by omega]
  · rw [if_neg h]
    by_cases h1 : q < a.length
    · rw [List.append_assoc, List.append_assoc, List.getElem?_append_left h1, List.getElem?_append_left h1]
    · rw [List.getElem?_append_right (by simp; omega), List.getElem?_append_right (by simp [beL_len]; omega)]
      simp [beL_len, hb]
theorem headL_ref (g r e : Int) : (headL g r e).take 64 = rHead g r e := by
  have hA : headA g r e = rHead60 g r e ++ List.replicate 4 0 ++ List.replicate 192 0 := by
    unfold headA rHead60
    have h0 : (List.replicate 256 (0 : UInt8)) = [] ++ List.replicate 8 0 ++ (List.replicate 8 0 ++ List.replicate 8 0 ++ List.replicate 232 0) := by decide +kernel
    have e1 := putL_whole [] (List.replicate 8 0) (List.replicate 8 0 ++ List.replicate 8 0 ++ List.replicate 232 0) g 8 (by decide)
    rw [h0]
    rw [show ([] : List UInt8).length = 0 from rfl] at e1
    rw [e1]
    generalize IntKind.u64.wrap (IntKind.i64.wrap (r + 1)) = rr
    have e2 := putL_whole ([] ++ beL g 8) (List.replicate 8 0) (List.replicate 8 0 ++ List.replicate 232 0) rr 8 (by decide)
    rw [show (([] : List UInt8) ++ beL g 8).length = 8 from by simp [beL_len]] at e2
    rw [show [] ++ beL g 8 ++ (List.replicate 8 0 ++ List.replicate 8 0 ++ List.replicate 232 0) = [] ++ beL g 8 ++ List.replicate 8 0 ++ (List.replicate 8 (0 : UInt8) ++ List.replicate 232 0) from by simp only [List.append_assoc], e2]
    have e3 := putL_whole ([] ++ beL g 8 ++ beL rr 8) (List.replicate 8 0) (List.replicate 232 0) e 8 (by decide)
    rw [show (([] : List UInt8) ++ beL g 8 ++ beL rr 8).length = 16 from by simp [beL_len]] at e3
    rw [show [] ++ beL g 8 ++ beL rr 8 ++ (List.replicate 8 0 ++ List.replicate 232 0) = [] ++ beL g 8 ++ beL rr 8 ++ List.replicate 8 0 ++ List.replicate 232 (0 : UInt8) from by simp only [List.append_assoc], e3]
    have : (List.replicate 232 (0 : UInt8)) = List.replicate 36 0 ++ List.replicate 4 0 ++ List.replicate 192 0 := by decide +kernel
    rw [this]
    simp only [List.append_assoc]
  have hl : (rHead60 g r e).length = 60 := by simp [rHead60, beL_len]
  have h60 : (headA g r e).take 60 = rHead60 g r e := by
    rw [hA, List.append_assoc, List.take_append_of_le_length (by omega), List.take_of_length_le (by omega)]
  unfold headL rHead
  rw [h60, hA]
  generalize IntKind.u64.wrap (crcL (rHead60 g r e)) = cw
  have e4 := putL_whole (rHead60 g r e) (List.replicate 4 0) (List.replicate 192 0) cw 4 (by decide)
  rw [hl] at e4
  rw [e4, List.take_append_of_le_length (by simp [hl, beL_len]), List.take_of_length_le (by simp [hl, beL_len])]
def refStep (n : Int) (c : UInt8) : Int := IntKind.u64.wrap (IntKind.u64.wrap (n * 256) + (c.toNat : Int))
theorem wraps_u64 (n : Int) (h₀ : 0 ≤ n) (h₁ : n < 2 ^ 64) : IntKind.u64.wrap n = n := by rw [IntKind.wrap_u64]; omega
theorem numStep_ref (n : Int) (c : UInt8) : numStep n c = refStep n c := by
  unfold numStep refStep
  have hc := c.toNat_lt
  have h1 : IntKind.u64.wrap (c.toNat : Int) = (c.toNat : Int) := wraps_u64 _ (by omega) (by omega)
  have h2 : 0 ≤ IntKind.u64.wrap (n * 256) ∧ IntKind.u64.wrap (n * 256) < 18446744073709551616 ∧ IntKind.u64.wrap (n * 256) % 256 = 0 := by
    rw [IntKind.wrap_u64]
    omega
  rw [h1]
  generalize IntKind.u64.wrap (n * 256) = x at h2
  have := bits_join .u64 64 (by decide) wraps_u64 8 x (c.toNat : Int) h2.1 (by omega) (by omega) (by omega) (by omega) (by omega)
  rw [this, wraps_u64 _ (by omega) (by omega)]
theorem numL_ref (l : List UInt8) (n : Int) : l.foldl numStep n = l.foldl refStep n := by
  induction l generalizing n with
  | nil => rfl
  | cons c r ih => rw [List.foldl_cons, List.foldl_cons, numStep_ref, ih]
set_option maxHeartbeats 2000000 in
set_option maxRecDepth 100000 in
theorem ref_Number.calls (B o cp : Nat) (l : List UInt8) (w : World) (h : SB w B o l) (hl : l.length ≤ 1000000) :
    Calls Try.prog 58 #[.slice (some ⟨B, o, none⟩) l.length cp] w fun e w' => e = .returned (.int .u64 (l.foldl numStep 0)) ∧ w = w' := by
  rw [numL_ref]
  have H := Aside0.mk h
  clear h
  go_enter Try.func58, Try.ntmps58
  go_wp2
  go_loopg [3, 4] l.length (fun kq v3 v4 wr => ∃ j : Nat, v4 = .int .i64 j ∧ v3 = .int .u64 ((l.take j).foldl refStep 0) ∧ Aside0 (kq + j = l.length) ∧ w = wr)
  case atStart => exact ⟨0, rfl, rfl, ⟨by omega⟩, rfl⟩
  case round =>
    obtain ⟨j, rfl, rfl, HJ, rfl⟩ := hrel
    obtain ⟨n, hn⟩ : ∃ n : Int, (l.take j).foldl refStep 0 = n := ⟨_, rfl⟩
    rw [hn]
    have HN := Aside0.mk hn
    clear hn
    by_cases hj : j < l.length
    · have hc := H.out.at j hj
      obtain ⟨c, hcc⟩ : ∃ c, l[j] = c := ⟨_, rfl⟩
      rw [hcc] at hc
      have k1 : (j : Int) < (l.length : Int) := by omega
      have HC := Aside0.mk hcc
      clear hcc
      have hst : (l.take (j + 1)).foldl refStep 0 = refStep n c := by
        rw [List.take_add_one, List.getElem?_eq_getElem hj, List.foldl_append, HN.out, HC.out]; rfl
      have HST := Aside0.mk hst
      clear hst
      go_wp2
      go_roundg (l.length - (j + 1))
      case measure => have := HJ.out; omega
      case rel =>
        refine ⟨j + 1, rfl, ?_, ⟨by omega⟩, rfl⟩
        rw [HST.out]
        simp [refStep, IntKind.wrap_u64]
    · have k1 : ¬ (j : Int) < (l.length : Int) := by omega
      have hjl : l.take j = l := List.take_of_length_le (by omega)
      rw [hjl] at HN
      go_wp2
      go_ret
      exact ⟨by rw [HN.out]; rfl, rfl⟩
/-- A string of these bytes. -/
def sv (b : List UInt8) : Value := .string ⟨b.toArray⟩
def RS (w : World) (Z : Nat → Prop) (V : Value) (l : List (List UInt8)) : Prop := ∃ A c, V = .slice A l.length c ∧ (l = [] ∨ ∃ B o, A = some ⟨B, o, none⟩ ∧ B < w.heap.size ∧ w.rangeAt B o (l.map sv) ∧ Z B)
/-- A piece, as it lies. -/
def pv (p : Nat × List UInt8) : List Value := [.int .i64 (p.1 : Int), sv p.2]
def RP (w : World) (Z : Nat → Prop) (V : Value) (l : List (Nat × List UInt8)) : Prop := ∃ A c, V = .slice A l.length c ∧ (l = [] ∨ ∃ B o, A = some ⟨B, o, none⟩ ∧ B < w.heap.size ∧ w.rangeAt B o (l.flatMap pv) ∧ Z B)
theorem range_keep {w w' : World} {B o : Nat} {l : List Value} (h : w.rangeAt B o l) (hB : B < w.heap.size) (hb : Below w.heap.size w w') : w'.rangeAt B o l := fun j v hj => by
  rw [hb.cell (p := ⟨B, o + j, none⟩) hB]; exact h j v hj
theorem RS.keep {w w' : World} {Z : Nat → Prop} {V : Value} {l : List (List UInt8)} (h : RS w Z V l) (hb : Below w.heap.size w w') : RS w' Z V l := by
  obtain ⟨A, c, rfl, h⟩ := h
  refine ⟨A, c, rfl, h.imp id ?_⟩
  rintro ⟨B, o, rfl, h1, h2, h3⟩
  exact ⟨B, o, rfl, Nat.lt_of_lt_of_le h1 hb.size, range_keep h2 h1 hb, h3⟩
theorem RP.keep {w w' : World} {Z : Nat → Prop} {V : Value} {l : List (Nat × List UInt8)} (h : RP w Z V l) (hb : Below w.heap.size w w') : RP w' Z V l := by
  obtain ⟨A, c, rfl, h⟩ := h
  refine ⟨A, c, rfl, h.imp id ?_⟩
  rintro ⟨B, o, rfl, h1, h2, h3⟩
  exact ⟨B, o, rfl, Nat.lt_of_lt_of_le h1 hb.size, range_keep h2 h1 hb, h3⟩
theorem own_range {w : World} {b e z n : Nat} {V : Value} {xs : List Value} (h : w.ownsRow b e z V n xs) : (V = .slice none 0 0 ∧ n = 0) ∨ ∃ g c, V = .slice (some ⟨g, 0, none⟩) n c ∧ g < w.heap.size ∧ w.rangeAt g 0 xs ∧ b ≤ g := by
  rcases h.2 with ⟨rfl, rfl⟩ | ⟨g, cap, cur, rfl, hb, hh, hn, hm, hc, hx⟩
  · exact Or.inl ⟨rfl, rfl⟩
  · refine Or.inr ⟨g, cap, rfl, (Array.getElem?_eq_some_iff.1 hh).1, fun j v hj => ?_, hb⟩
    rw [Nat.zero_add]
    rw [BL.cell (show BL w g cur e from hh)]
    rw [← hx, List.getElem?_take] at hj
    split at hj
    · rw [← Array.getElem?_toList]; exact hj
    · cases hj
theorem RS.own {w : World} {b e : Nat} {V : Value} {l : List (List UInt8)} (h : w.ownsRow b e 1 V l.length (l.map sv)) : RS w (b ≤ ·) V l := by
  rcases own_range h with ⟨rfl, h0⟩ | ⟨g, c, rfl, h1, h2, h3⟩
  · obtain rfl : l = [] := List.eq_nil_of_length_eq_zero h0
    exact ⟨none, 0, rfl, Or.inl rfl⟩
  · exact ⟨_, c, rfl, Or.inr ⟨g, 0, rfl, h1, h2, h3⟩⟩
theorem RP.own {w : World} {b e : Nat} {V : Value} {l : List (Nat × List UInt8)} (h : w.ownsRow b e 2 V l.length (l.flatMap pv)) : RP w (b ≤ ·) V l := by
  rcases own_range h with ⟨rfl, h0⟩ | ⟨g, c, rfl, h1, h2, h3⟩
  · obtain rfl : l = [] := List.eq_nil_of_length_eq_zero h0
    exact ⟨none, 0, rfl, Or.inl rfl⟩
  · exact ⟨_, c, rfl, Or.inr ⟨g, 0, rfl, h1, h2, h3⟩⟩
theorem RS.nil (w : World) (Z : Nat → Prop) : RS w Z (.slice none 0 0) [] := ⟨none, 0, rfl, Or.inl rfl⟩
theorem RP.nil (w : World) (Z : Nat → Prop) : RP w Z (.slice none 0 0) [] := ⟨none, 0, rfl, Or.inl rfl⟩
theorem RS.imp {w : World} {Z Z' : Nat → Prop} {V : Value} {l : List (List UInt8)} (h : RS w Z V l) (hz : ∀ B, B < w.heap.size → Z B → Z' B) : RS w Z' V l := by
  obtain ⟨A, c, rfl, h⟩ := h
  refine ⟨A, c, rfl, h.imp id ?_⟩
  rintro ⟨B, o, rfl, h1, h2, h3⟩
  exact ⟨B, o, rfl, h1, h2, hz B h1 h3⟩
theorem RS.fr {w w' : World} {Z G : Nat → Prop} {V : Value} {l : List (List UInt8)} (h : RS w Z V l) (hf : Fr G w w') (hz : ∀ B, B < w.heap.size → Z B → ¬ G B) : RS w' Z V l := by
  obtain ⟨A, c, rfl, h⟩ := h
  refine ⟨A, c, rfl, h.imp id ?_⟩
  rintro ⟨B, o, rfl, h1, h2, h3⟩
  exact ⟨B, o, rfl, Nat.lt_of_lt_of_le h1 hf.size, (fun j v hj => (World.cell?_of_block (a := ⟨B, o + j, none⟩) (hf.block B h1 (hz B h1 h3))).trans (h2 j v hj)), h3⟩
theorem RP.imp {w : World} {Z Z' : Nat → Prop} {V : Value} {l : List (Nat × List UInt8)} (h : RP w Z V l) (hz : ∀ B, B < w.heap.size → Z B → Z' B) : RP w Z' V l := by
  obtain ⟨A, c, rfl, h⟩ := h
  refine ⟨A, c, rfl, h.imp id ?_⟩
  rintro ⟨B, o, rfl, h1, h2, h3⟩
  exact ⟨B, o, rfl, h1, h2, hz B h1 h3⟩
theorem RP.fr {w w' : World} {Z G : Nat → Prop} {V : Value} {l : List (Nat × List UInt8)} (h : RP w Z V l) (hf : Fr G w w') (hz : ∀ B, B < w.heap.size → Z B → ¬ G B) : RP w' Z V l := by
  obtain ⟨A, c, rfl, h⟩ := h
  refine ⟨A, c, rfl, h.imp id ?_⟩
  rintro ⟨B, o, rfl, h1, h2, h3⟩
  exact ⟨B, o, rfl, Nat.lt_of_lt_of_le h1 hf.size, (fun j v hj => (World.cell?_of_block (a := ⟨B, o + j, none⟩) (hf.block B h1 (hz B h1 h3))).trans (h2 j v hj)), h3⟩
theorem conv_sb {w : World} {B o c : Nat} {l : List UInt8} (h : SB w B o l) : (convert 38 9 (.slice (some ⟨B, o, none⟩) l.length c)).run Try.prog w = .ok (sv l) w :=
  run_convert_bytes_back w 38 9 5 ⟨B, o, none⟩ c l Try.underlying38 Try.underlying5 Try.underlying9 (fun j hj => by rw [addr_add]; exact h.at j hj)
theorem string_info : (Try.prog.info? 9).map (fun i => (i.zero, i.size, i.bytes)) = some (some (.string ByteArray.empty), 1, 16) := by kernel_rfl
def zn : List UInt8 := List.replicate 64 0
set_option maxHeartbeats 2000000 in
set_option maxRecDepth 100000 in
theorem ref_nought.calls (w : World) : Calls Try.prog 45 #[] w fun en w' => en = .returned (sv zn) ∧ Below w.heap.size w w' := by
  have hmk : ∀ W : World, (Instr.makeSlice 38 (.int .i64 64) (.int .i64 64)).run Try.prog W = .ok (.slice (some ⟨W.heap.size, 0, none⟩) 64 64) (W.alloc (.cells (cl (List.replicate 64 0)).toArray 5)) := mk_bytes 64 (by omega)
  unfold zn
  obtain ⟨z, hz⟩ : ∃ z, List.replicate 64 (0 : UInt8) = z := ⟨_, rfl⟩
  have hzl : z.length = 64 := by rw [← hz]; exact List.length_replicate
  rw [hz] at hmk ⊢
  have hb : BC (w.alloc (.cells (cl z).toArray 5)) w.heap.size z 5 := BL.new w (cl z).toArray 5
  have hcv := conv_sb (c := 64) (SB.of hb 0 64)
  rw [show (z.drop 0).take 64 = z from by rw [List.drop_zero, List.take_of_length_le (by omega)], hzl] at hcv
  have hal : Below w.heap.size w (w.alloc (.cells (cl z).toArray 5)) := al _
  have HAL := Aside0.mk hal
  clear hz hzl hb hal
  go_enter Try.func45, Try.ntmps45
  go_wp2
  go_ret
  exact ⟨rfl, HAL.out⟩
/-- The document's disk. -/
def dvC (V L : Value) (left : Int) (fu off : Bool) : Array Value := #[V, L, .int .i64 left, .bool fu, .bool off]
theorem dv_all {w : World} {D : Nat} {V L : Value} {left : Int} {fu off : Bool} {e : TypeId} (h : BL w D (dvC V L left fu off) e) : w.cell? ⟨D, 0, none⟩ = some V ∧ w.cell? ⟨D, 1, none⟩ = some L ∧ w.cell? ⟨D, 2, none⟩ = some (.int .i64 left) ∧ w.cell? ⟨D, 3, none⟩ = some (.bool fu) ∧ w.cell? ⟨D, 4, none⟩ = some (.bool off) := ⟨BL.cell h 0, BL.cell h 1, BL.cell h 2, BL.cell h 3, BL.cell h 4⟩
structure NWk (w wr : World) (z : Value) (V : Value) (j : Nat) : Prop where
  d0 : BL wr w.heap.size (dvC (.slice none 0 0) (.slice none 0 0) 0 false false) 35
  d1 : BL wr (w.heap.size + 1) (dvC V (.slice none 0 0) 0 false false) 35
  row : wr.ownsRow (w.heap.size + 2) 9 1 V j (List.replicate j z)
  bl : Below w.heap.size w wr
  sz : w.heap.size + 2 ≤ wr.heap.size
theorem NWk.grow {w wr W w9 : World} {z V : Value} {j g cap : Nat} (h : NWk w wr z V j) (hal : Below wr.heap.size wr W) (hg : W.grownBy w9 V.ownBlock) (ho : w9.ownsRow (w.heap.size + 2) 9 1 (.slice (some ⟨g, 0, none⟩) (j + 1) cap) (j + 1) (List.replicate j z ++ [z])) :
    BL w9 w.heap.size (dvC (.slice none 0 0) (.slice none 0 0) 0 false false) 35 ∧ BL w9 (w.heap.size + 1) (dvC V (.slice none 0 0) 0 false false) 35 ∧ NWk w (w9.setCell ⟨w.heap.size + 1, 0, none⟩ (.slice (some ⟨g, 0, none⟩) (j + 1) cap)) z (.slice (some ⟨g, 0, none⟩) (j + 1) cap) (j + 1) := by
  have hf := Fr.of_grown hg
  have hb : ∀ k, V.ownBlock = some k → w.heap.size + 2 ≤ k := fun k hk => (h.row.lt k hk).1
  have e0 : BL w9 w.heap.size (dvC (.slice none 0 0) (.slice none 0 0) 0 false false) 35 := (h.d0.keep hal).fr hf (fun e => by have := hb _ e; omega)
  have e1 : BL w9 (w.heap.size + 1) (dvC V (.slice none 0 0) 0 false false) 35 := (h.d1.keep hal).fr hf (fun e => by have := hb _ e; omega)
  have hbl : Below w.heap.size w w9 := hf.to_below (below_step h.bl hal) (by have := h.sz; have := hal.size; omega) (fun k hk => by have := hb k hk; omega)
  have hs9 : wr.heap.size ≤ w9.heap.size := Nat.le_trans hal.size hf.size
  refine ⟨e0, e1, ?_⟩
  have f1 : Fr (· = w.heap.size + 1) w9 (w9.setCell ⟨w.heap.size + 1, 0, none⟩ (.slice (some ⟨g, 0, none⟩) (j + 1) cap)) := (Fr.refl (· = w.heap.size + 1) w9).own 0 _
  exact
    { d0 := e0.fr f1 (by omega)
      d1 := BL.set e1 0 _
      row := by
        rw [List.replicate_succ']
        exact ownsRow_setCell_below ho (by show w.heap.size + 1 < w.heap.size + 2; omega) _
      bl := f1.to_below hbl hbl.size (fun k hk => by omega)
      sz := by have := h.sz; have := f1.size; omega }
def RNewP (w : World) (n : Nat) (en : Ending) (w' : World) : Prop := ∃ V, en = .returned (.tuple #[.agg (dvC V (.slice none 0 0) 0 false false), .int .i64 0]) ∧ RS w' (w.heap.size ≤ ·) V (List.replicate n zn) ∧ Below w.heap.size w w'
set_option maxHeartbeats 2000000 in
set_option maxRecDepth 100000 in
theorem ref_New.calls (n : Nat) (w : World) (h1 : 1 ≤ n) (h2 : n ≤ 1000) : Calls Try.prog 9 #[.int .i64 n] w (RNewP w (n * 4)) := by
  obtain ⟨i9, hi9, hm9⟩ := Option.map_eq_some_iff.1 string_info
  simp only [Prod.mk.injEq] at hm9
  have HI := Aside0.mk hi9
  have HM := Aside0.mk hm9
  have k1 : decide ((n : Int) < 1) = false := decide_eq_false (by omega)
  have k2 : decide ((n : Int) > 4096) = false := decide_eq_false (by omega)
  obtain ⟨s, hz⟩ : ∃ s, sv zn = .string s := ⟨_, rfl⟩
  have hn := fun W => ref_nought.calls W
  rw [hz] at hn
  have HZ := Aside0.mk hz
  have HN := Aside0.mk hn
  clear hi9 hm9 hz hn
  go_enter Try.func9, Try.ntmps9
  go_wp2_with fail
  refine (HN.out _).mono ?_
  rintro en w2 ⟨rfl, hb2⟩
  go_wp2_with fail
  have hnw : NWk w w2 (.string s) (.slice none 0 0) 0 :=
    { d0 := (BL.keep ((BL.new w (dvC (.slice none 0 0) (.slice none 0 0) 0 false false) 35).keep (al _)) hb2)
      d1 := (by have h := BL.new (w.alloc (.cells (dvC (.slice none 0 0) (.slice none 0 0) 0 false false) 35)) (dvC (.slice none 0 0) (.slice none 0 0) 0 false false) 35
                rw [al_size] at h
                exact h.keep hb2)
      row := World.ownsRow_nil _ _ _ _
      bl := below_step (below_step (al _) (al _)) hb2
      sz := by have := hb2.size; rw [al_size, al_size] at this; omega }
  have HNW := Aside0.mk hnw
  clear hb2 hnw
  go_loopg [6] (n * 4) (fun kq v6 wr => ∃ (j : Nat) (V : Value), v6 = .int .i64 j ∧ Aside0 (kq + j = n * 4) ∧ Aside0 (NWk w wr (.string s) V j))
  case atStart => exact ⟨0, _, rfl, ⟨by omega⟩, HNW⟩
  case round =>
    obtain ⟨j, V, rfl, HJ, HW⟩ := hrel
    obtain ⟨c0, c1, c2, c3, c4⟩ := dv_all HW.out.d1
    obtain ⟨b0, b1, b2, b3, b4⟩ := dv_all HW.out.d0
    have g0 := BL.free HW.out.d0 0
    have g1 := BL.free HW.out.d0 1
    have g2 := BL.free HW.out.d0 2
    have g3 := BL.free HW.out.d0 3
    have g4 := BL.free HW.out.d0 4
    have f0 := BL.free HW.out.d1 0
    by_cases hj : j < n * 4
    · have k3 : (j : Int) < (n : Int) * 4 := by omega
      have jb : (j : Int) < 5000 := by omega
      have HOA := Aside0.mk (HW.out.row.alloc (.cells #[Value.string s] 9))
      have HNE := Aside0.mk (BL.new wr #[Value.string s] 9)
      go_wp2_with (first
        | (at_builtin; (refine wpList_append_lies _ rfl (.tmp 23) (.tmp 25) 32 rfl (w.heap.size + 2) 9 i9 (.string ByteArray.empty) 1 16 Try.underlying32 HI.out HM.out.1 HM.out.2.1 HM.out.2.2 rfl (by decide) V j _ rfl HOA.out ⟨wr.heap.size, 0, none⟩ 1 1 [.string s] rfl rfl ?hn ?h1 (by decide) ?h63 ?hby ?hbase _ rfl ?_); go_loud (case hn => (intro k u hk; cases k with | zero => (simp at hk; subst hk; exact (BL.cell HNE.out 0).trans rfl) | succ k => simp at hk)); go_loud (case h1 => (intro u hu; simp at hu; subst hu; rfl)); go_loud (case h63 => (simp [maxLen]; omega)); go_loud (case hby => omega); go_loud (case hbase => (rw [al_size]; have := HW.out.sz; omega)); intro g cap w9 ho9 hg9 hgg hgl; obtain ⟨e0, e1, hk9⟩ := HW.out.grow (al _) hg9 ho9; have x0 := (dv_all e1).1; have y0 := BL.free e1 0; have HK9 := Aside0.mk hk9; clear ho9 hg9 hgg hgl e0 e1 hk9))
      go_roundg (n * 4 - (j + 1))
      case measure => have := HJ.out; omega
      case rel => exact ⟨j + 1, _, rfl, ⟨by omega⟩, HK9⟩
    · have k3 : ¬ (j : Int) < (n : Int) * 4 := by omega
      have e1 : j = n * 4 := by have := HJ.out; omega
      obtain ⟨A, c, hV⟩ := ownsRow_form HW.out.row
      subst hV
      have hfin : RNewP w (n * 4) (.returned (.tuple #[.agg (dvC (.slice A j c) (.slice none 0 0) 0 false false), .int .i64 0])) (((((wr.setCell ⟨w.heap.size, 0, none⟩ (.slice A j c)).setCell ⟨w.heap.size, 1, none⟩ (.slice none 0 0)).setCell ⟨w.heap.size, 2, none⟩ (.int .i64 0)).setCell ⟨w.heap.size, 3, none⟩ (.bool false)).setCell ⟨w.heap.size, 4, none⟩ (.bool false)) := by
        have hf : Fr (· = w.heap.size) wr (((((wr.setCell ⟨w.heap.size, 0, none⟩ (.slice A j c)).setCell ⟨w.heap.size, 1, none⟩ (.slice none 0 0)).setCell ⟨w.heap.size, 2, none⟩ (.int .i64 0)).setCell ⟨w.heap.size, 3, none⟩ (.bool false)).setCell ⟨w.heap.size, 4, none⟩ (.bool false)) := (((((Fr.refl (· = w.heap.size) wr).own 0 _).own 1 _).own 2 _).own 3 _).own 4 _
        refine ⟨_, rfl, ?_, hf.to_below HW.out.bl HW.out.bl.size (fun k hk => by omega)⟩
        refine (RS.own (b := w.heap.size + 2) (e := 9) ?_).imp (fun B _ h => by omega)
        rw [List.length_replicate, List.map_replicate, HZ.out, ← e1]
        exact ownsRow_block HW.out.row fun k hk => hf.block k (HW.out.row.lt k hk).2 (by have := (HW.out.row.lt k hk).1; omega)
      have HFIN := Aside0.mk hfin
      obtain ⟨W5, hW5⟩ : ∃ W, (((((wr.setCell ⟨w.heap.size, 0, none⟩ (.slice A j c)).setCell ⟨w.heap.size, 1, none⟩ (.slice none 0 0)).setCell ⟨w.heap.size, 2, none⟩ (.int .i64 0)).setCell ⟨w.heap.size, 3, none⟩ (.bool false)).setCell ⟨w.heap.size, 4, none⟩ (.bool false)) = W := ⟨_, rfl⟩
      have h5 : BL W5 w.heap.size (dvC (.slice A j c) (.slice none 0 0) 0 false false) 35 := by
        rw [← hW5]
        have := ((((HW.out.d0.set 0 (.slice A j c)).set 1 (.slice none 0 0)).set 2 (.int .i64 0)).set 3 (.bool false)).set 4 (.bool false)
        simpa [dvC] using this
      obtain ⟨z0, z1, z2, z3, z4⟩ := dv_all h5
      have HW5 := Aside0.mk hW5
      clear e1 hfin hW5 h5
      go_wp2_with fail
      rw [HW5.out]
      refine bodyPost_ret (v := .tuple #[.agg (dvC (.slice A j c) (.slice none 0 0) 0 false false), .int .i64 0]) ?_ rfl ?_
      · simp [results, Try.results9, go_sem, z0, z1, z2, z3, z4, dvC]
      · exact HW5.out ▸ HFIN.out
set_option maxHeartbeats 2000000 in
set_option maxRecDepth 100000 in
theorem ref_Is.calls (A : Option Addr) (N c : Nat) (L : Value) (left : Int) (fu off : Bool) (n : Int) (w : World) (hN : N ≤ 100000) (b : Bool) (hb : decide (0 ≤ n ∧ n < (N : Int)) = b) :
    Calls Try.prog 48 #[.agg (dvC (.slice A (N * 4) c) L left fu off), .int .i64 n] w fun en w' => en = .returned (.bool b) ∧ Below w.heap.size w w' := by
  have hd : Int.tdiv ((N : Int) * 4) 4 = (N : Int) := by rw [Int.mul_tdiv_cancel _ (by decide)]
  have hal : Below w.heap.size w (w.alloc (.cells (dvC (.slice A (N * 4) c) L left fu off) 35)) := al _
  unfold dvC at hal ⊢
  by_cases h0 : 0 ≤ n
  · have k0 : decide (n ≥ 0) = true := decide_eq_true h0
    by_cases h1 : n < (N : Int)
    · have e : b = true := by rw [← hb]; exact decide_eq_true ⟨h0, h1⟩
      subst e
      clear hb
      go_enter Try.func48, Try.ntmps48
      go_wp2
      go_ret
      exact ⟨rfl, hal⟩
    · have e : b = false := by rw [← hb]; exact decide_eq_false (fun h => h1 h.2)
      subst e
      clear hb
      go_enter Try.func48, Try.ntmps48
      go_wp2
      go_ret
      exact ⟨rfl, hal⟩
  · have k0 : decide (n ≥ 0) = false := decide_eq_false h0
    have e : b = false := by rw [← hb]; exact decide_eq_false (fun h => h0 h.1)
    subst e
    clear hb
    go_enter Try.func48, Try.ntmps48
    go_wp2
    go_ret
    exact ⟨rfl, hal⟩
/-- The document's power: what a write or flush more leaves, and whether it is done. -/
def spendV (left : Int) (fu off : Bool) : Int × Bool × Bool × Bool :=
  if (off || (fu && left == 0)) = true then (left, false, true, false) else if fu = true then (wrap64 (left - 1), true, false, true) else (left, false, false, true)
set_option maxHeartbeats 2000000 in
set_option maxRecDepth 100000 in
theorem ref_spend.calls (A : Option Addr) (N c : Nat) (B2 : Option Addr) (n2 c2 : Nat) (left : Int) (fu off : Bool) (w : World) (l2 : Int) (f2 o2 ok : Bool) (hs : spendV left fu off = (l2, f2, o2, ok)) :
    Calls Try.prog 49 #[.agg (dvC (.slice A N c) (.slice B2 n2 c2) left fu off)] w fun en w' => en = .returned (.tuple #[.agg (dvC (.slice A N c) (.slice B2 n2 c2) l2 f2 o2), .bool ok]) ∧ Below w.heap.size w w' := by
  have hal : ∀ a b : Obj, Below w.heap.size w ((w.alloc a).alloc b) := fun a b => below_step (al _) (al _)
  unfold dvC
  cases off with
  | true =>
    simp only [spendV, Bool.true_or, if_true, Prod.mk.injEq] at hs
    obtain ⟨rfl, rfl, rfl, rfl⟩ := hs
    go_enter Try.func49, Try.ntmps49
    go_wp2
    exact bodyPost_ret (v := .tuple #[.agg #[.slice A N c, .slice B2 n2 c2, .int .i64 left, .bool false, .bool true], .bool false]) (by simp [results, Try.results49, go_sem]) rfl ⟨rfl, hal _ _⟩
  | false =>
    cases fu with
    | false =>
      simp only [spendV, Bool.false_or, Bool.false_and, Prod.mk.injEq] at hs
      obtain ⟨rfl, rfl, rfl, rfl⟩ := hs
      go_enter Try.func49, Try.ntmps49
      go_wp2
      exact bodyPost_ret (v := .tuple #[.agg #[.slice A N c, .slice B2 n2 c2, .int .i64 left, .bool false, .bool false], .bool true]) (by simp [results, Try.results49, go_sem]) rfl ⟨rfl, hal _ _⟩
    | true =>
      by_cases h0 : left = 0
      · subst h0
        simp only [spendV, Bool.false_or, Bool.true_and, Prod.mk.injEq] at hs
        obtain ⟨rfl, rfl, rfl, rfl⟩ := hs
        go_enter Try.func49, Try.ntmps49
        go_wp2
        exact bodyPost_ret (v := .tuple #[.agg #[.slice A N c, .slice B2 n2 c2, .int .i64 0, .bool false, .bool true], .bool false]) (by simp [results, Try.results49, go_sem]) rfl ⟨rfl, hal _ _⟩
      · have k0 : (left == 0) = false := by simpa using h0
        simp only [spendV, Bool.false_or, Bool.true_and, k0, Prod.mk.injEq] at hs
        obtain ⟨rfl, rfl, rfl, rfl⟩ := hs
        obtain ⟨x, hx⟩ : ∃ x, wrap64 (left - 1) = x := ⟨_, rfl⟩
        rw [hx]
        go_enter Try.func49, Try.ntmps49
        go_wp2
        exact bodyPost_ret (v := .tuple #[.agg #[.slice A N c, .slice B2 n2 c2, .int .i64 x, .bool true, .bool false], .bool true]) (by simp [results, Try.results49, go_sem]) rfl ⟨rfl, hal _ _⟩
end
end Go.Proofs.Ytgkibjcnehdmbaa.G
